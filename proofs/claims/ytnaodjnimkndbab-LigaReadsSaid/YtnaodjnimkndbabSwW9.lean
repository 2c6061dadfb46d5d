/-
  Functions' forms, and what is proved of them, part 9.
-/
import Derived.Test.YtnaodjnimkndbabSwW4
import Derived.Test.YtnaodjnimkndbabSwCfg
import Derived.Test.YtnaodjnimkndbabSwW7
import Derived.Test.YtnaodjnimkndbabSwW8
import Derived.Test.YtnaodjnimkndbabSwW2
import Derived.Test.YtnaodjnimkndbabSwW5
set_option linter.unusedSimpArgs false
set_option linter.unusedVariables false
set_option linter.unusedSectionVars false
section
namespace Go.Sw
open Go.RowKit
theorem ζl1 (k : Nat) (l : List Gl) (hl : l.length < 2 ^ 30) (j id : Int) (H : Heap) :
  R (T k) F.ζ1v [lv encG l, .int .i64 j, .int .i64 id] H = .ok (.tuple #[lv encG (setG l j id), .bool (decide (0 ≤ j ∧ j < l.length))]) H := by
 rw [ζia];have fl : ∀ (l : List Gl) b, Flat (.tuple #[lv encG l, .bool b]) := fun l b => .tupleL (.cons (Flat.Gls l) (.cons (.bool _) .nil));by_cases hj : 0 ≤ j ∧ j < l.length
 ·rw [decide_eq_true hj];obtain ⟨n, rfl⟩ := Int.eq_ofNat_of_zero_le hj.1;have hn : n < l.length := by omega
  obtain ⟨gl, hgl⟩ : ∃ gl, l[n]? = some gl := ⟨_, List.getElem?_eq_getElem hn⟩
  have c1 : ¬ (n : Int) ≥ l.length := by omega
  have c0 : ¬ (n : Int) < 0 := by omega
  have g := (Star.nil H).more_row (Ext.refl _) (OwnO.bare encG _ 2) (fun b hb => by cases hb);obtain ⟨s1, o1, H1, e1, g⟩ := g.append (bytes := 16) 0 encG_len rfl (b := lv encG l) (l2 := l) rfl (lv_first encG_len l _) (by simp; omega) (by decide);simp only [List.nil_append, List.set_cons_zero] at g;obtain ⟨c, hc, hgc, i2⟩ := g.ix 0 rfl .i64 n hn;subst hc;obtain ⟨H2, e2, g, _⟩ := g.stRow 0 rfl encG_len (j := n) (c := 0) (n := 1) (⟨id, gl.cl⟩ : Gl) (v := .int .i64 id) hgl rfl rfl (by decide) rfl;simp only [Nat.add_zero, List.set_cons_zero] at e2 g;obtain ⟨L, hf⟩ := (g.own 0 rfl).freeze encG_len (ζem _) 5;have hs : setG l (n : Int) id = l.set n ⟨id, gl.cl⟩ := by
   unfold setG;rw [if_pos hj, Int.toNat_natCast];apply List.ext_getElem?;intro i;rw [List.getElem?_modify, List.getElem?_set];by_cases hin : n = i
   ·subst hin; simp [hn, (List.getElem?_eq_some_iff.1 hgl).2]
   ·simp [hin]
  rw [hs];have hft : fzV H.n H2 fzDepth (.tuple #[s1, .bool true]) = some (.tuple #[lv encG (l.set n ⟨id, gl.cl⟩), .bool true], L ++ []) :=
   fz_tuple (l := [s1, .bool true]) (r := [lv encG (l.set n ⟨id, gl.cl⟩), .bool true]) (ζ14 hf (ζ86 fun v hv => by simp at hv; subst hv; trivial))
  refine nrm_fz (v := .tuple #[s1, .bool true]) (H' := H2) ?_ hft g.ext (fl _ _).alive;simp -implicitDefEqProofs (disch := omega) [-stR_ptr, ζ1v, c0, c1, e1, i2, e2]
 ·have hs : setG l j id = l := by unfold setG; rw [if_neg hj]
  rw [decide_eq_false hj, hs];refine nrm_fz (v := .tuple #[lv encG l, .bool false]) (L := []) (H' := H) ?_ rfl (Ext.refl H) (fl _ _).alive;by_cases c1 : j < 0
  ·simp -implicitDefEqProofs (disch := omega) [ζ1v, c1]
  ·have c2 : j ≥ l.length := by omega
   simp -implicitDefEqProofs (disch := omega) [ζ1v, c1, c2]
theorem ζom (k : Nat) (ids : List Int) (hl : ids.length < 2 ^ 30) (H : Heap) : R (T k) F.ζ2b [lv encI ids] H = .ok (lv encG (newG ids)) H := by
 rw [ζi9];have g := (Star.nil H).more_row (Ext.refl _) (OwnO.bare encG _ 2) (fun b hb => by cases hb);simp only [List.nil_append] at g
 obtain ⟨x, e', H1, hr1, rfl, z, s, o, rfl, g⟩ := loop_up (body := ζ6b k (R (T k))) ids.length
  (fun j e H' => ∃ s o, e = [(0, lv encI ids), (3, s), (4, .int .i64 j)] ∧ Star H H' [itRow o 2 s encG (newG (ids.take j))])
  (fun x e H' => x = .exit 0 ∧ ∃ z s o, e = [(0, lv encI ids), (3, s), (4, z), (9, .bool false)] ∧ Star H H' [itRow o 2 s encG (newG ids)])
  (e0 := [(0, lv encI ids), (3, bareV), (4, .int .i64 0)]) (H0 := H) ⟨bareV, none, rfl, g⟩ (by omega)
  (fun j e H' hj ⟨s, o, he, g⟩ => by
   subst he;have hlt : (j : Int) < ids.length := by omega
   obtain ⟨x, hx⟩ : ∃ x, ids[j]? = some x := ⟨_, List.getElem?_eq_getElem hj⟩
   have i1 := fun H' => ixS_lvN encI_len ids .i64 j x hx H';have hlen : (ids.take j).length = j := by rw [List.length_take]; omega
   obtain ⟨s', o', H2, e2, g2⟩ := g.append1 (bytes := 16) 0 encG_len rfl (⟨x, j⟩ : Gl) (by rw [newG_len]; omega) (by decide);simp only [List.set_cons_zero] at g2;simp only [encG] at e2;refine .inl ⟨_, H2, ?_, s', o', rfl, by rw [ζ2p hx, ζmh, hlen]; exact g2⟩;rw [ζ7e];simp -implicitDefEqProofs (disch := omega) [hlt, i1, e2])
  (fun e H' ⟨s, o, he, g⟩ => by
   subst he;rw [List.take_length] at g;refine ⟨.exit 0, _, H', ?_, by simp, rfl, .int .i64 ids.length, s, o, rfl, g⟩;rw [ζ7e];simp -implicitDefEqProofs)
 obtain ⟨L, hf⟩ := (g.own 0 rfl).freeze encG_len (ζem _) 6;refine nrm_fz (v := s) (H' := H1) ?_ hf g.ext (Flat.Gls _).alive;simp -implicitDefEqProofs (disch := omega) [ζ2b, hr1, ζdf]
end Go.Sw
end
section
set_option maxRecDepth 100000
set_option linter.unusedVariables false
namespace Go.Sw
noncomputable section
def ζ37 (k : Nat) (call : Caller) (a0 : Value) (h : Heap) : Res Value :=
 (allocR Prog 232 h).bind fun v1 h2 =>
 (binR Prog .mul 3 (.int .i64 2) a0 h2).bind fun v3 h4 =>
 (binR Prog .add 3 v3 (.int .i64 128) h4).bind fun v5 h6 =>
 (buildR Prog 232 [(4, v5)] h6).bind fun v7 h8 =>
 (storeR Prog 232 v1 v7 h8).bind fun _v9 h10 =>
 (loadR Prog 232 v1 h10).bind fun v11 h12 =>
 .ok v11 h12
theorem ζfu (k : Nat) (a0 : Value) (h : Heap) : R (T k) F.ζ37 [a0] h = nrm .gc h (ζ37 k (R (T k)) a0 h) :=
 (R_body (t := T k) (T_scott k) (by kernel_rfl) (by kernel_rfl) _ _).trans (by kernel_rfl)
def ζ8p (k : Nat) (call : Caller) (a3 a4 a6 a8 : Value) (h : Heap) : Res Value :=
 kSeq (pieceK (C k) call F.ζ1p [1, 1, 1, 1]) (kDone Prog (resOf Prog F.ζ1p)) .normal [(3, a3), (4, a4), (6, a6), (8, a8)] h
def ζ8q (k : Nat) (call : Caller) (a2 a3 a4 a6 a8 a18 : Value) (h : Heap) : Res Value :=
 kSeq (pieceK (C k) call F.ζ1p [1, 1, 1, 1]) (kDone Prog (resOf Prog F.ζ1p)) .normal [(2, a2), (3, a3), (4, a4), (6, a6), (8, a8), (18, a18)] h
def ζ1p (k : Nat) (call : Caller) (a0 a1 a2 : Value) (h : Heap) : Res Value :=
 (boxR a0 h).bind fun v1 h2 =>
 (boxR a1 h2).bind fun v3 h4 =>
 (allocR Prog 31 h4).bind fun v5 h6 =>
 (fieldAddrR Prog 232 v3 5 h6).bind fun v7 h8 =>
 (loadR Prog 4 v7 h8).bind fun v9 h10 =>
 condV (some v9) (
 (buildR Prog 31 [] h10).bind fun v11 h12 =>
 (storeR Prog 31 v5 v11 h12).bind fun _v13 h14 =>
 (loadR Prog 31 v5 h14).bind fun v15 h16 =>
 .ok (.tuple #[v15, (.bool false)]) h16)
 (
 (fieldAddrR Prog 232 v3 1 h10).bind fun v17 h18 =>
 (loadR Prog 3 v17 h18).bind fun v19 h20 =>
 (builtinV Prog .len [48] [a2] h20).bind fun v21 h22 =>
 (binR Prog .lss 3 v19 v21 h22).bind fun v23 h24 =>
 condV (some v23) (
 (loadR Prog 41 v1 h24).bindN fun v25 h26 =>
 (fieldAddrR Prog 232 v3 1 h26).bindN fun v27 h28 =>
 (loadR Prog 3 v27 h28).bindN fun v29 h30 =>
 (indexAddrR Prog 48 a2 v29 h30).bindN fun v31 h32 =>
 (fieldAddrR Prog 115 v31 0 h32).bindN fun v33 h34 =>
 (loadR Prog 3 v33 h34).bindN fun v35 h36 =>
 (call F.ζ1u [v25, v35] h36).bindT (fun p39 h40 => .panic p39 h40) fun v37 h38 =>
 ζ8p k call v1 v3 v5 v37 h38)
 (
 ζ8q k call a2 v1 v3 v5 (.int .i64 0) v23 h24))
theorem ζgi (k : Nat) (a0 a1 a2 : Value) (h : Heap) : R (T k) F.ζ1p [a0, a1, a2] h = nrm .gc h (ζ1p k (R (T k)) a0 a1 a2 h) :=
 (R_body (t := T k) (T_scott k) (by kernel_rfl) (by kernel_rfl) _ _).trans (by kernel_rfl)
theorem ζdh (k : Nat) (call : Caller) (a3 a4 a6 a8 : Value) (h : Heap) : ζ8p k call a3 a4 a6 a8 h =
 (loadR Prog 41 a3 h).bind fun v41 h42 =>
 (fieldAddrR Prog 232 a4 0 h42).bind fun v43 h44 =>
 (loadR Prog 3 v43 h44).bind fun v45 h46 =>
 (call F.ζ1n [v41, v45, a8] h46).bind fun v47 h48 =>
 (extractR v47 0 h48).bind fun v49 h50 =>
 (extractR v47 1 h50).bind fun v51 h52 =>
 (allocR Prog 31 h52).bind fun v53 h54 =>
 (storeR Prog 31 v53 v49 h54).bind fun _v55 h56 =>
 (loadR Prog 31 v53 h56).bind fun v57 h58 =>
 (storeR Prog 31 a6 v57 h58).bind fun _v59 h60 =>
 (loadR Prog 31 a6 h60).bind fun v61 h62 =>
 .ok (.tuple #[v61, v51]) h62 := by kernel_rfl
theorem ζdi (k : Nat) (call : Caller) (a2 a3 a4 a6 a8 a18 : Value) (h : Heap) : ζ8q k call a2 a3 a4 a6 a8 a18 h =
 (loadR Prog 41 a3 h).bind fun v63 h64 =>
 (fieldAddrR Prog 232 a4 0 h64).bind fun v65 h66 =>
 (loadR Prog 3 v65 h66).bind fun v67 h68 =>
 (call F.ζ1n [v63, v67, a8] h68).bind fun v69 h70 =>
 (extractR v69 0 h70).bind fun v71 h72 =>
 (extractR v69 1 h72).bind fun v73 h74 =>
 (allocR Prog 31 h74).bind fun v75 h76 =>
 (storeR Prog 31 v75 v71 h76).bind fun _v77 h78 =>
 (loadR Prog 31 v75 h78).bind fun v79 h80 =>
 (storeR Prog 31 a6 v79 h80).bind fun _v81 h82 =>
 (loadR Prog 31 a6 h82).bind fun v83 h84 =>
 .ok (.tuple #[v83, v73]) h84 := by kernel_rfl
def ζ7f (k : Nat) (call : Caller) (a5 a10 a11 : Value) (h : Heap) : Res Value :=
 kSeq (pieceK (C k) call F.ζa [1, 1, 1, 1, 1]) (kDone Prog (resOf Prog F.ζa)) .normal [(5, a5), (10, a10), (11, a11)] h
def ζa8 (k : Nat) (call : Caller) (a5 a10 a11 : Value) (h : Heap) : Res Value :=
 kSeq (pieceK (C k) call F.ζa [1, 1, 1, 1, 1, 1]) (kDone Prog (resOf Prog F.ζa)) .normal [(5, a5), (10, a10), (11, a11)] h
def ζa9 (k : Nat) (call : Caller) (a5 a10 a11 a39 : Value) (h : Heap) : Res Value :=
 kSeq (pieceK (C k) call F.ζa [1, 1, 1, 1, 1, 1]) (kDone Prog (resOf Prog F.ζa)) .normal [(5, a5), (10, a10), (11, a11), (39, a39)] h
def ζ3q (k : Nat) (call : Caller) (a5 a10 : Value) (h : Heap) : Res Value :=
 kSeq (pieceK (C k) call F.ζa [1, 1, 1, 1, 1, 1, 1]) (kDone Prog (resOf Prog F.ζa)) .normal [(5, a5), (10, a10)] h
def ζ7g (k : Nat) (call : Caller) (a5 a10 a52 : Value) (h : Heap) : Res Value :=
 kSeq (pieceK (C k) call F.ζa [1, 1, 1, 1, 1, 1, 1]) (kDone Prog (resOf Prog F.ζa)) .normal [(5, a5), (10, a10), (52, a52)] h
def ζa (k : Nat) (call : Caller) (a0 a1 a2 a3 a4 : Value) (h : Heap) : Res Value :=
 (boxR a0 h).bind fun v1 h2 =>
 (boxR a1 h2).bind fun v3 h4 =>
 (allocR Prog 232 h4).bind fun v5 h6 =>
 (fieldAddrR Prog 232 v1 1 h6).bind fun v7 h8 =>
 (loadR Prog 3 v7 h8).bind fun v9 h10 =>
 (binR Prog .geq 3 v9 a2 h10).bind fun v11 h12 =>
 (fieldAddrR Prog 232 v1 2 h12).bind fun v13 h14 =>
 (loadR Prog 3 v13 h14).bind fun v15 h16 =>
 (binR Prog .add 3 v15 (.int .i64 1) h16).bind fun v17 h18 =>
 (fieldAddrR Prog 232 v1 2 h18).bind fun v19 h20 =>
 (storeR Prog 3 v19 v17 h20).bind fun _v21 h22 =>
 (fieldAddrR Prog 31 v3 0 h22).bind fun v23 h24 =>
 (loadR Prog 3 v23 h24).bind fun v25 h26 =>
 (fieldAddrR Prog 232 v1 0 h26).bind fun v27 h28 =>
 (storeR Prog 3 v27 v25 h28).bind fun _v29 h30 =>
 (fieldAddrR Prog 31 v3 1 h30).bind fun v31 h32 =>
 (loadR Prog 3 v31 h32).bind fun v33 h34 =>
 (binR Prog .quo 3 v33 (.int .i64 16384) h34).bind fun v35 h36 =>
 (binR Prog .rem 3 v35 (.int .i64 2) h36).bind fun v37 h38 =>
 (binR Prog .eql 3 v37 (.int .i64 1) h38).bind fun v39 h40 =>
 condV (some v39) (
 (fieldAddrR Prog 232 v1 3 h40).bind fun v41 h42 =>
 (loadR Prog 3 v41 h42).bind fun v43 h44 =>
 (binR Prog .add 3 v43 (.int .i64 1) h44).bind fun v45 h46 =>
 (fieldAddrR Prog 232 v1 3 h46).bind fun v47 h48 =>
 (storeR Prog 3 v47 v45 h48).bind fun _v49 h50 =>
 (fieldAddrR Prog 232 v1 1 h50).bind fun v51 h52 =>
 (storeR Prog 3 v51 a3 h52).bind fun _v53 h54 =>
 ζ7f k call v1 v5 (.bool false) h54)
 (
 (fieldAddrR Prog 232 v1 3 h40).bind fun v55 h56 =>
 (storeR Prog 3 v55 (.int .i64 0) h56).bind fun _v57 h58 =>
 (fieldAddrR Prog 232 v1 1 h58).bind fun v59 h60 =>
 (storeR Prog 3 v59 a4 h60).bind fun _v61 h62 =>
 ζ7f k call v1 v5 v11 h62)
theorem ζiu (k : Nat) (a0 a1 a2 a3 a4 : Value) (h : Heap) : R (T k) F.ζa [a0, a1, a2, a3, a4] h = nrm .gc h (ζa k (R (T k)) a0 a1 a2 a3 a4 h) :=
 (R_body (t := T k) (T_scott k) (by kernel_rfl) (by kernel_rfl) _ _).trans (by kernel_rfl)
theorem ζi (k : Nat) (call : Caller) (a5 a10 a11 : Value) (h : Heap) : ζ7f k call a5 a10 a11 h =
 (fieldAddrR Prog 232 a5 1 h).bind fun v63 h64 =>
 (loadR Prog 3 v63 h64).bind fun v65 h66 =>
 (binR Prog .lss 3 v65 (.int .i64 0) h66).bind fun v67 h68 =>
 condV (some v67) (
 (fieldAddrR Prog 232 a5 1 h68).bind fun v69 h70 =>
 (storeR Prog 3 v69 (.int .i64 0) h70).bind fun _v71 h72 =>
 ζa8 k call a5 a10 a11 h72)
 (
 ζa9 k call a5 a10 a11 v67 h68) := by kernel_rfl
theorem ζ27 (k : Nat) (call : Caller) (a5 a10 a11 : Value) (h : Heap) : ζa8 k call a5 a10 a11 h =
 condV (some a11) (
 (fieldAddrR Prog 232 a5 5 h).bind fun v73 h74 =>
 (storeR Prog 4 v73 (.bool true) h74).bind fun _v75 h76 =>
 ζ3q k call a5 a10 h76)
 (
 (fieldAddrR Prog 232 a5 2 h).bind fun v77 h78 =>
 (loadR Prog 3 v77 h78).bind fun v79 h80 =>
 (fieldAddrR Prog 232 a5 4 h80).bind fun v81 h82 =>
 (loadR Prog 3 v81 h82).bind fun v83 h84 =>
 (binR Prog .geq 3 v79 v83 h84).bind fun v85 h86 =>
 ((bif wantVal v85 false then fieldAddrR Prog 232 a5 3 h86 else Res.ok undef h86)).bind fun v87 h88 =>
 ((bif wantVal v85 false then loadR Prog 3 v87 h88 else Res.ok undef h88)).bind fun v89 h90 =>
 ((bif wantVal v85 false then binR Prog .gtr 3 v89 (.int .i64 64) h90 else Res.ok undef h90)).bind fun v91 h92 =>
 (condV (some v85) (Res.ok (.bool true) h92) (Res.ok v91 h92)).bind fun v93 h94 =>
 condV (some v93) (
 (fieldAddrR Prog 232 a5 5 h94).bind fun v95 h96 =>
 (storeR Prog 4 v95 (.bool true) h96).bind fun _v97 h98 =>
 (fieldAddrR Prog 232 a5 6 h98).bind fun v99 h100 =>
 (storeR Prog 3 v99 (.int .i64 4) h100).bind fun _v101 h102 =>
 ζ3q k call a5 a10 h102)
 (
 ζ7g k call a5 a10 v93 h94)) := by kernel_rfl
theorem ζ28 (k : Nat) (call : Caller) (a5 a10 a11 a39 : Value) (h : Heap) : ζa9 k call a5 a10 a11 a39 h =
 condV (some a11) (
 (fieldAddrR Prog 232 a5 5 h).bind fun v103 h104 =>
 (storeR Prog 4 v103 (.bool true) h104).bind fun _v105 h106 =>
 ζ3q k call a5 a10 h106)
 (
 (fieldAddrR Prog 232 a5 2 h).bind fun v107 h108 =>
 (loadR Prog 3 v107 h108).bind fun v109 h110 =>
 (fieldAddrR Prog 232 a5 4 h110).bind fun v111 h112 =>
 (loadR Prog 3 v111 h112).bind fun v113 h114 =>
 (binR Prog .geq 3 v109 v113 h114).bind fun v115 h116 =>
 ((bif wantVal v115 false then fieldAddrR Prog 232 a5 3 h116 else Res.ok undef h116)).bind fun v117 h118 =>
 ((bif wantVal v115 false then loadR Prog 3 v117 h118 else Res.ok undef h118)).bind fun v119 h120 =>
 ((bif wantVal v115 false then binR Prog .gtr 3 v119 (.int .i64 64) h120 else Res.ok undef h120)).bind fun v121 h122 =>
 (condV (some v115) (Res.ok (.bool true) h122) (Res.ok v121 h122)).bind fun v123 h124 =>
 condV (some v123) (
 (fieldAddrR Prog 232 a5 5 h124).bind fun v125 h126 =>
 (storeR Prog 4 v125 (.bool true) h126).bind fun _v127 h128 =>
 (fieldAddrR Prog 232 a5 6 h128).bind fun v129 h130 =>
 (storeR Prog 3 v129 (.int .i64 4) h130).bind fun _v131 h132 =>
 ζ3q k call a5 a10 h132)
 (
 ζ7g k call a5 a10 v123 h124)) := by kernel_rfl
theorem ζ1l (k : Nat) (call : Caller) (a5 a10 : Value) (h : Heap) : ζ3q k call a5 a10 h =
 (loadR Prog 232 a5 h).bind fun v133 h134 =>
 (storeR Prog 232 a10 v133 h134).bind fun _v135 h136 =>
 (loadR Prog 232 a10 h136).bind fun v137 h138 =>
 .ok v137 h138 := by kernel_rfl
theorem ζ3i (k : Nat) (call : Caller) (a5 a10 a52 : Value) (h : Heap) : ζ7g k call a5 a10 a52 h =
 (loadR Prog 232 a5 h).bind fun v139 h140 =>
 (storeR Prog 232 a10 v139 h140).bind fun _v141 h142 =>
 (loadR Prog 232 a10 h142).bind fun v143 h144 =>
 .ok v143 h144 := by kernel_rfl
end
end Go.Sw
end
section
namespace Go.Sw
open Go.RowKit
structure Way where
 st : Int
 pl : Int
 stp : Int
 rest : Int
 most : Int
 over : Bool
 code : Int
abbrev wayC (w : Way) : List Value := [.int .i64 w.st, .int .i64 w.pl, .int .i64 w.stp, .int .i64 w.rest, .int .i64 w.most, .bool w.over, .int .i64 w.code]
abbrev wayV (w : Way) : Value := .agg (wayC w).toArray
theorem Flat.way (w : Way) : Flat (wayV w) := .aggL (.cons (.int _ _) (.cons (.int _ _) (.cons (.int _ _) (.cons (.int _ _) (.cons (.int _ _) (.cons (.bool _) (.cons (.int _ _) .nil)))))))
theorem ζoz (k : Nat) (n : Int) (h0 : 0 ≤ n) (h1 : n < 2 ^ 40) (H : Heap) : R (T k) F.ζ37 [.int .i64 n] H = .ok (wayV ⟨0, 0, 0, 0, 2 * n + 128, false, 0⟩) H := by
 rw [ζfu];refine nrm_gc ⟨H.push ⟨wayC ⟨0, 0, 0, 0, 2 * n + 128, false, 0⟩, 1, false⟩, ?_, (Ext.refl H).push _⟩ (Flat.way _).alive;simp -implicitDefEqProofs (disch := omega) [ζ37]
def goS (w : Way) (e : En) (n stay on : Int) : Way :=
 let s : Bool := decide (e.flags / 16384 % 2 = 1)
 let rest := if s then w.rest + 1 else 0
 let pl := max (if s then stay else on) 0
 let fin : Bool := !s && decide (w.pl ≥ n)
 if fin then ⟨e.next, pl, w.stp + 1, rest, w.most, true, w.code⟩
 else if w.stp + 1 ≥ w.most ∨ rest > 64 then ⟨e.next, pl, w.stp + 1, rest, w.most, true, 4⟩
 else ⟨e.next, pl, w.stp + 1, rest, w.most, w.over, w.code⟩
set_option maxHeartbeats 1000000 in
theorem Go_run (k : Nat) (w : Way) (e : En) (n stay on : Int) (hw : 0 ≤ w.stp ∧ w.stp < 2 ^ 50 ∧ 0 ≤ w.rest ∧ w.rest < 2 ^ 50) (he : 0 ≤ e.flags ∧ e.flags < 65536) (H : Heap) :
  R (T k) F.ζa [wayV w, encE e, .int .i64 n, .int .i64 stay, .int .i64 on] H = .ok (wayV (goS w e n stay on)) H := by
 rw [ζiu];have q1 := fun H => bin_quo Prog 3 H .i64 e.flags 16384 (by decide);rw [Int.tdiv_eq_ediv_of_nonneg he.1] at q1;have hq : 0 ≤ e.flags / 16384 := Int.ediv_nonneg he.1 (by decide);have q2 := fun H => bin_rem Prog 3 H .i64 (e.flags / 16384) 2 (by decide);rw [Int.tmod_eq_emod_of_nonneg hq] at q2;refine nrm_gc ⟨((H.push ⟨wayC (goS w e n stay on), 1, false⟩).push ⟨encEn e, 1, false⟩).push ⟨wayC (goS w e n stay on), 1, false⟩, ?_, (((Ext.refl H).push _).push _).push _⟩ (Flat.way _).alive;unfold goS;by_cases c1 : e.flags / 16384 % 2 = 1
 ·have m1 : max stay 0 = if stay < 0 then 0 else stay := by split <;> omega
  by_cases c2 : stay < 0
  ·by_cases c3 : w.stp + 1 ≥ w.most
   ·simp -implicitDefEqProofs (disch := omega) [ζa, q1, q2, c1, m1, c2, c3, ζi, ζ27, ζ1l]
   ·by_cases c4 : w.rest + 1 > 64
    ·simp -implicitDefEqProofs (disch := omega) [ζa, q1, q2, c1, m1, c2, c3, c4, ζi, ζ27, ζ1l]
    ·simp -implicitDefEqProofs (disch := omega) [ζa, q1, q2, c1, m1, c2, c3, c4, ζi, ζ27, ζ3i]
  ·by_cases c3 : w.stp + 1 ≥ w.most
   ·simp -implicitDefEqProofs (disch := omega) [ζa, q1, q2, c1, m1, c2, c3, ζi, ζ28, ζ1l]
   ·by_cases c4 : w.rest + 1 > 64
    ·simp -implicitDefEqProofs (disch := omega) [ζa, q1, q2, c1, m1, c2, c3, c4, ζi, ζ28, ζ1l]
    ·simp -implicitDefEqProofs (disch := omega) [ζa, q1, q2, c1, m1, c2, c3, c4, ζi, ζ28, ζ3i]
 ·have c1' : (e.flags / 16384 % 2 == 1) = false := by simpa using c1
  have m1 : max on 0 = if on < 0 then 0 else on := by split <;> omega
  by_cases c5 : w.pl ≥ n
  ·by_cases c2 : on < 0
   ·simp -implicitDefEqProofs (disch := omega) [ζa, q1, q2, c1, c1', m1, c2, c5, ζi, ζ27, ζ1l]
   ·simp -implicitDefEqProofs (disch := omega) [ζa, q1, q2, c1, c1', m1, c2, c5, ζi, ζ28, ζ1l]
  ·by_cases c3 : w.stp + 1 ≥ w.most
   ·by_cases c2 : on < 0
    ·simp -implicitDefEqProofs (disch := omega) [ζa, q1, q2, c1, c1', m1, c2, c3, c5, ζi, ζ27, ζ1l]
    ·simp -implicitDefEqProofs (disch := omega) [ζa, q1, q2, c1, c1', m1, c2, c3, c5, ζi, ζ28, ζ1l]
   ·by_cases c2 : on < 0
    ·simp -implicitDefEqProofs (disch := omega) [ζa, q1, q2, c1, c1', m1, c2, c3, c5, ζi, ζ27, ζ3i]
    ·simp -implicitDefEqProofs (disch := omega) [ζa, q1, q2, c1, c1', m1, c2, c3, c5, ζi, ζ28, ζ3i]
end Go.Sw
end
section
namespace Go.Sw
open Go.RowKit
theorem ζpa (m : Mach) (l : List Gl) (pl : Int) (h : 0 ≤ pl) : (clsS m l pl).1 = if pl < l.length then (match l[pl.toNat]? with | some g => classS m g.id | none => 0) else 0 := by
 unfold clsS atG;by_cases h2 : pl < l.length
 ·rw [if_pos ⟨h, h2⟩, if_pos h2];obtain ⟨g, hg⟩ : ∃ g, l[pl.toNat]? = some g := ⟨_, List.getElem?_eq_getElem (by omega)⟩
  rw [hg]
 ·rw [if_neg (fun hc => h2 hc.2), if_neg h2]
set_option maxHeartbeats 1000000 in
theorem Next_run (k : Nat) {b : List Int} (hb : Byt b) {g w : Int} (hg : 1 ≤ g ∧ g ≤ 65535) (hw : w = 0 ∨ w = 1 ∨ w = 2) (hl : b.length < 2 ^ 31) {m : Mach} (hm : m.ok) (h : machS b g w = some m) (y : Way) (hy : y.over = false) (hp : 0 ≤ y.pl) (l : List Gl) (hll : l.length < 2 ^ 40) (H : Heap) :
  R (T k) F.ζ1p [rmV (rmOf b g w m), wayV y, lv encG l] H = .ok (.tuple #[encEA (stepS m y.st (clsS m l y.pl).1), .bool (stepS m y.st (clsS m l y.pl).1).isSome]) H := by
 rw [ζgi];have hstep := fun c H' => ζqd k hb hw hl hm h y.st c H';have hcls := fun id H' => ζny k hb hg hl hm h id H';have hc := ζpa m l y.pl hp;obtain ⟨st, pl, stp, rest, most, over, code⟩ := y;dsimp only at hy hp hstep hc ⊢;subst hy;generalize rmOf b g w m = r at hstep hcls ⊢;have fl : ∀ o : Option En, Flat (.tuple #[encEA o, .bool o.isSome]) := fun o => .tupleL (.cons (ζh3 _) (.cons (.bool _) .nil));by_cases h2 : pl < l.length
 ·rw [if_pos h2] at hc;obtain ⟨gl, hgl⟩ : ∃ gl, l[pl.toNat]? = some gl := ⟨_, List.getElem?_eq_getElem (by omega)⟩
  rw [hgl] at hc;dsimp only at hc;have i1 := fun H' => ixS_lv encG_len l .i64 pl gl hp hgl H';rw [hc];generalize hs : stepS m st (classS m gl.id) = o;have hst := fun H' => hstep (classS m gl.id) H';rw [hs] at hst;have fo := fl o;unfold encEA at hst fo ⊢;generalize o.isSome = z at hst fo ⊢;generalize o.getD ⟨0, 0, 0, 0⟩ = e at hst fo ⊢;refine nrm_gc ⟨((((H.push ⟨rmCells r.b r.cl r.rowsAt r.entsAt r.states r.n r.words r.tb r.parts, 1, false⟩).push ⟨[.int .i64 st, .int .i64 pl, .int .i64 stp, .int .i64 rest, .int .i64 most, .bool false, .int .i64 code], 1, false⟩).push ⟨encEn e, 1, false⟩).push ⟨encEn e, 1, false⟩), ?_, ((((Ext.refl H).push _).push _).push _).push _⟩ fo.alive;simp -implicitDefEqProofs (disch := omega) [ζ1p, h2, i1, hcls, ζdh, hst]
 ·rw [if_neg h2] at hc;rw [hc];generalize hs : stepS m st 0 = o;have hst := fun H' => hstep 0 H';rw [hs] at hst;have fo := fl o;unfold encEA at hst fo ⊢;generalize o.isSome = z at hst fo ⊢;generalize o.getD ⟨0, 0, 0, 0⟩ = e at hst fo ⊢;refine nrm_gc ⟨((((H.push ⟨rmCells r.b r.cl r.rowsAt r.entsAt r.states r.n r.words r.tb r.parts, 1, false⟩).push ⟨[.int .i64 st, .int .i64 pl, .int .i64 stp, .int .i64 rest, .int .i64 most, .bool false, .int .i64 code], 1, false⟩).push ⟨encEn e, 1, false⟩).push ⟨encEn e, 1, false⟩), ?_, ((((Ext.refl H).push _).push _).push _).push _⟩ fo.alive;simp -implicitDefEqProofs (disch := omega) [ζ1p, h2, ζdi, hst]
end Go.Sw
end
section
namespace Go.Sw
open Go.RowKit
end Go.Sw
end
section
namespace Go.Sw
open Go.RowKit
variable {σ : Type}
abbrev drvW (y : Way) : Drv := ⟨y.st, y.pl, y.stp, y.rest⟩
def docStepG (m : Mach) (ln : σ → List Gl) (f : σ → Int → En → σ × Int × Int) (x : σ × Way) : σ × Way :=
 ((f x.1 x.2.pl (entS m (ln x.1) (drvW x.2))).1, goS x.2 (entS m (ln x.1) (drvW x.2)) ((ln x.1).length : Int) (f x.1 x.2.pl (entS m (ln x.1) (drvW x.2))).2.1 (f x.1 x.2.pl (entS m (ln x.1) (drvW x.2))).2.2)
def docRG (m : Mach) (ln : σ → List Gl) (f : σ → Int → En → σ × Int × Int) : Nat → σ × Way → σ × Way
 | 0, x => x
 | n + 1, x => if x.2.over = true then x else docRG m ln f n (docStepG m ln f x)
theorem ζ9u (m : Mach) (ln : σ → List Gl) (f : σ → Int → En → σ × Int × Int) (n : Nat) (x : σ × Way) (h : x.2.over = true) : docRG m ln f n x = x := by
 cases n with
 | zero => rfl
 | succ n => unfold docRG; rw [if_pos h]
theorem clsS_end (m : Mach) (l : List Gl) (p : Int) (h : 0 ≤ p) : (clsS m l p).2 = decide (p ≥ l.length) := by
 unfold clsS atG;by_cases h2 : p < l.length
 ·obtain ⟨g, hg⟩ : ∃ g, l[p.toNat]? = some g := ⟨_, List.getElem?_eq_getElem (by omega)⟩
  rw [if_pos ⟨h, h2⟩, hg, decide_eq_false (by omega)]
 ·rw [if_neg (fun hc => h2 hc.2), decide_eq_true (by omega)]
theorem doc_runG (m : Mach) (ln : σ → List Gl) (f : σ → Int → En → σ × Int × Int) (N : Int) : ∀ (n : Nat) (s : σ) (y : Way), y.over = false → y.code = 0 → 0 ≤ y.pl → y.most = N → y.stp < N → N - y.stp ≤ n →
  runD m ln f N n (s, drvW y) = ((docRG m ln f n (s, y)).2.stp, (docRG m ln f n (s, y)).2.code, (docRG m ln f n (s, y)).1)
 | 0, s, y, _, _, _, _, h1, h2 => by omega
 | n + 1, s, y, hov, hc0, hp, hN, hlt, hn => by
  have hend := clsS_end m (ln s) y.pl hp;have hd : docRG m ln f (n + 1) (s, y) = docRG m ln f n (docStepG m ln f (s, y)) := by
   show (if y.over = true then (s, y) else docRG m ln f n (docStepG m ln f (s, y))) = _;rw [if_neg (by rw [hov]; simp)]
  rw [hd];unfold runD;rw [if_pos hlt];unfold docStepG stepD;dsimp only;generalize entS m (ln s) (drvW y) = e;generalize f s y.pl e = r;rw [hend];unfold goS;dsimp only;by_cases c1 : e.flags / 16384 % 2 = 1
  ·rw [if_pos c1, decide_eq_true c1];simp only [Bool.not_true, Bool.false_and, Bool.false_eq_true, if_false, if_true];by_cases c2 : y.rest + 1 > 64
   ·rw [if_pos c2, if_pos (Or.inr c2)];rw [ζ9u _ _ _ _ _ rfl]
   ·rw [if_neg c2];by_cases c3 : y.stp + 1 ≥ y.most
    ·rw [if_pos (Or.inl c3), ζ9u _ _ _ _ _ rfl];cases n with
     | zero => rfl
     | succ n => unfold runD; dsimp only; rw [if_neg (by omega)]
    ·rw [if_neg (by omega)];exact doc_runG m ln f N n _ ⟨e.next, max r.2.1 0, y.stp + 1, y.rest + 1, y.most, y.over, y.code⟩ hov hc0 (by dsimp only; omega) hN (by dsimp only; omega) (by dsimp only; omega)
  ·rw [if_neg c1, decide_eq_false c1];simp only [Bool.not_false, Bool.true_and, Bool.false_eq_true, if_false];by_cases c4 : y.pl ≥ (ln s).length
   ·rw [decide_eq_true c4];simp only [if_true];rw [ζ9u _ _ _ _ _ rfl, hc0]
   ·rw [decide_eq_false c4];simp only [Bool.false_eq_true, if_false];rw [if_neg (show ¬ (0 : Int) > 64 by decide)];by_cases c3 : y.stp + 1 ≥ y.most
    ·rw [if_pos (Or.inl c3), ζ9u _ _ _ _ _ rfl];cases n with
     | zero => rfl
     | succ n => unfold runD; dsimp only; rw [if_neg (by omega)]
    ·rw [if_neg (by omega)];exact doc_runG m ln f N n _ ⟨e.next, max r.2.2 0, y.stp + 1, 0, y.most, y.over, y.code⟩ hov hc0 (by dsimp only; omega) hN (by dsimp only; omega) (by dsimp only; omega)
theorem goS_all (y : Way) (e : En) (n stay on : Int) (hr : 0 ≤ y.rest) : let z := goS y e n stay on
  z.most = y.most ∧ z.stp = y.stp + 1 ∧ z.st = e.next ∧ 0 ≤ z.pl ∧ z.pl ≤ max (max stay on) 0 ∧ 0 ≤ z.rest ∧ z.rest ≤ y.rest + 1 ∧ (z.over = false → z.stp < z.most ∧ z.rest ≤ 64) := by
 intro z;have hz : z = goS y e n stay on := rfl
 clear_value z
 unfold goS at hz;dsimp only at hz;by_cases c1 : e.flags / 16384 % 2 = 1
 ·rw [decide_eq_true c1] at hz;simp only [Bool.not_true, Bool.false_and, Bool.false_eq_true, if_false, if_true] at hz;split at hz <;> subst hz <;> dsimp only <;> refine ⟨rfl, rfl, rfl, by omega, by omega, by omega, by omega, fun h => ?_⟩
  ·cases h
  ·omega
 ·rw [decide_eq_false c1] at hz;simp only [Bool.not_false, Bool.true_and, Bool.false_eq_true, if_false] at hz;split at hz
  ·subst hz; dsimp only; exact ⟨rfl, rfl, rfl, by omega, by omega, by omega, by omega, fun h => by cases h⟩
  ·split at hz <;> subst hz <;> dsimp only <;> refine ⟨rfl, rfl, rfl, by omega, by omega, by omega, by omega, fun h => ?_⟩
   ·cases h
   ·omega
def WayOk (m : Mach) (N j : Nat) (y : Way) : Prop := y.over = false → y.stp = j ∧ y.stp < N ∧ y.most = N ∧ 0 ≤ y.pl ∧ y.pl ≤ 128 * j ∧ 0 ≤ y.rest ∧ y.rest ≤ j ∧ 0 ≤ y.st ∧ y.st < m.rows.length
theorem doc_loop {body : Env → Heap → Res (AExit × Env)} (m : Mach) (hm : m.ok) (ln : σ → List Gl) (f : σ → Int → En → σ × Int × Int) (N : Nat) (h0N : 0 < N) (hN : N < 2 ^ 42)
  (At : σ × Way → Env → Heap → Prop) (Inv : σ → Prop) (Q : σ × Way → AExit → Env → Heap → Prop)
  (hover : ∀ x e H, At x e H → Inv x.1 → x.2.over = true → ∃ xx e' H', body e H = .ok (xx, e') H' ∧ xx ≠ .normal ∧ Q x xx e' H')
  (hstep : ∀ s y en e H, At (s, y) e H → Inv s → y.over = false → 0 ≤ y.pl → y.pl < 2 ^ 50 → 0 ≤ y.stp → y.stp < 2 ^ 50 → 0 ≤ y.rest → y.rest < 2 ^ 50 → en ∈ m.ents → en = entS m (ln s) (drvW y) →
   ∃ e' H', body e H = .ok (.normal, e') H' ∧ At ((f s y.pl en).1, goS y en ((ln s).length : Int) (f s y.pl en).2.1 (f s y.pl en).2.2) e' H' ∧ Inv (f s y.pl en).1 ∧ (f s y.pl en).2.1 ≤ y.pl + 128 ∧ (f s y.pl en).2.2 ≤ y.pl + 128)
  (s0 : σ) {e0 : Env} {H0 : Heap} (hA : At (s0, ⟨0, 0, 0, 0, N, false, 0⟩) e0 H0) (hI : Inv s0) :
  ∃ xx e' H', loopN body loopFuel e0 H0 = .ok (xx, e') H' ∧ Q (docRG m ln f N (s0, ⟨0, 0, 0, 0, N, false, 0⟩)) xx e' H' := by
 generalize hr0 : docRG m ln f N (s0, ⟨0, 0, 0, 0, N, false, 0⟩) = r
 exact loop_up (body := body) N
  (fun j e H' => ∃ x : σ × Way, At x e H' ∧ Inv x.1 ∧ docRG m ln f (N - j) x = r ∧ WayOk m N j x.2)
  (fun xx e H' => Q r xx e H')
  ⟨_, hA, hI, by rw [Nat.sub_zero]; exact hr0, fun _ => by have := hm.two; dsimp only; omega⟩ (by omega)
  (fun j e H' hj ⟨x, hA, hI, hd, hnot⟩ => by
   obtain ⟨s, y⟩ := x;dsimp only at hI hnot;cases hov : y.over with
   | true =>
    rw [ζ9u _ _ _ _ _ hov] at hd;subst hd;obtain ⟨xx, e', H2, h1, h2, h3⟩ := hover (s, y) e H' hA hI hov;exact .inr ⟨xx, e', H2, h1, h2, h3⟩
   | false =>
    obtain ⟨n1, n2, n3, n4, n5, n6, n7, n8, n9⟩ := hnot hov;have hNj : N - j = (N - (j + 1)) + 1 := by omega
    rw [hNj] at hd;have hd2 : docRG m ln f (N - (j + 1)) (docStepG m ln f (s, y)) = r := by
     rw [← hd];show _ = (if y.over = true then _ else docRG m ln f (N - (j + 1)) (docStepG m ln f (s, y)))
     rw [if_neg (by rw [hov]; simp)]
    unfold docStepG at hd2;dsimp only at hd2;have hmem := entS_mem hm (ln s) (drvW y) ⟨n8, n9⟩;have hent := hm.ent _ hmem;obtain ⟨e', H2, h1, h2, h3, h4, h5⟩ := hstep s y _ e H' hA hI hov n4 (by omega) (by omega) (by omega) n6 (by omega) hmem rfl;refine .inl ⟨e', H2, h1, _, h2, h3, hd2, fun hz => ?_⟩;have g := goS_all y (entS m (ln s) (drvW y)) ((ln s).length : Int) (f s y.pl (entS m (ln s) (drvW y))).2.1 (f s y.pl (entS m (ln s) (drvW y))).2.2 n6;dsimp only at g hz ⊢;obtain ⟨g1, g2, g3, g4, g5, g6, g7, g8⟩ := g;have := g8 hz;refine ⟨by omega, by omega, by omega, g4, by omega, g6, by omega, by omega, by omega⟩)
  (fun e H' ⟨x, hA, hI, hd, hnot⟩ => by
   rw [Nat.sub_self] at hd;have hd : x = r := hd;subst hd;have hov : x.2.over = true := by
    cases h : x.2.over with
    | true => rfl
    | false => have := hnot h; omega
   exact hover x e H' hA hI hov)
end Go.Sw
end
section
namespace Go.Sw
open Go.RowKit
end Go.Sw
end
section
namespace Go.Sw
open Go.RowKit
end Go.Sw
end
section
namespace Go.Sw
open Go.RowKit
abbrev rmC (r : RMach) : List Value := rmCells r.b r.cl r.rowsAt r.entsAt r.states r.n r.words r.tb r.parts
end Go.Sw
end
section
set_option maxRecDepth 100000
set_option linter.unusedVariables false
namespace Go.Sw
noncomputable section
end
end Go.Sw
end
section
namespace Go.Sw
open Go.RowKit
theorem ζq7 {b : List Int} : restS b (-1) = none := by unfold restS; rw [if_neg (by omega)]
end Go.Sw
end
section
namespace Go.Sw
open Go.RowKit
theorem ζ4l : ∀ l : List Int, rows encI l = l.map (Value.int .i64)
 | [] => rfl
 | a :: l => by rw [List.map_cons, ← ζ4l l]; rfl
end Go.Sw
end
section
namespace Go.Sw
open Go.RowKit
end Go.Sw
end
section
namespace Go.Sw
open Go.RowKit
end Go.Sw
end
section
namespace Go.Sw
open Go.RowKit
end Go.Sw
end
section
namespace Go.Sw
open Go.RowKit
end Go.Sw
end
section
namespace Go.Sw
open Go.RowKit
structure CPlan where
 m : Plan
 subs : List (List Int)
def CPlan.ok (p : CPlan) : Prop := (p.m.ok ∧ p.subs.length < 2 ^ 63) ∧ ∀ s, s ∈ p.subs → ∀ n, n ∈ s → 0 ≤ n ∧ n < 65536
def CSmall (p : CPlan) (n : Nat) : Prop := (∀ s, s ∈ p.subs → s.length ≤ 60) ∧ p.m.cls.length ≤ 40 ∧ p.m.rows.length ≤ 20 ∧ p.m.ents.length ≤ 40 ∧ p.subs.length ≤ 20 ∧ n ≤ 60
instance (p : CPlan) (n : Nat) : Decidable (CSmall p n) := by unfold CSmall; infer_instance
end Go.Sw
end
section
namespace Go.Sw
open Go.RowKit
end Go.Sw
end
section
namespace Go.Sw
open Go.RowKit
theorem Sl.blk {α : Type} {enc : α → List Value} {H : Heap} {m b : Nat} {k : Blk} (l : List α) (hg : H.get b = some k) (hk : k.cells = rows enc l) (he : ∀ x, (enc x).length = m) : Sl H m (.slice (some ⟨b, 0, none⟩) l.length l.length) enc l :=
 .inr (.inr ⟨b, 0, _, _, rfl, Nat.le_refl _, hg, by rw [List.drop_zero, hk, List.take_of_length_le (by rw [ζn he]; exact Nat.le_refl _)]⟩)
end Go.Sw
end
section
namespace Go.Sw
open Go.RowKit
def LPv (H : Heap) (c : Nat) (ob : Option Nat) (v : Value) (ps : List Int) : Prop :=
 (ob = none ∧ ps = [] ∧ v = .slice none 0 0) ∨ ∃ b off cap k, ob = some b ∧ b ≠ c ∧ v = .slice (some ⟨b, off, none⟩) ps.length cap ∧ ps.length ≤ cap ∧ H.get b = some k ∧ k.esz = 1 ∧ k.ro = false ∧ off + cap ≤ k.cells.length ∧ (k.cells.drop off).take ps.length = rows encI ps.reverse
theorem LPv.up {H H' : Heap} {c : Nat} {ob : Option Nat} {v : Value} {ps : List Int} (h : LPv H c ob v ps) (hk : ∀ b, ob = some b → H'.get b = H.get b) : LPv H' c ob v ps := by
 rcases h with h | ⟨b, off, cap, k, h0, h1, h2, h3, h4, h5⟩
 ·exact .inl h
 ·exact .inr ⟨b, off, cap, k, h0, h1, h2, h3, by rw [hk b h0]; exact h4, h5⟩
def itLP (c : Nat) (ob : Option Nat) (ps : List Int) : It :=
 ⟨c :: ob.toList, fun H => ∃ v, H.get c = some ⟨[v], 1, false⟩ ∧ LPv H c ob v ps, fun H H' ⟨v, h1, h2⟩ hk =>
  ⟨v, by rw [hk c (by simp)]; exact h1, h2.up fun b hb => hk b (by simp [hb])⟩⟩
theorem LPv.len {H : Heap} {c : Nat} {ob : Option Nat} {v : Value} {ps : List Int} (h : LPv H c ob v ps) (H' : Heap) : lnS v H' = .ok (.int .i64 ps.length) H' := by
 rcases h with ⟨_, rfl, rfl⟩ | ⟨b, off, cap, k, _, _, rfl, _⟩ <;> rfl
theorem LPv.sl {H : Heap} {c : Nat} {ob : Option Nat} {v : Value} {ps : List Int} (h : LPv H c ob v ps) : Sl H 1 v encI ps.reverse := by
 rcases h with ⟨_, rfl, rfl⟩ | ⟨b, off, cap, k, _, _, rfl, h3, h4, _, _, _, h5⟩
 ·exact Sl.nil _ _
 ·exact .inr (.inr ⟨b, off, cap, k, by rw [List.length_reverse], by rw [List.length_reverse]; exact h3, h4, by rw [List.length_reverse, Nat.mul_one]; exact h5⟩)
theorem LPv.pop {H : Heap} {c : Nat} {ob : Option Nat} {v : Value} {i : Int} {ps : List Int} (h : LPv H c ob v (i :: ps)) : ∃ b off cap, ob = some b ∧ v = .slice (some ⟨b, off, none⟩) (ps.length + 1) cap ∧ (∀ H', (H'.get b).map (fun k => k.esz) = some 1 → slS 1 v none (some (.int .i64 ps.length)) none H' = .ok (.slice (some ⟨b, off, none⟩) ps.length cap) H') ∧ LPv H c ob (.slice (some ⟨b, off, none⟩) ps.length cap) ps := by
 rcases h with ⟨_, h, _⟩ | ⟨b, off, cap, k, h0, h1, rfl, h3, h4, h5, h6, h7, h8⟩
 ·cases h
 ·rw [List.length_cons] at h3 h8 ⊢;refine ⟨b, off, cap, h0, rfl, fun H' hg => ?_, .inr ⟨b, off, cap, k, h0, h1, rfl, by omega, h4, h5, h6, h7, ?_⟩⟩
  ·have hb : boundOf (some (.int .i64 (ps.length : Int))) (ps.length + 1) = some ps.length := by simp [boundOf]
   unfold slS;dsimp only;rw [hb];simp only [boundOf];have ho : openOk H' b 1 none = true := by
    unfold openOk;cases hh : H'.get b with
    | none => rw [hh] at hg; cases hg
    | some k' =>
     rw [hh] at hg;have : k'.esz = 1 := by simpa using hg
     simp [this]
   rw [if_pos ⟨by omega, by omega, by omega, by simp⟩, if_pos ho];simp
  ·have := congrArg (List.take ps.length) h8;rw [ζ4l, List.reverse_cons, List.map_append, List.take_take, List.take_left' (by simp), Nat.min_eq_left (by omega)] at this;rw [ζ4l];exact this
theorem ζhb (k : Nat) {H0 H : Heap} {L : List It} (g : Star H0 H L) (n : Nat) {c : Nat} {ob : Option Nat} {ps : List Int} (hps : ps.length ≤ 1000) (hi : L[n]? = some (itLP c ob ps)) :
  ∃ H', R (T k) F.ζ2r [ptrV c] H = .ok (.tuple #[.int .i64 (ps.head?.getD 0), .bool (!ps.isEmpty)]) H' ∧ Star H0 H' (L.set n (itLP c ob ps.tail)) := by
 obtain ⟨v, h1, h2⟩ := g.at n hi;rw [ζg4];cases ps with
 | nil =>
  refine ⟨H, nrm_of ?_, ?_⟩
  ·have hl := h2.len;have hl : ∀ H', lnS v H' = .ok (.int .i64 0) H' := hl;simp -implicitDefEqProofs (disch := omega) [ζ2r, h1, hl]
  ·exact g.step n hi (Nat.le_refl _) (fun _ _ _ => rfl) _ ⟨v, h1, h2⟩ fun b hb => .inl hb
 | cons i ps =>
  have hl := h2.len;have hl : ∀ H', lnS v H' = .ok (.int .i64 ((ps.length : Int) + 1)) H' := hl;obtain ⟨p, i1, i2⟩ := h2.sl.ix1 encI_len ps.length i (by rw [List.reverse_cons, List.getElem?_append_right (by simp)]; simp) _ rfl;have i2 := i2 H (Ext.refl _);obtain ⟨b, off, cap, hob, rfl, hs, h3⟩ := h2.pop;have hbk : ∃ k', H.get b = some k' ∧ k'.esz = 1 ∧ b ≠ c := by
   rcases h3 with ⟨_, _, hh⟩ | ⟨b', off', cap', k', e0, e1, e2, e3, e4, e5, _⟩
   ·cases hh
   ·rw [hob] at e0;injection e0 with e0;subst e0;exact ⟨k', e4, e5, e1⟩
  obtain ⟨k', hk', hk1, hbc⟩ := hbk;have hs := hs H (by rw [hk']; simp [hk1]);have hw : IntKind.i64.wrap (ps.length : Int) = ps.length := by
   rw [List.length_cons] at hps;exact wrap_i64 (by omega) (by omega)
  refine ⟨H.set c (some ⟨[.slice (some ⟨b, off, none⟩) ps.length cap], 1, false⟩), nrm_of ?_, ?_⟩
  ·rw [List.length_cons] at hps;have hne : ((ps.length : Int) + 1 == 0) = false := by rw [beq_eq_false_iff_ne]; omega
   simp -implicitDefEqProofs (disch := omega) [ζ2r, h1, hl, hne, hw, i1, i2, hs]
  ·have hP : (itLP c ob ps).P (H.set c (some ⟨[.slice (some ⟨b, off, none⟩) ps.length cap], 1, false⟩)) := ⟨_, by rw [Heap.get_set h1, if_pos rfl], h3.up fun b' hb' => by
     rw [hob] at hb';injection hb' with hb';subst hb';rw [Heap.get_set h1, if_neg hbc]⟩
   exact g.step (H' := H.set c (some ⟨[.slice (some ⟨b, off, none⟩) ps.length cap], 1, false⟩)) n hi (by simp) (fun d _ hd => by
    rw [Heap.get_set h1, if_neg (fun h => hd (by subst h; simp [itLP]))]) (itLP c ob ps) hP fun d hd => .inl hd
theorem LPv.append {H : Heap} {c : Nat} {ob : Option Nat} {v : Value} {ps : List Int} (h : LPv H c ob v ps) (hl : ps.length ≤ 1000) (hc : c < H.n) (hob : ∀ b, ob = some b → b < H.n) (i : Int) :
  ∃ H', apR 1 8 v (.slice (some ⟨H.n, 0, none⟩) 1 1) (H.push ⟨[.int .i64 i], 1, false⟩) = .ok (.slice (some ⟨H.n + 1, 0, none⟩) (ps.length + 1) (ps.length + 1)) H' ∧ H'.n = H.n + 2 ∧ (∀ d, d < H.n → ob ≠ some d → H'.get d = H.get d) ∧
   LPv H' c (some (H.n + 1)) (.slice (some ⟨H.n + 1, 0, none⟩) (ps.length + 1) (ps.length + 1)) (i :: ps) := by
 have hf : firstV 1 1 (.slice (some ⟨H.n, 0, none⟩) 1 1) (H.push ⟨[.int .i64 i], 1, false⟩) = some [.int .i64 i] := by
  have := (Sl.first (enc := encI) (m := 1) encI_len (Sl.blk (enc := encI) (m := 1) [i] (ζb _ _ _ rfl : (H.push ⟨[.int .i64 i], 1, false⟩).get H.n = _) rfl encI_len))
  exact this
 have hlv : lenV (.slice (some ⟨H.n, 0, none⟩) 1 1) = some 1 := rfl;rcases h with ⟨rfl, rfl, rfl⟩ | ⟨b, off, cap, k, rfl, h1, rfl, h3, h4, h5, h6, h7, h8⟩
 ·refine ⟨(H.push ⟨[.int .i64 i], 1, false⟩).push ⟨[.int .i64 i], 1, false⟩, ?_, by simp, fun d hd _ => by rw [ζ1r _ _ _ (by simp; omega), ζ1r _ _ _ hd], .inr ⟨H.n + 1, 0, 1, ⟨[.int .i64 i], 1, false⟩, rfl, by omega, rfl, by simp, ζb _ _ _ (by simp), rfl, rfl, by simp, rfl⟩⟩;unfold apR;simp only [hlv];unfold appendK;rw [if_neg (by decide), if_pos ⟨by decide, by decide, rfl⟩, hf];rfl
 ·have hb : b < H.n := hob b rfl;have hg : (H.push ⟨[.int .i64 i], 1, false⟩).get b = some k := by rw [ζ1r _ _ _ hb]; exact h4
  refine ⟨((H.push ⟨[.int .i64 i], 1, false⟩).set b none).push ⟨((k.cells.drop off).take (ps.length * 1)) ++ [.int .i64 i], 1, false⟩, ?_, by simp, fun d hd hne => ?_, .inr ⟨H.n + 1, 0, ps.length + 1, ⟨((k.cells.drop off).take (ps.length * 1)) ++ [.int .i64 i], 1, false⟩, rfl, by omega, rfl, by simp, ζb _ _ _ (by simp), rfl, rfl, ?_, ?_⟩⟩
  ·unfold apR;simp only [hlv];unfold appendK;rw [if_neg (by decide), if_pos ⟨by omega, by decide, rfl⟩, hf];simp only [hg];rw [if_pos (by simp [h5, h6]; omega)];simp
  ·rw [ζ1r _ _ _ (by simp; omega), ζ23 _ _ _ _ (fun e => hne (by rw [e])), ζ1r _ _ _ hd]
  ·simp;omega
  ·rw [Nat.mul_one, h8, List.drop_zero, List.take_of_length_le (by rw [ζ4l]; simp), List.reverse_cons, ζ4l, ζ4l, List.map_append];rfl
theorem LPv.tail {H : Heap} {c b off m cap : Nat} {l : List Int} (h : LPv H c (some b) (.slice (some ⟨b, off, none⟩) (m + 1) cap) l) (hl : l.length = m + 1) :
  slS 1 (.slice (some ⟨b, off, none⟩) (m + 1) cap) (some (.int .i64 1)) none none H = .ok (.slice (some ⟨b, off + 1, none⟩) m (cap - 1)) H ∧ LPv H c (some b) (.slice (some ⟨b, off + 1, none⟩) m (cap - 1)) (l.take m) := by
 rcases h with ⟨h, _⟩ | ⟨b', off', cap', k, h0, h1, h2, h3, h4, h5, h6, h7, h8⟩
 ·cases h
 ·injection h0 with h0;subst h0;injection h2 with e1 e2 e3;injection e1 with e1;injection e1 with _ e4;subst e3 e4;have hb : boundOf (some (.int .i64 1)) 0 = some 1 := by simp [boundOf]
  refine ⟨?_, .inr ⟨b, off + 1, cap - 1, k, rfl, h1, by rw [List.length_take, Nat.min_eq_left (by omega)], by rw [List.length_take]; omega, h4, h5, h6, by omega, ?_⟩⟩
  ·unfold slS;dsimp only;rw [hb];simp only [boundOf];rw [if_pos ⟨by omega, by omega, by omega, by simp⟩, if_pos (by unfold openOk; rw [h4]; simp [h5])];simp
  ·rw [hl] at h8;have := congrArg (List.drop 1) h8;rw [List.drop_take, List.drop_drop, show m + 1 - 1 = m by omega] at this;rw [List.length_take, Nat.min_eq_left (by omega), this, ζ4l, ζ4l, List.drop_one];have hne : l ≠ [] := fun h => by rw [h] at hl; simp at hl
   have : l.take m = l.dropLast := by rw [List.dropLast_eq_take, hl]; rfl
   rw [this, List.map_reverse, List.map_reverse, List.tail_reverse, List.map_dropLast]
set_option maxHeartbeats 1000000 in
theorem ζfw (k : Nat) {H0 H : Heap} {L : List It} (g : Star H0 H L) (n : Nat) {c : Nat} {ob : Option Nat} {ps : List Int} (hps : ps.length ≤ 64) (hi : L[n]? = some (itLP c ob ps)) (i : Int) :
  ∃ ob' H', R (T k) F.ζ19 [ptrV c, .int .i64 i] H = .ok (.tuple #[]) H' ∧ Star H0 H' (L.set n (itLP c ob' (pushP i ps))) := by
 obtain ⟨v, h1, h2⟩ := g.at n hi;have hown := g.lt n hi;have hcn := Heap.get_lt h1;have hl := h2.len;rw [ζfd];have hlast : ∀ j, ps.head? = some j → ∃ p, (∀ H', ixS 1 v (.int .i64 ((ps.length : Int) - 1)) H' = .ok p H') ∧ ld1 p H = .ok (.int .i64 j) H := by
  intro j hj;cases ps with
  | nil => cases hj
  | cons a ps =>
   injection hj with hj;subst hj;obtain ⟨p, i1, i2⟩ := h2.sl.ix1 encI_len ps.length a (by rw [List.reverse_cons, List.getElem?_append_right (by simp)]; simp) _ rfl;exact ⟨p, fun H' => by rw [show (((a :: ps).length : Nat) : Int) - 1 = (ps.length : Int) by rw [List.length_cons]; omega]; exact i1 _ _, i2 H (Ext.refl _)⟩
 by_cases hhead : ps.head? = some i
 ·refine ⟨ob, H, nrm_of ?_, ?_⟩
  ·obtain ⟨p, i1, i2⟩ := hlast i hhead;have hpos : 0 < ps.length := by
    cases ps with
    | nil => cases hhead
    | cons a ps => rw [List.length_cons]; omega
   simp -implicitDefEqProofs (disch := omega) [ζ19, h1, hl, hpos, i1, i2]
  ·have : pushP i ps = ps := by unfold pushP; rw [if_pos hhead]
   rw [this];exact g.step n hi (Nat.le_refl _) (fun _ _ _ => rfl) _ ⟨v, h1, h2⟩ fun b hb => .inl hb
 ·have hpp : pushP i ps = (i :: ps).take 64 := by unfold pushP; rw [if_neg hhead]
  obtain ⟨H1, e1, hn1, hk1, h3⟩ := h2.append (by omega) hcn (fun b hb => (hown b (by subst hb; simp [itLP])).2) i;have hoc : ob ≠ some c := by
   rcases h2 with ⟨rfl, _⟩ | ⟨b, _, _, _, rfl, hbc, _⟩
   ·simp
   ·exact fun h => hbc (by injection h)
  have h1' : H1.get c = some ⟨[v], 1, false⟩ := by rw [hk1 c hcn hoc]; exact h1
  have hs1 : (H1.get c).isSome = true := by rw [h1']; rfl
  have hcne : ¬ H.n + 1 = c := by omega
  have h3' : LPv (H1.set c (some ⟨[.slice (some ⟨H.n + 1, 0, none⟩) (ps.length + 1) (ps.length + 1)], 1, false⟩)) c (some (H.n + 1)) (.slice (some ⟨H.n + 1, 0, none⟩) (ps.length + 1) (ps.length + 1)) (i :: ps) := h3.up fun b hb => by
   injection hb with hb;subst hb;exact ζ23 _ _ _ _ hcne
  have hhd : (0 < ps.length) → ∃ j p, (∀ H', ixS 1 v (.int .i64 ((ps.length : Int) - 1)) H' = .ok p H') ∧ ld1 p H = .ok (.int .i64 j) H ∧ (j == i) = false := fun hp => by
   cases hps' : ps with
   | nil => rw [hps'] at hp; simp at hp
   | cons a qs =>
    rw [hps'] at hhead hlast;obtain ⟨p, i1, i2⟩ := hlast a rfl;exact ⟨a, p, i1, i2, by rw [beq_eq_false_iff_ne]; intro h; exact hhead (by rw [h]; rfl)⟩
  have fin : ∀ (X : Heap) (w : Value), X.n = H1.n → (∀ d, d < H.n → d ≠ c → X.get d = H1.get d) → (∃ k', X.get c = some ⟨[w], 1, false⟩ ∧ k' = w) → LPv X c (some (H.n + 1)) w ((i :: ps).take 64) → Star H0 X (L.set n (itLP c (some (H.n + 1)) (pushP i ps))) := fun X w hXn hX ⟨_, hXc, _⟩ hL => by
   rw [hpp];have hP : (itLP c (some (H.n + 1)) ((i :: ps).take 64)).P X := ⟨w, hXc, hL⟩
   exact g.step (H' := X) n hi (by omega) (fun d hd hdx => by
    have hdc : d ≠ c := fun h => hdx (by subst h; simp [itLP]);rw [hX d hd hdc, hk1 d hd (fun h => hdx (by rw [h]; simp [itLP]))]) _ hP fun b hb => by
     have hb : b = c ∨ b = H.n + 1 := by simpa [itLP] using hb
     rcases hb with rfl | rfl
     ·exact .inl (by simp [itLP])
     ·exact .inr ⟨by omega, by omega⟩
  have hw1 : (i :: ps).length = ps.length + 1 := rfl;by_cases h64 : ps.length = 64
  ·rw [h64] at h3' e1;obtain ⟨t1, t2⟩ := h3'.tail (by rw [hw1, h64]);refine ⟨some (H.n + 1), (H1.set c (some ⟨[.slice (some ⟨H.n + 1, 0 + 1, none⟩) 64 (64 + 1 - 1)], 1, false⟩)), nrm_of ?_, ?_⟩
   ·have hp : 0 < ps.length := by omega
    obtain ⟨j, p, i1, i2, hji⟩ := hhd hp;rw [h64] at hl i1;have hl : ∀ H', lnS v H' = .ok (.int .i64 64) H' := hl;have i1 : ∀ H', ixS 1 v (.int .i64 63) H' = .ok p H' := i1;simp -implicitDefEqProofs (disch := omega) [ζ19, h1, hl, i1, i2, hji, e1, h1', hs1, t1]
   ·exact fin _ _ (by simp) (fun d hd hdc => ζ23 _ _ _ _ hdc) ⟨_, by rw [ζ5t _ _ _ (by rw [h1']; rfl)], rfl⟩ (t2.up fun b hb => by
     injection hb with hb;subst hb;rw [ζ23 _ _ _ _ hcne, ζ23 _ _ _ _ hcne])
  ·have h65 : ¬ (ps.length : Int) + 1 > 64 := by omega
   have ht : (i :: ps).take 64 = i :: ps := List.take_of_length_le (by rw [hw1]; omega);refine ⟨some (H.n + 1), (H1.set c (some ⟨[.slice (some ⟨H.n + 1, 0, none⟩) (ps.length + 1) (ps.length + 1)], 1, false⟩)), nrm_of ?_, ?_⟩
   ·by_cases hp : 0 < ps.length
    ·obtain ⟨j, p, i1, i2, hji⟩ := hhd hp;simp -implicitDefEqProofs (disch := omega) [ζ19, h1, hl, hp, i1, i2, hji, e1, h1', hs1, h65]
    ·simp -implicitDefEqProofs (disch := omega) [ζ19, h1, hl, hp, e1, h1', hs1, h65]
   ·exact fin _ _ (by simp) (fun d hd hdc => ζ23 _ _ _ _ hdc) ⟨_, by rw [ζ5t _ _ _ (by rw [h1']; rfl)], rfl⟩ (by rw [ht]; exact h3')
end Go.Sw
end
section
namespace Go.Sw
open Go.RowKit
theorem ζnr (k : Nat) (b : List Int) (H : Heap) : R (T k) F.ζ4j [vwB b] H = .ok (.int .i64 b.length) H := by
 rw [ζix];have hx : Ext H (H.push ⟨[lv encB b], 1, false⟩) := (Ext.refl H).push _;refine nrm_gc ⟨_, ?_, hx⟩ (.int _ _);simp -implicitDefEqProofs (disch := omega) [ζ4j]
theorem ζfv (k : Nat) (b : List Int) (hb : Byt b) (hl : b.length < 2 ^ 31) (i : Int) (H : Heap) :
  R (T k) F.ζ4r [vwB b, .int .i64 i] H = .ok (.tuple #[.int .i64 ((entryS b i).getD 0), .bool (entryS b i).isSome]) H := by
 rw [ζlk];have hx : Ext H (H.push ⟨[lv encB b], 1, false⟩) := (Ext.refl H).push _;have hlen := fun H' => ζnr k b H';have q1 := fun H => bin_quo Prog 3 H .i64 b.length 2 (by decide);rw [Int.tdiv_eq_ediv_of_nonneg (by omega)] at q1;have fl : ∀ n x, Flat (.tuple #[.int .i64 n, .bool x]) := fun n x => Flat.tupleL (l := [.int .i64 n, .bool x]) (.cons (.int _ _) (.cons (.bool _) .nil));unfold entryS;by_cases c1 : i < 0
 ·rw [if_neg (by omega)];refine nrm_gc ⟨_, ?_, hx⟩ (fl _ _).alive;simp -implicitDefEqProofs (disch := omega) [ζ4r, c1]
 by_cases c2 : i ≥ (b.length : Int) / 2
 ·rw [if_neg (by omega)];refine nrm_gc ⟨_, ?_, hx⟩ (fl _ _).alive;simp -implicitDefEqProofs (disch := omega) [ζ4r, c1, hlen, q1, c2]
 rw [if_pos (by omega)];have hu := fun H' => U16_run k (H := H') (Sl.lv H' 1 b) hb (2 * i) (by omega);obtain ⟨x, hx2⟩ : ∃ x, uS b (2 * i) 2 = some x := uS_of_in (by unfold inS; rw [decide_eq_true_eq]; omega);rw [hx2] at hu;have hg := gU_some hx2;refine nrm_gc ⟨_, ?_, hx⟩ (fl _ _).alive;simp -implicitDefEqProofs (disch := omega) [ζ4r, c1, hlen, q1, c2, hu, orF, hg]
theorem off_shl (P : Program) (t : TypeId) (H : Heap) (a : Int) : binR P .shl t (.int .u32 a) (.int .u64 2) H = .ok (.int .u32 (IntKind.u32.wrap (a * 4))) H := by
 rfl
theorem off_shr (P : Program) (t : TypeId) (H : Heap) (a : Int) : binR P .shr t (.int .i64 a) (.int .u64 2) H = .ok (.int .i64 (a / 4)) H := by
 have h : a / 4 = a.fdiv 4 := (Int.fdiv_eq_ediv_of_nonneg a (by decide)).symm;rw [h];rfl
theorem ζjx (k : Nat) (a : Int) (h0 : 0 ≤ a) (h1 : a < 4294967296) (H : Heap) : R (T k) F.ζ6w [.int .i64 a] H = .ok (.int .i64 (offS a)) H := by
 rw [ζkm];refine nrm_gc ⟨_, ?_, Ext.refl H⟩ (.int _ _);simp -implicitDefEqProofs (disch := omega) [ζ6w, off_shl, off_shr];unfold offS IntKind.wrap;simp [IntKind.signed, IntKind.bits];split <;> omega
end Go.Sw
end
section
namespace Go.Sw
open Go.RowKit
theorem set_same {L : List It} {i : Nat} {a : It} (h : L[i]? = some a) : L.set i a = L := by
 apply List.ext_getElem?;intro j;by_cases hj : i = j
 ·subst hj;rw [List.getElem?_set_self (List.getElem?_eq_some_iff.1 h).1, h]
 ·rw [List.getElem?_set_ne hj]
end Go.Sw
end
section
namespace Go.Sw
open Go.RowKit
theorem and_high (n : Nat) (h : n < 2 ^ 32) : n &&& 3221225472 = n / 1073741824 * 1073741824 := by
 have e : n / 1073741824 * 1073741824 = (n >>> 30) <<< 30 := by rw [Nat.shiftLeft_eq, Nat.shiftRight_eq_div_pow]
 rw [e];apply Nat.eq_of_testBit_eq;intro j;rw [Nat.testBit_and, Nat.testBit_shiftLeft, Nat.testBit_shiftRight, show (3221225472 : Nat) = 3 <<< 30 by rfl, Nat.testBit_shiftLeft];by_cases h1 : j ≥ 30
 ·rw [show 30 + (j - 30) = j by omega];by_cases h2 : j < 32
  ·have : j = 30 ∨ j = 31 := by omega
   have e1 : Nat.testBit 3 1 = true := by decide
   rcases this with rfl | rfl
   ·simp
   ·simp [e1]
  ·rw [Nat.testBit_lt_two_pow (Nat.lt_of_lt_of_le h (Nat.pow_le_pow_right (by decide) (by omega)))];simp
 ·simp [h1]
theorem and3031 (P : Program) (t : TypeId) (H : Heap) {a : Int} (h0 : 0 ≤ a) (h1 : a < 4294967296) : binR P .and t (.int .i64 a) (.int .i64 3221225472) H = .ok (.int .i64 (a / 1073741824 * 1073741824)) H := by
 obtain ⟨n, rfl⟩ := Int.eq_ofNat_of_zero_le h0;have e : (BitVec.ofInt 64 (n : Int) &&& BitVec.ofInt 64 3221225472).toNat = n / 1073741824 * 1073741824 := by
  rw [BitVec.toNat_and, BitVec.toNat_ofInt, BitVec.toNat_ofInt];rw [show (((n : Int)) % ((2 ^ 64 : Nat) : Int)).toNat = n by omega, show ((3221225472 : Int) % ((2 ^ 64 : Nat) : Int)).toNat = 3221225472 from by decide, and_high n (by omega)]
 have e1 : binV P .and t (.int .i64 (n : Int)) (.int .i64 3221225472) = some (.int .i64 (IntKind.i64.wrap (BitVec.ofInt 64 (n : Int) &&& BitVec.ofInt 64 3221225472).toNat)) := rfl;unfold binR;rw [e1, e, wrap_i64 (by omega) (by omega)];rfl
theorem ζpt {vs : List Int} (hb : Byt vs) {a : Int} (h0 : 0 ≤ a) (h : lastB vs a = true) : ∃ x, uS vs (4 * a) 4 = some x ∧ gU vs (4 * a) 4 = x ∧ 0 ≤ x ∧ x < 4294967296 ∧ 4 * a + 4 ≤ vs.length ∧ (¬ x ≥ 2147483648 → lastB vs (a + 1) = true) := by
 obtain ⟨i, i1, i2, i3⟩ := ζ4m.1 h;obtain ⟨x, hx⟩ : ∃ x, uS vs (4 * a) 4 = some x := uS_of_in (by unfold inS; rw [decide_eq_true_eq]; omega);have hxb := uS_four hb hx;refine ⟨x, hx, gU_some hx, hxb.1, hxb.2, by omega, fun hlt => ζ4m.2 ⟨i, ?_, i2, i3⟩⟩;by_cases hia : (i : Int) = a
 ·rw [hia, gU_some hx] at i3;exact absurd i3 hlt
 ·omega
theorem ζcz {l : List Gl} {i : Int} (h : ¬ (0 ≤ i ∧ i < l.length)) : ∀ ks : List Int, joinG l i ks = l
 | [] => rfl
 | k :: ks => by
  have : join1 i l k = l := by
   unfold join1;split
   ·rw [if_neg h]
   ·rfl
  show joinG (join1 i l k) i ks = l;rw [this];exact ζcz h ks
theorem ζh9 (l : List Gl) (i : Int) (ks : List Int) (k : Int) : joinG l i (ks ++ [k]) = join1 i (joinG l i ks) k := by unfold joinG; rw [List.foldl_append]; rfl
theorem ζlx (l : List Gl) (ks : List Int) (k : Int) : delG l (ks ++ [k]) = setG (delG l ks) k 65535 := by unfold delG; rw [List.foldl_append]; rfl
set_option maxHeartbeats 1000000 in
theorem ζkn (k : Nat) {H0 H : Heap} {L : List It} (h : Star H0 H L) (il ir : Nat) (hne : il ≠ ir) {c : Nat} {o : Option Nat} {l : List Gl} (hil : L[il]? = some (itLine c o l)) {og : Option Nat} {s : Value} {ks : List Int} (hir : L[ir]? = some (itRow og 1 s encI ks)) (hks : ks.length < 2 ^ 31) (i : Int) :
  ∃ H', R (T k) F.ζ1e [ptrV c, .int .i64 i, s] H = .ok (.tuple #[]) H' ∧ Star H0 H' (L.set il (itLine c o (joinG l i ks))) := by
 have hin := ζhi k h il hil (Ext.refl H) i;rw [ζhk];by_cases hj : 0 ≤ i ∧ i < l.length;rotate_left
 ·rw [ζcz hj, set_same hil];rw [decide_eq_false hj] at hin;refine ⟨H, nrm_of ?_, h⟩;simp -implicitDefEqProofs [ζ1e, hin]
 rw [decide_eq_true hj] at hin;obtain ⟨n, rfl⟩ := Int.eq_ofNat_of_zero_le hj.1;have hlt := (List.getElem?_eq_some_iff.1 hil).1;have hlr := (List.getElem?_eq_some_iff.1 hir).1;have hlen := (h.row ir hir).len
 obtain ⟨xx, e', H1, hr, rfl, rfl, g⟩ := loop_up (body := ζ69 k (R (T k))) ks.length
  (fun j e H' => e = [(0, ptrV c), (1, .int .i64 n), (14, s), (15, .int .i64 ks.length), (16, .int .i64 j)] ∧ Star H0 H' (L.set il (itLine c o (joinG l n (ks.take j)))))
  (fun xx e H' => xx = .exit 0 ∧ e = [(0, ptrV c), (1, .int .i64 n), (14, s), (15, .int .i64 ks.length), (16, .int .i64 ks.length), (17, .bool false)] ∧ Star H0 H' (L.set il (itLine c o (joinG l n ks))))
  (e0 := [(0, ptrV c), (1, .int .i64 n), (14, s), (15, .int .i64 ks.length), (16, .int .i64 0)]) (H0 := H) ⟨rfl, by rw [List.take_zero]; show Star H0 H (L.set il (itLine c o l)); rw [set_same hil]; exact h⟩ (by omega)
  (fun j e H' hj2 ⟨he, g⟩ => by
   subst he;have hjl : (j : Int) < ks.length := by omega
   obtain ⟨x, hx⟩ : ∃ x, ks[j]? = some x := ⟨_, List.getElem?_eq_getElem hj2⟩
   have hir2 : (L.set il (itLine c o (joinG l n (ks.take j))))[ir]? = some (itRow og 1 s encI ks) := by rw [List.getElem?_set_ne hne]; exact hir
   have hil2 : (L.set il (itLine c o (joinG l n (ks.take j))))[il]? = some (itLine c o (joinG l n (ks.take j))) := List.getElem?_set_self hlt;obtain ⟨p, i1, i2⟩ := ((g.row ir hir2).sl encI_len).ix1 encI_len j x hx _ rfl;have i2 := i2 H' (Ext.refl _);have hat := ζhh k g il hil2 x;have hjn := ζet (n : Int) (ks.take j) l;rw [ζ2p hx];have e2 := ζh9 l n (ks.take j) x;cases hq : atG (joinG l n (ks.take j)) x with
   | none =>
    rw [hq] at hat;have : joinG l n (ks.take j ++ [x]) = joinG l n (ks.take j) := by rw [e2]; unfold join1; rw [hq]
    rw [this];refine .inl ⟨_, H'.push ⟨[.int .i64 0, .int .i64 0], 1, false⟩, ?_, rfl, g.rest ((Ext.refl _).push _)⟩;rw [ζ49];simp -implicitDefEqProofs (disch := omega) [hjl, i1, i2, hat, encA, ζec]
   | some q =>
    rw [hq] at hat;have gp := g.push ⟨encG q, 1, false⟩;have hil3 : (L.set il (itLine c o (joinG l n (ks.take j))) ++ [itBlk H'.n ⟨encG q, 1, false⟩])[il]? = some (itLine c o (joinG l n (ks.take j))) := by rw [List.getElem?_append_left (by simpa using hlt)]; exact hil2
    obtain ⟨y, hy⟩ : ∃ y, (joinG l n (ks.take j))[n]? = some y := ⟨_, List.getElem?_eq_getElem (by omega)⟩
    obtain ⟨_, s3, h1, h2⟩ := gp.box il hil3;simp at h1;obtain ⟨b, rfl, hs, hb, ix⟩ := h2.ix .i64 n (by omega);have l1 := ld1_row encG_len hb (i := n) (c := 1) hy (by decide) rfl;obtain ⟨H3, e3, g3, _⟩ := gp.stBox il hil3 encG_len (c := 1) (n := 1) (⟨y.id, min y.cl q.cl⟩ : Gl) (v := .int .i64 (min y.cl q.cl)) hy rfl rfl (by decide) rfl;have hcn : ¬ c = H'.n := by
     have := (g.lt il hil2 c (by simp [itLine, itBox])).2;omega
    have hfin : joinG l n (ks.take j ++ [x]) = (joinG l n (ks.take j)).set n ⟨y.id, min y.cl q.cl⟩ := by
     rw [e2];unfold join1;rw [hq];dsimp only;rw [if_pos ⟨by omega, by omega⟩, Int.toNat_natCast, ζho _ _ _ _ hy]
    have hmin : (if q.cl < y.cl then q.cl else y.cl) = min y.cl q.cl := by rw [Int.min_def]; split <;> split <;> omega
    refine .inl ⟨_, H3, ?_, rfl, ?_⟩
    ·rw [ζ49];have gq : (H'.push ⟨encG q, 1, false⟩).get H'.n = some ⟨encG q, 1, false⟩ := ζb _ _ _ rfl;rw [if_neg hcn] at h1;simp -implicitDefEqProofs (disch := omega) [-stR_ptr, stR_ptr 2 H'.n 0, -ld1_ptr, ld1_ptr H'.n 1, ld1_ptr c 0, hjl, i1, i2, hat, encA, h1, ix, l1, hmin, e3, gq, ζeb, hcn]
    ·rw [hfin];rw [List.set_append_left _ _ (by simpa using hlt), List.set_set] at g3;exact g3.ζel)
  (fun e H' ⟨he, g⟩ => by
   subst he;rw [List.take_length] at g;refine ⟨.exit 0, _, H', ?_, by simp, rfl, rfl, g⟩;rw [ζ49];simp -implicitDefEqProofs)
 refine ⟨H1, nrm_of ?_, g⟩;simp -implicitDefEqProofs [ζ1e, hin, hlen, hr, ζd5]
set_option maxHeartbeats 1000000 in
theorem ζjy (k : Nat) (t : LTab) (ht : t.ok) {H0 H : Heap} {L : List It} (h : Star H0 H L) (il ir : Nat) (hne : il ≠ ir) {c : Nat} {o : Option Nat} {l : List Gl} (hil : L[il]? = some (itLine c o l)) {og : Option Nat} {s : Value} {ks : List Int} (hir : L[ir]? = some (itRow og 1 s encI ks)) (hks : ks.length < 2 ^ 31) (i sum : Int) :
  ∃ H', R (T k) F.ζ1m [ligaV t, ptrV c, .int .i64 i, .int .i64 sum, s] H = .ok (.bool (entryS t.ligs sum).isSome) H' ∧ Star H0 H' (L.set il (itLine c o (match entryS t.ligs sum with | some id => storeG l i id ks | none => l))) := by
 have hen := fun H' => ζfv k t.ligs ht.byt.2.2 ht.len.2.2 sum H';have hlt := (List.getElem?_eq_some_iff.1 hil).1;rw [ζfc];cases he : entryS t.ligs sum with
 | none =>
  rw [he] at hen;refine ⟨H, nrm_of ?_, by dsimp only; rw [set_same hil]; exact h⟩;simp -implicitDefEqProofs (disch := omega) [ζ1m, hen]
 | some id =>
  rw [he] at hen;obtain ⟨H1, e1, g⟩ := ζhj k h il hil i id;have hir2 : (L.set il (itLine c o (setG l i id)))[ir]? = some (itRow og 1 s encI ks) := by rw [List.getElem?_set_ne hne]; exact hir
  obtain ⟨H2, e2, g⟩ := ζkn k g il ir hne (List.getElem?_set_self hlt) hir2 hks i;rw [List.set_set] at g;have hlen := (h.row ir hir).len
  obtain ⟨xx, e', H3, hr, rfl, rfl, g⟩ := loop_up (body := ζ4q k (R (T k))) ks.length
   (fun j e H' => e = [(1, ptrV c), (34, s), (35, .int .i64 ks.length), (36, .int .i64 j)] ∧ Star H0 H' (L.set il (itLine c o (delG (joinG (setG l i id) i ks) (ks.take j)))))
   (fun xx e H' => xx = .exit 0 ∧ e = [(1, ptrV c), (34, s), (35, .int .i64 ks.length), (36, .int .i64 ks.length), (37, .bool false)] ∧ Star H0 H' (L.set il (itLine c o (delG (joinG (setG l i id) i ks) ks))))
   (e0 := [(1, ptrV c), (34, s), (35, .int .i64 ks.length), (36, .int .i64 0)]) (H0 := H2) ⟨rfl, g⟩ (by omega)
   (fun j e H' hj2 ⟨he, g⟩ => by
    subst he;have hjl : (j : Int) < ks.length := by omega
    obtain ⟨x, hx⟩ : ∃ x, ks[j]? = some x := ⟨_, List.getElem?_eq_getElem hj2⟩
    have hir2 : (L.set il (itLine c o (delG (joinG (setG l i id) i ks) (ks.take j))))[ir]? = some (itRow og 1 s encI ks) := by rw [List.getElem?_set_ne hne]; exact hir
    obtain ⟨p, i1, i2⟩ := ((g.row ir hir2).sl encI_len).ix1 encI_len j x hx _ rfl;have i2 := i2 H' (Ext.refl _);obtain ⟨H4, e4, g4⟩ := ζhj k g il (List.getElem?_set_self hlt) x 65535;rw [List.set_set, ← ζlx, ← ζ2p hx] at g4;refine .inl ⟨_, H4, ?_, rfl, g4⟩;rw [ζ5u];simp -implicitDefEqProofs (disch := omega) [hjl, i1, i2, e4])
   (fun e H' ⟨he, g⟩ => by
    subst he;rw [List.take_length] at g;refine ⟨.exit 0, _, H', ?_, by simp, rfl, rfl, g⟩;rw [ζ5u];simp -implicitDefEqProofs)
  refine ⟨H3, nrm_of ?_, g⟩;simp -implicitDefEqProofs (disch := omega) [ζ1m, hen, e1, e2, hlen, hr, ζ9l]
end Go.Sw
end
section
namespace Go.Sw
open Go.RowKit
variable {σ ω : Type}
def ActOkG (k : Nat) (m : Mach) (H0 : Heap) (W : σ → ω → List It) (Inv : σ → Prop) (a : Value) (f : σ → Int → En → σ × Int × Int) : Prop :=
 ∀ s w i e H X, Inv s → Star H0 H (W s w ++ X) → 0 ≤ i → i < 2 ^ 50 → e ∈ m.ents →
  ∃ H' w', callV (R (T k)) a [.int .i64 i, encE e] H = .ok (.tuple #[.int .i64 (f s i e).2.1, .int .i64 (f s i e).2.2]) H' ∧ Star H0 H' (W (f s i e).1 w' ++ X) ∧ Inv (f s i e).1 ∧ (f s i e).2.1 ≤ i + 128 ∧ (f s i e).2.2 ≤ i + 128
set_option maxHeartbeats 2000000 in
theorem ζik (k : Nat) (m : Mach) (hm : m.ok) {H0 H : Heap} (W : σ → ω → List It) (Inv : σ → Prop) (ln : σ → List Gl) (c : Nat) (hW : ∀ s w, ∃ (i : Nat) (o : Option Nat), (W s w)[i]? = some (itLine c o (ln s))) (a : Value) (f : σ → Int → En → σ × Int × Int) (ha : ActOkG k m H0 W Inv a f)
  (X : List It) (q : Nat) (s : σ) (w : ω) (d : Drv) (hI : Inv s) (h : Star H0 H (W s w ++ X ++ [itBlk q ⟨drvC m c d, 1, false⟩])) (hp : 0 ≤ d.pl ∧ d.pl < 2 ^ 50) (hst : 0 ≤ d.stp ∧ d.stp < 2 ^ 50) (hr : 0 ≤ d.rest ∧ d.rest < 2 ^ 50) (hse : 0 ≤ d.st ∧ d.st < m.rows.length) :
  ∃ H' w', R (T k) F.ζ29 [ptrV q, a] H = .ok (.bool (stepD m ln f (s, d)).2) H' ∧ Star H0 H' (W (stepD m ln f (s, d)).1.1 w' ++ X ++ [itBlk q ⟨drvC m c (stepD m ln f (s, d)).1.2, 1, false⟩]) ∧ Inv (stepD m ln f (s, d)).1.1 ∧ (stepD m ln f (s, d)).1.2.pl ≤ d.pl + 128 ∧ 0 ≤ (stepD m ln f (s, d)).1.2.st ∧ (stepD m ln f (s, d)).1.2.st < m.rows.length := by
 obtain ⟨i, o, ho⟩ := hW s w;have hq := h.memBlk (c := q) (k := ⟨drvC m c d, 1, false⟩) (by simp);have hline : (W s w ++ X ++ [itBlk q ⟨drvC m c d, 1, false⟩])[i]? = some (itLine c o (ln s)) := by
  have h0 : i < (W s w).length := (List.getElem?_eq_some_iff.1 ho).1;rw [List.append_assoc, List.getElem?_append_left h0];exact ho
 have hcls := ζij k m hm h i hline hq;have hstep := fun H' => Step_run k m hm d.st (clsS m (ln s) d.pl).1 H';have heb := ζo3 hm (ln s) d;have hmem := entS_mem hm (ln s) d hse;have hnx := hm.ent _ hmem;have hee : encEA (stepS m d.st (clsS m (ln s) d.pl).1) = encE (entS m (ln s) d) := rfl;rw [hee] at hstep;have hx := ha s w d.pl (entS m (ln s) d);unfold stepD;dsimp only;generalize (stepS m d.st (clsS m (ln s) d.pl).1).isSome = z at hstep;generalize (clsS m (ln s) d.pl) = cl at hcls hstep;generalize entS m (ln s) d = e at hstep heb hx hmem hnx ⊢;dsimp only at heb;generalize f s d.pl e = r at hx ⊢;have g := h.push ⟨encEn e, 1, false⟩;rw [List.append_assoc, List.singleton_append] at g;have hqn : ¬ q = H.n := by have := Heap.get_lt hq; omega
 obtain ⟨H2, e2, g⟩ := g.stEnd 4 (v := .int .i64 (d.stp + 1)) rfl rfl (by simp);simp only [List.set_cons_zero, List.set_cons_succ] at g;have he2 := g.memBlk (c := H.n) (k := ⟨encEn e, 1, false⟩) (by simp);have hq2 := g.memBlk (c := q) (k := ⟨[machV m, ptrV c, .int .i64 d.st, .int .i64 d.pl, .int .i64 (d.stp + 1), .int .i64 d.rest], 1, false⟩) (by simp);obtain ⟨H3, e3, g⟩ := g.stEnd 2 (v := .int .i64 e.next) rfl rfl (by simp);simp only [List.set_cons_zero, List.set_cons_succ] at g;have hq3 := g.memBlk (c := q) (k := ⟨[machV m, ptrV c, .int .i64 e.next, .int .i64 d.pl, .int .i64 (d.stp + 1), .int .i64 d.rest], 1, false⟩) (by simp);have he3 := g.memBlk (c := H.n) (k := ⟨encEn e, 1, false⟩) (by simp);rw [List.append_assoc] at g;obtain ⟨H4, w4, e4, g4, hI4, hs4, ho4⟩ := hx H3 _ hI g hp.1 hp.2 hmem;rw [← List.append_assoc] at g4;have hq4 := g4.memBlk (c := q) (k := ⟨[machV m, ptrV c, .int .i64 e.next, .int .i64 d.pl, .int .i64 (d.stp + 1), .int .i64 d.rest], 1, false⟩) (by simp);have he4 := g4.memBlk (c := H.n) (k := ⟨encEn e, 1, false⟩) (by simp);have han := fun H => and14 Prog 3 H heb.2.2.1 heb.2.2.2.1;rw [List.append_assoc] at g4;by_cases hfl : e.flags / 16384 % 2 = 1
 ·rw [if_pos hfl];rw [if_pos hfl] at han;have hmx : (if 0 > r.2.1 then 0 else r.2.1) = max r.2.1 0 := by split <;> omega
  obtain ⟨H5, e5, g5⟩ := Star.stEnd (A := W r.1 w4 ++ X) (by simpa using g4) 3 (v := .int .i64 (max r.2.1 0)) rfl rfl (by simp);simp only [List.set_cons_zero, List.set_cons_succ] at g5;have hq5 := g5.memBlk (c := q) (k := ⟨[machV m, ptrV c, .int .i64 e.next, .int .i64 (max r.2.1 0), .int .i64 (d.stp + 1), .int .i64 d.rest], 1, false⟩) (by simp);obtain ⟨H6, e6, g6⟩ := g5.stEnd 5 (v := .int .i64 (d.rest + 1)) rfl rfl (by simp);simp only [List.set_cons_zero, List.set_cons_succ] at g6;refine ⟨H6, w4, ?_, ?_, hI4, by dsimp only; omega, hnx.1, hnx.2.1⟩
  ·rw [ζ7n];simp -implicitDefEqProofs (disch := omega) [-stR_ptr, ζ29, hcls, hq, hqn, hstep, stR_ptr 4 H.n 0, e2, hq2, he2, e3, hq3, he3, e4, hq4, he4, han, hmx, e5, hq5, e6]
  ·have := g6.take ((W r.1 w4 ++ X).length + 1);rw [take_mid] at this;exact this
 ·rw [if_neg hfl];rw [if_neg hfl] at han;have hmx : (if 0 > r.2.2 then 0 else r.2.2) = max r.2.2 0 := by split <;> omega
  obtain ⟨H5, e5, g5⟩ := Star.stEnd (A := W r.1 w4 ++ X) (by simpa using g4) 3 (v := .int .i64 (max r.2.2 0)) rfl rfl (by simp);simp only [List.set_cons_zero, List.set_cons_succ] at g5;have hq5 := g5.memBlk (c := q) (k := ⟨[machV m, ptrV c, .int .i64 e.next, .int .i64 (max r.2.2 0), .int .i64 (d.stp + 1), .int .i64 d.rest], 1, false⟩) (by simp);obtain ⟨H6, e6, g6⟩ := g5.stEnd 5 (v := .int .i64 0) rfl rfl (by simp);simp only [List.set_cons_zero, List.set_cons_succ] at g6;refine ⟨H6, w4, ?_, ?_, hI4, by dsimp only; omega, hnx.1, hnx.2.1⟩
  ·rw [ζ7n];simp -implicitDefEqProofs (disch := omega) [-stR_ptr, ζ29, hcls, hq, hqn, hstep, stR_ptr 4 H.n 0, e2, hq2, he2, e3, hq3, he3, e4, hq4, he4, han, hmx, bne, e5, hq5, e6]
  ·have := g6.take ((W r.1 w4 ++ X).length + 1);rw [take_mid] at this;exact this
set_option maxHeartbeats 1000000 in
theorem ζjs (k : Nat) (m : Mach) (hm : m.ok) {H0 H : Heap} (W : σ → ω → List It) (Inv : σ → Prop) (ln : σ → List Gl) (c : Nat) (hW : ∀ s w, ∃ (i : Nat) (o : Option Nat), (W s w)[i]? = some (itLine c o (ln s))) (a : Value) (f : σ → Int → En → σ × Int × Int) (ha : ActOkG k m H0 W Inv a f)
  (X : List It) (s : σ) (w : ω) (hI : Inv s) (h : Star H0 H (W s w ++ X)) (hl : (ln s).length < 2 ^ 40) :
  ∃ H' w', R (T k) F.ζ4k [machV m, ptrV c, a] H = .ok (.tuple #[.int .i64 (runD m ln f (2 * (ln s).length + 128) (2 * (ln s).length + 128) (s, ⟨0, 0, 0, 0⟩)).1, .int .i64 (runD m ln f (2 * (ln s).length + 128) (2 * (ln s).length + 128) (s, ⟨0, 0, 0, 0⟩)).2.1]) H' ∧
   Star H0 H' (W (runD m ln f (2 * (ln s).length + 128) (2 * (ln s).length + 128) (s, ⟨0, 0, 0, 0⟩)).2.2 w' ++ X) ∧ Inv (runD m ln f (2 * (ln s).length + 128) (2 * (ln s).length + 128) (s, ⟨0, 0, 0, 0⟩)).2.2 := by
 rw [ζmy];obtain ⟨N, hN⟩ : ∃ N, N = 2 * (ln s).length + 128 := ⟨_, rfl⟩
 have hNi : (2 * ((ln s).length : Int) + 128) = (N : Int) := by omega
 obtain ⟨x0, hx0⟩ : ∃ x0 : σ × Drv, x0 = (s, ⟨0, 0, 0, 0⟩) := ⟨_, rfl⟩
 rw [← hN, hNi, ← hx0];generalize hR0 : runD m ln f (N : Int) N x0 = R0;have g := h.push ⟨drvC m c ⟨0, 0, 0, 0⟩, 1, false⟩;obtain ⟨i, o, ho⟩ := hW s w;have hline : (W s w ++ X ++ [itBlk H.n ⟨drvC m c ⟨0, 0, 0, 0⟩, 1, false⟩])[i]? = some (itLine c o (ln s)) := by
  have h0 : i < (W s w).length := (List.getElem?_eq_some_iff.1 ho).1;rw [List.append_assoc, List.getElem?_append_left h0];exact ho
 have hlen := ζj9 k g i hline
 obtain ⟨e, eE, H1, hr1, hQ⟩ := loop_up (body := ζe7 k (R (T k))) N
  (fun j e H' => e = [(2, a), (8, ptrV H.n), (9, .int .i64 N)] ∧ ∃ (x : σ × Drv) (w : ω), Star H0 H' (W x.1 w ++ X ++ [itBlk H.n ⟨drvC m c x.2, 1, false⟩]) ∧ Inv x.1 ∧ x.2.stp = j ∧ 0 ≤ x.2.pl ∧ x.2.pl ≤ 128 * j ∧ 0 ≤ x.2.rest ∧ x.2.rest ≤ j ∧ (0 ≤ x.2.st ∧ x.2.st < m.rows.length) ∧ runD m ln f N (N - j) x = R0)
  (fun x' e H' => ∃ r : Int × Int × σ, r = R0 ∧ ∃ (d : Drv) (w : ω), Star H0 H' (W r.2.2 w ++ X ++ [itBlk H.n ⟨drvC m c d, 1, false⟩]) ∧ Inv r.2.2 ∧
   ((x' = .ret ∧ e = [(6, .int .i64 r.1), (7, .int .i64 0)] ∧ r.2.1 = 0) ∨ (x' = .exit 0 ∧ d.stp = r.1 ∧ r.2.1 = 4 ∧ (e = [(2, a), (8, ptrV H.n), (9, .int .i64 N), (35, .bool true)] ∨ e = [(2, a), (8, ptrV H.n), (9, .int .i64 N), (23, .bool false)]))))
  (e0 := [(2, a), (8, ptrV H.n), (9, .int .i64 N)]) (H0 := H.push ⟨drvC m c ⟨0, 0, 0, 0⟩, 1, false⟩)
  ⟨rfl, x0, w, by rw [hx0]; exact g, by rw [hx0]; exact hI, by rw [hx0]; rfl, by rw [hx0]; exact Int.le_refl _, by rw [hx0]; exact Int.le_refl _, by rw [hx0]; exact Int.le_refl _, by rw [hx0]; exact Int.le_refl _, by rw [hx0]; have := hm.two; dsimp only; omega, by rw [Nat.sub_zero]; exact hR0⟩ (by omega)
  (fun j e H' hj ⟨he, x, w, g, hI, h1, h2, h3, h4, h5, hse, hrun⟩ => by
   subst he;obtain ⟨H2, w2, e2, g2, hI2, h6, h7⟩ := ζik k m hm W Inv ln c hW a f ha X H.n x.1 w x.2 hI g (by omega) (by omega) (by omega) hse;have hq := g.memBlk (c := H.n) (k := ⟨drvC m c x.2, 1, false⟩) (by simp);have p1 := ζqe m ln f x;have p2 := stepD_pl m ln f x;have p3 := ζot m ln f x h4;have hlt : x.2.stp < (N : Int) := by omega
   have hNj : N - j = (N - (j + 1)) + 1 := by omega
   rw [hNj] at hrun;unfold runD at hrun;rw [if_pos hlt] at hrun;have hxx : (x.1, x.2) = x := rfl;rw [hxx] at e2 g2 hI2 h6 h7;generalize stepD m ln f x = y at *;have hq2 := g2.memBlk (c := H.n) (k := ⟨drvC m c y.1.2, 1, false⟩) (by simp);cases hy : y.2 with
   | true =>
    rw [hy] at hrun e2;simp only [if_true] at hrun;refine .inr ⟨.ret, _, H2, ?_, by simp, _, hrun, y.1.2, w2, g2, hI2, .inl ⟨rfl, rfl, rfl⟩⟩;rw [ζ5o];simp -implicitDefEqProofs (disch := omega) [hq, hlt, e2, hq2]
   | false =>
    rw [hy] at hrun e2;simp only [Bool.false_eq_true, if_false] at hrun;by_cases hr : y.1.2.rest > 64
    ·rw [if_pos hr] at hrun;refine .inr ⟨.exit 0, _, H2, ?_, by simp, _, hrun, y.1.2, w2, g2, hI2, .inr ⟨rfl, rfl, rfl, .inl rfl⟩⟩;rw [ζ5o];simp -implicitDefEqProofs (disch := omega) [hq, hlt, e2, hq2, hr]
    ·rw [if_neg hr] at hrun;refine .inl ⟨_, H2, ?_, rfl, y.1, w2, g2, hI2, by omega, p2, by omega, p3.1, by omega, h7, hrun⟩;rw [ζ5o];simp -implicitDefEqProofs (disch := omega) [hq, hlt, e2, hq2, hr])
  (fun e H' ⟨he, x, w, g, hI, h1, h2, h3, h4, h5, hse, hrun⟩ => by
   subst he;rw [Nat.sub_self] at hrun;have hq := g.memBlk (c := H.n) (k := ⟨drvC m c x.2, 1, false⟩) (by simp);refine ⟨.exit 0, _, H', ?_, by simp, _, hrun, x.2, w, g, hI, .inr ⟨rfl, rfl, rfl, .inr rfl⟩⟩;have hnl : ¬ x.2.stp < (N : Int) := by omega
   rw [ζ5o];simp -implicitDefEqProofs (disch := omega) [hq, hnl])
 obtain ⟨r, hr, d, w3, g, hIr, hcase⟩ := hQ;subst hr;have hq := g.memBlk (c := H.n) (k := ⟨drvC m c d, 1, false⟩) (by simp);have gX : Star H0 H1 (W r.2.2 w3 ++ X) := g.ζel;refine ⟨H1, w3, ?_, gX, hIr⟩;rcases hcase with ⟨rfl, rfl, hc⟩ | ⟨rfl, hd, hc, rfl | rfl⟩
 ·rw [hc];simp -implicitDefEqProofs (disch := omega) [ζ4k, hlen, hNi, hr1, ζii]
 ·rw [hc];simp -implicitDefEqProofs (disch := omega) [ζ4k, hlen, hNi, hr1, ζh2, hq, hd]
 ·rw [hc];simp -implicitDefEqProofs (disch := omega) [ζ4k, hlen, hNi, hr1, ζfb, hq, hd]
def DoOkG (k : Nat) (m : Mach) (H0 : Heap) (W : σ → ω → List It) (Inv : σ → Prop) (a : Value) (g : σ → Int → En → σ) : Prop :=
 ∀ s w i e H X, Inv s → Star H0 H (W s w ++ X) → 0 ≤ i → i < 2 ^ 50 → e ∈ m.ents →
  ∃ v H' w', callV (R (T k)) a [.int .i64 i, encE e] H = .ok v H' ∧ Star H0 H' (W (g s i e) w' ++ X) ∧ Inv (g s i e)
theorem ζq1 (k : Nat) {m : Mach} {H0 : Heap} {W : σ → ω → List It} {Inv : σ → Prop} {a : Value} {g : σ → Int → En → σ} (h : DoOkG k m H0 W Inv a g) (p : Nat) :
  ActOkG k m H0 (fun s w => W s w ++ [itBlk p ⟨[a], 1, false⟩]) Inv (.func (.func F.ζ1z) #[] #[ptrV p]) (fun s i e => (g s i e, i, i + 1)) := by
 intro s w i e H X hI st h0 h1 he;have st2 := st.push ⟨encEn e, 1, false⟩;have hp := st2.memBlk (c := p) (k := ⟨[a], 1, false⟩) (by simp);have hpn : ¬ p = H.n := by have := Heap.get_lt (st.memBlk (c := p) (k := ⟨[a], 1, false⟩) (by simp)); omega
 obtain ⟨v, H', w', e1, st3, hI2⟩ := h s w i e (H.push ⟨encEn e, 1, false⟩) ([itBlk p ⟨[a], 1, false⟩] ++ X ++ [itBlk H.n ⟨encEn e, 1, false⟩]) hI (by simpa [List.append_assoc] using st2) h0 h1 he;have st4 : Star H0 H' (W (g s i e) w' ++ [itBlk p ⟨[a], 1, false⟩] ++ X) := by
  have : W (g s i e) w' ++ ([itBlk p ⟨[a], 1, false⟩] ++ X ++ [itBlk H.n ⟨encEn e, 1, false⟩]) = (W (g s i e) w' ++ [itBlk p ⟨[a], 1, false⟩] ++ X) ++ [itBlk H.n ⟨encEn e, 1, false⟩] := by simp
  rw [this] at st3;exact st3.ζel
 refine ⟨H', w', ?_, st4, hI2, by dsimp only; omega, by dsimp only; omega⟩;simp only [callV, List.nil_append, List.cons_append];rw [ζg3, nrm_of];simp -implicitDefEqProofs (disch := omega) [ζ1z, hp, hpn, e1]
end Go.Sw
end
