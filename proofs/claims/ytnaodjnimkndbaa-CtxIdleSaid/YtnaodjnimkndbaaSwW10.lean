/-
  Functions' forms, and what is proved of them, part 10.
-/
import Derived.Test.YtnaodjnimkndbaaSwW9
import Derived.Test.YtnaodjnimkndbaaSwW8
import Derived.Test.YtnaodjnimkndbaaSwW4
import Derived.Test.YtnaodjnimkndbaaSwCfg
set_option linter.unusedSimpArgs false
set_option linter.unusedVariables false
set_option linter.unusedSectionVars false
section
namespace Go.Sw
open Go.RowKit
theorem veq_Ens (l : List En) : veq (lv encEn l) (lv encEn l) = true := veq_lv fun p _ v hv => by
 simp [encEn] at hv
 rcases hv with rfl | rfl | rfl | rfl <;> simp
theorem veq_Is (l : List Int) : veq (lv encI l) (lv encI l) = true := veq_lv fun p _ v hv => by
 simp [encI] at hv
 subst hv; simp
theorem veq_Rows (l : List (List Int)) : veq (lv encRow l) (lv encRow l) = true := veq_lv fun p _ v hv => by
 simp [encRow] at hv
 subst hv; exact veq_Is p
theorem veq_Ts (l : List (Int × List Pt)) : veq (lv encT l) (lv encT l) = true := veq_lv fun p _ v hv => by
 simp [encT] at hv
 subst hv; exact veq_tab p
theorem veq_mach (m : Mach) : veq (machV m) (machV m) = true := veq_boxV (l := [.int .i64 m.classes, tabV m.tab, lv encRow m.rows, lv encEn m.ents]) fun v hv => by
 simp at hv
 rcases hv with rfl | rfl | rfl | rfl
 ·simp
 ·exact veq_tab _
 ·exact veq_Rows _
 ·exact veq_Ens _
theorem veq_ctx (t : CTab) : veq (ctxV t) (ctxV t) = true := veq_boxV (l := ctxC t) fun v hv => by
 simp [ctxC] at hv
 rcases hv with rfl | rfl
 ·exact veq_mach _
 ·exact veq_Ts _
def runCr (t : CTab) (l : List Gl) : Int × Int × (List Gl × Int) :=
 runD t.m (fun s : List Gl × Int => s.1) (fun s i e => (doC t s i e, i, i + 1)) (2 * (l.length : Int) + 128) (2 * l.length + 128) ((l, -1), ⟨0, 0, 0, 0⟩)
def runC (t : CTab) (l : List Gl) : List Gl × Int := ((runCr t l).2.2.1, (runCr t l).2.1)
set_option maxHeartbeats 1000000 in
theorem ζk1 (k : Nat) (t : CTab) (ht : t.ok) {H0 H : Heap} {L : List It} (h : Star H0 H L) (i : Nat) {c : Nat} {o : Option Nat} {l : List Gl} (hi : L[i]? = some (itLine c o l)) (hl : l.length < 2 ^ 40) :
  ∃ H', R (T k) F.ζ3w [ctxV t, ptrV c] H = .ok (.int .i64 (runC t l).2) H' ∧ Star H0 H' (L.set i (itLine c o (runC t l).1)) ∧ (runC t l).1.length = l.length := by
 have hlt := (List.getElem?_eq_some_iff.1 hi).1
 have same : L.set i (itLine c o l) = L := by
  obtain ⟨hlt, hx⟩ := List.getElem?_eq_some_iff.1 hi
  rw [← hx, List.set_getElem_self]
 have st := ((h.push ⟨[ctxV t], 1, false⟩).push ⟨[ptrV c], 1, false⟩).push ⟨[.int .i64 (-1)], 1, false⟩
 simp only [hn_push] at st
 obtain ⟨H3, hH3⟩ : ∃ H3, H3 = ((H.push ⟨[ctxV t], 1, false⟩).push ⟨[ptrV c], 1, false⟩).push ⟨[.int .i64 (-1)], 1, false⟩ := ⟨_, rfl⟩
 rw [← hH3] at st
 have hn3 : H3.n = H.n + 3 := by rw [hH3]; simp
 have ePl := plainNew k (.func F.ζr) #[] #[ptrV H.n, ptrV (H.n + 1), ptrV (H.n + 2)] H3
 have st4 := st.push ⟨[.func (.func F.ζr) #[] #[ptrV H.n, ptrV (H.n + 1), ptrV (H.n + 2)]], 1, false⟩
 have g1 := st4.memBlk (c := H.n) (k := ⟨[ctxV t], 1, false⟩) (by simp)
 have g3 := st4.memBlk (c := H.n + 1) (k := ⟨[ptrV c], 1, false⟩) (by simp)
 have hact := plain_ok k (ctx_do k t ht L i c o hlt H.n (H.n + 1) (H.n + 2) l.length (H0 := H0)) H3.n
 obtain ⟨H5, eR, st5, hI5⟩ := ζh6 k t.m ht.m (fun s : List Gl × Int => ctxW t L i c o H.n (H.n + 1) (H.n + 2) s ++ [itBlk H3.n ⟨[.func (.func F.ζr) #[] #[ptrV H.n, ptrV (H.n + 1), ptrV (H.n + 2)]], 1, false⟩]) (fun s => s.1.length = l.length) (fun s => s.1) c
  (fun s => ⟨i, o, by
   unfold ctxW
   rw [List.append_assoc, List.getElem?_append_left (by simpa using hlt), List.getElem?_set_self hlt]⟩) _ _ hact [] (l, -1) rfl (by
   unfold ctxW
   rw [same]
   simpa [List.append_assoc] using st4) (by simpa using hl)
 refine ⟨H5, ?_, ?_, ?_⟩
 ·rw [ζf4, nrm_of]
  have v1 := veq_ctx t
  have v2 := veq_mach t.m
  unfold runC
  dsimp only at eR ⊢
  have hr : runD t.m (fun s : List Gl × Int => s.1) (fun s i e => (doC t s i e, i, i + 1)) (2 * (l.length : Int) + 128) (2 * l.length + 128) ((l, -1), ⟨0, 0, 0, 0⟩) = runCr t l := by unfold runCr; rfl
  rw [hr] at eR
  generalize runCr t l = r at eR ⊢
  rw [hH3] at ePl eR g1 g3
  simp only [hn_push] at ePl eR
  simp -implicitDefEqProofs (disch := omega) [ζ3w, ePl, eR, v1, v2]
 ·unfold runC
  dsimp only at st5 ⊢
  have hr : runD t.m (fun s : List Gl × Int => s.1) (fun s i e => (doC t s i e, i, i + 1)) (2 * (l.length : Int) + 128) (2 * l.length + 128) ((l, -1), ⟨0, 0, 0, 0⟩) = runCr t l := by unfold runCr; rfl
  rw [hr] at st5
  generalize runCr t l = r at st5 ⊢
  unfold ctxW at st5
  have := st5.take L.length
  rw [List.append_assoc, List.append_assoc, List.take_append_of_le_length (by simp), List.take_of_length_le (by simp)] at this
  exact this
 ·unfold runC
  dsimp only at hI5 ⊢
  have hr : runD t.m (fun s : List Gl × Int => s.1) (fun s i e => (doC t s i e, i, i + 1)) (2 * (l.length : Int) + 128) (2 * l.length + 128) ((l, -1), ⟨0, 0, 0, 0⟩) = runCr t l := by unfold runCr; rfl
  rw [hr] at hI5
  exact hI5
end Go.Sw
end
section
namespace Go.Sw
open Go.RowKit
theorem ζio (k : Nat) (hk : k % 1000000 = F.ζ25) (H : Heap) : R (T k) F.ζ25 [] H = .ok (.bool true) H :=
 (R_sp (t := T k) (T_scott k) (s := constSp (.bool true)) (by unfold T C; dsimp only; rw [hk]; kernel_rfl) [] H).trans (nrm_gc (Pure.of rfl) (.bool _))
end Go.Sw
end
section
namespace Go.Sw
open Go.RowKit
theorem ζln (k : Nat) (l : List Gl) (hl : l.length < 2 ^ 30) (j id : Int) (H : Heap) :
  R (T k) F.ζ2a [lv encG l, .int .i64 j, .int .i64 id] H = .ok (.tuple #[lv encG (setG l j id), .bool (decide (0 ≤ j ∧ j < l.length))]) H := by
 rw [ζew]
 have fl : ∀ (l : List Gl) b, Flat (.tuple #[lv encG l, .bool b]) := fun l b => .tupleL (.cons (Flat.Gls l) (.cons (.bool _) .nil))
 by_cases hj : 0 ≤ j ∧ j < l.length
 ·rw [decide_eq_true hj]
  obtain ⟨n, rfl⟩ := Int.eq_ofNat_of_zero_le hj.1
  have hn : n < l.length := by omega
  obtain ⟨gl, hgl⟩ : ∃ gl, l[n]? = some gl := ⟨_, List.getElem?_eq_getElem hn⟩
  have c1 : ¬ (n : Int) ≥ l.length := by omega
  have c0 : ¬ (n : Int) < 0 := by omega
  have g := (Star.nil H).more_row (Ext.refl _) (OwnO.bare encG _ 2) (fun b hb => by cases hb)
  obtain ⟨s1, o1, H1, e1, g⟩ := g.append (bytes := 16) 0 encG_len rfl (b := lv encG l) (l2 := l) rfl (lv_first encG_len l _) (by simp; omega) (by decide)
  simp only [List.nil_append, List.set_cons_zero] at g
  obtain ⟨c, hc, hgc, i2⟩ := g.ix 0 rfl .i64 n hn
  subst hc
  obtain ⟨H2, e2, g, _⟩ := g.stRow 0 rfl encG_len (j := n) (c := 0) (n := 1) (⟨id, gl.cl⟩ : Gl) (v := .int .i64 id) hgl rfl rfl (by decide) rfl
  simp only [Nat.add_zero, List.set_cons_zero] at e2 g
  obtain ⟨L, hf⟩ := (g.own 0 rfl).freeze encG_len (ζe2 _) 5
  have hs : setG l (n : Int) id = l.set n ⟨id, gl.cl⟩ := by
   unfold setG
   rw [if_pos hj, Int.toNat_natCast]
   apply List.ext_getElem?
   intro i
   rw [List.getElem?_modify, List.getElem?_set]
   by_cases hin : n = i
   ·subst hin; simp [hn, (List.getElem?_eq_some_iff.1 hgl).2]
   ·simp [hin]
  rw [hs]
  have hft : fzV H.n H2 fzDepth (.tuple #[s1, .bool true]) = some (.tuple #[lv encG (l.set n ⟨id, gl.cl⟩), .bool true], L ++ []) :=
   fz_tuple (l := [s1, .bool true]) (r := [lv encG (l.set n ⟨id, gl.cl⟩), .bool true]) (ζ1e hf (ζ7w fun v hv => by simp at hv; subst hv; trivial))
  refine nrm_fz (v := .tuple #[s1, .bool true]) (H' := H2) ?_ hft g.ext (fl _ _).alive
  simp -implicitDefEqProofs (disch := omega) [-stR_ptr, ζ2a, c0, c1, e1, i2, e2]
 ·have hs : setG l j id = l := by unfold setG; rw [if_neg hj]
  rw [decide_eq_false hj, hs]
  refine nrm_fz (v := .tuple #[lv encG l, .bool false]) (L := []) (H' := H) ?_ rfl (Ext.refl H) (fl _ _).alive
  by_cases c1 : j < 0
  ·simp -implicitDefEqProofs (disch := omega) [ζ2a, c1]
  ·have c2 : j ≥ l.length := by omega
   simp -implicitDefEqProofs (disch := omega) [ζ2a, c1, c2]
theorem ζlm (k : Nat) (ids : List Int) (hl : ids.length < 2 ^ 30) (H : Heap) : R (T k) F.ζ1o [lv encI ids] H = .ok (lv encG (newG ids)) H := by
 rw [ζev]
 have g := (Star.nil H).more_row (Ext.refl _) (OwnO.bare encG _ 2) (fun b hb => by cases hb)
 simp only [List.nil_append] at g
 obtain ⟨x, e', H1, hr1, rfl, z, s, o, rfl, g⟩ := loop_up (body := ζ5x k (R (T k))) ids.length
  (fun j e H' => ∃ s o, e = [(0, lv encI ids), (3, s), (4, .int .i64 j)] ∧ Star H H' [itRow o 2 s encG (newG (ids.take j))])
  (fun x e H' => x = .exit 0 ∧ ∃ z s o, e = [(0, lv encI ids), (3, s), (4, z), (9, .bool false)] ∧ Star H H' [itRow o 2 s encG (newG ids)])
  (e0 := [(0, lv encI ids), (3, bareV), (4, .int .i64 0)]) (H0 := H) ⟨bareV, none, rfl, g⟩ (by omega)
  (fun j e H' hj ⟨s, o, he, g⟩ => by
   subst he
   have hlt : (j : Int) < ids.length := by omega
   obtain ⟨x, hx⟩ : ∃ x, ids[j]? = some x := ⟨_, List.getElem?_eq_getElem hj⟩
   have i1 := fun H' => ixS_lvN encI_len ids .i64 j x hx H'
   have hlen : (ids.take j).length = j := by rw [List.length_take]; omega
   obtain ⟨s', o', H2, e2, g2⟩ := g.append1 (bytes := 16) 0 encG_len rfl (⟨x, j⟩ : Gl) (by rw [newG_len]; omega) (by decide)
   simp only [List.set_cons_zero] at g2
   simp only [encG] at e2
   refine .inl ⟨_, H2, ?_, s', o', rfl, by rw [ζ1p hx, ζjf, hlen]; exact g2⟩
   rw [ζ76]
   simp -implicitDefEqProofs (disch := omega) [hlt, i1, e2])
  (fun e H' ⟨s, o, he, g⟩ => by
   subst he
   rw [List.take_length] at g
   refine ⟨.exit 0, _, H', ?_, by simp, rfl, .int .i64 ids.length, s, o, rfl, g⟩
   rw [ζ76]
   simp -implicitDefEqProofs)
 obtain ⟨L, hf⟩ := (g.own 0 rfl).freeze encG_len (ζe2 _) 6
 refine nrm_fz (v := s) (H' := H1) ?_ hf g.ext (Flat.Gls _).alive
 simp -implicitDefEqProofs (disch := omega) [ζ1o, hr1, ζap]
end Go.Sw
end
section
set_option maxRecDepth 100000
set_option linter.unusedVariables false
namespace Go.Sw
noncomputable section
def ζ2k (k : Nat) (call : Caller) (a0 : Value) (h : Heap) : Res Value :=
 (allocR Prog 288 h).bind fun v1 h2 =>
 (binR Prog .mul 3 (.int .i64 2) a0 h2).bind fun v3 h4 =>
 (binR Prog .add 3 v3 (.int .i64 128) h4).bind fun v5 h6 =>
 (buildR Prog 288 [(4, v5)] h6).bind fun v7 h8 =>
 (storeR Prog 288 v1 v7 h8).bind fun _v9 h10 =>
 (loadR Prog 288 v1 h10).bind fun v11 h12 =>
 .ok v11 h12
theorem ζcv (k : Nat) (a0 : Value) (h : Heap) : R (T k) F.ζ2k [a0] h = nrm .gc h (ζ2k k (R (T k)) a0 h) :=
 (R_body (t := T k) (T_scott k) (by kernel_rfl) (by kernel_rfl) _ _).trans (by kernel_rfl)
def ζ8f (k : Nat) (call : Caller) (a3 a4 a6 a8 : Value) (h : Heap) : Res Value :=
 kSeq (pieceK (C k) call F.ζ16 [1, 1, 1, 1]) (kDone Prog (resOf Prog F.ζ16)) .normal [(3, a3), (4, a4), (6, a6), (8, a8)] h
def ζ8g (k : Nat) (call : Caller) (a2 a3 a4 a6 a8 a18 : Value) (h : Heap) : Res Value :=
 kSeq (pieceK (C k) call F.ζ16 [1, 1, 1, 1]) (kDone Prog (resOf Prog F.ζ16)) .normal [(2, a2), (3, a3), (4, a4), (6, a6), (8, a8), (18, a18)] h
def ζ16 (k : Nat) (call : Caller) (a0 a1 a2 : Value) (h : Heap) : Res Value :=
 (boxR a0 h).bind fun v1 h2 =>
 (boxR a1 h2).bind fun v3 h4 =>
 (allocR Prog 150 h4).bind fun v5 h6 =>
 (fieldAddrR Prog 288 v3 5 h6).bind fun v7 h8 =>
 (loadR Prog 4 v7 h8).bind fun v9 h10 =>
 condV (some v9) (
 (buildR Prog 150 [] h10).bind fun v11 h12 =>
 (storeR Prog 150 v5 v11 h12).bind fun _v13 h14 =>
 (loadR Prog 150 v5 h14).bind fun v15 h16 =>
 .ok (.tuple #[v15, (.bool false)]) h16)
 (
 (fieldAddrR Prog 288 v3 1 h10).bind fun v17 h18 =>
 (loadR Prog 3 v17 h18).bind fun v19 h20 =>
 (builtinV Prog .len [50] [a2] h20).bind fun v21 h22 =>
 (binR Prog .lss 3 v19 v21 h22).bind fun v23 h24 =>
 condV (some v23) (
 (loadR Prog 137 v1 h24).bindN fun v25 h26 =>
 (fieldAddrR Prog 288 v3 1 h26).bindN fun v27 h28 =>
 (loadR Prog 3 v27 h28).bindN fun v29 h30 =>
 (indexAddrR Prog 50 a2 v29 h30).bindN fun v31 h32 =>
 (fieldAddrR Prog 55 v31 0 h32).bindN fun v33 h34 =>
 (loadR Prog 3 v33 h34).bindN fun v35 h36 =>
 (call F.ζ1i [v25, v35] h36).bindT (fun p39 h40 => .panic p39 h40) fun v37 h38 =>
 ζ8f k call v1 v3 v5 v37 h38)
 (
 ζ8g k call a2 v1 v3 v5 (.int .i64 0) v23 h24))
theorem ζdd (k : Nat) (a0 a1 a2 : Value) (h : Heap) : R (T k) F.ζ16 [a0, a1, a2] h = nrm .gc h (ζ16 k (R (T k)) a0 a1 a2 h) :=
 (R_body (t := T k) (T_scott k) (by kernel_rfl) (by kernel_rfl) _ _).trans (by kernel_rfl)
theorem ζar (k : Nat) (call : Caller) (a3 a4 a6 a8 : Value) (h : Heap) : ζ8f k call a3 a4 a6 a8 h =
 (loadR Prog 137 a3 h).bind fun v41 h42 =>
 (fieldAddrR Prog 288 a4 0 h42).bind fun v43 h44 =>
 (loadR Prog 3 v43 h44).bind fun v45 h46 =>
 (call F.ζ15 [v41, v45, a8] h46).bind fun v47 h48 =>
 (extractR v47 0 h48).bind fun v49 h50 =>
 (extractR v47 1 h50).bind fun v51 h52 =>
 (allocR Prog 150 h52).bind fun v53 h54 =>
 (storeR Prog 150 v53 v49 h54).bind fun _v55 h56 =>
 (loadR Prog 150 v53 h56).bind fun v57 h58 =>
 (storeR Prog 150 a6 v57 h58).bind fun _v59 h60 =>
 (loadR Prog 150 a6 h60).bind fun v61 h62 =>
 .ok (.tuple #[v61, v51]) h62 := by kernel_rfl
theorem ζas (k : Nat) (call : Caller) (a2 a3 a4 a6 a8 a18 : Value) (h : Heap) : ζ8g k call a2 a3 a4 a6 a8 a18 h =
 (loadR Prog 137 a3 h).bind fun v63 h64 =>
 (fieldAddrR Prog 288 a4 0 h64).bind fun v65 h66 =>
 (loadR Prog 3 v65 h66).bind fun v67 h68 =>
 (call F.ζ15 [v63, v67, a8] h68).bind fun v69 h70 =>
 (extractR v69 0 h70).bind fun v71 h72 =>
 (extractR v69 1 h72).bind fun v73 h74 =>
 (allocR Prog 150 h74).bind fun v75 h76 =>
 (storeR Prog 150 v75 v71 h76).bind fun _v77 h78 =>
 (loadR Prog 150 v75 h78).bind fun v79 h80 =>
 (storeR Prog 150 a6 v79 h80).bind fun _v81 h82 =>
 (loadR Prog 150 a6 h82).bind fun v83 h84 =>
 .ok (.tuple #[v83, v73]) h84 := by kernel_rfl
def ζ77 (k : Nat) (call : Caller) (a5 a10 a11 : Value) (h : Heap) : Res Value :=
 kSeq (pieceK (C k) call F.ζb [1, 1, 1, 1, 1]) (kDone Prog (resOf Prog F.ζb)) .normal [(5, a5), (10, a10), (11, a11)] h
def ζ9w (k : Nat) (call : Caller) (a5 a10 a11 : Value) (h : Heap) : Res Value :=
 kSeq (pieceK (C k) call F.ζb [1, 1, 1, 1, 1, 1]) (kDone Prog (resOf Prog F.ζb)) .normal [(5, a5), (10, a10), (11, a11)] h
def ζ9x (k : Nat) (call : Caller) (a5 a10 a11 a39 : Value) (h : Heap) : Res Value :=
 kSeq (pieceK (C k) call F.ζb [1, 1, 1, 1, 1, 1]) (kDone Prog (resOf Prog F.ζb)) .normal [(5, a5), (10, a10), (11, a11), (39, a39)] h
def ζ3c (k : Nat) (call : Caller) (a5 a10 : Value) (h : Heap) : Res Value :=
 kSeq (pieceK (C k) call F.ζb [1, 1, 1, 1, 1, 1, 1]) (kDone Prog (resOf Prog F.ζb)) .normal [(5, a5), (10, a10)] h
def ζ78 (k : Nat) (call : Caller) (a5 a10 a52 : Value) (h : Heap) : Res Value :=
 kSeq (pieceK (C k) call F.ζb [1, 1, 1, 1, 1, 1, 1]) (kDone Prog (resOf Prog F.ζb)) .normal [(5, a5), (10, a10), (52, a52)] h
def ζb (k : Nat) (call : Caller) (a0 a1 a2 a3 a4 : Value) (h : Heap) : Res Value :=
 (boxR a0 h).bind fun v1 h2 =>
 (boxR a1 h2).bind fun v3 h4 =>
 (allocR Prog 288 h4).bind fun v5 h6 =>
 (fieldAddrR Prog 288 v1 1 h6).bind fun v7 h8 =>
 (loadR Prog 3 v7 h8).bind fun v9 h10 =>
 (binR Prog .geq 3 v9 a2 h10).bind fun v11 h12 =>
 (fieldAddrR Prog 288 v1 2 h12).bind fun v13 h14 =>
 (loadR Prog 3 v13 h14).bind fun v15 h16 =>
 (binR Prog .add 3 v15 (.int .i64 1) h16).bind fun v17 h18 =>
 (fieldAddrR Prog 288 v1 2 h18).bind fun v19 h20 =>
 (storeR Prog 3 v19 v17 h20).bind fun _v21 h22 =>
 (fieldAddrR Prog 150 v3 0 h22).bind fun v23 h24 =>
 (loadR Prog 3 v23 h24).bind fun v25 h26 =>
 (fieldAddrR Prog 288 v1 0 h26).bind fun v27 h28 =>
 (storeR Prog 3 v27 v25 h28).bind fun _v29 h30 =>
 (fieldAddrR Prog 150 v3 1 h30).bind fun v31 h32 =>
 (loadR Prog 3 v31 h32).bind fun v33 h34 =>
 (binR Prog .quo 3 v33 (.int .i64 16384) h34).bind fun v35 h36 =>
 (binR Prog .rem 3 v35 (.int .i64 2) h36).bind fun v37 h38 =>
 (binR Prog .eql 3 v37 (.int .i64 1) h38).bind fun v39 h40 =>
 condV (some v39) (
 (fieldAddrR Prog 288 v1 3 h40).bind fun v41 h42 =>
 (loadR Prog 3 v41 h42).bind fun v43 h44 =>
 (binR Prog .add 3 v43 (.int .i64 1) h44).bind fun v45 h46 =>
 (fieldAddrR Prog 288 v1 3 h46).bind fun v47 h48 =>
 (storeR Prog 3 v47 v45 h48).bind fun _v49 h50 =>
 (fieldAddrR Prog 288 v1 1 h50).bind fun v51 h52 =>
 (storeR Prog 3 v51 a3 h52).bind fun _v53 h54 =>
 ζ77 k call v1 v5 (.bool false) h54)
 (
 (fieldAddrR Prog 288 v1 3 h40).bind fun v55 h56 =>
 (storeR Prog 3 v55 (.int .i64 0) h56).bind fun _v57 h58 =>
 (fieldAddrR Prog 288 v1 1 h58).bind fun v59 h60 =>
 (storeR Prog 3 v59 a4 h60).bind fun _v61 h62 =>
 ζ77 k call v1 v5 v11 h62)
theorem ζfg (k : Nat) (a0 a1 a2 a3 a4 : Value) (h : Heap) : R (T k) F.ζb [a0, a1, a2, a3, a4] h = nrm .gc h (ζb k (R (T k)) a0 a1 a2 a3 a4 h) :=
 (R_body (t := T k) (T_scott k) (by kernel_rfl) (by kernel_rfl) _ _).trans (by kernel_rfl)
theorem ζh (k : Nat) (call : Caller) (a5 a10 a11 : Value) (h : Heap) : ζ77 k call a5 a10 a11 h =
 (fieldAddrR Prog 288 a5 1 h).bind fun v63 h64 =>
 (loadR Prog 3 v63 h64).bind fun v65 h66 =>
 (binR Prog .lss 3 v65 (.int .i64 0) h66).bind fun v67 h68 =>
 condV (some v67) (
 (fieldAddrR Prog 288 a5 1 h68).bind fun v69 h70 =>
 (storeR Prog 3 v69 (.int .i64 0) h70).bind fun _v71 h72 =>
 ζ9w k call a5 a10 a11 h72)
 (
 ζ9x k call a5 a10 a11 v67 h68) := by kernel_rfl
theorem ζ1q (k : Nat) (call : Caller) (a5 a10 a11 : Value) (h : Heap) : ζ9w k call a5 a10 a11 h =
 condV (some a11) (
 (fieldAddrR Prog 288 a5 5 h).bind fun v73 h74 =>
 (storeR Prog 4 v73 (.bool true) h74).bind fun _v75 h76 =>
 ζ3c k call a5 a10 h76)
 (
 (fieldAddrR Prog 288 a5 2 h).bind fun v77 h78 =>
 (loadR Prog 3 v77 h78).bind fun v79 h80 =>
 (fieldAddrR Prog 288 a5 4 h80).bind fun v81 h82 =>
 (loadR Prog 3 v81 h82).bind fun v83 h84 =>
 (binR Prog .geq 3 v79 v83 h84).bind fun v85 h86 =>
 ((bif wantVal v85 false then fieldAddrR Prog 288 a5 3 h86 else Res.ok undef h86)).bind fun v87 h88 =>
 ((bif wantVal v85 false then loadR Prog 3 v87 h88 else Res.ok undef h88)).bind fun v89 h90 =>
 ((bif wantVal v85 false then binR Prog .gtr 3 v89 (.int .i64 64) h90 else Res.ok undef h90)).bind fun v91 h92 =>
 (condV (some v85) (Res.ok (.bool true) h92) (Res.ok v91 h92)).bind fun v93 h94 =>
 condV (some v93) (
 (fieldAddrR Prog 288 a5 5 h94).bind fun v95 h96 =>
 (storeR Prog 4 v95 (.bool true) h96).bind fun _v97 h98 =>
 (fieldAddrR Prog 288 a5 6 h98).bind fun v99 h100 =>
 (storeR Prog 3 v99 (.int .i64 4) h100).bind fun _v101 h102 =>
 ζ3c k call a5 a10 h102)
 (
 ζ78 k call a5 a10 v93 h94)) := by kernel_rfl
theorem ζ1r (k : Nat) (call : Caller) (a5 a10 a11 a39 : Value) (h : Heap) : ζ9x k call a5 a10 a11 a39 h =
 condV (some a11) (
 (fieldAddrR Prog 288 a5 5 h).bind fun v103 h104 =>
 (storeR Prog 4 v103 (.bool true) h104).bind fun _v105 h106 =>
 ζ3c k call a5 a10 h106)
 (
 (fieldAddrR Prog 288 a5 2 h).bind fun v107 h108 =>
 (loadR Prog 3 v107 h108).bind fun v109 h110 =>
 (fieldAddrR Prog 288 a5 4 h110).bind fun v111 h112 =>
 (loadR Prog 3 v111 h112).bind fun v113 h114 =>
 (binR Prog .geq 3 v109 v113 h114).bind fun v115 h116 =>
 ((bif wantVal v115 false then fieldAddrR Prog 288 a5 3 h116 else Res.ok undef h116)).bind fun v117 h118 =>
 ((bif wantVal v115 false then loadR Prog 3 v117 h118 else Res.ok undef h118)).bind fun v119 h120 =>
 ((bif wantVal v115 false then binR Prog .gtr 3 v119 (.int .i64 64) h120 else Res.ok undef h120)).bind fun v121 h122 =>
 (condV (some v115) (Res.ok (.bool true) h122) (Res.ok v121 h122)).bind fun v123 h124 =>
 condV (some v123) (
 (fieldAddrR Prog 288 a5 5 h124).bind fun v125 h126 =>
 (storeR Prog 4 v125 (.bool true) h126).bind fun _v127 h128 =>
 (fieldAddrR Prog 288 a5 6 h128).bind fun v129 h130 =>
 (storeR Prog 3 v129 (.int .i64 4) h130).bind fun _v131 h132 =>
 ζ3c k call a5 a10 h132)
 (
 ζ78 k call a5 a10 v123 h124)) := by kernel_rfl
theorem ζ13 (k : Nat) (call : Caller) (a5 a10 : Value) (h : Heap) : ζ3c k call a5 a10 h =
 (loadR Prog 288 a5 h).bind fun v133 h134 =>
 (storeR Prog 288 a10 v133 h134).bind fun _v135 h136 =>
 (loadR Prog 288 a10 h136).bind fun v137 h138 =>
 .ok v137 h138 := by kernel_rfl
theorem ζ2y (k : Nat) (call : Caller) (a5 a10 a52 : Value) (h : Heap) : ζ78 k call a5 a10 a52 h =
 (loadR Prog 288 a5 h).bind fun v139 h140 =>
 (storeR Prog 288 a10 v139 h140).bind fun _v141 h142 =>
 (loadR Prog 288 a10 h142).bind fun v143 h144 =>
 .ok v143 h144 := by kernel_rfl
end
end Go.Sw
end
section
namespace Go.Sw
open Go.RowKit
structure Way where
 st : Int
 pl : Int
 stp : Int
 rest : Int
 most : Int
 over : Bool
 code : Int
abbrev wayC (w : Way) : List Value := [.int .i64 w.st, .int .i64 w.pl, .int .i64 w.stp, .int .i64 w.rest, .int .i64 w.most, .bool w.over, .int .i64 w.code]
abbrev wayV (w : Way) : Value := .agg (wayC w).toArray
theorem Flat.way (w : Way) : Flat (wayV w) := .aggL (.cons (.int _ _) (.cons (.int _ _) (.cons (.int _ _) (.cons (.int _ _) (.cons (.int _ _) (.cons (.bool _) (.cons (.int _ _) .nil)))))))
theorem ζm2 (k : Nat) (n : Int) (h0 : 0 ≤ n) (h1 : n < 2 ^ 40) (H : Heap) : R (T k) F.ζ2k [.int .i64 n] H = .ok (wayV ⟨0, 0, 0, 0, 2 * n + 128, false, 0⟩) H := by
 rw [ζcv]
 refine nrm_gc ⟨H.push ⟨wayC ⟨0, 0, 0, 0, 2 * n + 128, false, 0⟩, 1, false⟩, ?_, (Ext.refl H).push _⟩ (Flat.way _).alive
 simp -implicitDefEqProofs (disch := omega) [ζ2k]
def goS (w : Way) (e : En) (n stay on : Int) : Way :=
 let s : Bool := decide (e.flags / 16384 % 2 = 1)
 let rest := if s then w.rest + 1 else 0
 let pl := max (if s then stay else on) 0
 let fin : Bool := !s && decide (w.pl ≥ n)
 if fin then ⟨e.next, pl, w.stp + 1, rest, w.most, true, w.code⟩
 else if w.stp + 1 ≥ w.most ∨ rest > 64 then ⟨e.next, pl, w.stp + 1, rest, w.most, true, 4⟩
 else ⟨e.next, pl, w.stp + 1, rest, w.most, w.over, w.code⟩
set_option maxHeartbeats 1000000 in
theorem Go_run (k : Nat) (w : Way) (e : En) (n stay on : Int) (hw : 0 ≤ w.stp ∧ w.stp < 2 ^ 50 ∧ 0 ≤ w.rest ∧ w.rest < 2 ^ 50) (he : 0 ≤ e.flags ∧ e.flags < 65536) (H : Heap) :
  R (T k) F.ζb [wayV w, encE e, .int .i64 n, .int .i64 stay, .int .i64 on] H = .ok (wayV (goS w e n stay on)) H := by
 rw [ζfg]
 have q1 := fun H => bin_quo Prog 3 H .i64 e.flags 16384 (by decide)
 rw [Int.tdiv_eq_ediv_of_nonneg he.1] at q1
 have hq : 0 ≤ e.flags / 16384 := Int.ediv_nonneg he.1 (by decide)
 have q2 := fun H => bin_rem Prog 3 H .i64 (e.flags / 16384) 2 (by decide)
 rw [Int.tmod_eq_emod_of_nonneg hq] at q2
 refine nrm_gc ⟨((H.push ⟨wayC (goS w e n stay on), 1, false⟩).push ⟨encEn e, 1, false⟩).push ⟨wayC (goS w e n stay on), 1, false⟩, ?_, (((Ext.refl H).push _).push _).push _⟩ (Flat.way _).alive
 unfold goS
 by_cases c1 : e.flags / 16384 % 2 = 1
 ·have m1 : max stay 0 = if stay < 0 then 0 else stay := by split <;> omega
  by_cases c2 : stay < 0
  ·by_cases c3 : w.stp + 1 ≥ w.most
   ·simp -implicitDefEqProofs (disch := omega) [ζb, q1, q2, c1, m1, c2, c3, ζh, ζ1q, ζ13]
   ·by_cases c4 : w.rest + 1 > 64
    ·simp -implicitDefEqProofs (disch := omega) [ζb, q1, q2, c1, m1, c2, c3, c4, ζh, ζ1q, ζ13]
    ·simp -implicitDefEqProofs (disch := omega) [ζb, q1, q2, c1, m1, c2, c3, c4, ζh, ζ1q, ζ2y]
  ·by_cases c3 : w.stp + 1 ≥ w.most
   ·simp -implicitDefEqProofs (disch := omega) [ζb, q1, q2, c1, m1, c2, c3, ζh, ζ1r, ζ13]
   ·by_cases c4 : w.rest + 1 > 64
    ·simp -implicitDefEqProofs (disch := omega) [ζb, q1, q2, c1, m1, c2, c3, c4, ζh, ζ1r, ζ13]
    ·simp -implicitDefEqProofs (disch := omega) [ζb, q1, q2, c1, m1, c2, c3, c4, ζh, ζ1r, ζ2y]
 ·have c1' : (e.flags / 16384 % 2 == 1) = false := by simpa using c1
  have m1 : max on 0 = if on < 0 then 0 else on := by split <;> omega
  by_cases c5 : w.pl ≥ n
  ·by_cases c2 : on < 0
   ·simp -implicitDefEqProofs (disch := omega) [ζb, q1, q2, c1, c1', m1, c2, c5, ζh, ζ1q, ζ13]
   ·simp -implicitDefEqProofs (disch := omega) [ζb, q1, q2, c1, c1', m1, c2, c5, ζh, ζ1r, ζ13]
  ·by_cases c3 : w.stp + 1 ≥ w.most
   ·by_cases c2 : on < 0
    ·simp -implicitDefEqProofs (disch := omega) [ζb, q1, q2, c1, c1', m1, c2, c3, c5, ζh, ζ1q, ζ13]
    ·simp -implicitDefEqProofs (disch := omega) [ζb, q1, q2, c1, c1', m1, c2, c3, c5, ζh, ζ1r, ζ13]
   ·by_cases c2 : on < 0
    ·simp -implicitDefEqProofs (disch := omega) [ζb, q1, q2, c1, c1', m1, c2, c3, c5, ζh, ζ1q, ζ2y]
    ·simp -implicitDefEqProofs (disch := omega) [ζb, q1, q2, c1, c1', m1, c2, c3, c5, ζh, ζ1r, ζ2y]
end Go.Sw
end
section
namespace Go.Sw
open Go.RowKit
theorem ζmb (m : Mach) (l : List Gl) (pl : Int) (h : 0 ≤ pl) : (clsS m l pl).1 = if pl < l.length then (match l[pl.toNat]? with | some g => classS m g.id | none => 0) else 0 := by
 unfold clsS atG
 by_cases h2 : pl < l.length
 ·rw [if_pos ⟨h, h2⟩, if_pos h2]
  obtain ⟨g, hg⟩ : ∃ g, l[pl.toNat]? = some g := ⟨_, List.getElem?_eq_getElem (by omega)⟩
  rw [hg]
 ·rw [if_neg (fun hc => h2 hc.2), if_neg h2]
set_option maxHeartbeats 1000000 in
theorem Next_run (k : Nat) {b : List Int} (hb : Byt b) {g w : Int} (hg : 1 ≤ g ∧ g ≤ 65535) (hw : w = 0 ∨ w = 1 ∨ w = 2) (hl : b.length < 2 ^ 31) {m : Mach} (hm : m.ok) (h : machS b g w = some m) (y : Way) (hy : y.over = false) (hp : 0 ≤ y.pl) (l : List Gl) (hll : l.length < 2 ^ 40) (H : Heap) :
  R (T k) F.ζ16 [rmV (rmOf b g w m), wayV y, lv encG l] H = .ok (.tuple #[encEA (stepS m y.st (clsS m l y.pl).1), .bool (stepS m y.st (clsS m l y.pl).1).isSome]) H := by
 rw [ζdd]
 have hstep := fun c H' => ζnd k hb hw hl hm h y.st c H'
 have hcls := fun id H' => ζkx k hb hg hl hm h id H'
 have hc := ζmb m l y.pl hp
 obtain ⟨st, pl, stp, rest, most, over, code⟩ := y
 dsimp only at hy hp hstep hc ⊢
 subst hy
 generalize rmOf b g w m = r at hstep hcls ⊢
 have fl : ∀ o : Option En, Flat (.tuple #[encEA o, .bool o.isSome]) := fun o => .tupleL (.cons (ζe1 _) (.cons (.bool _) .nil))
 by_cases h2 : pl < l.length
 ·rw [if_pos h2] at hc
  obtain ⟨gl, hgl⟩ : ∃ gl, l[pl.toNat]? = some gl := ⟨_, List.getElem?_eq_getElem (by omega)⟩
  rw [hgl] at hc
  dsimp only at hc
  have i1 := fun H' => ixS_lv encG_len l .i64 pl gl hp hgl H'
  rw [hc]
  generalize hs : stepS m st (classS m gl.id) = o
  have hst := fun H' => hstep (classS m gl.id) H'
  rw [hs] at hst
  have fo := fl o
  unfold encEA at hst fo ⊢
  generalize o.isSome = z at hst fo ⊢
  generalize o.getD ⟨0, 0, 0, 0⟩ = e at hst fo ⊢
  refine nrm_gc ⟨((((H.push ⟨rmCells r.b r.cl r.rowsAt r.entsAt r.states r.n r.words r.tb r.parts, 1, false⟩).push ⟨[.int .i64 st, .int .i64 pl, .int .i64 stp, .int .i64 rest, .int .i64 most, .bool false, .int .i64 code], 1, false⟩).push ⟨encEn e, 1, false⟩).push ⟨encEn e, 1, false⟩), ?_, ((((Ext.refl H).push _).push _).push _).push _⟩ fo.alive
  simp -implicitDefEqProofs (disch := omega) [ζ16, h2, i1, hcls, ζar, hst]
 ·rw [if_neg h2] at hc
  rw [hc]
  generalize hs : stepS m st 0 = o
  have hst := fun H' => hstep 0 H'
  rw [hs] at hst
  have fo := fl o
  unfold encEA at hst fo ⊢
  generalize o.isSome = z at hst fo ⊢
  generalize o.getD ⟨0, 0, 0, 0⟩ = e at hst fo ⊢
  refine nrm_gc ⟨((((H.push ⟨rmCells r.b r.cl r.rowsAt r.entsAt r.states r.n r.words r.tb r.parts, 1, false⟩).push ⟨[.int .i64 st, .int .i64 pl, .int .i64 stp, .int .i64 rest, .int .i64 most, .bool false, .int .i64 code], 1, false⟩).push ⟨encEn e, 1, false⟩).push ⟨encEn e, 1, false⟩), ?_, ((((Ext.refl H).push _).push _).push _).push _⟩ fo.alive
  simp -implicitDefEqProofs (disch := omega) [ζ16, h2, ζas, hst]
end Go.Sw
end
section
set_option maxRecDepth 100000
set_option linter.unusedVariables false
namespace Go.Sw
noncomputable section
def ζ54 (k : Nat) (call : Caller) : Env → Heap → Res (AExit × Env) := loopB (C k) call F.ζ9 [1, 1, 1, 1, 1, 0, 1, 0, 0]
def ζ4o (k : Nat) (call : Caller) : Kont Value := kBlock 0 (kSeq (pieceK (C k) call F.ζ9 [1, 1, 1, 1, 1, 1]) (kDone Prog (resOf Prog F.ζ9)))
def ζ2l (k : Nat) (call : Caller) : Env → Heap → Res (AExit × Env) := loopB (C k) call F.ζ9 [1, 1, 1, 1, 1, 0, 1, 0, 0, 1, 0, 0, 1, 1, 0, 0]
def ζ4p (k : Nat) (call : Caller) : Kont (AExit × Env) := kBlock 2 (kBlock 1 (kSeq (pieceK (C k) call F.ζ9 [1, 1, 1, 1, 1, 0, 1, 0, 0, 1, 1]) (kRound (ownOf (C k) F.ζ9 [1, 1, 1, 1, 1, 0, 1, 0, 0]))))
def ζ8h (k : Nat) (call : Caller) (a0 a1 a4 a6 a8 a9 a10 a11 a12 a13 : Value) (h : Heap) : Res (AExit × Env) :=
 kSeq (pieceK (C k) call F.ζ9 [1, 1, 1, 1, 1, 0, 1, 0, 0, 1, 0, 0, 1, 1, 0, 0, 1, 0, 0, 1, 1]) (kBlock 3 (kSeq (pieceK (C k) call F.ζ9 [1, 1, 1, 1, 1, 0, 1, 0, 0, 1, 0, 0, 1, 1, 0, 0, 1, 1]) (kRound (ownOf (C k) F.ζ9 [1, 1, 1, 1, 1, 0, 1, 0, 0, 1, 0, 0, 1, 1, 0, 0])))) .normal [(0, a0), (1, a1), (4, a4), (6, a6), (8, a8), (9, a9), (10, a10), (11, a11), (12, a12), (13, a13)] h
def ζ8i (k : Nat) (call : Caller) (a0 a1 a4 a6 a8 a9 a10 a11 a12 a13 a56 : Value) (h : Heap) : Res (AExit × Env) :=
 kSeq (pieceK (C k) call F.ζ9 [1, 1, 1, 1, 1, 0, 1, 0, 0, 1, 0, 0, 1, 1, 0, 0, 1, 0, 0, 1, 1]) (kBlock 3 (kSeq (pieceK (C k) call F.ζ9 [1, 1, 1, 1, 1, 0, 1, 0, 0, 1, 0, 0, 1, 1, 0, 0, 1, 1]) (kRound (ownOf (C k) F.ζ9 [1, 1, 1, 1, 1, 0, 1, 0, 0, 1, 0, 0, 1, 1, 0, 0])))) .normal [(0, a0), (1, a1), (4, a4), (6, a6), (8, a8), (9, a9), (10, a10), (11, a11), (12, a12), (13, a13), (56, a56)] h
def ζ20 (k : Nat) (call : Caller) : Env → Heap → Res (AExit × Env) := loopB (C k) call F.ζ9 [1, 1, 1, 1, 1, 0, 1, 0, 0, 1, 0, 0, 1, 1, 0, 0, 1, 0, 0, 1, 1, 0, 0]
def ζ2z (k : Nat) (call : Caller) : Kont (AExit × Env) := kBlock 4 (kBlock 3 (kSeq (pieceK (C k) call F.ζ9 [1, 1, 1, 1, 1, 0, 1, 0, 0, 1, 0, 0, 1, 1, 0, 0, 1, 1]) (kRound (ownOf (C k) F.ζ9 [1, 1, 1, 1, 1, 0, 1, 0, 0, 1, 0, 0, 1, 1, 0, 0]))))
def ζ9 (k : Nat) (call : Caller) (a0 a1 : Value) (h : Heap) : Res Value :=
 (allocR Prog 198 h).bind fun v1 h2 =>
 (call F.ζ7 [a0, a1, (.int .i64 2)] h2).bind fun v3 h4 =>
 (extractR v3 0 h4).bind fun v5 h6 =>
 (extractR v3 1 h6).bind fun v7 h8 =>
 (allocR Prog 137 h8).bind fun v9 h10 =>
 (storeR Prog 137 v9 v5 h10).bind fun _v11 h12 =>
 (call F.ζ1 [a0, (.int .i64 16), (.int .i64 4)] h12).bind fun v13 h14 =>
 (loadR Prog 137 v9 h14).bind fun v15 h16 =>
 (buildR Prog 198 [(0, v15)] h16).bind fun v17 h18 =>
 (allocR Prog 198 h18).bind fun v19 h20 =>
 (storeR Prog 198 v19 v17 h20).bind fun _v21 h22 =>
 (unR .not v7 h22).bind fun v23 h24 =>
 ((bif wantVal v23 false then Res.ok v13 h24 else Res.ok undef h24)).bind fun v25 h26 =>
 ((bif wantVal v23 false then binR Prog .lss 3 v25 (.int .i64 0) h26 else Res.ok undef h26)).bind fun v27 h28 =>
 (condV (some v23) (Res.ok (.bool true) h28) (Res.ok v27 h28)).bind fun v29 h30 =>
 ((bif wantVal v29 false then Res.ok v13 h30 else Res.ok undef h30)).bind fun v31 h32 =>
 ((bif wantVal v29 false then Res.ok a0 h32 else Res.ok undef h32)).bind fun v33 h34 =>
 ((bif wantVal v29 false then builtinV Prog .len [65] [v33] h34 else Res.ok undef h34)).bind fun v35 h36 =>
 ((bif wantVal v29 false then binR Prog .gtr 3 v31 v35 h36 else Res.ok undef h36)).bind fun v37 h38 =>
 (condV (some v29) (Res.ok (.bool true) h38) (Res.ok v37 h38)).bind fun v39 h40 =>
 condV (some v39) (
 (loadR Prog 198 v19 h40).bind fun v41 h42 =>
 (storeR Prog 198 v1 v41 h42).bind fun _v43 h44 =>
 (loadR Prog 198 v1 h44).bind fun v45 h46 =>
 .ok (.tuple #[v45, (.bool false)]) h46)
 (
 (loopN (ζ54 k call) loopFuel [(0, a0), (1, a1), (4, v1), (6, v9), (8, v13), (9, v19), (10, (.int .i64 0))] h40).bind fun r47 h48 =>
 ζ4o k call r47.1 r47.2 h48)
theorem ζ3s (k : Nat) (a0 a1 : Value) (h : Heap) : R (T k) F.ζ9 [a0, a1] h = nrm .fz h (ζ9 k (R (T k)) a0 a1 h) :=
 (R_body (t := T k) (T_scott k) (by kernel_rfl) (by kernel_rfl) _ _).trans (by kernel_rfl)
theorem ζ3m (k : Nat) (call : Caller) (a0 a1 a4 a6 a8 a9 a10 : Value) (h : Heap) : ζ54 k call [(0, a0), (1, a1), (4, a4), (6, a6), (8, a8), (9, a9), (10, a10)] h =
 (fieldAddrR Prog 137 a6 5 h).bind fun v49 h50 =>
 (loadR Prog 3 v49 h50).bind fun v51 h52 =>
 (binR Prog .lss 3 a10 v51 h52).bind fun v53 h54 =>
 condV (some v53) (
 (loadR Prog 137 a6 h54).bind fun v55 h56 =>
 (call F.ζf [v55, a10] h56).bind fun v57 h58 =>
 (allocR Prog 150 h58).bind fun v59 h60 =>
 (storeR Prog 150 v59 v57 h60).bind fun _v61 h62 =>
 (loopN (ζ2l k call) loopFuel [(0, a0), (1, a1), (4, a4), (6, a6), (8, a8), (9, a9), (10, a10), (11, v59), (12, (.int .i64 0))] h62).bind fun r63 h64 =>
 ζ4p k call r63.1 r63.2 h64)
 (
 .ok ((.exit 0), [(0, a0), (1, a1), (4, a4), (6, a6), (8, a8), (9, a9), (10, a10), (43, v53)]) h54) :=
 (loopB_eq _ _).trans (by kernel_rfl)
theorem ζ1t (k : Nat) (call : Caller) (a0 a1 a4 a6 a8 a9 a10 a11 a12 : Value) (h : Heap) : ζ2l k call [(0, a0), (1, a1), (4, a4), (6, a6), (8, a8), (9, a9), (10, a10), (11, a11), (12, a12)] h =
 (binR Prog .lss 3 a12 (.int .i64 2) h).bind fun v65 h66 =>
 condV (some v65) (
 (fieldAddrR Prog 150 a11 2 h66).bind fun v67 h68 =>
 (loadR Prog 3 v67 h68).bind fun v69 h70 =>
 (binR Prog .eql 3 a12 (.int .i64 1) h70).bind fun v71 h72 =>
 condV (some v71) (
 (fieldAddrR Prog 150 a11 3 h72).bind fun v73 h74 =>
 (loadR Prog 3 v73 h74).bind fun v75 h76 =>
 ζ8h k call a0 a1 a4 a6 a8 a9 a10 a11 a12 v75 h76)
 (
 ζ8i k call a0 a1 a4 a6 a8 a9 a10 a11 a12 v69 v71 h72))
 (
 .ok ((.exit 2), [(0, a0), (1, a1), (4, a4), (6, a6), (8, a8), (9, a9), (10, a10), (11, a11), (12, a12), (50, v65)]) h66) :=
 (loopB_eq _ _).trans (by kernel_rfl)
theorem ζ6b (k : Nat) (call : Caller) (a0 a1 a4 a6 a8 a9 a10 a11 a12 a13 : Value) (h : Heap) : ζ8h k call a0 a1 a4 a6 a8 a9 a10 a11 a12 a13 h =
 (loopN (ζ20 k call) loopFuel [(0, a0), (1, a1), (4, a4), (6, a6), (8, a8), (9, a9), (10, a10), (11, a11), (12, a12), (13, a13)] h).bind fun r77 h78 =>
 ζ2z k call r77.1 r77.2 h78 := by kernel_rfl
theorem ζ6c (k : Nat) (call : Caller) (a0 a1 a4 a6 a8 a9 a10 a11 a12 a13 a56 : Value) (h : Heap) : ζ8i k call a0 a1 a4 a6 a8 a9 a10 a11 a12 a13 a56 h =
 (loopN (ζ20 k call) loopFuel [(0, a0), (1, a1), (4, a4), (6, a6), (8, a8), (9, a9), (10, a10), (11, a11), (12, a12), (13, a13)] h).bind fun r79 h80 =>
 ζ2z k call r79.1 r79.2 h80 := by kernel_rfl
theorem ζ1u (k : Nat) (call : Caller) (a0 a1 a4 a6 a8 a9 a10 a11 a12 a13 : Value) (h : Heap) : ζ20 k call [(0, a0), (1, a1), (4, a4), (6, a6), (8, a8), (9, a9), (10, a10), (11, a11), (12, a12), (13, a13)] h =
 (binR Prog .neq 3 a13 (.int .i64 65535) h).bind fun v81 h82 =>
 ((bif wantVal v81 true then fieldAddrR Prog 198 a9 1 h82 else Res.ok undef h82)).bind fun v83 h84 =>
 ((bif wantVal v81 true then loadR Prog 196 v83 h84 else Res.ok undef h84)).bind fun v85 h86 =>
 ((bif wantVal v81 true then builtinV Prog .len [196] [v85] h86 else Res.ok undef h86)).bind fun v87 h88 =>
 ((bif wantVal v81 true then Res.ok a13 h88 else Res.ok undef h88)).bind fun v89 h90 =>
 ((bif wantVal v81 true then binR Prog .leq 3 v87 v89 h90 else Res.ok undef h90)).bind fun v91 h92 =>
 (condV (some v81) (Res.ok v91 h92) (Res.ok (.bool false) h92)).bind fun v93 h94 =>
 condV (some v93) (
 (fieldAddrR Prog 198 a9 1 h94).bind fun v95 h96 =>
 (loadR Prog 196 v95 h96).bind fun v97 h98 =>
 (builtinV Prog .len [196] [v97] h98).bind fun v99 h100 =>
 (binR Prog .mul 3 (.int .i64 4) v99 h100).bind fun v101 h102 =>
 (binR Prog .add 3 a8 v101 h102).bind fun v103 h104 =>
 (call F.ζ1 [a0, v103, (.int .i64 4)] h104).bind fun v105 h106 =>
 (binR Prog .lss 3 v105 (.int .i64 0) h106).bind fun v107 h108 =>
 ((bif wantVal v107 false then Res.ok v105 h108 else Res.ok undef h108)).bind fun v109 h110 =>
 ((bif wantVal v107 false then Res.ok a0 h110 else Res.ok undef h110)).bind fun v111 h112 =>
 ((bif wantVal v107 false then builtinV Prog .len [65] [v111] h112 else Res.ok undef h112)).bind fun v113 h114 =>
 ((bif wantVal v107 false then Res.ok a8 h114 else Res.ok undef h114)).bind fun v115 h116 =>
 ((bif wantVal v107 false then binR Prog .sub 3 v113 v115 h116 else Res.ok undef h116)).bind fun v117 h118 =>
 ((bif wantVal v107 false then binR Prog .gtr 3 v109 v117 h118 else Res.ok undef h118)).bind fun v119 h120 =>
 (condV (some v107) (Res.ok (.bool true) h120) (Res.ok v119 h120)).bind fun v121 h122 =>
 condV (some v121) (
 (loadR Prog 198 a9 h122).bind fun v123 h124 =>
 (storeR Prog 198 a4 v123 h124).bind fun _v125 h126 =>
 .ok (.ret, [(4, a4), (5, (.bool false))]) h126)
 (
 (binR Prog .add 3 a8 v105 h122).bind fun v127 h128 =>
 (sliceR Prog 65 a0 (some v127) none none h128).bind fun v129 h130 =>
 (call F.ζm [v129, a1, (.int .i64 2)] h130).bind fun v131 h132 =>
 (extractR v131 0 h132).bind fun v133 h134 =>
 (extractR v131 1 h134).bind fun v135 h136 =>
 (allocR Prog 88 h136).bind fun v137 h138 =>
 (storeR Prog 88 v137 v133 h138).bind fun _v139 h140 =>
 (unR .not v135 h140).bind fun v141 h142 =>
 condV (some v141) (
 (loadR Prog 198 a9 h142).bind fun v143 h144 =>
 (storeR Prog 198 a4 v143 h144).bind fun _v145 h146 =>
 .ok (.ret, [(4, a4), (5, (.bool false))]) h146)
 (
 (fieldAddrR Prog 198 a9 1 h142).bind fun v147 h148 =>
 (loadR Prog 196 v147 h148).bind fun v149 h150 =>
 (loadR Prog 88 v137 h150).bind fun v151 h152 =>
 (buildSliceR Prog 196 1 [(0, v151)] h152).bind fun v153 h154 =>
 (builtinV Prog .append [196, 196] [v149, v153] h154).bind fun v155 h156 =>
 (fieldAddrR Prog 198 a9 1 h156).bind fun v157 h158 =>
 (storeR Prog 196 v157 v155 h158).bind fun _v159 h160 =>
 .ok (.normal, [(0, a0), (1, a1), (4, a4), (6, a6), (8, a8), (9, a9), (10, a10), (11, a11), (12, a12), (13, a13)]) h160)))
 (
 .ok ((.exit 4), [(0, a0), (1, a1), (4, a4), (6, a6), (8, a8), (9, a9), (10, a10), (11, a11), (12, a12), (13, a13), (67, v93)]) h94) :=
 (loopB_eq _ _).trans (by kernel_rfl)
theorem ζ9y (k : Nat) (call : Caller) (a0 a1 a4 a6 a8 a9 a10 a43 : Value) (h : Heap) : ζ4o k call (.exit 0) [(0, a0), (1, a1), (4, a4), (6, a6), (8, a8), (9, a9), (10, a10), (43, a43)] h =
 (loadR Prog 198 a9 h).bind fun v161 h162 =>
 (storeR Prog 198 a4 v161 h162).bind fun _v163 h164 =>
 (loadR Prog 198 a4 h164).bind fun v165 h166 =>
 .ok (.tuple #[v165, (.bool true)]) h166 := by kernel_rfl
theorem ζ9z (k : Nat) (call : Caller) (a0 a1 a4 a6 a8 a9 a10 a11 a12 a50 : Value) (h : Heap) : ζ4p k call (.exit 2) [(0, a0), (1, a1), (4, a4), (6, a6), (8, a8), (9, a9), (10, a10), (11, a11), (12, a12), (50, a50)] h =
 (binR Prog .add 3 a10 (.int .i64 1) h).bind fun v167 h168 =>
 .ok (.normal, [(0, a0), (1, a1), (4, a4), (6, a6), (8, a8), (9, a9), (10, v167)]) h168 := by kernel_rfl
theorem ζ6d (k : Nat) (call : Caller) (a4 a5 : Value) (h : Heap) : ζ2z k call .ret [(4, a4), (5, a5)] h =
 .ok (.ret, [(4, a4), (5, a5)]) h := by kernel_rfl
theorem ζ5u (k : Nat) (call : Caller) (a0 a1 a4 a6 a8 a9 a10 a11 a12 a13 a67 : Value) (h : Heap) : ζ2z k call (.exit 4) [(0, a0), (1, a1), (4, a4), (6, a6), (8, a8), (9, a9), (10, a10), (11, a11), (12, a12), (13, a13), (67, a67)] h =
 (binR Prog .add 3 a12 (.int .i64 1) h).bind fun v169 h170 =>
 .ok (.normal, [(0, a0), (1, a1), (4, a4), (6, a6), (8, a8), (9, a9), (10, a10), (11, a11), (12, v169)]) h170 := by kernel_rfl
theorem ζau (k : Nat) (call : Caller) (a4 a5 : Value) (h : Heap) : ζ4p k call .ret [(4, a4), (5, a5)] h =
 .ok (.ret, [(4, a4), (5, a5)]) h := by kernel_rfl
theorem ζat (k : Nat) (call : Caller) (a4 a5 : Value) (h : Heap) : ζ4o k call .ret [(4, a4), (5, a5)] h =
 (loadR Prog 198 a4 h).bind fun v171 h172 =>
 .ok (.tuple #[v171, a5]) h172 := by kernel_rfl
def ζ5y (k : Nat) (call : Caller) : Env → Heap → Res (AExit × Env) := loopB (C k) call F.ζz [1, 1, 1, 0, 0, 0]
def ζ8j (k : Nat) (call : Caller) : Kont Value := kBlock 0 (kSeq (pieceK (C k) call F.ζz [1, 1, 1, 1]) (kDone Prog (resOf Prog F.ζz)))
def ζ92 (k : Nat) (call : Caller) (a1 a2 a6 a7 a8 : Value) (h : Heap) : Res (AExit × Env) :=
 kSeq (pieceK (C k) call F.ζz [1, 1, 1, 0, 0, 0, 1, 0, 1, 1, 1, 1]) (kBlock 1 (kRound (ownOf (C k) F.ζz [1, 1, 1, 0, 0, 0]))) .normal [(1, a1), (2, a2), (6, a6), (7, a7), (8, a8)] h
def ζ93 (k : Nat) (call : Caller) (a1 a2 a6 a7 a8 a46 : Value) (h : Heap) : Res (AExit × Env) :=
 kSeq (pieceK (C k) call F.ζz [1, 1, 1, 0, 0, 0, 1, 0, 1, 1, 1, 1]) (kBlock 1 (kRound (ownOf (C k) F.ζz [1, 1, 1, 0, 0, 0]))) .normal [(1, a1), (2, a2), (6, a6), (7, a7), (8, a8), (46, a46)] h
def ζz (k : Nat) (call : Caller) (a0 a1 : Value) (h : Heap) : Res Value :=
 (boxR a0 h).bind fun v1 h2 =>
 (builtinV Prog .len [50] [a1] h2).bind fun v3 h4 =>
 (call F.ζ2k [v3] h4).bind fun v5 h6 =>
 (allocR Prog 288 h6).bind fun v7 h8 =>
 (storeR Prog 288 v7 v5 h8).bind fun _v9 h10 =>
 (loopN (ζ5y k call) loopFuel [(1, a1), (2, v1), (6, v7), (7, (.int .i64 (-1)))] h10).bind fun r11 h12 =>
 ζ8j k call r11.1 r11.2 h12
theorem ζex (k : Nat) (a0 a1 : Value) (h : Heap) : R (T k) F.ζz [a0, a1] h = nrm .fz h (ζz k (R (T k)) a0 a1 h) :=
 (R_body (t := T k) (T_scott k) (by kernel_rfl) (by kernel_rfl) _ _).trans (by kernel_rfl)
theorem ζ3u (k : Nat) (call : Caller) (a1 a2 a6 a7 : Value) (h : Heap) : ζ5y k call [(1, a1), (2, a2), (6, a6), (7, a7)] h =
 (fieldAddrR Prog 288 a6 5 h).bind fun v13 h14 =>
 (loadR Prog 4 v13 h14).bind fun v15 h16 =>
 (unR .not v15 h16).bind fun v17 h18 =>
 condV (some v17) (
 (fieldAddrR Prog 198 a2 0 h18).bind fun v19 h20 =>
 (loadR Prog 137 v19 h20).bind fun v21 h22 =>
 (loadR Prog 288 a6 h22).bind fun v23 h24 =>
 (call F.ζ16 [v21, v23, a1] h24).bind fun v25 h26 =>
 (extractR v25 0 h26).bind fun v27 h28 =>
 (extractR v25 1 h28).bind fun v29 h30 =>
 (allocR Prog 150 h30).bind fun v31 h32 =>
 (storeR Prog 150 v31 v27 h32).bind fun _v33 h34 =>
 (loadR Prog 198 a2 h34).bind fun v35 h36 =>
 (fieldAddrR Prog 150 v31 2 h36).bind fun v37 h38 =>
 (loadR Prog 3 v37 h38).bind fun v39 h40 =>
 (call F.ζn [v35, a1, a7, v39] h40).bind fun v41 h42 =>
 (loadR Prog 198 a2 h42).bind fun v43 h44 =>
 (fieldAddrR Prog 288 a6 1 h44).bind fun v45 h46 =>
 (loadR Prog 3 v45 h46).bind fun v47 h48 =>
 (fieldAddrR Prog 150 v31 3 h48).bind fun v49 h50 =>
 (loadR Prog 3 v49 h50).bind fun v51 h52 =>
 (call F.ζn [v43, v41, v47, v51] h52).bind fun v53 h54 =>
 (fieldAddrR Prog 150 v31 1 h54).bind fun v55 h56 =>
 (loadR Prog 3 v55 h56).bind fun v57 h58 =>
 (binR Prog .geq 3 v57 (.int .i64 32768) h58).bind fun v59 h60 =>
 ((bif wantVal v59 true then fieldAddrR Prog 288 a6 1 h60 else Res.ok undef h60)).bind fun v61 h62 =>
 ((bif wantVal v59 true then loadR Prog 3 v61 h62 else Res.ok undef h62)).bind fun v63 h64 =>
 ((bif wantVal v59 true then Res.ok v53 h64 else Res.ok undef h64)).bind fun v65 h66 =>
 ((bif wantVal v59 true then builtinV Prog .len [50] [v65] h66 else Res.ok undef h66)).bind fun v67 h68 =>
 ((bif wantVal v59 true then binR Prog .lss 3 v63 v67 h68 else Res.ok undef h68)).bind fun v69 h70 =>
 (condV (some v59) (Res.ok v69 h70) (Res.ok (.bool false) h70)).bind fun v71 h72 =>
 condV (some v71) (
 (fieldAddrR Prog 288 a6 1 h72).bind fun v73 h74 =>
 (loadR Prog 3 v73 h74).bind fun v75 h76 =>
 ζ92 k call v53 a2 a6 v75 v31 h76)
 (
 ζ93 k call v53 a2 a6 a7 v31 v71 h72))
 (
 .ok ((.exit 0), [(1, a1), (2, a2), (6, a6), (7, a7), (15, v17)]) h18) :=
 (loopB_eq _ _).trans (by kernel_rfl)
theorem ζbi (k : Nat) (call : Caller) (a1 a2 a6 a7 a8 : Value) (h : Heap) : ζ92 k call a1 a2 a6 a7 a8 h =
 (loadR Prog 288 a6 h).bind fun v77 h78 =>
 (loadR Prog 150 a8 h78).bind fun v79 h80 =>
 (builtinV Prog .len [50] [a1] h80).bind fun v81 h82 =>
 (fieldAddrR Prog 288 a6 1 h82).bind fun v83 h84 =>
 (loadR Prog 3 v83 h84).bind fun v85 h86 =>
 (fieldAddrR Prog 288 a6 1 h86).bind fun v87 h88 =>
 (loadR Prog 3 v87 h88).bind fun v89 h90 =>
 (binR Prog .add 3 v89 (.int .i64 1) h90).bind fun v91 h92 =>
 (call F.ζb [v77, v79, v81, v85, v91] h92).bind fun v93 h94 =>
 (storeR Prog 288 a6 v93 h94).bind fun _v95 h96 =>
 .ok (.normal, [(1, a1), (2, a2), (6, a6), (7, a7)]) h96 := by kernel_rfl
theorem ζ79 (k : Nat) (call : Caller) (a1 a2 a6 a7 a8 a46 : Value) (h : Heap) : ζ93 k call a1 a2 a6 a7 a8 a46 h =
 (loadR Prog 288 a6 h).bind fun v97 h98 =>
 (loadR Prog 150 a8 h98).bind fun v99 h100 =>
 (builtinV Prog .len [50] [a1] h100).bind fun v101 h102 =>
 (fieldAddrR Prog 288 a6 1 h102).bind fun v103 h104 =>
 (loadR Prog 3 v103 h104).bind fun v105 h106 =>
 (fieldAddrR Prog 288 a6 1 h106).bind fun v107 h108 =>
 (loadR Prog 3 v107 h108).bind fun v109 h110 =>
 (binR Prog .add 3 v109 (.int .i64 1) h110).bind fun v111 h112 =>
 (call F.ζb [v97, v99, v101, v105, v111] h112).bind fun v113 h114 =>
 (storeR Prog 288 a6 v113 h114).bind fun _v115 h116 =>
 .ok (.normal, [(1, a1), (2, a2), (6, a6), (7, a7)]) h116 := by kernel_rfl
theorem ζav (k : Nat) (call : Caller) (a1 a2 a6 a7 a15 : Value) (h : Heap) : ζ8j k call (.exit 0) [(1, a1), (2, a2), (6, a6), (7, a7), (15, a15)] h =
 (fieldAddrR Prog 288 a6 6 h).bindN fun v117 h118 =>
 (loadR Prog 3 v117 h118).bindN fun v119 h120 =>
 .ok (.tuple #[a1, v119]) h120 := by kernel_rfl
def ζ8k (k : Nat) (call : Caller) (a1 : Value) (h : Heap) : Res Value :=
 kSeq (pieceK (C k) call F.ζn [1, 1, 1, 1]) (kDone Prog (resOf Prog F.ζn)) .normal [(1, a1)] h
def ζ8l (k : Nat) (call : Caller) (a1 a2 a9 a38 : Value) (h : Heap) : Res Value :=
 kSeq (pieceK (C k) call F.ζn [1, 1, 1, 1]) (kDone Prog (resOf Prog F.ζn)) .normal [(1, a1), (2, a2), (9, a9), (38, a38)] h
def ζn (k : Nat) (call : Caller) (a0 a1 a2 a3 : Value) (h : Heap) : Res Value :=
 (boxR a0 h).bind fun v1 h2 =>
 (binR Prog .eql 3 a3 (.int .i64 65535) h2).bind fun v3 h4 =>
 ((bif wantVal v3 false then Res.ok a2 h4 else Res.ok undef h4)).bind fun v5 h6 =>
 ((bif wantVal v3 false then binR Prog .lss 3 v5 (.int .i64 0) h6 else Res.ok undef h6)).bind fun v7 h8 =>
 (condV (some v3) (Res.ok (.bool true) h8) (Res.ok v7 h8)).bind fun v9 h10 =>
 ((bif wantVal v9 false then Res.ok a2 h10 else Res.ok undef h10)).bind fun v11 h12 =>
 ((bif wantVal v9 false then Res.ok a1 h12 else Res.ok undef h12)).bind fun v13 h14 =>
 ((bif wantVal v9 false then builtinV Prog .len [50] [v13] h14 else Res.ok undef h14)).bind fun v15 h16 =>
 ((bif wantVal v9 false then binR Prog .geq 3 v11 v15 h16 else Res.ok undef h16)).bind fun v17 h18 =>
 (condV (some v9) (Res.ok (.bool true) h18) (Res.ok v17 h18)).bind fun v19 h20 =>
 condV (some v19) (
 .ok a1 h20)
 (
 (fieldAddrR Prog 198 v1 1 h20).bindN fun v21 h22 =>
 (loadR Prog 196 v21 h22).bindN fun v23 h24 =>
 (indexAddrR Prog 196 v23 a3 h24).bindN fun v25 h26 =>
 (loadR Prog 88 v25 h26).bindN fun v27 h28 =>
 (indexAddrR Prog 50 a1 a2 h28).bindN fun v29 h30 =>
 (fieldAddrR Prog 55 v29 0 h30).bindN fun v31 h32 =>
 (loadR Prog 3 v31 h32).bindN fun v33 h34 =>
 (call F.ζ1h [v27, v33] h34).bindT (fun p37 h38 => .panic p37 h38) fun v35 h36 =>
 (extractR v35 0 h36).bindN fun v39 h40 =>
 (extractR v35 1 h40).bindN fun v41 h42 =>
 condV (some v41) (
 (call F.ζ2a [a1, a2, v39] h42).bind fun v43 h44 =>
 (extractR v43 0 h44).bind fun v45 h46 =>
 (extractR v43 1 h46).bind fun v47 h48 =>
 ζ8k k call v45 h48)
 (
 ζ8l k call a1 a2 v39 v41 h42))
theorem ζde (k : Nat) (a0 a1 a2 a3 : Value) (h : Heap) : R (T k) F.ζn [a0, a1, a2, a3] h = nrm .fz h (ζn k (R (T k)) a0 a1 a2 a3 h) :=
 (R_body (t := T k) (T_scott k) (by kernel_rfl) (by kernel_rfl) _ _).trans (by kernel_rfl)
theorem ζaw (k : Nat) (call : Caller) (a1 : Value) (h : Heap) : ζ8k k call a1 h =
 .ok a1 h := by kernel_rfl
theorem ζax (k : Nat) (call : Caller) (a1 a2 a9 a38 : Value) (h : Heap) : ζ8l k call a1 a2 a9 a38 h =
 .ok a1 h := by kernel_rfl
end
end Go.Sw
end
section
namespace Go.Sw
open Go.RowKit
abbrev encRT (x : List Int × List RP) : List Value := [lv encB x.1, lv encRP x.2]
theorem ζgh (x : List Int × List RP) : (encRT x).length = 2 := rfl
abbrev r15C (r : RMach) (subs : List (List Int × List RP)) : List Value := [lv encB r.b, .int .i64 r.cl, .int .i64 r.rowsAt, .int .i64 r.entsAt, .int .i64 r.states, .int .i64 r.n, .int .i64 r.words, lv encB r.tb, lv encRP r.parts, lv encRT subs]
abbrev r15V (r : RMach) (subs : List (List Int × List RP)) : Value := .agg (r15C r subs).toArray
def Subs15 (subs : List (Int × List Pt)) (rs : List (List Int × List RP)) : Prop :=
 subs.length = rs.length ∧ ∀ (i : Nat) x y, subs[i]? = some x → rs[i]? = some y → Byt y.1 ∧ y.1.length < 2 ^ 31 ∧ Rel y.1 x.2 y.2 ∧ (∀ r, r ∈ y.2 → r.ok) ∧ y.2.length < 2 ^ 31
theorem ζly (k : Nat) (t : CTab) (ht : t.ok) (r : RMach) (rs : List (List Int × List RP)) (hrs : Subs15 t.subs rs) (l : List Gl) (hl : l.length < 2 ^ 30) (j w : Int) (hw : w = 65535 ∨ 0 ≤ w ∧ w < t.subs.length) (H : Heap) :
  R (T k) F.ζn [r15V r rs, lv encG l, .int .i64 j, .int .i64 w] H = .ok (lv encG (swapC t l j w)) H := by
 rw [ζde]
 have hx : Ext H (H.push ⟨r15C r rs, 1, false⟩) := (Ext.refl H).push _
 unfold swapC atG
 by_cases hw0 : w = 65535
 ·rw [if_pos hw0]
  refine nrm_fz (v := lv encG l) (L := []) (H' := H.push ⟨r15C r rs, 1, false⟩) ?_ rfl hx (Flat.Gls _).alive
  simp -implicitDefEqProofs (disch := omega) [ζn, hw0]
 rw [if_neg hw0]
 have hw1 : (w == 65535) = false := by simpa using hw0
 by_cases c1 : j < 0
 ·rw [if_neg (by omega)]
  refine nrm_fz (v := lv encG l) (L := []) (H' := H.push ⟨r15C r rs, 1, false⟩) ?_ rfl hx (Flat.Gls _).alive
  simp -implicitDefEqProofs (disch := omega) [ζn, hw1, c1]
 by_cases c2 : j ≥ l.length
 ·rw [if_neg (by omega)]
  refine nrm_fz (v := lv encG l) (L := []) (H' := H.push ⟨r15C r rs, 1, false⟩) ?_ rfl hx (Flat.Gls _).alive
  simp -implicitDefEqProofs (disch := omega) [ζn, hw1, c1, c2]
 rw [if_pos (by omega)]
 obtain ⟨gl, hgl⟩ : ∃ gl, l[j.toNat]? = some gl := ⟨_, List.getElem?_eq_getElem (by omega)⟩
 obtain ⟨n, rfl⟩ := Int.eq_ofNat_of_zero_le (show 0 ≤ w by omega)
 obtain ⟨x, hxs⟩ : ∃ x, t.subs[n]? = some x := ⟨_, List.getElem?_eq_getElem (by omega)⟩
 have hlen := hrs.1
 obtain ⟨y, hys⟩ : ∃ y, rs[n]? = some y := ⟨_, List.getElem?_eq_getElem (by omega)⟩
 obtain ⟨y1, y2, y3, y4, y5⟩ := hrs.2 n x y hxs hys
 have xo := ht.subs x (List.mem_of_getElem? hxs)
 have i1 := fun H' => ixS_lvN ζgh rs .i64 n y hys H'
 have i2 := fun H' => ixS_lv encG_len l .i64 j gl (by omega) hgl H'
 have hget := fun H' => ζj3 k y.1 y1 y.2 y4 y5 y2 gl.id H'
 rw [← get_ref y3 xo.1 xo.2.1] at hget
 have hset := fun id H' => ζln k l hl j id H'
 rw [hgl]
 dsimp only
 rw [Int.toNat_natCast, hxs, Option.bind_some]
 cases hg : getS x.2 gl.id with
 | none =>
  rw [hg] at hget
  simp at hget
  refine nrm_fz (v := lv encG l) (L := []) (H' := H.push ⟨r15C r rs, 1, false⟩) ?_ rfl hx (Flat.Gls _).alive
  simp -implicitDefEqProofs (disch := omega) [ζn, hw1, c1, c2, i1, i2, hget, ζax]
 | some id =>
  rw [hg] at hget
  simp at hget
  refine nrm_fz (v := lv encG (setG l j id)) (L := []) (H' := H.push ⟨r15C r rs, 1, false⟩) ?_ rfl hx (Flat.Gls _).alive
  simp -implicitDefEqProofs (disch := omega) [ζn, hw1, c1, c2, i1, i2, hget, hset, ζaw]
end Go.Sw
end
section
namespace Go.Sw
open Go.RowKit
variable {σ : Type}
abbrev drvW (y : Way) : Drv := ⟨y.st, y.pl, y.stp, y.rest⟩
theorem clsS_end (m : Mach) (l : List Gl) (p : Int) (h : 0 ≤ p) : (clsS m l p).2 = decide (p ≥ l.length) := by
 unfold clsS atG
 by_cases h2 : p < l.length
 ·obtain ⟨g, hg⟩ : ∃ g, l[p.toNat]? = some g := ⟨_, List.getElem?_eq_getElem (by omega)⟩
  rw [if_pos ⟨h, h2⟩, hg, decide_eq_false (by omega)]
 ·rw [if_neg (fun hc => h2 hc.2), decide_eq_true (by omega)]
end Go.Sw
end
section
namespace Go.Sw
open Go.RowKit
abbrev doF (t : CTab) : List Gl × Int → Int → En → (List Gl × Int) × Int × Int := fun s i e => (doC t s i e, i, i + 1)
def docStep (t : CTab) (x : (List Gl × Int) × Way) : (List Gl × Int) × Way :=
 (doC t x.1 x.2.pl (entS t.m x.1.1 (drvW x.2)), goS x.2 (entS t.m x.1.1 (drvW x.2)) (x.1.1.length : Int) x.2.pl (x.2.pl + 1))
def docR (t : CTab) : Nat → (List Gl × Int) × Way → (List Gl × Int) × Way
 | 0, x => x
 | n + 1, x => if x.2.over = true then x else docR t n (docStep t x)
theorem ζbo (t : CTab) (n : Nat) (x : (List Gl × Int) × Way) (h : x.2.over = true) : docR t n x = x := by
 cases n with
 | zero => rfl
 | succ n => unfold docR; rw [if_pos h]
theorem doc_runD (t : CTab) (N : Int) : ∀ (n : Nat) (s : List Gl × Int) (y : Way), y.over = false → y.code = 0 → 0 ≤ y.pl → y.most = N → y.stp < N → N - y.stp ≤ n →
  runD t.m (fun s : List Gl × Int => s.1) (doF t) N n (s, drvW y) = ((docR t n (s, y)).2.stp, (docR t n (s, y)).2.code, (docR t n (s, y)).1)
 | 0, s, y, _, _, _, _, h1, h2 => by omega
 | n + 1, s, y, hov, hc0, hp, hN, hlt, hn => by
  have hend := clsS_end t.m s.1 y.pl hp
  have hd : docR t (n + 1) (s, y) = docR t n (docStep t (s, y)) := by
   show (if y.over = true then (s, y) else docR t n (docStep t (s, y))) = _
   rw [if_neg (by rw [hov]; simp)]
  rw [hd]
  unfold runD
  rw [if_pos hlt]
  unfold docStep stepD
  dsimp only
  generalize entS t.m s.1 (drvW y) = e
  rw [hend]
  unfold goS
  dsimp only
  by_cases c1 : e.flags / 16384 % 2 = 1
  ·rw [if_pos c1, decide_eq_true c1]
   simp only [Bool.not_true, Bool.false_and, Bool.false_eq_true, if_false, if_true]
   by_cases c2 : y.rest + 1 > 64
   ·rw [if_pos c2, if_pos (Or.inr c2)]
    rw [ζbo _ _ _ rfl]
   ·rw [if_neg c2]
    by_cases c3 : y.stp + 1 ≥ y.most
    ·rw [if_pos (Or.inl c3), ζbo _ _ _ rfl]
     cases n with
     | zero => rfl
     | succ n => unfold runD; dsimp only; rw [if_neg (by omega)]
    ·rw [if_neg (by omega)]
     exact doc_runD t N n _ ⟨e.next, max y.pl 0, y.stp + 1, y.rest + 1, y.most, y.over, y.code⟩ hov hc0 (by dsimp only; omega) hN (by dsimp only; omega) (by dsimp only; omega)
  ·rw [if_neg c1, decide_eq_false c1]
   simp only [Bool.not_false, Bool.true_and, Bool.false_eq_true, if_false]
   by_cases c4 : y.pl ≥ s.1.length
   ·rw [decide_eq_true c4]
    simp only [if_true]
    rw [ζbo _ _ _ rfl, hc0]
   ·rw [decide_eq_false c4]
    simp only [Bool.false_eq_true, if_false]
    rw [if_neg (show ¬ (0 : Int) > 64 by decide)]
    by_cases c3 : y.stp + 1 ≥ y.most
    ·rw [if_pos (Or.inl c3), ζbo _ _ _ rfl]
     cases n with
     | zero => rfl
     | succ n => unfold runD; dsimp only; rw [if_neg (by omega)]
    ·rw [if_neg (by omega)]
     exact doc_runD t N n _ ⟨e.next, max (y.pl + 1) 0, y.stp + 1, 0, y.most, y.over, y.code⟩ hov hc0 (by dsimp only; omega) hN (by dsimp only; omega) (by dsimp only; omega)
end Go.Sw
end
section
namespace Go.Sw
open Go.RowKit
theorem ζmq (y : Way) (e : En) (n : Int) (hp : 0 ≤ y.pl) (hr : 0 ≤ y.rest) : let z := goS y e n y.pl (y.pl + 1)
  z.most = y.most ∧ z.stp = y.stp + 1 ∧ z.st = e.next ∧ 0 ≤ z.pl ∧ z.pl ≤ y.pl + 1 ∧ 0 ≤ z.rest ∧ z.rest ≤ y.rest + 1 ∧ (z.over = false → z.stp < z.most) := by
 intro z
 have hz : z = goS y e n y.pl (y.pl + 1) := rfl
 clear_value z
 unfold goS at hz
 dsimp only at hz
 by_cases c1 : e.flags / 16384 % 2 = 1
 ·rw [decide_eq_true c1] at hz
  simp only [Bool.not_true, Bool.false_and, Bool.false_eq_true, if_false, if_true] at hz
  split at hz <;> subst hz <;> dsimp only <;> refine ⟨rfl, rfl, rfl, by omega, by omega, by omega, by omega, fun h => ?_⟩
  ·cases h
  ·omega
 ·rw [decide_eq_false c1] at hz
  simp only [Bool.not_false, Bool.true_and, Bool.false_eq_true, if_false] at hz
  split at hz
  ·subst hz; dsimp only; exact ⟨rfl, rfl, rfl, by omega, by omega, by omega, by omega, fun h => by cases h⟩
  ·split at hz <;> subst hz <;> dsimp only <;> refine ⟨rfl, rfl, rfl, by omega, by omega, by omega, by omega, fun h => ?_⟩
   ·cases h
   ·omega
set_option maxHeartbeats 2000000 in
theorem ζna (k : Nat) {b : List Int} (hb : Byt b) (hbl : b.length < 2 ^ 31) {g : Int} (hg : 1 ≤ g ∧ g ≤ 65535) (t : CTab) (ht : t.ok) (hm : machS b g 2 = some t.m) (rs : List (List Int × List RP)) (hrs : Subs15 t.subs rs) (l : List Gl) (hl : l.length < 2 ^ 29) (H : Heap) :
  R (T k) F.ζz [r15V (rmOf b g 2 t.m) rs, lv encG l] H = .ok (.tuple #[lv encG (runC t l).1, .int .i64 (runC t l).2]) H := by
 rw [ζex]
 obtain ⟨N, hN⟩ : ∃ N, N = 2 * l.length + 128 := ⟨_, rfl⟩
 obtain ⟨x0, hx0⟩ : ∃ x0 : (List Gl × Int) × Way, x0 = ((l, -1), ⟨0, 0, 0, 0, N, false, 0⟩) := ⟨_, rfl⟩
 have hpure := doc_runD t (N : Int) N (l, -1) ⟨0, 0, 0, 0, N, false, 0⟩ rfl rfl (Int.le_refl _) rfl (by dsimp only; omega) (by dsimp only; omega)
 rw [← hx0] at hpure
 have hrun : runC t l = ((docR t N x0).1.1, (docR t N x0).2.code) := by
  unfold runC runCr
  rw [show (2 * (l.length : Int) + 128) = (N : Int) by omega, ← hN]
  have : runD t.m (fun s : List Gl × Int => s.1) (fun s i e => (doC t s i e, i, i + 1)) (N : Int) N ((l, -1), ⟨0, 0, 0, 0⟩) = ((docR t N x0).2.stp, (docR t N x0).2.code, (docR t N x0).1) := hpure
  rw [this]
 rw [hrun]
 clear hrun hpure
 generalize hr0 : docR t N x0 = r
 have hnext := fun y hy hp l hl H' => Next_run k hb hg (.inr (.inr rfl)) hbl ht.m hm y hy hp l hl H'
 have hbegin := fun H' => ζm2 k l.length (by omega) (by omega) H'
 rw [show (2 * (l.length : Int) + 128) = (N : Int) by omega] at hbegin
 have hsw := fun l hl j w hw H' => ζly k t ht (rmOf b g 2 t.m) rs hrs l hl j w hw H'
 generalize rmOf b g 2 t.m = rm at hnext hsw ⊢
 have st := ((Star.nil H).push ⟨r15C rm rs, 1, false⟩).push ⟨wayC ⟨0, 0, 0, 0, N, false, 0⟩, 1, false⟩
 simp only [List.nil_append, List.cons_append, hn_push] at st
 obtain ⟨e, eE, H1, hr1, rfl, rfl, g1⟩ := loop_up (body := ζ5y k (R (T k))) N
  (fun j e H' => ∃ x : (List Gl × Int) × Way, e = [(1, lv encG x.1.1), (2, ptrV H.n), (6, ptrV (H.n + 1)), (7, .int .i64 x.1.2)] ∧ Star H H' [itBlk H.n ⟨r15C rm rs, 1, false⟩, itBlk (H.n + 1) ⟨wayC x.2, 1, false⟩] ∧ docR t (N - j) x = r ∧ x.1.1.length = l.length ∧
   (x.2.over = false → x.2.stp = j ∧ x.2.stp < N ∧ x.2.most = N ∧ 0 ≤ x.2.pl ∧ x.2.pl ≤ j ∧ 0 ≤ x.2.rest ∧ x.2.rest ≤ j ∧ 0 ≤ x.2.st ∧ x.2.st < t.m.rows.length))
  (fun x' e H' => x' = .exit 0 ∧ e = [(1, lv encG r.1.1), (2, ptrV H.n), (6, ptrV (H.n + 1)), (7, .int .i64 r.1.2), (15, .bool false)] ∧ Star H H' [itBlk H.n ⟨r15C rm rs, 1, false⟩, itBlk (H.n + 1) ⟨wayC r.2, 1, false⟩])
  (e0 := [(1, lv encG l), (2, ptrV H.n), (6, ptrV (H.n + 1)), (7, .int .i64 (-1))]) (H0 := (H.push ⟨r15C rm rs, 1, false⟩).push ⟨wayC ⟨0, 0, 0, 0, N, false, 0⟩, 1, false⟩)
  ⟨x0, by rw [hx0], by rw [hx0]; exact st, by rw [Nat.sub_zero]; exact hr0, by rw [hx0], fun _ => by rw [hx0]; have := ht.m.two; dsimp only; omega⟩ (by omega)
  (fun j e H' hj ⟨x, he, g, hd, hlen, hnot⟩ => by
   subst he
   obtain ⟨⟨lj, mark⟩, y⟩ := x
   dsimp only at g hd hlen hnot ⊢
   have b1 := g.get 0 rfl
   have b2 := g.get 1 rfl
   cases hov : y.over with
   | true =>
    rw [ζbo _ _ _ hov] at hd
    subst hd
    refine .inr ⟨.exit 0, _, H', ?_, by simp, rfl, rfl, g⟩
    rw [ζ3u]
    simp -implicitDefEqProofs (disch := omega) [b2, hov]
   | false =>
    obtain ⟨n1, n2, n3, n4, n5, n6, n7, n8, n9⟩ := hnot hov
    have hNj : N - j = (N - (j + 1)) + 1 := by omega
    rw [hNj] at hd
    have hd2 : docR t (N - (j + 1)) (docStep t ((lj, mark), y)) = r := by
     rw [← hd]
     show _ = (if y.over = true then _ else docR t (N - (j + 1)) (docStep t ((lj, mark), y)))
     rw [if_neg (by rw [hov]; simp)]
    unfold docStep at hd2
    dsimp only at hd2
    have hne := hnext y hov n4 lj (by omega)
    have hmem := entS_mem ht.m lj (drvW y) ⟨n8, n9⟩
    have hent := ht.m.ent _ hmem
    have hhas := ht.has _ hmem
    have hee : encEA (stepS t.m y.st (clsS t.m lj y.pl).1) = encE (entS t.m lj (drvW y)) := rfl
    rw [hee] at hne
    generalize (stepS t.m y.st (clsS t.m lj y.pl).1).isSome = zz at hne
    generalize entS t.m lj (drvW y) = en at hd2 hne hmem hent hhas
    have f := ζmq y en (lj.length : Int) n4 n6
    dsimp only at f
    have hgo := fun H' => Go_run k y en (lj.length : Int) y.pl (y.pl + 1) (by omega) ⟨hent.2.2.1, hent.2.2.2.1⟩ H'
    have s1 := fun H' => hsw lj (by omega) mark en.a (by omega) H'
    have s2 := fun H' => hsw (swapC t lj mark en.a) (by simp; omega) y.pl en.b (by omega) H'
    generalize goS y en (lj.length : Int) y.pl (y.pl + 1) = z at hd2 f hgo
    have st2 := (g.push ⟨encEn en, 1, false⟩).setBlk 1 rfl ⟨wayC z, 1, false⟩
    simp only [List.cons_append, List.nil_append, List.set_cons_zero, List.set_cons_succ] at st2
    have st3 := st2.take 2
    simp only [List.take_succ_cons, List.take_zero] at st3
    refine .inl ⟨_, _, ?_, _, rfl, st3, hd2, by simp [doC]; omega, fun hz => ?_⟩
    ·rw [ζ3u]
     have hov' : (!y.over) = true := by rw [hov]; rfl
     have hnn : ¬ H.n + 1 = H'.n := by have := Heap.get_lt b2; omega
     have hnm : ¬ H.n = H'.n := by have := Heap.get_lt b1; omega
     unfold doC
     dsimp only
     by_cases d1 : en.flags ≥ 32768
     ·by_cases d2 : y.pl < (lj.length : Int)
      ·rw [if_pos ⟨d1, d2⟩]
       simp -implicitDefEqProofs (disch := omega) [b1, b2, hnn, hnm, hov', hne, s1, s2, d1, d2, hgo, ζbi]
      ·rw [if_neg fun h => d2 h.2]
       simp -implicitDefEqProofs (disch := omega) [b1, b2, hnn, hnm, hov', hne, s1, s2, d1, d2, hgo, ζ79]
     ·rw [if_neg fun h => d1 h.1]
      simp -implicitDefEqProofs (disch := omega) [b1, b2, hnn, hnm, hov', hne, s1, s2, d1, hgo, ζ79]
    ·have := f.2.2.2.2.2.2.2 hz
     dsimp only
     omega)
  (fun e H' ⟨x, he, g, hd, hlen, hnot⟩ => by
   subst he
   rw [Nat.sub_self] at hd
   have hd : x = r := hd
   subst hd
   have b2 := g.get 1 rfl
   have hov : x.2.over = true := by
    cases h : x.2.over with
    | true => rfl
    | false => have := hnot h; omega
   refine ⟨.exit 0, _, H', ?_, by simp, rfl, rfl, g⟩
   rw [ζ3u]
   simp -implicitDefEqProofs (disch := omega) [b2, hov])
 have b2 := g1.get 1 rfl
 refine nrm_fz (v := .tuple #[lv encG r.1.1, .int .i64 r.2.code]) (L := []) (H' := H1) ?_ rfl g1.ext (Flat.tupleL (.cons (Flat.Gls _) (.cons (.int _ _) .nil))).alive
 simp -implicitDefEqProofs (disch := omega) [ζz, hbegin, hr1, ζav, b2]
end Go.Sw
end
section
namespace Go.Sw
open Go.RowKit
abbrev tC (r : RMach) (s : Value) : List Value := [lv encB r.b, .int .i64 r.cl, .int .i64 r.rowsAt, .int .i64 r.entsAt, .int .i64 r.states, .int .i64 r.n, .int .i64 r.words, lv encB r.tb, lv encRP r.parts, s]
abbrev zC10 : List Value := [.slice none 0 0, .int .i64 0, .int .i64 0, .int .i64 0, .int .i64 0, .int .i64 0, .int .i64 0, .slice none 0 0, .slice none 0 0, .slice none 0 0]
abbrev rmC (r : RMach) : List Value := rmCells r.b r.cl r.rowsAt r.entsAt r.states r.n r.words r.tb r.parts
def st15 (X : List It) (p4 p6 p9 : Nat) (z : List Value) (r : RMach) (s : Value) (o : Option Nat) (rs : List (List Int × List RP)) : List It :=
 itBlk p4 ⟨z, 1, false⟩ :: itBlk p6 ⟨rmC r, 1, false⟩ :: itBlk p9 ⟨tC r s, 1, false⟩ :: itRow o 2 s encRT rs :: X
def To15 (sb : List Int) (g : Int) (c : Nat) (rs : List (List Int × List RP)) : Prop := ∃ subs, subsS sb g c = some subs ∧ Subs15 subs rs
theorem To15.len {sb : List Int} {g : Int} {c : Nat} {rs : List (List Int × List RP)} (h : To15 sb g c rs) : rs.length = c := by
 obtain ⟨subs, h1, h2⟩ := h
 rw [← h2.1, ζca h1]
theorem Subs15.snoc {subs : List (Int × List Pt)} {rs : List (List Int × List RP)} (h : Subs15 subs rs) {x : Int × List Pt} {y : List Int × List RP} (hy : Byt y.1 ∧ y.1.length < 2 ^ 31 ∧ Rel y.1 x.2 y.2 ∧ (∀ r, r ∈ y.2 → r.ok) ∧ y.2.length < 2 ^ 31) : Subs15 (subs ++ [x]) (rs ++ [y]) := by
 refine ⟨by simp [h.1], fun i a b ha hb => ?_⟩
 by_cases hi : i < subs.length
 ·rw [List.getElem?_append_left hi] at ha
  rw [List.getElem?_append_left (by rw [← h.1]; exact hi)] at hb
  exact h.2 i a b ha hb
 ·rw [List.getElem?_append_right (by omega)] at ha
  rw [List.getElem?_append_right (by rw [← h.1]; omega)] at hb
  rw [← h.1] at hb
  have hz : i - subs.length = 0 := by
   have := (List.getElem?_eq_some_iff.1 ha).1
   simp at this; omega
  rw [hz] at ha hb
  simp at ha hb
  subst ha hb
  exact hy
set_option maxHeartbeats 1000000 in
theorem r15_l3 (k : Nat) (X : List It) (b : List Int) (hb : Byt b) (hbl : b.length < 2 ^ 31) (g : Int) (hg : 1 ≤ g ∧ g ≤ 65535) {p : Int} {sb : List Int} (hsb : restS b p = some sb) (p4 p6 p9 : Nat) (z0 : List Value) (hz0 : z0.length = 10) (r : RMach) (x : Int) (hx : 0 ≤ x ∧ x < 65536) (a10 a11 a12 : Value)
  (c : Nat) {H0 H : Heap} {s : Value} {o : Option Nat} {rs : List (List Int × List RP)} (hc : c ≤ 65536) (hto : To15 sb g c rs) (st : Star H0 H (st15 X p4 p6 p9 z0 r s o rs)) :
  ∃ H', (∃ c' rs' s' o' zz, ((c' : Nat) : Int) = (if x = 65535 then (c : Int) else max c (x + 1)) ∧ To15 sb g c' rs' ∧ Star H0 H' (st15 X p4 p6 p9 z0 r s' o' rs') ∧
    loopN (ζ20 k (R (T k))) loopFuel [(0, lv encB b), (1, .int .i64 g), (4, ptrV p4), (6, ptrV p6), (8, .int .i64 p), (9, ptrV p9), (10, a10), (11, a11), (12, a12), (13, .int .i64 x)] H =
     .ok (.exit 4, [(0, lv encB b), (1, .int .i64 g), (4, ptrV p4), (6, ptrV p6), (8, .int .i64 p), (9, ptrV p9), (10, a10), (11, a11), (12, a12), (13, .int .i64 x), (67, zz)]) H') ∨
   (∃ n rs' s' o', subsS sb g n = none ∧ (n : Int) ≤ (if x = 65535 then (c : Int) else max c (x + 1)) ∧ Star H0 H' (st15 X p4 p6 p9 (tC r s') r s' o' rs') ∧
    loopN (ζ20 k (R (T k))) loopFuel [(0, lv encB b), (1, .int .i64 g), (4, ptrV p4), (6, ptrV p6), (8, .int .i64 p), (9, ptrV p9), (10, a10), (11, a11), (12, a12), (13, .int .i64 x)] H = .ok (.ret, [(4, ptrV p4), (5, .bool false)]) H') := by
 have hzd : z0.drop 10 = [] := List.drop_of_length_le (by omega)
 have hpr := ζ1v.1 hsb
 have hsl := ζ6q hsb
 have hU := fun (j : Int) H' => refU_run k (H := H') (Sl.lv H' 1 b) hb j 4 (by omega) (by omega)
 have hsbl : sb.length ≤ b.length := ζ56 hsb
 have hR := fun tb htb hl H' => ζhu k tb htb g 2 hg (.inl rfl) hl H'
 obtain ⟨N, hN⟩ : ∃ N : Nat, (if x = 65535 then (c : Int) else max c (x + 1)) = ((c + N : Nat) : Int) := ⟨((if x = 65535 then (c : Int) else max c (x + 1)) - c).toNat, by split <;> omega⟩
 rw [hN]
 obtain ⟨xx, e', H1, hr1, hQ⟩ := loop_up (body := ζ20 k (R (T k))) N
  (fun j e H' => e = [(0, lv encB b), (1, .int .i64 g), (4, ptrV p4), (6, ptrV p6), (8, .int .i64 p), (9, ptrV p9), (10, a10), (11, a11), (12, a12), (13, .int .i64 x)] ∧ ∃ rs' s' o', To15 sb g (c + j) rs' ∧ Star H0 H' (st15 X p4 p6 p9 z0 r s' o' rs'))
  (fun xx e H' => (∃ rs' s' o' zz, xx = .exit 4 ∧ e = [(0, lv encB b), (1, .int .i64 g), (4, ptrV p4), (6, ptrV p6), (8, .int .i64 p), (9, ptrV p9), (10, a10), (11, a11), (12, a12), (13, .int .i64 x), (67, zz)] ∧ To15 sb g (c + N) rs' ∧ Star H0 H' (st15 X p4 p6 p9 z0 r s' o' rs')) ∨
   (∃ n rs' s' o', xx = .ret ∧ e = [(4, ptrV p4), (5, .bool false)] ∧ subsS sb g n = none ∧ n ≤ c + N ∧ Star H0 H' (st15 X p4 p6 p9 (tC r s') r s' o' rs')))
  (e0 := [(0, lv encB b), (1, .int .i64 g), (4, ptrV p4), (6, ptrV p6), (8, .int .i64 p), (9, ptrV p9), (10, a10), (11, a11), (12, a12), (13, .int .i64 x)]) (H0 := H) ⟨rfl, rs, s, o, hto, st⟩ (by split at hN <;> omega)
  (fun j e H' hj ⟨he, rs', s', o', hto', st⟩ => by
   subst he
   have hx5 : ¬ x = 65535 := fun h => by rw [if_pos h] at hN; omega
   rw [if_neg hx5] at hN
   obtain ⟨nn, hnn⟩ : ∃ nn, c + j = nn := ⟨_, rfl⟩
   have en : c + (j + 1) = nn + 1 := by omega
   rw [hnn] at hto'
   have hcx : (nn : Int) ≤ x := by omega
   have hx5' : (x != 65535) = true := by simpa using hx5
   have hlen := hto'.len
   obtain ⟨subs, t1, t2⟩ := hto'
   unfold st15 at st
   have q9 := st.get 2 rfl
   have q4 := st.get 0 rfl
   have hln : ∀ H', lnS s' H' = .ok (.int .i64 rs'.length) H' := (st.row 3 rfl).len
   have hvs := (st.row 3 rfl).veq
   have hsucc := ζi8 sb g nn
   rw [t1, Option.bind_some] at hsucc
   have hu := fun H' => hU (p + 4 * (nn : Int)) H'
   have hur := uS_rest hsb (x := 4 * (nn : Int)) (by omega) 4
   rw [← hur] at hu
   have setz := st.setBlk 0 rfl ⟨tC r s', 1, false⟩
   simp only [List.set_cons_zero] at setz
   rw [hlen] at hln
   cases e1 : uS sb (4 * (nn : Int)) 4 with
   | none =>
    have hno : subsS sb g (nn + 1) = none := by rw [hsucc]; unfold subS; rw [e1]; rfl
    simp only [e1, Option.getD_none] at hu
    refine .inr ⟨.ret, _, H'.set p4 (some ⟨tC r s', 1, false⟩), ?_, by simp, .inr ⟨nn + 1, rs', s', o', rfl, rfl, hno, by omega, setz⟩⟩
    rw [ζ1u]
    simp -implicitDefEqProofs (disch := omega) [hx5', q9, q4, hln, hcx, hu, hz0, hzd]
   | some f =>
    have hf := uS_four (hb.rest hsb) e1
    simp only [e1, Option.getD_some] at hu
    have hf0 : ¬ f < 0 := by omega
    cases e2 : restS sb f with
    | none =>
     have hno : subsS sb g (nn + 1) = none := by rw [hsucc]; unfold subS; rw [e1, Option.bind_some, e2]; rfl
     have hbig : f > (b.length : Int) - p := by
      unfold restS at e2
      split at e2
      ·cases e2
      ·omega
     refine .inr ⟨.ret, _, H'.set p4 (some ⟨tC r s', 1, false⟩), ?_, by simp, .inr ⟨nn + 1, rs', s', o', rfl, rfl, hno, by omega, setz⟩⟩
     rw [ζ1u]
     simp -implicitDefEqProofs (disch := omega) [hx5', q9, q4, hln, hcx, hu, hf0, hbig, hz0, hzd]
    | some tb =>
     have htr := ζ1v.1 e2
     have hnb : ¬ f > (b.length : Int) - p := by omega
     have htl := ζ56 e2
     have htb := (hb.rest hsb).rest e2
     have hcut : ∀ H', slS 1 (lv encB b) (some (.int .i64 (p + f))) none none H' = .ok (lv encB tb) H' := fun H' => by
      rw [slS_lv encB_len b (some (.int .i64 (p + f))) none none (p + f).toNat b.length b.length (by unfold boundOf; dsimp only; rw [if_pos (by omega)]) rfl rfl (fun h => by cases h) (by omega) (Nat.le_refl _) (Nat.le_refl _), List.take_length, htr.2, hpr.2, List.drop_drop]
      congr 3
      omega
     have hr := fun H' => hR tb htb (by omega) H'
     have hlr := look_ref htb hg.1 hg.2 (.inl rfl : (2 : Int) = 2 ∨ (2 : Int) = 4)
     cases e3 : lookS tb g 2 with
     | none =>
      have hno : subsS sb g (nn + 1) = none := by rw [hsucc]; unfold subS; rw [e1, Option.bind_some, e2, Option.bind_some, e3]; rfl
      rw [hlr.2 e3] at hr
      simp [tabRO] at hr
      have st2 := (st.push ⟨[lv encB [], lv encRP []], 1, false⟩).setBlk 0 rfl ⟨tC r s', 1, false⟩
      simp only [List.cons_append, List.nil_append, List.set_cons_zero] at st2
      have n4 : ¬ p4 = H'.n := by have := Heap.get_lt q4; omega
      have n9 : ¬ p9 = H'.n := by have := Heap.get_lt q9; omega
      refine .inr ⟨.ret, _, (H'.push ⟨[lv encB [], lv encRP []], 1, false⟩).set p4 (some ⟨tC r s', 1, false⟩), ?_, by simp, .inr ⟨nn + 1, rs', s', o', rfl, rfl, hno, by omega, (show Star H0 _ (st15 X p4 p6 p9 (tC r s') r s' o' rs' ++ [itBlk H'.n ⟨[lv encB [], lv encRP []], 1, false⟩]) from st2).ζa5⟩⟩
      rw [ζ1u]
      simp -implicitDefEqProofs (disch := omega) [hx5', q9, q4, hln, hcx, hu, hf0, hnb, hcut, hr, hz0, hzd, n4, n9]
     | some xt =>
      obtain ⟨rr, hrr, hrel⟩ := hlr.1 xt e3
      have hrok := ζhw htb hg (.inl rfl) hrr
      have hrl := ζg0 htb hg (.inl rfl) e3 hrr
      rw [hrr] at hr
      simp [tabRO] at hr
      have hyes : subsS sb g (nn + 1) = some (subs ++ [xt]) := by rw [hsucc]; unfold subS; rw [e1, Option.bind_some, e2, Option.bind_some, e3]; rfl
      have n9 : ¬ p9 = H'.n := by have := Heap.get_lt q9; omega
      have n91 : ¬ p9 = H'.n + 1 := by have := Heap.get_lt q9; omega
      have st2 := st.push ⟨[lv encB tb, lv encRP rr], 1, false⟩
      simp only [List.cons_append, List.nil_append] at st2
      obtain ⟨s2, o2, H2, f2, st3⟩ := st2.append1 (bytes := 48) 3 ζgh rfl (tb, rr) (by omega) (by decide)
      simp only [List.set_cons_zero, List.set_cons_succ, hn_push] at st3 f2
      obtain ⟨H3, f3, st4, _⟩ := st3.stCell 2 rfl 9 (st3.row 3 rfl).storable (st3.row 3 rfl).cells (by simp)
      simp only [List.set_cons_zero, List.set_cons_succ] at st4
      refine .inl ⟨_, H3, ?_, rfl, rs' ++ [(tb, rr)], s2, o2, by rw [en]; exact ⟨subs ++ [xt], hyes, t2.snoc ⟨htb, by dsimp only; omega, hrel, hrok, hrl⟩⟩, (show Star H0 _ (st15 X p4 p6 p9 z0 r s2 o2 (rs' ++ [(tb, rr)]) ++ [itBlk H'.n ⟨[lv encB tb, lv encRP rr], 1, false⟩]) from st4).ζa5⟩
      rw [ζ1u]
      simp -implicitDefEqProofs (disch := omega) [-stR_ptr, stR_ptr 2 H'.n 0, hx5', q9, hln, hcx, hu, hf0, hnb, hcut, hr, n9, n91, f2, f3])
  (fun e H' ⟨he, rs', s', o', hto', st⟩ => by
   subst he
   have hlen := hto'.len
   have hst := st
   unfold st15 at st
   have q9 := st.get 2 rfl
   have hln : ∀ H', lnS s' H' = .ok (.int .i64 rs'.length) H' := (st.row 3 rfl).len
   rw [hlen] at hln
   refine ⟨.exit 4, _, H', ?_, by simp, .inl ⟨rs', s', o', .bool false, rfl, rfl, hto', hst⟩⟩
   rw [ζ1u]
   by_cases hx5 : x = 65535
   ·simp -implicitDefEqProofs (disch := omega) [hx5]
   ·rw [if_neg hx5] at hN
    have hx5' : (x != 65535) = true := by simpa using hx5
    obtain ⟨nn, hnn⟩ : ∃ nn, c + N = nn := ⟨_, rfl⟩
    rw [hnn] at hln
    have hcx : ¬ (nn : Int) ≤ x := by omega
    simp -implicitDefEqProofs (disch := omega) [hx5', q9, hln, hcx])
 refine ⟨H1, ?_⟩
 rcases hQ with ⟨rs', s', o', zz, rfl, rfl, h1, h2⟩ | ⟨n, rs', s', o', rfl, rfl, h1, h2, h3⟩
 ·exact .inl ⟨c + N, rs', s', o', zz, rfl, h1, h2, hr1⟩
 ·exact .inr ⟨n, rs', s', o', h1, by omega, h3, hr1⟩
end Go.Sw
end
