/-
  Functions' forms, and what is proved of them, part 2.
-/
import Derived.Test.YtnaodjnimkndbabSwCfg
import Derived.Test.YtnaodjnimkndbabSwW1
set_option linter.unusedSimpArgs false
set_option linter.unusedVariables false
set_option linter.unusedSectionVars false
section
set_option maxRecDepth 100000
set_option linter.unusedVariables false
namespace Go.Sw
noncomputable section
def verb_Order (k : Nat) (call : Caller) (a0 a1 : Value) (h : Heap) : Res Value :=
 (binR Prog .leq 3 a0 (.int .i64 0) h).bind fun v1 h2 =>
 ((bif wantVal v1 false then Res.ok a0 h2 else Res.ok undef h2)).bind fun v3 h4 =>
 ((bif wantVal v1 false then binR Prog .geq 3 v3 (.int .i64 16) h4 else Res.ok undef h4)).bind fun v5 h6 =>
 (condV (some v1) (Res.ok (.bool true) h6) (Res.ok v5 h6)).bind fun v7 h8 =>
 condV (some v7) (
 .ok (.tuple #[(.slice none 0 0), (.bool false)]) h8)
 (
 (call F.verb_of [a0] h8).bind fun v9 h10 =>
 (allocR Prog 274 h10).bind fun v11 h12 =>
 (storeR Prog 274 v11 v9 h12).bind fun _v13 h14 =>
 (fieldAddrR Prog 274 v11 0 h14).bind fun v15 h16 =>
 (loadR Prog 3 v15 h16).bind fun v17 h18 =>
 (fieldAddrR Prog 274 v11 1 h18).bind fun v19 h20 =>
 (loadR Prog 3 v19 h20).bind fun v21 h22 =>
 (binR Prog .add 3 v17 v21 h22).bind fun v23 h24 =>
 (binR Prog .lss 3 a1 v23 h24).bind fun v25 h26 =>
 condV (some v25) (
 .ok (.tuple #[(.slice none 0 0), (.bool false)]) h26)
 (
 (fieldAddrR Prog 274 v11 1 h26).bind fun v27 h28 =>
 (loadR Prog 3 v27 h28).bind fun v29 h30 =>
 (binR Prog .sub 3 a1 v29 h30).bind fun v31 h32 =>
 (fieldAddrR Prog 274 v11 3 h32).bind fun v33 h34 =>
 (loadR Prog 4 v33 h34).bind fun v35 h36 =>
 (call F.verb_span [v31, a1, v35] h36).bind fun v37 h38 =>
 (fieldAddrR Prog 274 v11 0 h38).bind fun v39 h40 =>
 (loadR Prog 3 v39 h40).bind fun v41 h42 =>
 (fieldAddrR Prog 274 v11 1 h42).bind fun v43 h44 =>
 (loadR Prog 3 v43 h44).bind fun v45 h46 =>
 (binR Prog .sub 3 a1 v45 h46).bind fun v47 h48 =>
 (call F.verb_span [v41, v47, (.bool false)] h48).bind fun v49 h50 =>
 (builtinV Prog .append [27, 27] [v37, v49] h50).bind fun v51 h52 =>
 (fieldAddrR Prog 274 v11 0 h52).bind fun v53 h54 =>
 (loadR Prog 3 v53 h54).bind fun v55 h56 =>
 (fieldAddrR Prog 274 v11 2 h56).bind fun v57 h58 =>
 (loadR Prog 4 v57 h58).bind fun v59 h60 =>
 (call F.verb_span [(.int .i64 0), v55, v59] h60).bind fun v61 h62 =>
 (builtinV Prog .append [27, 27] [v51, v61] h62).bind fun v63 h64 =>
 .ok (.tuple #[v63, (.bool true)]) h64))
theorem verb_Order_R (k : Nat) (a0 a1 : Value) (h : Heap) : R (T k) F.verb_Order [a0, a1] h = nrm .fz h (verb_Order k (R (T k)) a0 a1 h) :=
 (R_body (t := T k) (T_scott k) (by kernel_rfl) (by kernel_rfl) _ _).trans (by kernel_rfl)
def verb_of (k : Nat) (call : Caller) (a0 : Value) (h : Heap) : Res Value :=
 (allocR Prog 274 h).bind fun v1 h2 =>
 (buildR Prog 274 [(0, (.int .i64 1))] h2).bind fun v3 h4 =>
 (buildR Prog 274 [(1, (.int .i64 1))] h4).bind fun v5 h6 =>
 (buildR Prog 274 [(0, (.int .i64 1)), (1, (.int .i64 1))] h6).bind fun v7 h8 =>
 (buildR Prog 274 [(0, (.int .i64 2))] h8).bind fun v9 h10 =>
 (buildR Prog 274 [(0, (.int .i64 2)), (2, (.bool true))] h10).bind fun v11 h12 =>
 (buildR Prog 274 [(1, (.int .i64 2))] h12).bind fun v13 h14 =>
 (buildR Prog 274 [(1, (.int .i64 2)), (3, (.bool true))] h14).bind fun v15 h16 =>
 (buildR Prog 274 [(0, (.int .i64 1)), (1, (.int .i64 2))] h16).bind fun v17 h18 =>
 (buildR Prog 274 [(0, (.int .i64 1)), (1, (.int .i64 2)), (3, (.bool true))] h18).bind fun v19 h20 =>
 (buildR Prog 274 [(0, (.int .i64 2)), (1, (.int .i64 1))] h20).bind fun v21 h22 =>
 (buildR Prog 274 [(0, (.int .i64 2)), (1, (.int .i64 1)), (2, (.bool true))] h22).bind fun v23 h24 =>
 (buildR Prog 274 [(0, (.int .i64 2)), (1, (.int .i64 2))] h24).bind fun v25 h26 =>
 (buildR Prog 274 [(0, (.int .i64 2)), (1, (.int .i64 2)), (2, (.bool true))] h26).bind fun v27 h28 =>
 (buildR Prog 274 [(0, (.int .i64 2)), (1, (.int .i64 2)), (3, (.bool true))] h28).bind fun v29 h30 =>
 (buildR Prog 274 [(0, (.int .i64 2)), (1, (.int .i64 2)), (2, (.bool true)), (3, (.bool true))] h30).bind fun v31 h32 =>
 (buildR Prog 332 [(1, v3), (2, v5), (3, v7), (4, v9), (5, v11), (6, v13), (7, v15), (8, v17), (9, v19), (10, v21), (11, v23), (12, v25), (13, v27), (14, v29), (15, v31)] h32).bind fun v33 h34 =>
 (indexR Prog 332 v33 a0 h34).bind fun v35 h36 =>
 (storeR Prog 274 v1 v35 h36).bind fun _v37 h38 =>
 (loadR Prog 274 v1 h38).bind fun v39 h40 =>
 .ok v39 h40
theorem verb_of_R (k : Nat) (a0 : Value) (h : Heap) : R (T k) F.verb_of [a0] h = nrm .gc h (verb_of k (R (T k)) a0 h) :=
 (R_body (t := T k) (T_scott k) (by kernel_rfl) (by kernel_rfl) _ _).trans (by kernel_rfl)
def verb_span_l1 (k : Nat) (call : Caller) : Env → Heap → Res (AExit × Env) := loopB (C k) call F.verb_span [1, 1, 0, 1, 0, 0]
def verb_span_l1k (k : Nat) (call : Caller) : Kont Value := kBlock 0 (kSeq (pieceK (C k) call F.verb_span [1, 1, 1]) (kDone Prog (resOf Prog F.verb_span)))
def verb_span_j1 (k : Nat) (call : Caller) (a0 a1 a2 a7 a11 a12 : Value) (h : Heap) : Res (AExit × Env) :=
 kSeq (pieceK (C k) call F.verb_span [1, 1, 0, 1, 0, 0, 1, 1, 1]) (kRound (ownOf (C k) F.verb_span [1, 1, 0, 1, 0, 0])) .normal [(0, a0), (1, a1), (2, a2), (7, a7), (11, a11), (12, a12)] h
def verb_span (k : Nat) (call : Caller) (a0 a1 a2 : Value) (h : Heap) : Res Value :=
 (binR Prog .sub 3 a1 a0 h).bind fun v1 h2 =>
 (loopN (verb_span_l1 k call) loopFuel [(0, a0), (1, a1), (2, a2), (7, (.slice none 0 0)), (11, v1), (12, (.int .i64 0))] h2).bind fun r3 h4 =>
 verb_span_l1k k call r3.1 r3.2 h4
theorem verb_span_R (k : Nat) (a0 a1 a2 : Value) (h : Heap) : R (T k) F.verb_span [a0, a1, a2] h = nrm .no h (verb_span k (R (T k)) a0 a1 a2 h) :=
 (R_body (t := T k) (T_scott k) (by kernel_rfl) (by kernel_rfl) _ _).trans (by kernel_rfl)
theorem verb_span_l1_eq (k : Nat) (call : Caller) (a0 a1 a2 a7 a11 a12 : Value) (h : Heap) : verb_span_l1 k call [(0, a0), (1, a1), (2, a2), (7, a7), (11, a11), (12, a12)] h =
 (binR Prog .lss 3 a12 a11 h).bind fun v5 h6 =>
 condV (some v5) (
 condV (some a2) (
 (binR Prog .sub 3 a1 (.int .i64 1) h6).bind fun v7 h8 =>
 (binR Prog .sub 3 v7 a12 h8).bind fun v9 h10 =>
 (buildSliceR Prog 27 1 [(0, v9)] h10).bind fun v11 h12 =>
 (builtinV Prog .append [27, 27] [a7, v11] h12).bind fun v13 h14 =>
 verb_span_j1 k call a0 a1 a2 v13 a11 a12 h14)
 (
 (binR Prog .add 3 a0 a12 h6).bind fun v15 h16 =>
 (buildSliceR Prog 27 1 [(0, v15)] h16).bind fun v17 h18 =>
 (builtinV Prog .append [27, 27] [a7, v17] h18).bind fun v19 h20 =>
 verb_span_j1 k call a0 a1 a2 v19 a11 a12 h20))
 (
 .ok ((.exit 0), [(0, a0), (1, a1), (2, a2), (7, a7), (11, a11), (12, a12), (13, v5)]) h6) :=
 (loopB_eq _ _).trans (by kernel_rfl)
theorem verb_span_j1_eq (k : Nat) (call : Caller) (a0 a1 a2 a7 a11 a12 : Value) (h : Heap) : verb_span_j1 k call a0 a1 a2 a7 a11 a12 h =
 (binR Prog .add 3 a12 (.int .i64 1) h).bind fun v21 h22 =>
 .ok (.normal, [(0, a0), (1, a1), (2, a2), (7, a7), (11, a11), (12, v21)]) h22 := by kernel_rfl
theorem verb_span_l1k_x0 (k : Nat) (call : Caller) (a0 a1 a2 a7 a11 a12 a13 : Value) (h : Heap) : verb_span_l1k k call (.exit 0) [(0, a0), (1, a1), (2, a2), (7, a7), (11, a11), (12, a12), (13, a13)] h =
 .ok a7 h := by kernel_rfl
end
end Go.Sw
end
section
namespace Go.Sw
open Go.RowKit
def ofV : Value := .agg (endsT.flatMap fun e => [.int .i64 e.1, .int .i64 e.2.1, .bool e.2.2.1, .bool e.2.2.2]).toArray
set_option maxRecDepth 10000 in
theorem bd_of (h : Heap) : buildR Prog 332 [(1, (.agg #[.int .i64 1, .int .i64 0, .bool false, .bool false])), (2, (.agg #[.int .i64 0, .int .i64 1, .bool false, .bool false])), (3, (.agg #[.int .i64 1, .int .i64 1, .bool false, .bool false])), (4, (.agg #[.int .i64 2, .int .i64 0, .bool false, .bool false])), (5, (.agg #[.int .i64 2, .int .i64 0, .bool true, .bool false])), (6, (.agg #[.int .i64 0, .int .i64 2, .bool false, .bool false])), (7, (.agg #[.int .i64 0, .int .i64 2, .bool false, .bool true])), (8, (.agg #[.int .i64 1, .int .i64 2, .bool false, .bool false])), (9, (.agg #[.int .i64 1, .int .i64 2, .bool false, .bool true])), (10, (.agg #[.int .i64 2, .int .i64 1, .bool false, .bool false])), (11, (.agg #[.int .i64 2, .int .i64 1, .bool true, .bool false])), (12, (.agg #[.int .i64 2, .int .i64 2, .bool false, .bool false])), (13, (.agg #[.int .i64 2, .int .i64 2, .bool true, .bool false])), (14, (.agg #[.int .i64 2, .int .i64 2, .bool false, .bool true])), (15, (.agg #[.int .i64 2, .int .i64 2, .bool true, .bool true]))] h = .ok ofV h :=
 (bd_332 _ h).trans rfl
abbrev endV (e : Int × Int × Bool × Bool) : Value := .agg #[.int .i64 e.1, .int .i64 e.2.1, .bool e.2.2.1, .bool e.2.2.2]
theorem iv_of {v : Int} (hv : ¬ (v ≤ 0 ∨ v ≥ 16)) (h : Heap) : ivA 16 4 ofV (.int .i64 v) h = .ok (endV (endsS v)) h := by
 rcases verb_cases hv with rfl | rfl | rfl | rfl | rfl | rfl | rfl | rfl | rfl | rfl | rfl | rfl | rfl | rfl | rfl <;> rfl
theorem verbOf_run (k : Nat) {v : Int} (hv : ¬ (v ≤ 0 ∨ v ≥ 16)) (H : Heap) : R (T k) F.verb_of [.int .i64 v] H = .ok (endV (endsS v)) H := by
 rw [verb_of_R]
 have iv := fun h => iv_of hv h
 generalize endsS v = e at iv ⊢
 refine nrm_gc ⟨H.push ⟨[.int .i64 e.1, .int .i64 e.2.1, .bool e.2.2.1, .bool e.2.2.2], 1, false⟩, ?_, (Ext.refl H).push _⟩ (Flat.aggL (l := [.int .i64 e.1, .int .i64 e.2.1, .bool e.2.2.1, .bool e.2.2.2]) (.cons (.int _ _) (.cons (.int _ _) (.cons (.bool _) (.cons (.bool _) .nil))))).alive
 simp -implicitDefEqProofs (disch := omega) [-bd_332, bd_of, verb_of, iv]
theorem span_own (k : Nat) (a b : Int) (t : Bool) (ha : -2 ^ 40 < a ∧ a < 2 ^ 40) (hb : -2 ^ 40 < b ∧ b < 2 ^ 40) (hl : b - a < 2 ^ 30) (H : Heap) :
  ∃ s H', R (T k) F.verb_span [.int .i64 a, .int .i64 b, .bool t] H = .ok s H' ∧ Own H H' 1 s encI (spanS a b t) ∧ Ext H H' := by
 have g := (Star.nil H).more_row (Ext.refl _) (OwnO.nil encI _ 1) (fun b hb => by cases hb)
 simp only [List.nil_append] at g
 obtain ⟨x, e', H1, hr1, rfl, s, o, z, rfl, g⟩ := loop_up (body := verb_span_l1 k (R (T k))) (b - a).toNat
  (fun j e H' => ∃ s o, e = [(0, .int .i64 a), (1, .int .i64 b), (2, .bool t), (7, s), (11, .int .i64 (b - a)), (12, .int .i64 j)] ∧ Star H H' [itRow o 1 s encI ((spanS a b t).take j)])
  (fun x e H' => x = .exit 0 ∧ ∃ s o z, e = [(0, .int .i64 a), (1, .int .i64 b), (2, .bool t), (7, s), (11, .int .i64 (b - a)), (12, z), (13, .bool false)] ∧ Star H H' [itRow o 1 s encI (spanS a b t)])
  (e0 := [(0, .int .i64 a), (1, .int .i64 b), (2, .bool t), (7, .slice none 0 0), (11, .int .i64 (b - a)), (12, .int .i64 0)]) (H0 := H) ⟨_, none, rfl, by simpa using g⟩ (by omega)
  (fun j e H' hj ⟨s, o, he, g⟩ => by
   subst he
   have hjl : (j : Int) < b - a := by omega
   have hx : (spanS a b t)[j]? = some (if t then b - 1 - j else a + j) := by
    unfold spanS
    rw [List.getElem?_map, List.getElem?_range hj]
    rfl
   obtain ⟨s', o', H2, e2, g2⟩ := g.append1 (bytes := 8) 0 encI_len rfl (if t then b - 1 - j else a + j) (by rw [List.length_take, spanS_len]; omega) (by decide)
   simp only [List.set_cons_zero] at g2
   rw [← take_snoc hx] at g2
   refine .inl ⟨_, H2, ?_, s', o', rfl, g2⟩
   rw [verb_span_l1_eq]
   cases t with
   | true =>
    simp only [if_true] at e2
    simp -implicitDefEqProofs (disch := omega) [hjl, e2, verb_span_j1_eq]
   | false =>
    simp only [Bool.false_eq_true, if_false] at e2
    simp -implicitDefEqProofs (disch := omega) [hjl, e2, verb_span_j1_eq])
  (fun e H' ⟨s, o, he, g⟩ => by
   subst he
   rw [List.take_of_length_le (by rw [spanS_len]; exact Nat.le_refl _)] at g
   have hns : ¬ (((b - a).toNat : Nat) : Int) < b - a := by omega
   refine ⟨.exit 0, _, H', ?_, by simp, rfl, s, o, .int .i64 ((b - a).toNat : Nat), rfl, g⟩
   rw [verb_span_l1_eq]
   simp -implicitDefEqProofs only [bin_lss, Res.bind_ok, hns, decide_false, condV_bool, Bool.false_eq_true, if_false])
 refine ⟨s, H1, ?_, g.own 0 rfl, g.ext⟩
 rw [verb_span_R]
 refine nrm_of ?_
 simp -implicitDefEqProofs (disch := omega) [verb_span, hr1, verb_span_l1k_x0]
theorem verbOrder_run (k : Nat) (v n : Int) (hv : -2 ^ 62 < v ∧ v < 2 ^ 62) (hn : -2 ^ 26 < n ∧ n < 2 ^ 26) (H : Heap) :
  R (T k) F.verb_Order [.int .i64 v, .int .i64 n] H = .ok (.tuple #[lv encI ((orderS v n).getD []), .bool (orderS v n).isSome]) H := by
 rw [verb_Order_R]
 have fl : ∀ (l : List Int) b, Flat (.tuple #[lv encI l, .bool b]) := fun l b => Flat.tupleL (l := [lv encI l, .bool b]) (.cons (Flat.lv fun p _ => .cons (.int _ _) .nil) (.cons (.bool _) .nil))
 unfold orderS
 by_cases c0 : v ≤ 0
 ·rw [if_pos (.inl c0)]
  refine nrm_fz (v := .tuple #[.slice none 0 0, .bool false]) (u := .tuple #[lv encI [], .bool false]) (L := []) (H' := H) ?_ rfl (Ext.refl H) (fl [] false).alive
  simp -implicitDefEqProofs (disch := omega) [verb_Order, c0]
 by_cases c1 : v ≥ 16
 ·rw [if_pos (.inr (.inl c1))]
  refine nrm_fz (v := .tuple #[.slice none 0 0, .bool false]) (u := .tuple #[lv encI [], .bool false]) (L := []) (H' := H) ?_ rfl (Ext.refl H) (fl [] false).alive
  simp -implicitDefEqProofs (disch := omega) [verb_Order, c0, c1]
 have hvv : ¬ (v ≤ 0 ∨ v ≥ 16) := by omega
 have hof := fun H' => verbOf_run k hvv H'
 obtain ⟨q1, q2, q3, q4, q5⟩ := ends_bound hvv
 generalize endsS v = e at hof q1 q2 q3 q4 q5 ⊢
 obtain ⟨l, r, tl, tr⟩ := e
 dsimp only at hof q1 q2 q3 q4 q5 ⊢
 have hx1 : Ext H (H.push ⟨[.int .i64 l, .int .i64 r, .bool tl, .bool tr], 1, false⟩) := (Ext.refl H).push _
 by_cases c2 : n < l + r
 ·rw [if_pos (.inr (.inr c2))]
  refine nrm_fz (v := .tuple #[.slice none 0 0, .bool false]) (u := .tuple #[lv encI [], .bool false]) (L := []) (H' := H.push ⟨[.int .i64 l, .int .i64 r, .bool tl, .bool tr], 1, false⟩) ?_ rfl hx1 (fl [] false).alive
  simp -implicitDefEqProofs (disch := omega) [verb_Order, c0, c1, hof, c2]
 rw [if_neg (by omega), Option.getD_some, Option.isSome_some]
 have g := (Star.nil H).push ⟨[.int .i64 l, .int .i64 r, .bool tl, .bool tr], 1, false⟩
 simp only [List.nil_append] at g
 obtain ⟨s1, H1, e1, o1, x1⟩ := span_own k (n - r) n tr (by omega) (by omega) (by omega) (H.push ⟨[.int .i64 l, .int .i64 r, .bool tl, .bool tr], 1, false⟩)
 obtain ⟨u1, g⟩ := g.more_own o1 x1
 have b1 := g.get 0 rfl
 obtain ⟨s2, H2, e2, o2, x2⟩ := span_own k l (n - r) false (by omega) (by omega) (by omega) H1
 obtain ⟨u2, g⟩ := g.more_own o2 x2
 simp only [List.cons_append, List.nil_append] at g
 have b2 := g.get 0 rfl
 obtain ⟨s3, u3, H3, e3, g⟩ := g.appendRow (bytes := 8) 1 2 encI_len rfl rfl (by rw [spanS_len, spanS_len]; omega) (by decide)
 simp only [List.set_cons_zero, List.set_cons_succ] at g
 have b3 := g.get 0 rfl
 obtain ⟨s4, H4, e4, o4, x4⟩ := span_own k 0 l tl (by omega) (by omega) (by omega) H3
 obtain ⟨u4, g⟩ := g.more_own o4 x4
 simp only [List.cons_append, List.nil_append] at g
 obtain ⟨s5, u5, H5, e5, g⟩ := g.appendRow (bytes := 8) 1 3 encI_len rfl rfl (by rw [List.length_append, spanS_len, spanS_len, spanS_len]; omega) (by decide)
 simp only [List.set_cons_zero, List.set_cons_succ] at g
 obtain ⟨L, hf⟩ := (g.own 1 rfl).freeze encI_len (fun p _ v hv => by simp at hv; subst hv; trivial) 5
 have hft : fzV H.n H5 fzDepth (.tuple #[s5, .bool true]) = some (.tuple #[lv encI (spanS (n - r) n tr ++ spanS l (n - r) false ++ spanS 0 l tl), .bool true], L ++ []) :=
  fz_tuple (l := [s5, .bool true]) (r := [_, .bool true]) (mapF_cons hf (mapF_still fun v hv => by simp at hv; subst hv; trivial))
 refine nrm_fz (v := .tuple #[s5, .bool true]) (H' := H5) ?_ hft g.ext (fl _ _).alive
 simp -implicitDefEqProofs (disch := omega) [verb_Order, c0, c1, hof, c2, e1, b1, e2, b2, e3, b3, e4, e5]
end Go.Sw
end
section
namespace Go.Sw
open Go.RowKit
section
variable {α : Type} {enc : α → List Value}
theorem OwnO.cut {H : Heap} {o : Option Nat} {m : Nat} {s : Value} {l : List α} (he : ∀ x, (enc x).length = m) (h : OwnO H o m s enc l) (k1 k2 : IntKind) (a n : Nat) (hn : a + n ≤ l.length) :
  ∃ v, slS m s (some (.int k1 a)) (some (.int k2 ((a + n : Nat) : Int))) none H = .ok v H ∧ Sl H m v enc ((l.drop a).take n) := by
 have b1 : ∀ d, boundOf (some (.int k1 (a : Int))) d = some a := fun d => by simp [boundOf]
 have b2 : ∀ d, boundOf (some (.int k2 ((a + n : Nat) : Int))) d = some (a + n) := fun d => by
  unfold boundOf; dsimp only; rw [if_pos (by omega), Int.toNat_natCast]
 have hl : ((l.drop a).take n).length = n := by simp; omega
 rcases h with ⟨h0, rfl, hs⟩ | ⟨b, rfl, rfl, hb⟩
 ·have ha : a = 0 := by simp at hn; omega
  have hn0 : n = 0 := by simp at hn; omega
  subst ha hn0
  rcases hs with rfl | rfl | rfl
  ·refine ⟨.slice none 0 0, ?_, .inr (.inl ⟨by simp, .inl rfl⟩)⟩
   unfold slS; dsimp only; rw [b1, b2]; rfl
  ·refine ⟨emptyV, ?_, .inr (.inl ⟨by simp, .inr (.inr rfl)⟩)⟩
   unfold slS bareV; dsimp only; rw [b1, b2]; rfl
  ·refine ⟨emptyV, ?_, .inr (.inl ⟨by simp, .inr (.inr rfl)⟩)⟩
   unfold slS emptyV; dsimp only; rw [b1, b2]; rfl
 ·refine ⟨.slice (some ⟨b, 0 + a * m, none⟩) n (l.length - a), ?_, .inr (.inr ⟨b, 0 + a * m, l.length - a, _, by rw [hl], by omega, hb, ?_⟩)⟩
  ·unfold slS
   dsimp only
   rw [b1, b2]
   dsimp only [boundOf]
   rw [if_pos ⟨Nat.le_refl _, by omega, by omega, by simp⟩]
   have : openOk H b m none = true := by unfold openOk; rw [hb]; simp
   rw [if_pos this, Nat.add_sub_cancel_left]
  ·rw [hl, ← rows_take he, ← rows_drop he, Nat.zero_add]
end
abbrev encBo (b : Bool) : List Value := [.bool b]
theorem encBo_len (b : Bool) : (encBo b).length = 1 := rfl
def marksO (n : Nat) (o : List Int) : List Bool := (List.range n).map fun (x : Nat) => decide ((x : Int) ∈ o)
theorem marksO_len (n : Nat) (o : List Int) : (marksO n o).length = n := by simp [marksO]
theorem marksO_nil (n : Nat) : marksO n [] = List.replicate n false := by
 unfold marksO
 apply List.ext_getElem?
 intro i
 rw [List.getElem?_map]
 by_cases h : i < n
 ·rw [List.getElem?_range h, List.getElem?_replicate, if_pos h]; rfl
 ·rw [List.getElem?_eq_none (by simpa using h), List.getElem?_replicate, if_neg h]; rfl
theorem marksO_get {n : Nat} (o : List Int) {x : Nat} (h : x < n) : (marksO n o)[x]? = some (decide ((x : Int) ∈ o)) := by
 unfold marksO
 rw [List.getElem?_map, List.getElem?_range h]
 rfl
theorem marksO_set {n : Nat} (o : List Int) {x : Nat} (h : x < n) : (marksO n o).set x true = marksO n (o ++ [(x : Int)]) := by
 apply List.ext_getElem?
 intro i
 by_cases hi : i < n
 ·rw [marksO_get _ hi, List.getElem?_set]
  by_cases hx : x = i
  ·subst hx
   rw [if_pos rfl, if_pos (by rw [marksO_len]; exact h)]
   simp
  ·rw [if_neg hx, marksO_get _ hi]
   have : ¬ (i : Int) = x := by omega
   simp [this]
 ·rw [List.getElem?_eq_none (by rw [List.length_set, marksO_len]; omega), List.getElem?_eq_none (by rw [marksO_len]; omega)]
theorem bools_rep (n : Nat) : repeatCells [.bool false] n = rows encBo (List.replicate n false) := by
 induction n with
 | zero => rfl
 | succ n ih =>
  rw [List.replicate_succ]
  show _ = encBo false ++ rows encBo (List.replicate n false)
  rw [← ih]
  rfl
def toO (o : List Int) (n j : Nat) : Prop := (∀ k, k ∈ o.take j → 0 ≤ k ∧ k < n) ∧ (o.take j).Nodup
theorem toO_step {o : List Int} {n j : Nat} {x : Int} (h : toO o n j) (hx : o[j]? = some x) (h0 : 0 ≤ x) (h1 : x < n) (h2 : x ∉ o.take j) : toO o n (j + 1) := by
 unfold toO
 rw [take_snoc hx]
 refine ⟨fun k hk => ?_, ?_⟩
 ·rcases List.mem_append.1 hk with h' | h'
  ·exact h.1 k h'
  ·have := List.mem_singleton.1 h'
   subst this
   exact ⟨h0, h1⟩
 ·rw [List.nodup_append]
  refine ⟨h.2, by simp, fun a ha b hb => ?_⟩
  have := List.mem_singleton.1 hb
  subst this
  exact fun e => h2 (e ▸ ha)
theorem notO_mem {o : List Int} {j : Nat} {x : Int} (hx : o[j]? = some x) (h : x ∈ o.take j) : ¬ okO o := fun hk => by
 obtain ⟨i, hi⟩ := List.getElem?_of_mem h
 rw [List.getElem?_take] at hi
 split at hi
 ·rename_i hij
  have hn := hk.2
  obtain ⟨h1, e1⟩ := List.getElem?_eq_some_iff.1 hi
  obtain ⟨h2, e2⟩ := List.getElem?_eq_some_iff.1 hx
  exact List.pairwise_iff_getElem.1 hn i j h1 h2 hij (e1.trans e2.symm)
 ·cases hi
theorem notO_out {o : List Int} {j : Nat} {x : Int} (hx : o[j]? = some x) (h : x < 0 ∨ x ≥ o.length) : ¬ okO o := fun hk => by
 have := hk.1 x (List.mem_of_getElem? hx)
 omega
def putTo (l : List Gl) (a : Nat) (o : List Int) (j : Nat) : List Gl := l.take a ++ (((o.take j).map fun k => ((l.drop a)[k.toNat]?).getD ⟨0, 0⟩) ++ l.drop (a + j))
theorem putTo_zero (l : List Gl) (a : Nat) (o : List Int) : putTo l a o 0 = l := by unfold putTo; simp
theorem putTo_all (l : List Gl) (a : Nat) (o : List Int) : putTo l a o o.length = putO l a o := by unfold putTo putO; rw [List.take_length]
theorem putTo_len {l : List Gl} {a : Nat} {o : List Int} {j : Nat} (h : a + o.length ≤ l.length) (hj : j ≤ o.length) : (putTo l a o j).length = l.length := by
 unfold putTo
 simp
 omega
theorem putTo_step {l : List Gl} {a : Nat} {o : List Int} {j : Nat} {x : Int} {g : Gl} (h : a + o.length ≤ l.length) (hx : o[j]? = some x) (hg : (l.drop a)[x.toNat]? = some g) : (putTo l a o j).set (a + j) g = putTo l a o (j + 1) := by
 have hj := (List.getElem?_eq_some_iff.1 hx).1
 unfold putTo
 rw [take_snoc hx, List.map_append, List.set_append_right _ _ (by simp; omega)]
 congr 1
 have e1 : a + j - (l.take a).length = j := by simp; omega
 have e2 : ((o.take j).map fun k => ((l.drop a)[k.toNat]?).getD (⟨0, 0⟩ : Gl)).length = j := by simp; omega
 rw [e1, List.set_append_right _ _ (by omega), e2, Nat.sub_self, List.append_assoc]
 congr 1
 rw [List.drop_eq_getElem_cons (show a + j < l.length by omega), List.set_cons_zero, ← Nat.add_assoc]
 rw [List.getElem?_drop] at hg
 simp [hg]
set_option maxHeartbeats 2000000 in
theorem lineOrder_star (k : Nat) {H0 H : Heap} {L : List It} (h : Star H0 H L) (i : Nat) {c : Nat} {ob : Option Nat} {l : List Gl} (hi : L[i]? = some (itLine c ob l)) (hl : l.length ≤ 2 ^ 31) (a : Int) (o : List Int) (ho : o.length < 2 ^ 62) (ha : -2 ^ 62 < a ∧ a < 2 ^ 62) :
  ∃ H', R (T k) F.line_Line_Order [ptrV c, .int .i64 a, lv encI o] H = .ok (.bool (orderG l a o).isSome) H' ∧ Star H0 H' (L.set i (itLine c ob ((orderG l a o).getD l))) := by
 have hlt := (List.getElem?_eq_some_iff.1 hi).1
 have same : L.set i (itLine c ob l) = L := by
  obtain ⟨hlt, hx⟩ := List.getElem?_eq_some_iff.1 hi
  rw [← hx, List.set_getElem_self]
 obtain ⟨hne, s, h1, h2⟩ := h.box i hi
 simp only [List.nil_append] at h1
 have hln : ∀ H', lnS s H' = .ok (.int .i64 l.length) H' := h2.len
 rw [line_Line_Order_R]
 unfold orderG
 by_cases c1 : 0 ≤ a ∧ a ≤ l.length ∧ (o.length : Int) ≤ l.length - a
 rotate_left
 ·rw [if_neg (fun hc => c1 ⟨hc.1, hc.2.1, hc.2.2.1⟩)]
  refine ⟨H, nrm_of ?_, by rw [Option.getD_none, same]; exact h⟩
  by_cases d1 : a < 0
  ·simp -implicitDefEqProofs (disch := omega) [line_Line_Order, d1]
  ·by_cases d2 : a > l.length
   ·simp -implicitDefEqProofs (disch := omega) [line_Line_Order, d1, h1, hln, d2]
   ·have d3 : (o.length : Int) > l.length - a := by omega
    simp -implicitDefEqProofs (disch := omega) [line_Line_Order, d1, h1, hln, d2, d3]
 obtain ⟨q1, q2, q3⟩ := c1
 obtain ⟨n, rfl⟩ := Int.eq_ofNat_of_zero_le q1
 have d1 : ¬ (n : Int) < 0 := by omega
 have d2 : ¬ (n : Int) > l.length := by omega
 have d3 : ¬ (o.length : Int) > l.length - n := by omega
 obtain ⟨w, hw1, hw2⟩ := h2.cut encG_len .i64 .i64 n o.length (by omega)
 rw [Int.natCast_add] at hw1
 obtain ⟨s7, H1, e1, o1, x1⟩ := clone_sl (bytes := 16) encG_len hw2 (by simp; omega) (by decide)
 obtain ⟨o7, g⟩ := h.more_own o1 x1
 have hmk := fun H' => mkR_nat 1 1 [.bool false] .i64 .i64 o.length H' (by omega) (by omega)
 obtain ⟨Q, hQ⟩ : ∃ Q, Q = L ++ [itRow o7 2 s7 encG ((l.drop n).take o.length)] := ⟨_, rfl⟩
 rw [← hQ] at g
 have hQl : Q.length = L.length + 1 := by rw [hQ]; simp
 obtain ⟨sM, hsM⟩ : ∃ sM, sM = Value.slice (some ⟨H1.n, 0, none⟩) o.length o.length := ⟨_, rfl⟩
 have g := g.more_row (o := some H1.n) (m := 1) (s := sM) (enc := encBo) (l := List.replicate o.length false) ((Ext.refl H1).push ⟨repeatCells [.bool false] o.length, 1, false⟩) (.inr ⟨H1.n, rfl, by rw [hsM, List.length_replicate], by rw [get_push_eq _ _ _ rfl, bools_rep]⟩) (fun b hb => by injection hb with hb; subst hb; simp)
 rw [← marksO_nil] at g
 have hend : ∀ x : It, (Q ++ [x])[Q.length]? = some x := fun x => by simp
 obtain ⟨xx, e', H2, hr1, hX⟩ := loop_up (body := line_Line_Order_l1 k (R (T k))) o.length
  (fun j e H' => e = [(0, ptrV c), (1, .int .i64 n), (2, lv encI o), (7, s7), (8, sM), (50, lv encI o), (51, .int .i64 o.length), (52, .int .i64 j)] ∧ toO o o.length j ∧ Star H0 H' (Q ++ [itRow (some H1.n) 1 sM encBo (marksO o.length (o.take j))]))
  (fun xx e H' => (xx = .exit 0 ∧ e = [(0, ptrV c), (1, .int .i64 n), (2, lv encI o), (7, s7), (8, sM), (50, lv encI o), (51, .int .i64 o.length), (52, .int .i64 o.length), (53, .bool false)] ∧ okO o ∧ Star H0 H' Q) ∨ (xx = .ret ∧ e = [(6, .bool false)] ∧ ¬ okO o ∧ Star H0 H' Q))
  (e0 := [(0, ptrV c), (1, .int .i64 n), (2, lv encI o), (7, s7), (8, sM), (50, lv encI o), (51, .int .i64 o.length), (52, .int .i64 0)]) (H0 := H1.push ⟨repeatCells [.bool false] o.length, 1, false⟩) ⟨rfl, ⟨fun k hk => by simp at hk, by simp⟩, g⟩ (by omega)
  (fun j e H' hj ⟨he, ht, g⟩ => by
   subst he
   have hjl : (j : Int) < o.length := by omega
   obtain ⟨x, hx⟩ : ∃ x, o[j]? = some x := ⟨_, List.getElem?_eq_getElem hj⟩
   have i1 := fun H' => ixS_lvN encI_len o .i64 j x hx H'
   by_cases b1 : x < 0
   ·refine .inr ⟨.ret, _, H', ?_, by simp, .inr ⟨rfl, rfl, notO_out hx (.inl b1), g.drop_last⟩⟩
    rw [line_Line_Order_l1_eq]
    simp -implicitDefEqProofs (disch := omega) [hjl, i1, b1]
   by_cases b2 : x ≥ o.length
   ·refine .inr ⟨.ret, _, H', ?_, by simp, .inr ⟨rfl, rfl, notO_out hx (.inr b2), g.drop_last⟩⟩
    rw [line_Line_Order_l1_eq]
    simp -implicitDefEqProofs (disch := omega) [hjl, i1, b1, b2]
   obtain ⟨y, rfl⟩ := Int.eq_ofNat_of_zero_le (Int.not_lt.1 b1)
   have hy : y < o.length := by omega
   have hm := marksO_get (n := o.length) (o.take j) hy
   obtain ⟨b, hb, hgb, i2⟩ := g.ix Q.length (hend _) .i64 y (by rw [marksO_len]; exact hy)
   injection hb with hb
   subst hb
   have l1 := ld1_row encBo_len hgb (i := y) (c := 0) hm (by decide) rfl
   rw [Nat.add_zero, Nat.mul_one] at l1
   by_cases b3 : (y : Int) ∈ o.take j
   ·rw [decide_eq_true b3] at l1
    refine .inr ⟨.ret, _, H', ?_, by simp, .inr ⟨rfl, rfl, notO_mem hx b3, g.drop_last⟩⟩
    rw [line_Line_Order_l1_eq]
    simp -implicitDefEqProofs (disch := omega) [-ld1_ptr, hjl, i1, b1, b2, i2, l1]
   ·rw [decide_eq_false b3] at l1
    obtain ⟨H3, e3, g3, _⟩ := g.stRow Q.length (hend _) encBo_len (j := y) (c := 0) (n := 1) true (v := .bool true) hm rfl rfl (by decide) rfl
    rw [marksO_set _ hy, ← take_snoc hx, set_at_end] at g3
    rw [Nat.add_zero, Nat.mul_one] at e3
    refine .inl ⟨_, H3, ?_, rfl, toO_step ht hx (by omega) (by omega) b3, g3⟩
    rw [line_Line_Order_l1_eq]
    simp -implicitDefEqProofs (disch := omega) [-ld1_ptr, -stR_ptr, hjl, i1, b1, b2, i2, l1, e3])
  (fun e H' ⟨he, ht, g⟩ => by
   subst he
   refine ⟨.exit 0, _, H', ?_, by simp, .inl ⟨rfl, rfl, ?_, g.drop_last⟩⟩
   ·rw [line_Line_Order_l1_eq]
    simp -implicitDefEqProofs
   ·unfold toO at ht
    rw [List.take_length] at ht
    exact ht)
 rcases hX with ⟨rfl, rfl, hok, g⟩ | ⟨rfl, rfl, hno, g⟩
 rotate_left
 ·rw [if_neg (fun hc => hno hc.2.2.2)]
  rw [hQ] at g
  refine ⟨H2, nrm_of ?_, by rw [Option.getD_none, same]; exact g.drop_last⟩
  rw [hsM] at hr1
  simp -implicitDefEqProofs (disch := omega) [line_Line_Order, d1, h1, hln, d2, d3, hw1, cloneG_R k e1, hmk, hr1, line_Line_Order_l1k_r]
 rw [if_pos ⟨q1, q2, q3, hok⟩, Int.toNat_natCast, Option.getD_some]
 have hiQ : Q[i]? = some (itLine c ob l) := by rw [hQ, List.getElem?_append_left hlt]; exact hi
 have h7 : Q[L.length]? = some (itRow o7 2 s7 encG ((l.drop n).take o.length)) := by rw [hQ]; simp
 have hQs : ∀ l', Q.set i (itLine c ob l') = L.set i (itLine c ob l') ++ [itRow o7 2 s7 encG ((l.drop n).take o.length)] := fun l' => by rw [hQ, List.set_append_left _ _ hlt]
 obtain ⟨xx, e', H4, hr4, rfl, ⟨z, rfl⟩, g⟩ := loop_up (body := line_Line_Order_l2 k (R (T k))) o.length
  (fun j e H' => e = [(0, ptrV c), (1, .int .i64 n), (7, s7), (74, lv encI o), (75, .int .i64 o.length), (76, .int .i64 j)] ∧ Star H0 H' (Q.set i (itLine c ob (putTo l n o j))))
  (fun xx e H' => xx = .exit 2 ∧ (∃ z, e = [(0, ptrV c), (1, .int .i64 n), (7, s7), (74, lv encI o), (75, .int .i64 o.length), (76, z), (77, .bool false)]) ∧ Star H0 H' (Q.set i (itLine c ob (putTo l n o o.length))))
  (e0 := [(0, ptrV c), (1, .int .i64 n), (7, s7), (74, lv encI o), (75, .int .i64 o.length), (76, .int .i64 0)]) (H0 := H2) ⟨rfl, by
   rw [putTo_zero]
   have : Q.set i (itLine c ob l) = Q := by
    obtain ⟨hlt, hx⟩ := List.getElem?_eq_some_iff.1 hiQ
    rw [← hx, List.set_getElem_self]
   rw [this]
   exact g⟩ (by omega)
  (fun j e H' hj ⟨he, g⟩ => by
   subst he
   have hjl : (j : Int) < o.length := by omega
   obtain ⟨x, hx⟩ : ∃ x, o[j]? = some x := ⟨_, List.getElem?_eq_getElem hj⟩
   have i1 := fun H' => ixS_lvN encI_len o .i64 j x hx H'
   have hxb := hok.1 x (List.mem_of_getElem? hx)
   obtain ⟨y, rfl⟩ := Int.eq_ofNat_of_zero_le hxb.1
   have hne : i ≠ L.length := by omega
   have h7' : (Q.set i (itLine c ob (putTo l n o j)))[L.length]? = some (itRow o7 2 s7 encG ((l.drop n).take o.length)) := by rw [List.getElem?_set_ne hne]; exact h7
   have hiQ' : (Q.set i (itLine c ob (putTo l n o j)))[i]? = some (itLine c ob (putTo l n o j)) := List.getElem?_set_self (by rw [hQ, List.length_append]; omega)
   obtain ⟨b7, hb7, hg7, i2⟩ := g.ix L.length h7' .i64 y (by simp; omega)
   obtain ⟨gl, hgl⟩ : ∃ gl, (l.drop n)[y]? = some gl := ⟨_, List.getElem?_eq_getElem (by simp; omega)⟩
   have hgl2 : ((l.drop n).take o.length)[y]? = some gl := by rw [List.getElem?_take, if_pos (by omega)]; exact hgl
   have l1 := ldA_row encG_len hg7 hgl2
   obtain ⟨hne2, s2, k1, k2⟩ := g.box i hiQ'
   simp only [List.nil_append] at k1
   have hpl := putTo_len (l := l) (a := n) (o := o) (j := j) (by omega) (by omega)
   obtain ⟨bL, rfl, hsL, hgL, i3⟩ := k2.ix .i64 (n + j) (by omega)
   obtain ⟨gj, hgj⟩ : ∃ gj, (putTo l n o j)[n + j]? = some gj := ⟨_, List.getElem?_eq_getElem (by omega)⟩
   obtain ⟨H5, e5, g5, _⟩ := g.stBox i hiQ' encG_len (c := 0) (n := 2) gl (v := .agg (encG gl).toArray) hgj rfl rfl (by decide) rfl
   rw [List.set_set, putTo_step (by omega) hx (by rw [Int.toNat_natCast]; exact hgl)] at g5
   rw [Nat.add_zero] at e5
   rw [Int.natCast_add] at i3
   refine .inl ⟨_, H5, ?_, rfl, g5⟩
   rw [line_Line_Order_l2_eq]
   simp -implicitDefEqProofs (disch := omega) [-ldA_ptr, -stR_ptr, hjl, i1, k1, i2, l1, i3, e5])
  (fun e H' ⟨he, g⟩ => by
   subst he
   refine ⟨.exit 2, _, H', ?_, by simp, rfl, ⟨.int .i64 o.length, rfl⟩, g⟩
   rw [line_Line_Order_l2_eq]
   simp -implicitDefEqProofs)
 rw [putTo_all, hQs] at g
 refine ⟨H4, nrm_of ?_, g.drop_last⟩
 rw [hsM] at hr1
 simp -implicitDefEqProofs (disch := omega) [line_Line_Order, d1, h1, hln, d2, d3, hw1, cloneG_R k e1, hmk, hr1, line_Line_Order_l1k_x0, hr4, line_Line_Order_l2k_x2]
end Go.Sw
end
section
set_option maxRecDepth 100000
set_option linter.unusedVariables false
namespace Go.Sw
noncomputable section
def seek_First_l1 (k : Nat) (call : Caller) : Env → Heap → Res (AExit × Env) := loopB (C k) call F.seek_First [1, 1, 0, 0, 0]
def seek_First_l1k (k : Nat) (call : Caller) : Kont Value := kBlock 0 (kSeq (pieceK (C k) call F.seek_First [1, 1, 1]) (kDone Prog (resOf Prog F.seek_First)))
def seek_First (k : Nat) (call : Caller) (a0 a1 : Value) (h : Heap) : Res Value :=
 (loopN (seek_First_l1 k call) loopFuel [(1, a1), (5, (.int .i64 0)), (6, a0)] h).bind fun r1 h2 =>
 seek_First_l1k k call r1.1 r1.2 h2
theorem seek_First_R (k : Nat) (a0 a1 : Value) (h : Heap) : R (T k) F.seek_First [a0, a1] h = nrm .gc h (seek_First k (R (T k)) a0 a1 h) :=
 (R_body (t := T k) (T_scott k) (by kernel_rfl) (by kernel_rfl) _ _).trans (by kernel_rfl)
theorem seek_First_l1_eq (k : Nat) (call : Caller) (a1 a5 a6 : Value) (h : Heap) : seek_First_l1 k call [(1, a1), (5, a5), (6, a6)] h =
 (binR Prog .lss 3 a5 a6 h).bind fun v3 h4 =>
 condV (some v3) (
 (binR Prog .sub 3 a6 a5 h4).bind fun v5 h6 =>
 (binR Prog .quo 3 v5 (.int .i64 2) h6).bind fun v7 h8 =>
 (binR Prog .add 3 a5 v7 h8).bind fun v9 h10 =>
 (callV call a1 [v9] h10).bind fun v11 h12 =>
 condV (some v11) (
 .ok (.normal, [(1, a1), (5, a5), (6, v9)]) h12)
 (
 (binR Prog .add 3 v9 (.int .i64 1) h12).bind fun v13 h14 =>
 .ok (.normal, [(1, a1), (5, v13), (6, a6)]) h14))
 (
 .ok ((.exit 0), [(1, a1), (5, a5), (6, a6), (11, v3)]) h4) :=
 (loopB_eq _ _).trans (by kernel_rfl)
theorem seek_First_l1k_x0 (k : Nat) (call : Caller) (a1 a5 a6 a11 : Value) (h : Heap) : seek_First_l1k k call (.exit 0) [(1, a1), (5, a5), (6, a6), (11, a11)] h =
 .ok a5 h := by kernel_rfl
def seek_Take_l1 (k : Nat) (call : Caller) : Env → Heap → Res (AExit × Env) := loopB (C k) call F.seek_Take [1, 1, 1, 1, 1, 1, 0, 1, 0, 0]
def seek_Take_l1k (k : Nat) (call : Caller) : Kont Value := kBlock 0 (kSeq (pieceK (C k) call F.seek_Take [1, 1, 1, 1, 1, 1, 1]) (kDone Prog (resOf Prog F.seek_Take)))
def seek_Take (k : Nat) (call : Caller) (a0 a1 a2 a3 : Value) (h : Heap) : Res Value :=
 (boxR a0 h).bind fun v1 h2 =>
 (loadR Prog 55 v1 h2).bindN fun v3 h4 =>
 (call F.view_View_U16 [v3, a1] h4).bindT (fun p7 h8 => (loadR Prog 55 v1 h4).bindN fun v9 h10 => (binR Prog .add 3 a1 (.int .i64 2) h10).bindN fun v11 h12 => chkR ((okVal (loadR Prog 55 v1 h2) v9 && true) && true) (.panic p7 h8)) fun v5 h6 =>
 (loadR Prog 55 v1 h6).bindN fun v13 h14 =>
 (binR Prog .add 3 a1 (.int .i64 2) h14).bindN fun v15 h16 =>
 (call F.view_View_U16 [v13, v15] h16).bindT (fun p19 h20 => chkR ((okVal (loadR Prog 55 v1 h2) v13 && true) && true) (.panic p19 h20)) fun v17 h18 =>
 chkR ((okVal (loadR Prog 55 v1 h2) v13 && true) && true) (
 (loadR Prog 55 v1 h18).bind fun v21 h22 =>
 (call F.view_View_Cut [v21, a1, (.int .i64 10)] h22).bind fun v23 h24 =>
 (binR Prog .geq 3 v5 a2 h24).bind fun v25 h26 =>
 (call F.view_Need [v25] h26).bind fun v27 h28 =>
 (loadR Prog 55 v1 h28).bind fun v29 h30 =>
 (binR Prog .add 3 a1 (.int .i64 10) h30).bind fun v31 h32 =>
 (call F.view_View_Rows [v29, v31, v17, v5] h32).bind fun v33 h34 =>
 (allocR Prog 55 h34).bind fun v35 h36 =>
 (storeR Prog 55 v35 v33 h36).bind fun _v37 h38 =>
 (loopN (seek_Take_l1 k call) loopFuel [(3, a3), (9, v5), (10, v17), (11, v35), (12, (.slice none 0 0)), (34, v17), (35, (.int .i64 0))] h38).bind fun r39 h40 =>
 seek_Take_l1k k call r39.1 r39.2 h40)
theorem seek_Take_R (k : Nat) (a0 a1 a2 a3 : Value) (h : Heap) : R (T k) F.seek_Take [a0, a1, a2, a3] h = nrm .fz h (seek_Take k (R (T k)) a0 a1 a2 a3 h) :=
 (R_body (t := T k) (T_scott k) (by kernel_rfl) (by kernel_rfl) _ _).trans (by kernel_rfl)
theorem seek_Take_l1_eq (k : Nat) (call : Caller) (a3 a9 a10 a11 a12 a34 a35 : Value) (h : Heap) : seek_Take_l1 k call [(3, a3), (9, a9), (10, a10), (11, a11), (12, a12), (34, a34), (35, a35)] h =
 (binR Prog .lss 3 a35 a34 h).bind fun v41 h42 =>
 condV (some v41) (
 (loadR Prog 55 a11 h42).bind fun v43 h44 =>
 (binR Prog .mul 3 a9 a35 h44).bind fun v45 h46 =>
 (call F.view_View_Cut [v43, v45, a9] h46).bind fun v47 h48 =>
 (buildSliceR Prog 368 1 [(0, v47)] h48).bind fun v49 h50 =>
 (builtinV Prog .append [368, 368] [a12, v49] h50).bind fun v51 h52 =>
 (binR Prog .add 3 a35 (.int .i64 1) h52).bind fun v53 h54 =>
 .ok (.normal, [(3, a3), (9, a9), (10, a10), (11, a11), (12, v51), (34, a34), (35, v53)]) h54)
 (
 .ok ((.exit 0), [(3, a3), (9, a9), (10, a10), (11, a11), (12, a12), (34, a34), (35, a35), (36, v41)]) h42) :=
 (loopB_eq _ _).trans (by kernel_rfl)
theorem seek_Take_l1k_x0 (k : Nat) (call : Caller) (a3 a9 a10 a11 a12 a34 a35 a36 : Value) (h : Heap) : seek_Take_l1k k call (.exit 0) [(3, a3), (9, a9), (10, a10), (11, a11), (12, a12), (34, a34), (35, a35), (36, a36)] h =
 (binR Prog .gtr 3 a10 (.int .i64 0) h).bind fun v55 h56 =>
 ((bif wantVal v55 true then Res.ok a12 h56 else Res.ok undef h56)).bind fun v57 h58 =>
 ((bif wantVal v55 true then Res.ok a10 h58 else Res.ok undef h58)).bind fun v59 h60 =>
 ((bif wantVal v55 true then binR Prog .sub 3 v59 (.int .i64 1) h60 else Res.ok undef h60)).bind fun v61 h62 =>
 ((bif wantVal v55 true then indexAddrR Prog 368 v57 v61 h62 else Res.ok undef h62)).bind fun v63 h64 =>
 ((bif wantVal v55 true then loadR Prog 55 v63 h64 else Res.ok undef h64)).bind fun v65 h66 =>
 ((bif wantVal v55 true then Res.ok a3 h66 else Res.ok undef h66)).bind fun v67 h68 =>
 ((bif wantVal v55 true then call F.seek_none [v65, v67] h68 else Res.ok undef h68)).bind fun v69 h70 =>
 (condV (some v55) (Res.ok v69 h70) (Res.ok (.bool false) h70)).bind fun v71 h72 =>
 condV (some v71) (
 (binR Prog .sub 3 a10 (.int .i64 1) h72).bind fun v73 h74 =>
 (sliceR Prog 368 a12 none (some v73) none h74).bind fun v75 h76 =>
 .ok v75 h76)
 (
 .ok a12 h72) := by kernel_rfl
def seek_none_l1 (k : Nat) (call : Caller) : Env → Heap → Res (AExit × Env) := loopB (C k) call F.seek_none [1, 0, 1, 0, 0]
def seek_none_l1k (k : Nat) (call : Caller) : Kont Value := kBlock 0 (kSeq (pieceK (C k) call F.seek_none [1, 1]) (kDone Prog (resOf Prog F.seek_none)))
def seek_none (k : Nat) (call : Caller) (a0 a1 : Value) (h : Heap) : Res Value :=
 (boxR a0 h).bind fun v1 h2 =>
 (loopN (seek_none_l1 k call) loopFuel [(2, v1), (6, a1), (7, (.int .i64 0))] h2).bind fun r3 h4 =>
 seek_none_l1k k call r3.1 r3.2 h4
theorem seek_none_R (k : Nat) (a0 a1 : Value) (h : Heap) : R (T k) F.seek_none [a0, a1] h = nrm .gc h (seek_none k (R (T k)) a0 a1 h) :=
 (R_body (t := T k) (T_scott k) (by kernel_rfl) (by kernel_rfl) _ _).trans (by kernel_rfl)
theorem seek_none_l1_eq (k : Nat) (call : Caller) (a2 a6 a7 : Value) (h : Heap) : seek_none_l1 k call [(2, a2), (6, a6), (7, a7)] h =
 (binR Prog .lss 3 a7 a6 h).bind fun v5 h6 =>
 condV (some v5) (
 (loadR Prog 55 a2 h6).bind fun v7 h8 =>
 (binR Prog .mul 3 (.int .i64 2) a7 h8).bind fun v9 h10 =>
 (call F.view_View_U16 [v7, v9] h10).bind fun v11 h12 =>
 (binR Prog .neq 3 v11 (.int .i64 65535) h12).bind fun v13 h14 =>
 condV (some v13) (
 .ok (.ret, [(4, (.bool false))]) h14)
 (
 (binR Prog .add 3 a7 (.int .i64 1) h14).bind fun v15 h16 =>
 .ok (.normal, [(2, a2), (6, a6), (7, v15)]) h16))
 (
 .ok ((.exit 0), [(2, a2), (6, a6), (7, a7), (8, v5)]) h6) :=
 (loopB_eq _ _).trans (by kernel_rfl)
theorem seek_none_l1k_r (k : Nat) (call : Caller) (a4 : Value) (h : Heap) : seek_none_l1k k call .ret [(4, a4)] h =
 .ok a4 h := by kernel_rfl
theorem seek_none_l1k_x0 (k : Nat) (call : Caller) (a2 a6 a7 a8 : Value) (h : Heap) : seek_none_l1k k call (.exit 0) [(2, a2), (6, a6), (7, a7), (8, a8)] h =
 .ok (.bool true) h := by kernel_rfl
end
end Go.Sw
end
section
namespace Go.Sw
open Go.RowKit
def Asks (k : Nat) (f : Value) (n : Nat) (p : Nat → Bool) (H : Heap) : Prop := ∀ j : Nat, j < n → callV (R (T k)) f [.int .i64 j] H = .ok (.bool (p j)) H
def IsFirst (n : Nat) (p : Nat → Bool) (i : Nat) : Prop := i ≤ n ∧ (∀ j, j < i → p j = false) ∧ ∀ j, i ≤ j → j < n → p j = true
theorem First_run (k : Nat) (n : Nat) (f : Value) (p : Nat → Bool) (H : Heap) (hn : n < 2 ^ 62) (hf : Asks k f n p H) (hm : ∀ i j, i ≤ j → j < n → p i = true → p j = true) (i : Nat) (hi : IsFirst n p i) :
  R (T k) F.seek_First [.int .i64 n, f] H = .ok (.int .i64 i) H := by
 rw [seek_First_R]
 refine nrm_gc (Pure.of ?_) (.int _ _)
 obtain ⟨x, e', H1, hr, rfl, rfl, a, rfl⟩ := loopDec (body := seek_First_l1 k (R (T k)))
  (fun m e H' => H' = H ∧ ∃ lo hi : Nat, m = hi - lo ∧ e = [(1, f), (5, .int .i64 lo), (6, .int .i64 hi)] ∧ lo ≤ i ∧ i ≤ hi ∧ hi ≤ n)
  (fun x e H' => H' = H ∧ x = .exit 0 ∧ ∃ a, e = [(1, f), (5, .int .i64 i), (6, .int .i64 i), (11, a)])
  (e0 := [(1, f), (5, .int .i64 0), (6, .int .i64 n)]) (H0 := H) n ⟨rfl, 0, n, by omega, rfl, by omega, hi.1, Nat.le_refl _⟩ (by omega)
  (fun m e H' ⟨hH, lo, hg, hmm, he, h1, h2, h3⟩ => by
   subst hH he
   by_cases hlt : lo < hg
   ·have hlt' : (lo : Int) < hg := by omega
    obtain ⟨d, hd1, hd2⟩ : ∃ d, 2 * d ≤ hg - lo ∧ hg - lo < 2 * d + 2 := ⟨(hg - lo) / 2, by omega, by omega⟩
    have hmid : (((hg : Int) - lo).tdiv 2) = (d : Nat) := by
     rw [Int.tdiv_eq_ediv_of_nonneg (by omega)]; omega
    have q := bin_quo Prog 3 H' .i64 ((hg : Int) - lo) 2 (by decide)
    rw [hmid] at q
    have ha := hf (lo + d) (by omega)
    rw [show (((lo + d : Nat) : Nat) : Int) = (lo : Int) + (d : Nat) by omega] at ha
    have hle : ((d : Nat) : Int) ≤ hg - lo := by omega
    refine .inl ?_
    cases hp : p (lo + d) with
    | true =>
     rw [hp] at ha
     refine ⟨(lo + d) - lo, _, H', ?_, by omega, rfl, lo, lo + d, rfl, rfl, h1, ?_, by omega⟩
     ·rw [seek_First_l1_eq]
      simp -implicitDefEqProofs (disch := omega) [hlt', q, ha]
     ·rcases Nat.lt_or_ge (lo + d) i with h | h
      ·rw [hi.2.1 _ h] at hp; cases hp
      ·exact h
    | false =>
     rw [hp] at ha
     refine ⟨hg - (lo + d + 1), _, H', ?_, by omega, rfl, lo + d + 1, hg, rfl, rfl, ?_, h2, h3⟩
     ·rw [seek_First_l1_eq]
      simp -implicitDefEqProofs (disch := omega) [hlt', q, ha]
     ·rcases Nat.lt_or_ge (lo + d) i with h | h
      ·exact h
      ·rw [hi.2.2 _ h (by omega)] at hp; cases hp
   ·have hlt' : ¬ (lo : Int) < hg := by omega
    have e1 : lo = i := by omega
    have e2 : hg = i := by omega
    subst e1
    rw [e2]
    refine .inr ⟨.exit 0, _, H', ?_, by simp, rfl, rfl, .bool false, rfl⟩
    rw [seek_First_l1_eq]
    simp -implicitDefEqProofs (disch := omega))
 simp -implicitDefEqProofs (disch := omega) [seek_First, hr, seek_First_l1k_x0]
theorem isFirst_ex (n : Nat) (p : Nat → Bool) (hm : ∀ i j, i ≤ j → j < n → p i = true → p j = true) : ∃ i, IsFirst n p i := by
 induction n with
 | zero => exact ⟨0, Nat.le_refl _, fun j h => by omega, fun j h1 h2 => by omega⟩
 | succ n ih =>
  obtain ⟨i, h1, h2, h3⟩ := ih fun a b hab hb => hm a b hab (by omega)
  by_cases hi : i < n
  ·exact ⟨i, by omega, h2, fun j hj hn => by
    by_cases he : j = n
    ·subst he; exact hm i j hj hn (h3 i (Nat.le_refl _) hi)
    ·exact h3 j hj (by omega)⟩
  ·have : i = n := by omega
   subst this
   cases hp : p i with
   | true => exact ⟨i, by omega, h2, fun j hj hn => by rw [show j = i by omega]; exact hp⟩
   | false => exact ⟨i + 1, Nat.le_refl _, fun j hj => by
     by_cases he : j = i
     ·subst he; exact hp
     ·exact h2 j (by omega), fun j h1 h2 => by omega⟩
def noneS (l : List Int) (keys : Nat) : Bool := (List.range keys).all fun j => uS l (2 * j) 2 == some 65535
theorem none_run (k : Nat) {H : Heap} {v : Value} {l : List Int} (hv : Sl H 1 v encB l) (hb : Byt l) (keys : Nat) (hl : l.length < 2 ^ 62) (hk : 2 * keys ≤ l.length) : R (T k) F.seek_none [.agg #[v], .int .i64 keys] H = .ok (.bool (noneS l keys)) H := by
 rw [seek_none_R]
 obtain ⟨x, e', H1, hr, hH, hq⟩ := loop_up (body := seek_none_l1 k (R (T k))) keys
  (fun j e H' => H' = H.push ⟨[v], 1, false⟩ ∧ (∀ i, i < j → uS l (2 * (i : Nat)) 2 = some 65535) ∧ e = [(2, .pointer (some ⟨H.n, 0, none⟩)), (6, .int .i64 keys), (7, .int .i64 j)])
  (fun x e H' => H' = H.push ⟨[v], 1, false⟩ ∧ ((x = .ret ∧ e = [(4, .bool false)] ∧ noneS l keys = false) ∨ (∃ a, x = .exit 0 ∧ e = [(2, .pointer (some ⟨H.n, 0, none⟩)), (6, .int .i64 keys), (7, .int .i64 keys), (8, a)] ∧ noneS l keys = true)))
  (e0 := [(2, .pointer (some ⟨H.n, 0, none⟩)), (6, .int .i64 keys), (7, .int .i64 0)]) (H0 := H.push ⟨[v], 1, false⟩) ⟨rfl, fun i h => by omega, rfl⟩ (by omega)
  (fun j e H' hj ⟨hH, ha, he⟩ => by
   subst he hH
   have hlt : (j : Int) < keys := by omega
   have hu := U16_run k (hv.up ((Ext.refl H).push ⟨[v], 1, false⟩)) hb (2 * (j : Int)) hl
   obtain ⟨x, hx⟩ : ∃ x, uS l (2 * (j : Int)) 2 = some x := by
    unfold uS pieceS
    rw [if_pos (by omega)]
    exact ⟨_, rfl⟩
   rw [hx] at hu
   by_cases he : x = 65535
   ·subst he
    refine .inl ⟨_, _, ?_, rfl, fun i hi => ?_, rfl⟩
    ·rw [seek_none_l1_eq]
     simp -implicitDefEqProofs (disch := omega) [hlt, hu]
    ·by_cases hij : i = j
     ·subst hij; exact hx
     ·exact ha i (by omega)
   ·refine .inr ⟨.ret, _, _, ?_, by simp, rfl, .inl ⟨rfl, rfl, ?_⟩⟩
    ·have hne : (x != 65535) = true := by simpa using he
     rw [seek_none_l1_eq]
     simp -implicitDefEqProofs (disch := omega) [hlt, hu, hne]
    ·unfold noneS
     rw [List.all_eq_false]
     exact ⟨j, List.mem_range.2 hj, by rw [hx]; simpa using he⟩)
  (fun e H' ⟨hH, ha, he⟩ => by
   subst he hH
   refine ⟨.exit 0, _, _, ?_, by simp, rfl, .inr ⟨.bool false, rfl, rfl, ?_⟩⟩
   ·rw [seek_none_l1_eq]
    simp -implicitDefEqProofs
   ·unfold noneS
    rw [List.all_eq_true]
    intro i hi
    rw [ha i (List.mem_range.1 hi)]
    rfl)
 subst hH
 refine nrm_gc ⟨_, ?_, (Ext.refl H).push ⟨[v], 1, false⟩⟩ (.bool _)
 rcases hq with ⟨rfl, rfl, hn⟩ | ⟨a, rfl, rfl, hn⟩ <;> simp -implicitDefEqProofs (disch := omega) [seek_none, boxR_vw, hr, seek_none_l1k_r, seek_none_l1k_x0, hn]
abbrev encW (u : Value) : List Value := [u]
theorem encW_len (u : Value) : (encW u).length = 1 := rfl
def cutRows (r : List Int) (z n : Nat) : List (List Int) := (List.range n).map fun i => (r.drop (z * i)).take z
@[simp] theorem cutRows_len (r : List Int) (z n : Nat) : (cutRows r z n).length = n := by simp [cutRows]
theorem cutRows_get (r : List Int) (z n i : Nat) (h : i < n) : (cutRows r z n)[i]? = some ((r.drop (z * i)).take z) := by simp [cutRows, h]
def endRows (r : List Int) (z n keys : Nat) : List (List Int) := if 0 < n ∧ noneS ((r.drop (z * (n - 1))).take z) keys = true then cutRows r z (n - 1) else cutRows r z n
def takeS (b : List Int) (i need : Int) (keys : Nat) : Option (List (List Int)) :=
 match uS b i 2, uS b (i + 2) 2 with
 | some z, some n => if (pieceS b i 10).isSome ∧ need ≤ z then (rowsS b (i + 10) n z).map fun r => endRows r z.toNat n.toNat keys else none
 | _, _ => none
def cutV (r : Value) (z n : Nat) : List Value := (List.range n).map fun i => subV 1 r (z * i) z
@[simp] theorem cutV_len (r : Value) (z n : Nat) : (cutV r z n).length = n := by simp [cutV]
theorem cutV_succ (r : Value) (z n : Nat) : cutV r z (n + 1) = cutV r z n ++ [subV 1 r (z * n) z] := by simp [cutV, List.range_succ]
theorem cutV_get (r : Value) (z n i : Nat) (h : i < n) : (cutV r z n)[i]? = some (subV 1 r (z * i) z) := by simp [cutV, h]
theorem cutV_take (r : Value) (z n : Nat) : (cutV r z n).take (n - 1) = cutV r z (n - 1) := by
 cases n with
 | zero => rfl
 | succ n => rw [cutV_succ]; simp
theorem cutV_sl {H : Heap} {rv : Value} {r : List Int} (hv : Sl H 1 rv encB r) (z n i : Nat) (hr : r.length = n * z) (h : i < n) : Sl H 1 (subV 1 rv (z * i) z) encB ((r.drop (z * i)).take z) := by
 have hzi : z * i + z ≤ r.length := by
  rw [hr, ← Nat.mul_succ, Nat.mul_comm]
  exact Nat.mul_le_mul_right _ h
 exact (hv.sub encB_len .i64 .i64 .i64 (z * i) z hzi).2
theorem Take_loop (k : Nat) {rv : Value} (r : List Int) (keys z n : Nat) (hr : r.length = n * z) (hz : z < 65536) (hn : n < 65536) (p : Nat) {H : Heap} (hv : Sl H 1 rv encB r) (hp : H.get p = some ⟨[rv], 1, false⟩) :
  ∃ s H', loopN (seek_Take_l1 k (R (T k))) loopFuel [(3, .int .i64 keys), (9, .int .i64 z), (10, .int .i64 n), (11, .pointer (some ⟨p, 0, none⟩)), (12, .slice none 0 0), (34, .int .i64 n), (35, .int .i64 0)] H =
   .ok (.exit 0, [(3, .int .i64 keys), (9, .int .i64 z), (10, .int .i64 n), (11, .pointer (some ⟨p, 0, none⟩)), (12, s), (34, .int .i64 n), (35, .int .i64 n), (36, .bool false)]) H' ∧ Own H H' 1 s encW (cutV rv z n) ∧ Ext H H' := by
 have hlen : r.length < 2 ^ 62 := by
  have : n * z ≤ 65536 * 65536 := Nat.mul_le_mul (by omega) (by omega)
  omega
 obtain ⟨x, e', H', hr', s, rfl, rfl, ho, hx⟩ := loop_up (body := seek_Take_l1 k (R (T k))) n
  (fun i e H' => ∃ s, e = [(3, .int .i64 keys), (9, .int .i64 z), (10, .int .i64 n), (11, .pointer (some ⟨p, 0, none⟩)), (12, s), (34, .int .i64 n), (35, .int .i64 i)] ∧ Own H H' 1 s encW (cutV rv z i) ∧ Ext H H')
  (fun x e H' => ∃ s, x = .exit 0 ∧ e = [(3, .int .i64 keys), (9, .int .i64 z), (10, .int .i64 n), (11, .pointer (some ⟨p, 0, none⟩)), (12, s), (34, .int .i64 n), (35, .int .i64 n), (36, .bool false)] ∧ Own H H' 1 s encW (cutV rv z n) ∧ Ext H H')
  (e0 := [(3, .int .i64 keys), (9, .int .i64 z), (10, .int .i64 n), (11, .pointer (some ⟨p, 0, none⟩)), (12, .slice none 0 0), (34, .int .i64 n), (35, .int .i64 0)]) (H0 := H) ⟨_, rfl, Own.nil _ _ _, Ext.refl H⟩ (by omega)
  (fun i e H' hi ⟨s, he, ho, hx⟩ => by
   subst he
   have hlt : (i : Int) < n := by omega
   have hpg := hx.get hp
   have hzi : z * i + z ≤ r.length := by
    rw [hr, ← Nat.mul_succ, Nat.mul_comm]
    exact Nat.mul_le_mul_right _ hi
   have hcut := Cut_run k (hv.up hx) ((z : Int) * i) z hlen
   have e1 : ((z : Int) * i) = ((z * i : Nat) : Int) := by simp
   have hps : pieceS r ((z : Int) * i) z = some ((r.drop (z * i)).take z) := by
    rw [e1, pieceS, if_pos (by omega), Int.toNat_natCast, Int.toNat_natCast]
   have e2 : ((z : Int) * i).toNat = z * i := by rw [e1, Int.toNat_natCast]
   rw [hps, e2, Int.toNat_natCast] at hcut
   have hmul : ((z : Int) * i) ≤ 9223372036854775807 := by omega
   have hmul0 : 0 ≤ ((z : Int) * i) := Int.mul_nonneg (by omega) (by omega)
   have hsl := cutV_sl hv z n i hr hi
   obtain ⟨s', H2, e3, o1, x1⟩ := ap1_own (bytes := 24) encW_len ho hx (subV 1 rv (z * i) z) (by simp; omega) (by decide)
   refine .inl ⟨_, H2, ?_, s', rfl, by rw [cutV_succ]; exact o1, x1⟩
   rw [seek_Take_l1_eq]
   generalize subV 1 rv (z * i) z = u at hcut hsl e3
   simp -implicitDefEqProofs (disch := omega) [hlt, hpg, hcut, e3])
  (fun e H' ⟨s, he, ho, hx⟩ => by
   subst he
   refine ⟨.exit 0, _, H', ?_, by simp, s, rfl, rfl, ho, hx⟩
   rw [seek_Take_l1_eq]
   simp -implicitDefEqProofs (disch := omega))
 exact ⟨s, H', hr', ho, hx⟩
def rowsV (v : Value) (b : List Int) (i : Int) : Value := subV 1 v (i + 10).toNat (((uS b (i + 2) 2).getD 0) * ((uS b i 2).getD 0)).toNat
def rowZ (b : List Int) (i : Int) : Nat := ((uS b i 2).getD 0).toNat
theorem cutV_fz {H0 H : Heap} {rv : Value} (h : Firm H0 rv) (z n d : Nat) : ∀ x, x ∈ cutV rv z n → ∀ v, v ∈ encW x → fzV H0.n H (d + 1) v = some (v, []) := fun x hx v hv => by
 simp at hv
 subst hv
 obtain ⟨i, _, rfl⟩ := List.mem_map.1 hx
 exact (h.sub 1 _ _).fz d
theorem cutV_alive {H : Heap} {rv : Value} {r : List Int} (hv : Sl H 1 rv encB r) (z n m : Nat) (hr : r.length = n * z) (hm : m ≤ n) : Alive H (lv encW (cutV rv z m)) := .list _ _ _ _ _ fun i u hu => by
 have hu : (rows encW (cutV rv z m))[i]? = some u := by simpa using hu
 have : rows encW (cutV rv z m) = cutV rv z m := by simp [rows]
 rw [this] at hu
 have hi := (List.getElem?_eq_some_iff.1 hu).1
 simp at hi
 rw [cutV_get _ _ _ _ hi] at hu
 injection hu with hu; subst hu
 exact (cutV_sl hv z n i hr (by omega)).alive fun _ _ => .cons (.int _ _) .nil
theorem Take_run (k : Nat) {H : Heap} {v : Value} {b : List Int} (hv : Sl H 1 v encB b) (hb : Byt b) (i need : Int) (keys : Nat) (hl : b.length < 2 ^ 31) (hi0 : -4294967296 ≤ i) (hi : i < 4294967296) (hk : 2 * (keys : Int) ≤ need) :
  R (T k) F.seek_Take [.agg #[v], .int .i64 i, .int .i64 need, .int .i64 keys] H = orF (takeS b i need keys) (fun l => lv encW (cutV (rowsV v b i) (rowZ b i) l.length)) H := by
 rw [seek_Take_R]
 have ext1 : Ext H (H.push ⟨[v], 1, false⟩) := (Ext.refl H).push _
 have hu1 := U16_run k (hv.up ext1) hb i (by omega)
 have hu2 := U16_run k (hv.up ext1) hb (i + 2) (by omega)
 have hcut := Cut_run k (hv.up ext1) i 10 (by omega)
 have hq : veq v v = true := hv.veq fun n _ u hu => by simp at hu; subst hu; simp
 have hqa : veq (.agg #[v]) (.agg #[v]) = true := veq_agg (l := [v]) fun u hu => by simp at hu; subst hu; exact hq
 cases h1 : uS b i 2 with
 | none =>
  have e : takeS b i need keys = none := by unfold takeS; rw [h1]
  rw [h1] at hu1
  rw [e]
  refine nrm_throw ⟨_, ?_, ext1⟩ Flat.fail.alive
  simp -implicitDefEqProofs (disch := omega) [seek_Take, hqa, hu1]
 | some z =>
  have hz := uS_two hb h1
  rw [h1] at hu1
  cases h2 : uS b (i + 2) 2 with
  | none =>
   have e : takeS b i need keys = none := by unfold takeS; rw [h1, h2]
   rw [h2] at hu2
   rw [e]
   refine nrm_throw ⟨_, ?_, ext1⟩ Flat.fail.alive
   simp -implicitDefEqProofs (disch := omega) [seek_Take, hqa, hu1, hu2]
  | some n =>
   have hn := uS_two hb h2
   rw [h2] at hu2
   cases h3 : pieceS b i 10 with
   | none =>
    have e : takeS b i need keys = none := by unfold takeS; rw [h1, h2]; simp [h3]
    rw [h3] at hcut
    rw [e]
    refine nrm_throw ⟨_, ?_, ext1⟩ Flat.fail.alive
    simp -implicitDefEqProofs (disch := omega) [seek_Take, hqa, hu1, hu2, hcut]
   | some c =>
    rw [h3] at hcut
    by_cases h4 : need ≤ z
    ·have hrows := Rows_run k (hv.up ext1) (i + 10) n z (by omega)
     cases h5 : rowsS b (i + 10) n z with
     | none =>
      have e : takeS b i need keys = none := by unfold takeS; rw [h1, h2]; simp [h3, h4, h5]
      rw [h5] at hrows
      rw [e]
      refine nrm_throw ⟨_, ?_, ext1⟩ Flat.fail.alive
      simp -implicitDefEqProofs (disch := omega) [seek_Take, hqa, hu1, hu2, hcut, h4, hrows]
     | some r =>
      have e : takeS b i need keys = some (endRows r z.toNat n.toNat keys) := by unfold takeS; rw [h1, h2]; simp [h3, h4, h5]
      rw [h5] at hrows
      rw [e]
      obtain ⟨z, rfl⟩ := Int.eq_ofNat_of_zero_le hz.1
      obtain ⟨n, rfl⟩ := Int.eq_ofNat_of_zero_le hn.1
      rw [Int.toNat_natCast, Int.toNat_natCast]
      have hp5 : pieceS b (i + 10) ((n : Int) * z) = some r := by
       unfold rowsS at h5
       split at h5
       ·exact h5
       ·cases h5
      have hrl : r.length = n * z := by have := pieceS_len hp5; exact_mod_cast this
      have hrb := (hb.piece hp5).1
      have hrv : rowsV v b i = subV 1 v (i + 10).toNat ((n : Int) * z).toNat := by unfold rowsV; rw [h1, h2]; rfl
      have hrz : rowZ b i = z := by unfold rowZ; rw [h1]; simp
      have hsr := pieceS_sl hv hp5
      have hne : b ≠ [] := fun e => by
       subst e
       unfold uS pieceS at h1
       split at h1
       ·rename_i hc; simp at hc; omega
       ·cases h1
      have hfirm : Firm H (subV 1 v (i + 10).toNat ((n : Int) * z).toNat) := (hv.firm hne).sub _ _ _
      simp only [orF_some, hrv, hrz]
      simp only [orF_some] at hrows hu1 hu2 hcut
      generalize subV 1 v (i + 10).toNat ((n : Int) * z).toNat = rv at hrows hsr hfirm ⊢
      obtain ⟨s, H', hloop, ho, hx⟩ := Take_loop k r keys z n hrl (by omega) (by omega) (H.n + 1) (hsr.up (ext1.push ⟨[rv], 1, false⟩)) (get_push_eq _ _ _ (by simp))
      have hxx : Ext H H' := (ext1.push _).trans hx
      have ho' : Own H H' 1 s encW (cutV rv z n) := ho.base (by simp; omega)
      have hst := hsr.storable
      have hce := hsr.cells
      by_cases hn0 : n = 0
      ·subst hn0
       have e2 : (endRows r z 0 keys).length = 0 := by simp [endRows]
       rw [e2]
       obtain ⟨L, hf⟩ := ho'.freeze encW_len (fun x hx => by simp [cutV] at hx) 6
       refine nrm_fz (v := s) (H' := H') ?_ hf hxx (cutV_alive hsr z 0 0 hrl (Nat.le_refl _))
       simp only [Int.natCast_zero] at hu2 hrows hloop
       simp -implicitDefEqProofs (disch := omega) [seek_Take, hqa, hu1, hu2, hcut, h4, hrows, hloop, seek_Take_l1k_x0]
      ·have hlast := cutV_get rv z n (n - 1) (by omega)
       have hlb : Byt ((r.drop (z * (n - 1))).take z) := fun x hx => hrb x (List.mem_of_mem_drop (List.mem_of_mem_take hx))
       have hsl0 := cutV_sl hsr z n (n - 1) hrl (by omega)
       have hll : ((r.drop (z * (n - 1))).take z).length = z := by
        have : z * (n - 1) + z ≤ r.length := by
         rw [hrl, ← Nat.mul_succ, Nat.mul_comm, show (n - 1).succ = n by omega]
         exact Nat.le_refl _
        simp; omega
       have hnone := none_run k (hsl0.up hxx) hlb keys (by omega) (by omega)
       have hn1 : ((n : Int) - 1) = ((n - 1 : Nat) : Int) := by omega
       have hgt : 0 < n := by omega
       obtain ⟨bk, hsk, hbk, hgk, _⟩ := ixS_own ho' .i64 (n - 1) (by simp; omega) H'
       have hixk0 : ∀ H'', ixS 1 s (.int .i64 ((n : Int) - 1)) H'' = .ok (.pointer (some ⟨bk, (n - 1) * 1, none⟩)) H'' := fun H'' => by
        obtain ⟨b2, h1', _, _, h4'⟩ := ixS_own ho' .i64 (n - 1) (by simp; omega) H''
        have : bk = b2 := by rw [hsk] at h1'; simpa using h1'
        subst this
        rw [hn1]; exact h4'
       obtain ⟨p, hixk, hld⟩ : ∃ p, (∀ H'', ixS 1 s (.int .i64 ((n : Int) - 1)) H'' = .ok p H'') ∧ ldA 1 p H' = .ok (.agg #[subV 1 rv (z * (n - 1)) z]) H' := ⟨_, hixk0, ldA_row encW_len hgk hlast⟩
       generalize subV 1 rv (z * (n - 1)) z = u at hld hnone
       cases hno : noneS ((r.drop (z * (n - 1))).take z) keys with
       | false =>
        have e2 : (endRows r z n keys).length = n := by simp [endRows, hno]
        rw [e2]
        rw [hno] at hnone
        obtain ⟨b3, L, hs3, hf⟩ := ho'.freezeF encW_len 6 n (cutV_fz hfirm z n 6) (by simp) (by simp; omega)
        rw [List.take_of_length_le (by simp)] at hf
        rw [cutV_len] at hs3
        refine nrm_fz (v := s) (H' := H') ?_ (by rw [hs3]; exact hf n) hxx (cutV_alive hsr z n n hrl (Nat.le_refl _))
        simp -implicitDefEqProofs (disch := omega) [seek_Take, hqa, hu1, hu2, hcut, h4, hrows, hloop, seek_Take_l1k_x0, hgt, hixk, hld, hnone]
       | true =>
        have e2 : (endRows r z n keys).length = n - 1 := by rw [endRows, if_pos ⟨by omega, hno⟩]; simp
        rw [e2, ← cutV_take]
        rw [hno] at hnone
        obtain ⟨b3, L, hs3, hf⟩ := ho'.freezeF encW_len 6 (n - 1) (cutV_fz hfirm z n 6) (by simp) (by simp; omega)
        have hb3 : bk = b3 := by rw [hsk] at hs3; simpa using hs3
        subst hb3
        have hsl := slS_own hgk .i64 (n - 1) (by simp)
        rw [cutV_len, ← hn1] at hsl
        rw [cutV_len] at hsk
        refine nrm_fz (v := .slice (some ⟨bk, 0, none⟩) (n - 1) n) (H' := H') ?_ (hf n) hxx (by rw [cutV_take]; exact cutV_alive hsr z n (n - 1) hrl (by omega))
        subst hsk
        simp -implicitDefEqProofs (disch := omega) [seek_Take, hqa, hu1, hu2, hcut, h4, hrows, hloop, seek_Take_l1k_x0, hgt, hixk, hld, hnone, hsl]
    ·have e : takeS b i need keys = none := by unfold takeS; rw [h1, h2]; simp [h4]
     rw [e]
     refine nrm_throw ⟨_, ?_, ext1⟩ Flat.fail.alive
     simp -implicitDefEqProofs (disch := omega) [seek_Take, hqa, hu1, hu2, hcut, h4]
end Go.Sw
end
section
set_option maxRecDepth 100000
set_option linter.unusedVariables false
namespace Go.Sw
noncomputable section
def swashref01_U_l1 (k : Nat) (call : Caller) : Env → Heap → Res (AExit × Env) := loopB (C k) call F.swashref01_U [1, 1, 1, 0, 1, 0, 0]
def swashref01_U_l1k (k : Nat) (call : Caller) : Kont Value := kBlock 0 (kSeq (pieceK (C k) call F.swashref01_U [1, 1, 1, 1]) (kDone Prog (resOf Prog F.swashref01_U)))
def swashref01_U (k : Nat) (call : Caller) (a0 a1 a2 : Value) (h : Heap) : Res Value :=
 (builtinV Prog .len [22] [a0] h).bind fun v1 h2 =>
 (call F.swashref01_In [v1, a1, a2] h2).bind fun v3 h4 =>
 (unR .not v3 h4).bind fun v5 h6 =>
 condV (some v5) (
 .ok (.int .i64 (-1)) h6)
 (
 (loopN (swashref01_U_l1 k call) loopFuel [(0, a0), (1, a1), (2, a2), (7, (.int .i64 0)), (8, (.int .i64 0))] h6).bind fun r7 h8 =>
 swashref01_U_l1k k call r7.1 r7.2 h8)
theorem swashref01_U_R (k : Nat) (a0 a1 a2 : Value) (h : Heap) : R (T k) F.swashref01_U [a0, a1, a2] h = nrm .gc h (swashref01_U k (R (T k)) a0 a1 a2 h) :=
 (R_body (t := T k) (T_scott k) (by kernel_rfl) (by kernel_rfl) _ _).trans (by kernel_rfl)
theorem swashref01_U_l1_eq (k : Nat) (call : Caller) (a0 a1 a2 a7 a8 : Value) (h : Heap) : swashref01_U_l1 k call [(0, a0), (1, a1), (2, a2), (7, a7), (8, a8)] h =
 (binR Prog .lss 3 a8 a2 h).bind fun v9 h10 =>
 condV (some v9) (
 (binR Prog .mul 3 (.int .i64 256) a7 h10).bind fun v11 h12 =>
 (binR Prog .add 3 a1 a8 h12).bind fun v13 h14 =>
 (indexAddrR Prog 22 a0 v13 h14).bind fun v15 h16 =>
 (loadR Prog 5 v15 h16).bind fun v17 h18 =>
 (convR Prog 5 3 v17 h18).bind fun v19 h20 =>
 (binR Prog .add 3 v11 v19 h20).bind fun v21 h22 =>
 (binR Prog .add 3 a8 (.int .i64 1) h22).bind fun v23 h24 =>
 .ok (.normal, [(0, a0), (1, a1), (2, a2), (7, v21), (8, v23)]) h24)
 (
 .ok ((.exit 0), [(0, a0), (1, a1), (2, a2), (7, a7), (8, a8), (17, v9)]) h10) :=
 (loopB_eq _ _).trans (by kernel_rfl)
theorem swashref01_U_l1k_x0 (k : Nat) (call : Caller) (a0 a1 a2 a7 a8 a17 : Value) (h : Heap) : swashref01_U_l1k k call (.exit 0) [(0, a0), (1, a1), (2, a2), (7, a7), (8, a8), (17, a17)] h =
 .ok a7 h := by kernel_rfl
def swashref01_Rows (k : Nat) (call : Caller) (a0 a1 a2 a3 : Value) (h : Heap) : Res Value :=
 (binR Prog .lss 3 a1 (.int .i64 0) h).bind fun v1 h2 =>
 ((bif wantVal v1 false then Res.ok a2 h2 else Res.ok undef h2)).bind fun v3 h4 =>
 ((bif wantVal v1 false then binR Prog .lss 3 v3 (.int .i64 0) h4 else Res.ok undef h4)).bind fun v5 h6 =>
 (condV (some v1) (Res.ok (.bool true) h6) (Res.ok v5 h6)).bind fun v7 h8 =>
 ((bif wantVal v7 false then Res.ok a3 h8 else Res.ok undef h8)).bind fun v9 h10 =>
 ((bif wantVal v7 false then binR Prog .lss 3 v9 (.int .i64 0) h10 else Res.ok undef h10)).bind fun v11 h12 =>
 (condV (some v7) (Res.ok (.bool true) h12) (Res.ok v11 h12)).bind fun v13 h14 =>
 ((bif wantVal v13 false then Res.ok a1 h14 else Res.ok undef h14)).bind fun v15 h16 =>
 ((bif wantVal v13 false then Res.ok a0 h16 else Res.ok undef h16)).bind fun v17 h18 =>
 ((bif wantVal v13 false then binR Prog .gtr 3 v15 v17 h18 else Res.ok undef h18)).bind fun v19 h20 =>
 (condV (some v13) (Res.ok (.bool true) h20) (Res.ok v19 h20)).bind fun v21 h22 =>
 condV (some v21) (
 .ok (.bool false) h22)
 (
 (binR Prog .eql 3 a3 (.int .i64 0) h22).bind fun v23 h24 =>
 ((bif wantVal v23 false then Res.ok a2 h24 else Res.ok undef h24)).bind fun v25 h26 =>
 ((bif wantVal v23 false then Res.ok a0 h26 else Res.ok undef h26)).bind fun v27 h28 =>
 ((bif wantVal v23 false then Res.ok a1 h28 else Res.ok undef h28)).bind fun v29 h30 =>
 ((bif wantVal v23 false then binR Prog .sub 3 v27 v29 h30 else Res.ok undef h30)).bind fun v31 h32 =>
 ((bif wantVal v23 false then Res.ok a3 h32 else Res.ok undef h32)).bind fun v33 h34 =>
 ((bif wantVal v23 false then binR Prog .quo 3 v31 v33 h34 else Res.ok undef h34)).bind fun v35 h36 =>
 ((bif wantVal v23 false then binR Prog .leq 3 v25 v35 h36 else Res.ok undef h36)).bind fun v37 h38 =>
 (condV (some v23) (Res.ok (.bool true) h38) (Res.ok v37 h38)).bind fun v39 h40 =>
 .ok v39 h40)
theorem swashref01_Rows_R (k : Nat) (a0 a1 a2 a3 : Value) (h : Heap) : R (T k) F.swashref01_Rows [a0, a1, a2, a3] h = nrm .gc h (swashref01_Rows k (R (T k)) a0 a1 a2 a3 h) :=
 (R_body (t := T k) (T_scott k) (by kernel_rfl) (by kernel_rfl) _ _).trans (by kernel_rfl)
def swashref01_In (k : Nat) (call : Caller) (a0 a1 a2 : Value) (h : Heap) : Res Value :=
 (binR Prog .geq 3 a1 (.int .i64 0) h).bind fun v1 h2 =>
 ((bif wantVal v1 true then Res.ok a2 h2 else Res.ok undef h2)).bind fun v3 h4 =>
 ((bif wantVal v1 true then binR Prog .geq 3 v3 (.int .i64 0) h4 else Res.ok undef h4)).bind fun v5 h6 =>
 (condV (some v1) (Res.ok v5 h6) (Res.ok (.bool false) h6)).bind fun v7 h8 =>
 ((bif wantVal v7 true then Res.ok a1 h8 else Res.ok undef h8)).bind fun v9 h10 =>
 ((bif wantVal v7 true then Res.ok a0 h10 else Res.ok undef h10)).bind fun v11 h12 =>
 ((bif wantVal v7 true then binR Prog .leq 3 v9 v11 h12 else Res.ok undef h12)).bind fun v13 h14 =>
 (condV (some v7) (Res.ok v13 h14) (Res.ok (.bool false) h14)).bind fun v15 h16 =>
 ((bif wantVal v15 true then Res.ok a2 h16 else Res.ok undef h16)).bind fun v17 h18 =>
 ((bif wantVal v15 true then Res.ok a0 h18 else Res.ok undef h18)).bind fun v19 h20 =>
 ((bif wantVal v15 true then Res.ok a1 h20 else Res.ok undef h20)).bind fun v21 h22 =>
 ((bif wantVal v15 true then binR Prog .sub 3 v19 v21 h22 else Res.ok undef h22)).bind fun v23 h24 =>
 ((bif wantVal v15 true then binR Prog .leq 3 v17 v23 h24 else Res.ok undef h24)).bind fun v25 h26 =>
 (condV (some v15) (Res.ok v25 h26) (Res.ok (.bool false) h26)).bind fun v27 h28 =>
 .ok v27 h28
theorem swashref01_In_R (k : Nat) (a0 a1 a2 : Value) (h : Heap) : R (T k) F.swashref01_In [a0, a1, a2] h = nrm .gc h (swashref01_In k (R (T k)) a0 a1 a2 h) :=
 (R_body (t := T k) (T_scott k) (by kernel_rfl) (by kernel_rfl) _ _).trans (by kernel_rfl)
end
end Go.Sw
end
section
namespace Go.Sw
open Go.RowKit
def inS (size i n : Int) : Bool := decide (0 ≤ i ∧ 0 ≤ n ∧ i ≤ size ∧ n ≤ size - i)
theorem refIn_run (k : Nat) (z i n : Int) (hz0 : 0 ≤ z) (hz : z < 2 ^ 62) (H : Heap) : R (T k) F.swashref01_In [.int .i64 z, .int .i64 i, .int .i64 n] H = .ok (.bool (inS z i n)) H := by
 rw [swashref01_In_R]
 refine nrm_gc (Pure.of ?_) (.bool _)
 unfold inS
 by_cases h1 : 0 ≤ i
 ·by_cases h2 : 0 ≤ n
  ·by_cases h3 : i ≤ z
   ·by_cases h4 : n ≤ z - i <;> simp -implicitDefEqProofs (disch := omega) [swashref01_In, h1, h2, h3, h4]
   ·simp -implicitDefEqProofs (disch := omega) [swashref01_In, h1, h2, h3]
  ·simp -implicitDefEqProofs (disch := omega) [swashref01_In, h1, h2]
 ·simp -implicitDefEqProofs (disch := omega) [swashref01_In, h1]
theorem num_snoc (l : List Int) (y : Int) : num (l ++ [y]) = 256 * num l + y := by simp [num]
theorem num_acc : ∀ (l : List Int) (x m : Int), 0 ≤ x → x < m → Byt l → 0 ≤ l.foldl (fun x y => 256 * x + y) x ∧ l.foldl (fun x y => 256 * x + y) x < m * 256 ^ l.length
 | [], x, m, h0, h1, _ => by simp; exact ⟨h0, h1⟩
 | y :: l, x, m, h0, h1, hb => by
  have hy := hb y (by simp)
  have := num_acc l (256 * x + y) (256 * m) (by omega) (by omega) fun n hn => hb n (by simp [hn])
  rw [List.foldl_cons, List.length_cons, Int.pow_succ, Int.mul_comm (256 ^ l.length) 256, ← Int.mul_assoc, Int.mul_comm m 256]
  exact this
theorem num_bound (l : List Int) (h : Byt l) : 0 ≤ num l ∧ num l < 256 ^ l.length := by
 have := num_acc l 0 1 (by omega) (by omega) h
 rw [Int.one_mul] at this
 exact this
theorem num_bound3 (l : List Int) (h : Byt l) (hl : l.length ≤ 3) : 0 ≤ num l ∧ num l < 16777216 := by
 have := num_bound l h
 rcases (by omega : l.length = 0 ∨ l.length = 1 ∨ l.length = 2 ∨ l.length = 3) with e | e | e | e <;> rw [e] at this <;> omega
theorem refU_run (k : Nat) {H : Heap} {v : Value} {b : List Int} (hv : Sl H 1 v encB b) (hb : Byt b) (i n : Int) (hl : b.length < 2 ^ 62) (hn : n ≤ 4) : R (T k) F.swashref01_U [v, .int .i64 i, .int .i64 n] H = .ok (.int .i64 ((uS b i n).getD (-1))) H := by
 rw [swashref01_U_R]
 refine nrm_gc (Pure.of ?_) (.int _ _)
 have hin := refIn_run k b.length i n (by omega) (by omega)
 by_cases hc : 0 ≤ i ∧ 0 ≤ n ∧ i ≤ b.length ∧ n ≤ b.length - i
 ·have hi : inS b.length i n = true := by simpa [inS] using hc
  rw [hi] at hin
  obtain ⟨h1, h2, h3, h4⟩ := hc
  obtain ⟨i, rfl⟩ := Int.eq_ofNat_of_zero_le h1
  obtain ⟨n, rfl⟩ := Int.eq_ofNat_of_zero_le h2
  obtain ⟨l, hld⟩ : ∃ l, l = (b.drop i).take n := ⟨_, rfl⟩
  have hp : pieceS b i n = some l := by rw [pieceS, if_pos ⟨h1, h2, h3, h4⟩, hld]; simp
  have hbl := (hb.piece hp).1
  have hll : l.length = n := by have := pieceS_len hp; omega
  have hu : (uS b i n).getD (-1) = num l := by rw [uS, hp]; rfl
  rw [hu]
  obtain ⟨x, e', H1, hr, rfl, rfl, a, rfl⟩ := loop_up (body := swashref01_U_l1 k (R (T k))) n
   (fun j e H' => H' = H ∧ e = [(0, v), (1, .int .i64 i), (2, .int .i64 n), (7, .int .i64 (num (l.take j))), (8, .int .i64 j)])
   (fun x e H' => H' = H ∧ x = .exit 0 ∧ ∃ a, e = [(0, v), (1, .int .i64 i), (2, .int .i64 n), (7, .int .i64 (num l)), (8, .int .i64 n), (17, a)])
   (e0 := [(0, v), (1, .int .i64 i), (2, .int .i64 n), (7, .int .i64 0), (8, .int .i64 0)]) (H0 := H) ⟨rfl, rfl⟩ (by omega)
   (fun j e H' hj ⟨hH, he⟩ => by
    subst he hH
    obtain ⟨y, hy⟩ : ∃ y, l[j]? = some y := ⟨l[j]'(by omega), List.getElem?_eq_getElem _⟩
    have hyb := hbl y (List.mem_of_getElem? hy)
    have hg : b[i + j]? = some y := by
     rw [hld, List.getElem?_take, if_pos hj, List.getElem?_drop] at hy
     exact hy
    obtain ⟨p, hix, hld⟩ := hv.ix1 encB_len (i + j) y hg _ rfl
    have hix : ∀ H'', ixS 1 v (.int .i64 ((i : Int) + j)) H'' = .ok p H'' := fun H'' => by rw [← hix .i64 H'', Int.natCast_add]
    have hld := hld _ (Ext.refl _)
    have hnb := num_bound3 (l.take j) (fun z hz => hbl z (List.mem_of_mem_take hz)) (by simp; omega)
    have hlt : (j : Int) < n := by omega
    refine .inl ⟨_, H', ?_, rfl, rfl⟩
    rw [swashref01_U_l1_eq, List.take_add_one, hy, Option.toList_some, num_snoc]
    simp -implicitDefEqProofs (disch := omega) [hlt, hix, hld])
   (fun e H' ⟨hH, he⟩ => by
    subst he hH
    refine ⟨.exit 0, _, H', ?_, by simp, rfl, rfl, .bool false, rfl⟩
    rw [swashref01_U_l1_eq, List.take_of_length_le (by omega)]
    simp -implicitDefEqProofs)
  simp -implicitDefEqProofs (disch := omega) [swashref01_U, hv.len, hin, hr, swashref01_U_l1k_x0]
 ·have hi : inS b.length i n = false := by simpa [inS] using hc
  rw [hi] at hin
  have hu : (uS b i n).getD (-1) = -1 := by rw [uS, pieceS, if_neg hc]; rfl
  rw [hu]
  simp -implicitDefEqProofs (disch := omega) [swashref01_U, hv.len, hin]
def rowsB (z i n s : Int) : Bool := decide (0 ≤ i ∧ 0 ≤ n ∧ 0 ≤ s ∧ i ≤ z ∧ (s = 0 ∨ n ≤ (z - i) / s))
theorem refRows_run (k : Nat) (z i n s : Int) (hz0 : 0 ≤ z) (hz : z < 2 ^ 62) (H : Heap) : R (T k) F.swashref01_Rows [.int .i64 z, .int .i64 i, .int .i64 n, .int .i64 s] H = .ok (.bool (rowsB z i n s)) H := by
 rw [swashref01_Rows_R]
 refine nrm_gc (Pure.of ?_) (.bool _)
 by_cases h1 : i < 0
 ·have e : rowsB z i n s = false := by unfold rowsB; simp; omega
  simp -implicitDefEqProofs (disch := omega) [swashref01_Rows, h1, e]
 by_cases h2 : n < 0
 ·have e : rowsB z i n s = false := by unfold rowsB; simp; omega
  simp -implicitDefEqProofs (disch := omega) [swashref01_Rows, h1, h2, e]
 by_cases h3 : s < 0
 ·have e : rowsB z i n s = false := by unfold rowsB; simp; omega
  simp -implicitDefEqProofs (disch := omega) [swashref01_Rows, h1, h2, h3, e]
 by_cases h4 : i > z
 ·have e : rowsB z i n s = false := by unfold rowsB; simp; omega
  simp -implicitDefEqProofs (disch := omega) [swashref01_Rows, h1, h2, h3, h4, e]
 by_cases h5 : s = 0
 ·subst h5
  have e : rowsB z i n 0 = true := by unfold rowsB; simp; omega
  simp -implicitDefEqProofs (disch := omega) [swashref01_Rows, h1, h2, h4, e]
 have hq : (z - i).tdiv s = (z - i) / s := Int.tdiv_eq_ediv_of_nonneg (by omega)
 have hq0 : 0 ≤ (z - i) / s := Int.ediv_nonneg (by omega) (by omega)
 have hq1 : (z - i) / s ≤ z - i := Int.ediv_le_self _ (by omega)
 have qr := fun H => bin_quo Prog 3 H .i64 (z - i) s h5
 rw [hq] at qr
 have hb5 : (s == 0) = false := by simpa using h5
 have e : rowsB z i n s = decide (n ≤ (z - i) / s) := by unfold rowsB; simp only [decide_eq_decide]; omega
 simp -implicitDefEqProofs (disch := omega) [swashref01_Rows, h1, h2, h3, h4, hb5, qr, e]
end Go.Sw
end
