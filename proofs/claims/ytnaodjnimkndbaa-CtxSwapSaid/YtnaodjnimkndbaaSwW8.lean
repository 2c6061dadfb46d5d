/-
  Functions' forms, and what is proved of them, part 8.
-/
import Derived.Test.YtnaodjnimkndbaaSwW7
import Derived.Test.YtnaodjnimkndbaaSwCfg
import Derived.Test.YtnaodjnimkndbaaSwW2
import Derived.Test.YtnaodjnimkndbaaSwW4
set_option linter.unusedSimpArgs false
set_option linter.unusedVariables false
set_option linter.unusedSectionVars false
section
namespace Go.Sw
open Go.RowKit
theorem flat_piece {z : Nat} {rs : List (List Int)} (h : ∀ r, r ∈ rs → r.length = z) (x : List Int) {i : Nat} {r : List Int} (hi : rs[i]? = some r) : pieceS (rs.flatten ++ x) ((z * i : Nat) : Int) z = some r := by
 have hlt := (List.getElem?_eq_some_iff.1 hi).1
 have hl := flat_len h
 have hm : (i + 1) * z ≤ rs.length * z := Nat.mul_le_mul_right _ hlt
 rw [Nat.add_mul, Nat.one_mul, Nat.mul_comm i z] at hm
 have hc := flat_cut h i hlt
 rw [hi] at hc
 injection hc with hc
 generalize z * i = k at hm hc ⊢
 unfold pieceS
 rw [if_pos ⟨by omega, by omega, by rw [List.length_append]; omega, by rw [List.length_append]; omega⟩]
 rw [Int.toNat_natCast, Int.toNat_natCast, List.drop_append_of_le_length (by omega), List.take_append_of_le_length (by rw [List.length_drop]; omega), ← hc]
def lksB (subs : List (List Int)) : List Int := (subs.map ofS).flatten
def offsL (subs : List (List Int)) : List (List Int) := (List.range subs.length).map fun j => bytesOf (4 * subs.length + (lksB (subs.take j)).length : Int) 4
def offsB (subs : List (List Int)) : List Int := (offsL subs).flatten
theorem offsL_len (subs : List (List Int)) : (offsL subs).length = subs.length := by simp [offsL]
theorem offsL_four (subs : List (List Int)) : ∀ r, r ∈ offsL subs → r.length = 4 := fun r hr => by
 obtain ⟨j, _, rfl⟩ := List.mem_map.1 hr
 exact bytesOf_len _ _
theorem offsB_len (subs : List (List Int)) : (offsB subs).length = subs.length * 4 := by unfold offsB; rw [flat_len (offsL_four subs), offsL_len]
theorem ofS_len (s : List Int) : (ofS s).length = 6 + s.length * 2 := by unfold ofS; simp [twos_len]; omega
theorem lksB_le : ∀ (subs : List (List Int)), (∀ s, s ∈ subs → s.length ≤ 60) → (lksB subs).length ≤ subs.length * 126
 | [], _ => by simp [lksB]
 | s :: subs, h => by
  have ih := lksB_le subs fun x hx => h x (by simp [hx])
  have := h s (by simp)
  have hs := ofS_len s
  unfold lksB at ih ⊢
  simp only [List.map_cons, List.flatten_cons, List.length_append, List.length_cons]
  omega
theorem lksB_split (subs : List (List Int)) {j : Nat} {s : List Int} (hj : subs[j]? = some s) : lksB subs = lksB (subs.take j) ++ (ofS s ++ lksB (subs.drop (j + 1))) := by
 have hlt := (List.getElem?_eq_some_iff.1 hj).1
 have e : subs = subs.take j ++ (s :: subs.drop (j + 1)) := by
  rw [← (List.getElem?_eq_some_iff.1 hj).2, ← List.drop_eq_getElem_cons hlt, List.take_append_drop]
 unfold lksB
 conv => lhs; rw [e]
 simp
theorem lksB_take_le (subs : List (List Int)) (j : Nat) : (lksB (subs.take j)).length ≤ (lksB subs).length := by
 have : lksB subs = lksB (subs.take j) ++ lksB (subs.drop j) := by
  unfold lksB
  rw [← List.flatten_append, ← List.map_append, List.take_append_drop]
 rw [this]
 simp
theorem sub_written (subs : List (List Int)) (hs : ∀ s, s ∈ subs → s.length ≤ 60 ∧ ∀ x, x ∈ s → 0 ≤ x ∧ x < 65536) (hn : subs.length ≤ 1000) (g : Int) {j : Nat} {s : List Int} (hj : subs[j]? = some s) :
  subS (offsB subs ++ lksB subs) g j = some (tabOf s) := by
 have hlt := (List.getElem?_eq_some_iff.1 hj).1
 have hl := offsB_len subs
 have hL := lksB_le subs fun s h => (hs s h).1
 have hT := lksB_take_le subs j
 have hjL : (offsL subs)[j]? = some (bytesOf (4 * subs.length + (lksB (subs.take j)).length : Int) 4) := by
  unfold offsL
  rw [List.getElem?_map, List.getElem?_range hlt]
  rfl
 have hp : pieceS ((offsL subs).flatten ++ lksB subs) ((4 * j : Nat) : Int) 4 = some (bytesOf (4 * subs.length + (lksB (subs.take j)).length : Int) 4) := flat_piece (offsL_four subs) (lksB subs) hjL
 unfold subS uS
 rw [show (4 * (j : Int)) = ((4 * j : Nat) : Int) by omega, show offsB subs = (offsL subs).flatten from rfl, hp, Option.map_some, Option.bind_some, num_bytesOf (by omega) (by omega)]
 have hr : restS ((offsL subs).flatten ++ lksB subs) (4 * subs.length + (lksB (subs.take j)).length : Int) = some (ofS s ++ lksB (subs.drop (j + 1))) := by
  rw [show (offsL subs).flatten = offsB subs from rfl]
  unfold restS
  rw [lksB_split subs hj]
  rw [if_pos ⟨by omega, by simp; omega⟩]
  congr 1
  rw [show (4 * (subs.length : Int) + ((lksB (subs.take j)).length : Int)).toNat = (offsB subs).length + (lksB (subs.take j)).length by omega]
  rw [← List.append_assoc, show (offsB subs).length + (lksB (subs.take j)).length = (offsB subs ++ lksB (subs.take j)).length by simp, List.drop_left]
 rw [hr, Option.bind_some]
 have hsm := hs s (List.mem_of_getElem? hj)
 exact look_ofS s hsm.2 (by omega) _ g
def ctxBytes (p : Plan) (subs : List (List Int)) : List Int := planRoom p 2 (bytesOf ((planRoom p 2 (List.replicate 4 0)).length : Int) 4) ++ (offsB subs ++ lksB subs)
theorem planRoom_size (p : Plan) (w : Int) (rm rm' : List Int) (h : rm.length = rm'.length) : (planRoom p w rm).length = (planRoom p w rm').length := by
 unfold planRoom
 simp [h]
theorem ctx_parts (p : Plan) (hp : p.ok) (h1 : p.cls.length ≤ 1000) (h2 : p.rows.length ≤ 1000) (h3 : p.ents.length ≤ 1000) (subs : List (List Int)) :
  uS (ctxBytes p subs) 16 4 = some ((planRoom p 2 (List.replicate 4 0)).length : Int) ∧ restS (ctxBytes p subs) ((planRoom p 2 (List.replicate 4 0)).length : Int) = some (offsB subs ++ lksB subs) := by
 have hl := planRoom_len hp 2 (rm := List.replicate 4 0) (by simp) h1 h2 h3
 have hsz : (planRoom p 2 (bytesOf ((planRoom p 2 (List.replicate 4 0)).length : Int) 4)).length = (planRoom p 2 (List.replicate 4 0)).length := planRoom_size p 2 _ _ (by simp)
 unfold ctxBytes
 generalize (planRoom p 2 (List.replicate 4 0)).length = N at hl hsz ⊢
 constructor
 ·unfold planRoom
  have := uS_at (bytesOf (planN p : Int) 4 ++ (bytesOf (16 + (bytesOf (N : Int) 4).length : Int) 4 ++ (bytesOf (16 + (bytesOf (N : Int) 4).length + (ofS p.cls).length : Int) 4 ++ bytesOf (16 + (bytesOf (N : Int) 4).length + (ofS p.cls).length + (rowsL (planN p) p.rows).length : Int) 4)))
   ((ofS p.cls ++ (rowsL (planN p) p.rows ++ entsB 2 p.ents)) ++ (offsB subs ++ lksB subs)) (n := (N : Int)) (k := 4) 16 4 (by simp) rfl (by omega) (by omega)
  simpa only [List.append_assoc] using this
 ·unfold restS
  rw [if_pos ⟨by omega, by rw [List.length_append]; omega⟩]
  congr 1
  rw [Int.toNat_natCast]
  conv => lhs; rw [← hsz]
  exact List.drop_left
theorem get_nil (g : Int) : getS ([] : List Pt) g = none := rfl
theorem tab_get (s : List Int) (id : Int) : getS (tabOf s).2 id = if 0 ≤ id then s[id.toNat]? else none := by
 unfold tabOf
 by_cases hc : s = []
 ·subst hc; simp [get_nil]
 ·rw [if_neg hc]
  have hpos : 0 < s.length := List.length_pos_iff.2 hc
  unfold getS
  by_cases h1 : id ≤ (s.length : Int) - 1
  ·rw [show ([(⟨0, (s.length : Int) - 1, s⟩ : Pt)]).find? (fun p => decide (id ≤ p.last)) = some ⟨0, (s.length : Int) - 1, s⟩ by simp [List.find?, h1], Option.bind_some]
   by_cases h0 : 0 ≤ id
   ·rw [if_pos h0, if_pos h0]
    unfold Pt.num
    dsimp only
    rw [show (min (id - 0) ((s.length : Int) - 1)).toNat = id.toNat by omega]
   ·rw [if_neg h0, if_neg h0]
  ·rw [show ([(⟨0, (s.length : Int) - 1, s⟩ : Pt)]).find? (fun p => decide (id ≤ p.last)) = none by simp [List.find?, h1]]
   by_cases h0 : 0 ≤ id
   ·rw [if_pos h0, List.getElem?_eq_none (by omega)]; rfl
   ·rw [if_neg h0]; rfl
end Go.Sw
end
section
set_option maxRecDepth 100000
set_option linter.unusedVariables false
namespace Go.Sw
noncomputable section
def swashlaw15_CtxSwap_l1 (k : Nat) (call : Caller) : Env → Heap → Res (AExit × Env) := loopB (C k) call F.swashlaw15_CtxSwap [1, 1, 1, 1, 1, 1, 1, 1, 0, 1, 0, 0]
def swashlaw15_CtxSwap_l1k (k : Nat) (call : Caller) : Kont Value := kBlock 0 (kSeq (pieceK (C k) call F.swashlaw15_CtxSwap [1, 1, 1, 1, 1, 1, 1, 1, 1]) (kDone Prog (resOf Prog F.swashlaw15_CtxSwap)))
def swashlaw15_CtxSwap_j1 (k : Nat) (call : Caller) (a0 a1 a8 a9 a10 a11 a49 a50 a51 : Value) (h : Heap) : Res (AExit × Env) :=
 kSeq (pieceK (C k) call F.swashlaw15_CtxSwap [1, 1, 1, 1, 1, 1, 1, 1, 0, 1, 0, 0, 1, 1, 0, 0, 1, 1, 1]) (kBlock 1 (kSeq (pieceK (C k) call F.swashlaw15_CtxSwap [1, 1, 1, 1, 1, 1, 1, 1, 0, 1, 0, 0, 1, 1, 1]) (kRound (ownOf (C k) F.swashlaw15_CtxSwap [1, 1, 1, 1, 1, 1, 1, 1, 0, 1, 0, 0])))) .normal [(0, a0), (1, a1), (8, a8), (9, a9), (10, a10), (11, a11), (49, a49), (50, a50), (51, a51)] h
def swashlaw15_CtxSwap_j2 (k : Nat) (call : Caller) (a0 a1 a8 a9 a10 a11 a49 a50 a51 a67 : Value) (h : Heap) : Res (AExit × Env) :=
 kSeq (pieceK (C k) call F.swashlaw15_CtxSwap [1, 1, 1, 1, 1, 1, 1, 1, 0, 1, 0, 0, 1, 1, 0, 0, 1, 1, 1]) (kBlock 1 (kSeq (pieceK (C k) call F.swashlaw15_CtxSwap [1, 1, 1, 1, 1, 1, 1, 1, 0, 1, 0, 0, 1, 1, 1]) (kRound (ownOf (C k) F.swashlaw15_CtxSwap [1, 1, 1, 1, 1, 1, 1, 1, 0, 1, 0, 0])))) .normal [(0, a0), (1, a1), (8, a8), (9, a9), (10, a10), (11, a11), (49, a49), (50, a50), (51, a51), (67, a67)] h
def swashlaw15_CtxSwap (k : Nat) (call : Caller) (a0 a1 : Value) (h : Heap) : Res Value :=
 (call F.swashlaw15_speaks [] h).bind fun v1 h2 =>
 (unR .not v1 h2).bind fun v3 h4 =>
 condV (some v3) (
 .ok (.bool false) h4)
 (
 (builtinV Prog .len [156] [a0] h4).bind fun v5 h6 =>
 (binR Prog .gtr 3 v5 (.int .i64 60) h6).bind fun v7 h8 =>
 ((bif wantVal v7 false then Res.ok a1 h8 else Res.ok undef h8)).bind fun v9 h10 =>
 ((bif wantVal v7 false then builtinV Prog .len [28] [v9] h10 else Res.ok undef h10)).bind fun v11 h12 =>
 ((bif wantVal v7 false then binR Prog .gtr 3 v11 (.int .i64 60) h12 else Res.ok undef h12)).bind fun v13 h14 =>
 (condV (some v7) (Res.ok (.bool true) h14) (Res.ok v13 h14)).bind fun v15 h16 =>
 condV (some v15) (
 .ok (.bool true) h16)
 (
 (buildSliceR Prog 65 1 [(0, (.int .u8 0))] h16).bind fun v17 h18 =>
 (buildSliceR Prog 65 1 [(0, (.int .u8 0))] h18).bind fun v19 h20 =>
 (buildSliceR Prog 143 2 [(0, v17), (1, v19)] h20).bind fun v21 h22 =>
 (buildR Prog 150 [(2, (.int .i64 65535)), (3, (.int .i64 0))] h22).bind fun v23 h24 =>
 (buildSliceR Prog 144 1 [(0, v23)] h24).bind fun v25 h26 =>
 (buildR Prog 146 [(1, v21), (2, v25)] h26).bind fun v27 h28 =>
 (allocR Prog 146 h28).bind fun v29 h30 =>
 (storeR Prog 146 v29 v27 h30).bind fun _v31 h32 =>
 (loadR Prog 146 v29 h32).bind fun v33 h34 =>
 (buildSliceR Prog 188 1 [(0, a0)] h34).bind fun v35 h36 =>
 (call F.swashlaw15_Write [v33, v35] h36).bind fun v37 h38 =>
 (call F.ctx_Read [v37, (.int .i64 40)] h38).bind fun v39 h40 =>
 (extractR v39 0 h40).bind fun v41 h42 =>
 (extractR v39 1 h42).bind fun v43 h44 =>
 (binR Prog .neq 69 v43 (.int .i64 0) h44).bind fun v45 h46 =>
 ((bif wantVal v45 false then Res.ok v41 h46 else Res.ok undef h46)).bind fun v47 h48 =>
 ((bif wantVal v45 false then binR Prog .eql 193 v47 (.pointer none) h48 else Res.ok undef h48)).bind fun v49 h50 =>
 (condV (some v45) (Res.ok (.bool true) h50) (Res.ok v49 h50)).bind fun v51 h52 =>
 condV (some v51) (
 .ok (.bool false) h52)
 (
 (call F.line_New [a1] h52).bind fun v53 h54 =>
 (call F.ctx_Table_Run [v41, v53] h54).bind fun v55 h56 =>
 (binR Prog .neq 69 v55 (.int .i64 0) h56).bind fun v57 h58 =>
 condV (some v57) (
 .ok (.bool false) h58)
 (
 (call F.line_Line_Glyphs [v53] h58).bind fun v59 h60 =>
 (builtinV Prog .len [50] [v59] h60).bind fun v61 h62 =>
 (loopN (swashlaw15_CtxSwap_l1 k call) loopFuel [(0, a0), (1, a1), (8, v53), (49, v59), (50, v61), (51, (.int .i64 0))] h62).bind fun r63 h64 =>
 swashlaw15_CtxSwap_l1k k call r63.1 r63.2 h64))))
theorem swashlaw15_CtxSwap_R (k : Nat) (a0 a1 : Value) (h : Heap) : R (T k) F.swashlaw15_CtxSwap [a0, a1] h = nrm .gc h (swashlaw15_CtxSwap k (R (T k)) a0 a1 h) :=
 (R_body (t := T k) (T_scott k) (by kernel_rfl) (by kernel_rfl) _ _).trans (by kernel_rfl)
theorem swashlaw15_CtxSwap_l1_eq (k : Nat) (call : Caller) (a0 a1 a8 a49 a50 a51 : Value) (h : Heap) : swashlaw15_CtxSwap_l1 k call [(0, a0), (1, a1), (8, a8), (49, a49), (50, a50), (51, a51)] h =
 (binR Prog .lss 3 a51 a50 h).bind fun v65 h66 =>
 condV (some v65) (
 (indexAddrR Prog 50 a49 a51 h66).bind fun v67 h68 =>
 (loadR Prog 55 v67 h68).bind fun v69 h70 =>
 (allocR Prog 55 h70).bind fun v71 h72 =>
 (storeR Prog 55 v71 v69 h72).bind fun _v73 h74 =>
 (indexAddrR Prog 28 a1 a51 h74).bind fun v75 h76 =>
 (loadR Prog 3 v75 h76).bind fun v77 h78 =>
 (binR Prog .geq 3 v77 (.int .i64 0) h78).bind fun v79 h80 =>
 ((bif wantVal v79 true then Res.ok v77 h80 else Res.ok undef h80)).bind fun v81 h82 =>
 ((bif wantVal v79 true then Res.ok a0 h82 else Res.ok undef h82)).bind fun v83 h84 =>
 ((bif wantVal v79 true then builtinV Prog .len [156] [v83] h84 else Res.ok undef h84)).bind fun v85 h86 =>
 ((bif wantVal v79 true then binR Prog .lss 3 v81 v85 h86 else Res.ok undef h86)).bind fun v87 h88 =>
 (condV (some v79) (Res.ok v87 h88) (Res.ok (.bool false) h88)).bind fun v89 h90 =>
 condV (some v89) (
 (indexAddrR Prog 156 a0 v77 h90).bind fun v91 h92 =>
 (loadR Prog 62 v91 h92).bind fun v93 h94 =>
 (convR Prog 62 3 v93 h94).bind fun v95 h96 =>
 swashlaw15_CtxSwap_j1 k call a0 a1 a8 a51 v71 v95 a49 a50 a51 h96)
 (
 swashlaw15_CtxSwap_j2 k call a0 a1 a8 a51 v71 v77 a49 a50 a51 v89 h90))
 (
 .ok ((.exit 0), [(0, a0), (1, a1), (8, a8), (49, a49), (50, a50), (51, a51), (52, v65)]) h66) :=
 (loopB_eq _ _).trans (by kernel_rfl)
theorem swashlaw15_CtxSwap_j1_eq (k : Nat) (call : Caller) (a0 a1 a8 a9 a10 a11 a49 a50 a51 : Value) (h : Heap) : swashlaw15_CtxSwap_j1 k call a0 a1 a8 a9 a10 a11 a49 a50 a51 h =
 (fieldAddrR Prog 55 a10 0 h).bind fun v97 h98 =>
 (loadR Prog 3 v97 h98).bind fun v99 h100 =>
 (binR Prog .neq 3 v99 a11 h100).bind fun v101 h102 =>
 ((bif wantVal v101 false then fieldAddrR Prog 55 a10 1 h102 else Res.ok undef h102)).bind fun v103 h104 =>
 ((bif wantVal v101 false then loadR Prog 3 v103 h104 else Res.ok undef h104)).bind fun v105 h106 =>
 ((bif wantVal v101 false then Res.ok a9 h106 else Res.ok undef h106)).bind fun v107 h108 =>
 ((bif wantVal v101 false then binR Prog .neq 3 v105 v107 h108 else Res.ok undef h108)).bind fun v109 h110 =>
 (condV (some v101) (Res.ok (.bool true) h110) (Res.ok v109 h110)).bind fun v111 h112 =>
 condV (some v111) (
 .ok (.ret, [(4, (.bool false))]) h112)
 (
 (binR Prog .add 3 a51 (.int .i64 1) h112).bind fun v113 h114 =>
 .ok (.normal, [(0, a0), (1, a1), (8, a8), (49, a49), (50, a50), (51, v113)]) h114) := by kernel_rfl
theorem swashlaw15_CtxSwap_j2_eq (k : Nat) (call : Caller) (a0 a1 a8 a9 a10 a11 a49 a50 a51 a67 : Value) (h : Heap) : swashlaw15_CtxSwap_j2 k call a0 a1 a8 a9 a10 a11 a49 a50 a51 a67 h =
 (fieldAddrR Prog 55 a10 0 h).bind fun v115 h116 =>
 (loadR Prog 3 v115 h116).bind fun v117 h118 =>
 (binR Prog .neq 3 v117 a11 h118).bind fun v119 h120 =>
 ((bif wantVal v119 false then fieldAddrR Prog 55 a10 1 h120 else Res.ok undef h120)).bind fun v121 h122 =>
 ((bif wantVal v119 false then loadR Prog 3 v121 h122 else Res.ok undef h122)).bind fun v123 h124 =>
 ((bif wantVal v119 false then Res.ok a9 h124 else Res.ok undef h124)).bind fun v125 h126 =>
 ((bif wantVal v119 false then binR Prog .neq 3 v123 v125 h126 else Res.ok undef h126)).bind fun v127 h128 =>
 (condV (some v119) (Res.ok (.bool true) h128) (Res.ok v127 h128)).bind fun v129 h130 =>
 condV (some v129) (
 .ok (.ret, [(4, (.bool false))]) h130)
 (
 (binR Prog .add 3 a51 (.int .i64 1) h130).bind fun v131 h132 =>
 .ok (.normal, [(0, a0), (1, a1), (8, a8), (49, a49), (50, a50), (51, v131)]) h132) := by kernel_rfl
theorem swashlaw15_CtxSwap_l1k_x0 (k : Nat) (call : Caller) (a0 a1 a8 a49 a50 a51 a52 : Value) (h : Heap) : swashlaw15_CtxSwap_l1k k call (.exit 0) [(0, a0), (1, a1), (8, a8), (49, a49), (50, a50), (51, a51), (52, a52)] h =
 (call F.line_Line_Len [a8] h).bind fun v133 h134 =>
 (builtinV Prog .len [28] [a1] h134).bind fun v135 h136 =>
 (binR Prog .eql 3 v133 v135 h136).bind fun v137 h138 =>
 .ok v137 h138 := by kernel_rfl
def swashlaw15_Write_l1 (k : Nat) (call : Caller) : Env → Heap → Res (AExit × Env) := loopB (C k) call F.swashlaw15_Write [1, 1, 1, 1, 0, 1, 0, 0]
def swashlaw15_Write_l1k (k : Nat) (call : Caller) : Kont Value := kBlock 0 (kSeq (pieceK (C k) call F.swashlaw15_Write [1, 1, 1, 1, 1]) (kDone Prog (resOf Prog F.swashlaw15_Write)))
def swashlaw15_Write_l2 (k : Nat) (call : Caller) : Env → Heap → Res (AExit × Env) := loopB (C k) call F.swashlaw15_Write [1, 1, 1, 1, 0, 1, 0, 0, 1, 1, 0, 0, 1, 1, 1, 1, 0, 0]
def swashlaw15_Write_l2k (k : Nat) (call : Caller) : Kont (AExit × Env) := kBlock 2 (kBlock 1 (kSeq (pieceK (C k) call F.swashlaw15_Write [1, 1, 1, 1, 0, 1, 0, 0, 1, 1, 1]) (kRound (ownOf (C k) F.swashlaw15_Write [1, 1, 1, 1, 0, 1, 0, 0]))))
def swashlaw15_Write (k : Nat) (call : Caller) (a0 a1 : Value) (h : Heap) : Res Value :=
 (boxR a0 h).bind fun v1 h2 =>
 (loadR Prog 146 v1 h2).bind fun v3 h4 =>
 (call F.swashlaw07_Write [v3, (.int .i64 2), (.int .i64 4)] h4).bind fun v5 h6 =>
 (builtinV Prog .len [65] [v5] h6).bind fun v7 h8 =>
 (builtinV Prog .len [188] [a1] h8).bind fun v9 h10 =>
 (loopN (swashlaw15_Write_l1 k call) loopFuel [(1, a1), (5, v5), (6, v7), (7, (.slice none 0 0)), (16, a1), (17, v9), (18, (.int .i64 0))] h10).bind fun r11 h12 =>
 swashlaw15_Write_l1k k call r11.1 r11.2 h12
theorem swashlaw15_Write_R (k : Nat) (a0 a1 : Value) (h : Heap) : R (T k) F.swashlaw15_Write [a0, a1] h = nrm .fz h (swashlaw15_Write k (R (T k)) a0 a1 h) :=
 (R_body (t := T k) (T_scott k) (by kernel_rfl) (by kernel_rfl) _ _).trans (by kernel_rfl)
theorem swashlaw15_Write_l1_eq (k : Nat) (call : Caller) (a1 a5 a6 a7 a16 a17 a18 : Value) (h : Heap) : swashlaw15_Write_l1 k call [(1, a1), (5, a5), (6, a6), (7, a7), (16, a16), (17, a17), (18, a18)] h =
 (binR Prog .lss 3 a18 a17 h).bind fun v13 h14 =>
 condV (some v13) (
 (indexAddrR Prog 188 a16 a18 h14).bind fun v15 h16 =>
 (loadR Prog 156 v15 h16).bind fun v17 h18 =>
 (builtinV Prog .len [188] [a1] h18).bind fun v19 h20 =>
 (binR Prog .mul 3 (.int .i64 4) v19 h20).bind fun v21 h22 =>
 (builtinV Prog .len [65] [a7] h22).bind fun v23 h24 =>
 (binR Prog .add 3 v21 v23 h24).bind fun v25 h26 =>
 (call F.swashref02_Put [a5, v25, (.int .i64 4)] h26).bind fun v27 h28 =>
 (call F.swashref02_Put [a7, (.int .i64 8), (.int .i64 2)] h28).bind fun v29 h30 =>
 (call F.swashref02_Put [v29, (.int .i64 0), (.int .i64 2)] h30).bind fun v31 h32 =>
 (builtinV Prog .len [156] [v17] h32).bind fun v33 h34 =>
 (call F.swashref02_Put [v31, v33, (.int .i64 2)] h34).bind fun v35 h36 =>
 (builtinV Prog .len [156] [v17] h36).bind fun v37 h38 =>
 (loopN (swashlaw15_Write_l2 k call) loopFuel [(1, a1), (5, v27), (6, a6), (7, v35), (16, a16), (17, a17), (18, a18), (36, v17), (37, v37), (38, (.int .i64 0))] h38).bind fun r39 h40 =>
 swashlaw15_Write_l2k k call r39.1 r39.2 h40)
 (
 .ok ((.exit 0), [(1, a1), (5, a5), (6, a6), (7, a7), (16, a16), (17, a17), (18, a18), (19, v13)]) h14) :=
 (loopB_eq _ _).trans (by kernel_rfl)
theorem swashlaw15_Write_l2_eq (k : Nat) (call : Caller) (a1 a5 a6 a7 a16 a17 a18 a36 a37 a38 : Value) (h : Heap) : swashlaw15_Write_l2 k call [(1, a1), (5, a5), (6, a6), (7, a7), (16, a16), (17, a17), (18, a18), (36, a36), (37, a37), (38, a38)] h =
 (binR Prog .lss 3 a38 a37 h).bind fun v41 h42 =>
 condV (some v41) (
 (indexAddrR Prog 156 a36 a38 h42).bind fun v43 h44 =>
 (loadR Prog 62 v43 h44).bind fun v45 h46 =>
 (convR Prog 62 3 v45 h46).bind fun v47 h48 =>
 (call F.swashref02_Put [a7, v47, (.int .i64 2)] h48).bind fun v49 h50 =>
 (binR Prog .add 3 a38 (.int .i64 1) h50).bind fun v51 h52 =>
 .ok (.normal, [(1, a1), (5, a5), (6, a6), (7, v49), (16, a16), (17, a17), (18, a18), (36, a36), (37, a37), (38, v51)]) h52)
 (
 .ok ((.exit 2), [(1, a1), (5, a5), (6, a6), (7, a7), (16, a16), (17, a17), (18, a18), (36, a36), (37, a37), (38, a38), (39, v41)]) h42) :=
 (loopB_eq _ _).trans (by kernel_rfl)
theorem swashlaw15_Write_l1k_x0 (k : Nat) (call : Caller) (a1 a5 a6 a7 a16 a17 a18 a19 : Value) (h : Heap) : swashlaw15_Write_l1k k call (.exit 0) [(1, a1), (5, a5), (6, a6), (7, a7), (16, a16), (17, a17), (18, a18), (19, a19)] h =
 (sliceR Prog 65 a5 (some (.int .i64 16)) (some (.int .i64 20)) none h).bindN fun v53 h54 =>
 (call F.swashref02_Put [(.slice none 0 0), a6, (.int .i64 4)] h54).bindT (fun p57 h58 => .panic p57 h58) fun v55 h56 =>
 (builtinV Prog .copy [65, 65] [v53, v55] h56).bindN fun v59 h60 =>
 chkR ((okVal (sliceR Prog 65 a5 (some (.int .i64 16)) (some (.int .i64 20)) none h56) v53 && true) && true) (
 (builtinV Prog .append [65, 65] [a5, a7] h60).bind fun v61 h62 =>
 .ok v61 h62) := by kernel_rfl
theorem swashlaw15_Write_l2k_x2 (k : Nat) (call : Caller) (a1 a5 a6 a7 a16 a17 a18 a36 a37 a38 a39 : Value) (h : Heap) : swashlaw15_Write_l2k k call (.exit 2) [(1, a1), (5, a5), (6, a6), (7, a7), (16, a16), (17, a17), (18, a18), (36, a36), (37, a37), (38, a38), (39, a39)] h =
 (binR Prog .add 3 a18 (.int .i64 1) h).bind fun v63 h64 =>
 .ok (.normal, [(1, a1), (5, a5), (6, a6), (7, a7), (16, a16), (17, a17), (18, v63)]) h64 := by kernel_rfl
end
end Go.Sw
end
section
namespace Go.Sw
open Go.RowKit
abbrev encU2 (n : Int) : List Value := [.int .u16 n]
theorem encU2_len (n : Int) : (encU2 n).length = 1 := rfl
abbrev encSu (x : List Int × Value) : List Value := [x.2]
theorem encSu_len (x : List Int × Value) : (encSu x).length = 1 := rfl
theorem twos_take (s : List Int) {j : Nat} {x : Int} (h : s[j]? = some x) : twos (s.take (j + 1)) = twos (s.take j) ++ bytesOf x 2 := by rw [take_snoc h, twos_snoc]
theorem w15_l2 (k : Nat) {H0 H : Heap} {L : List It} (g : Star H0 H L) (i : Nat) {o : Option Nat} {s7 : Value} {lk : List Int} (hi : L[i]? = some (itRow o 1 s7 encB lk)) {v : Value} {s : List Int} (hv : Sl H0 1 v encU2 s) (hs : ∀ x, x ∈ s → 0 ≤ x ∧ x < 65536) (hl : lk.length + 2 * s.length < 2 ^ 29) (a1 a5 a6 a16 a17 a18 : Value) :
  ∃ s' o' zz H', loopN (swashlaw15_Write_l2 k (R (T k))) loopFuel [(1, a1), (5, a5), (6, a6), (7, s7), (16, a16), (17, a17), (18, a18), (36, v), (37, .int .i64 s.length), (38, .int .i64 0)] H =
   .ok (.exit 2, [(1, a1), (5, a5), (6, a6), (7, s'), (16, a16), (17, a17), (18, a18), (36, v), (37, .int .i64 s.length), (38, zz), (39, .bool false)]) H' ∧ Star H0 H' (L.set i (itRow o' 1 s' encB (lk ++ twos s))) := by
 have hlt := (List.getElem?_eq_some_iff.1 hi).1
 have same : L.set i (itRow o 1 s7 encB lk) = L := by
  obtain ⟨hlt, hx⟩ := List.getElem?_eq_some_iff.1 hi
  rw [← hx, List.set_getElem_self]
 obtain ⟨xx, e', H1, hr1, rfl, s', o', rfl, g1⟩ := loop_up (body := swashlaw15_Write_l2 k (R (T k))) s.length
  (fun j e H' => ∃ s' o', e = [(1, a1), (5, a5), (6, a6), (7, s'), (16, a16), (17, a17), (18, a18), (36, v), (37, .int .i64 s.length), (38, .int .i64 j)] ∧ Star H0 H' (L.set i (itRow o' 1 s' encB (lk ++ twos (s.take j)))))
  (fun xx e H' => xx = .exit 2 ∧ ∃ s' o', e = [(1, a1), (5, a5), (6, a6), (7, s'), (16, a16), (17, a17), (18, a18), (36, v), (37, .int .i64 s.length), (38, .int .i64 s.length), (39, .bool false)] ∧ Star H0 H' (L.set i (itRow o' 1 s' encB (lk ++ twos s))))
  (e0 := [(1, a1), (5, a5), (6, a6), (7, s7), (16, a16), (17, a17), (18, a18), (36, v), (37, .int .i64 s.length), (38, .int .i64 0)]) (H0 := H) ⟨s7, o, rfl, by simpa [twos, same] using g⟩ (by omega)
  (fun j e H' hj ⟨s', o', he, g⟩ => by
   subst he
   have hjl : (j : Int) < s.length := by omega
   obtain ⟨x, hx⟩ : ∃ x, s[j]? = some x := ⟨_, List.getElem?_eq_getElem hj⟩
   have hxb := hs x (List.mem_of_getElem? hx)
   obtain ⟨p, i1, i2⟩ := hv.ix1 encU2_len j x hx _ rfl
   have i2 := i2 H' g.ext
   have hself : (L.set i (itRow o' 1 s' encB (lk ++ twos (s.take j))))[i]? = some (itRow o' 1 s' encB (lk ++ twos (s.take j))) := List.getElem?_set_self hlt
   obtain ⟨s2, o2, H2, e2, g2⟩ := Put_star k g i hself x 2 2 rfl hxb.1 (by omega) (by omega) (by rw [List.length_append, twos_len, List.length_take]; omega)
   rw [List.set_set, List.append_assoc, ← twos_take s hx] at g2
   refine .inl ⟨_, H2, ?_, s2, o2, rfl, g2⟩
   rw [swashlaw15_Write_l2_eq]
   simp -implicitDefEqProofs (disch := omega) [hjl, i1, i2, e2])
  (fun e H' ⟨s', o', he, g⟩ => by
   subst he
   rw [List.take_length] at g
   refine ⟨.exit 2, _, H', ?_, by simp, rfl, s', o', rfl, g⟩
   rw [swashlaw15_Write_l2_eq]
   simp -implicitDefEqProofs)
 exact ⟨s', o', _, H1, hr1, g1⟩
theorem lksB_snoc (subs : List (List Int)) {j : Nat} {s : List Int} (h : subs[j]? = some s) : lksB (subs.take (j + 1)) = lksB (subs.take j) ++ ofS s := by
 rw [take_snoc h]
 simp [lksB]
theorem offs_snoc (subs : List (List Int)) {j : Nat} (h : j < subs.length) : ((offsL subs).take (j + 1)).flatten = ((offsL subs).take j).flatten ++ bytesOf (4 * subs.length + (lksB (subs.take j)).length : Int) 4 := by
 have : (offsL subs)[j]? = some (bytesOf (4 * subs.length + (lksB (subs.take j)).length : Int) 4) := by
  unfold offsL
  rw [List.getElem?_map, List.getElem?_range h]
  rfl
 rw [take_snoc this]
 simp
theorem planRoom_copy (p : Plan) (w : Int) (rm r x : List Int) (h : rm.length = r.length) : ((planRoom p w rm) ++ x).take 16 ++ (r ++ ((planRoom p w rm) ++ x).drop (16 + r.length)) = planRoom p w r ++ x := by
 have e : ∀ rm' : List Int, rm'.length = r.length → planRoom p w rm' ++ x = (bytesOf (planN p : Int) 4 ++ (bytesOf (16 + r.length : Int) 4 ++ (bytesOf (16 + r.length + (ofS p.cls).length : Int) 4 ++ bytesOf (16 + r.length + (ofS p.cls).length + (rowsL (planN p) p.rows).length : Int) 4))) ++ (rm' ++ ((ofS p.cls ++ (rowsL (planN p) p.rows ++ entsB w p.ents)) ++ x)) := fun rm' hr => by
  unfold planRoom
  rw [hr]
  simp only [List.append_assoc]
 rw [e rm h, e r rfl]
 generalize hA : (bytesOf (planN p : Int) 4 ++ (bytesOf (16 + r.length : Int) 4 ++ (bytesOf (16 + r.length + (ofS p.cls).length : Int) 4 ++ bytesOf (16 + r.length + (ofS p.cls).length + (rowsL (planN p) p.rows).length : Int) 4))) = A
 have hAl : A.length = 16 := by rw [← hA]; simp
 generalize ((ofS p.cls ++ (rowsL (planN p) p.rows ++ entsB w p.ents)) ++ x) = Z
 rw [← hAl, List.take_left, ← h]
 rw [show A ++ (rm ++ Z) = (A ++ rm) ++ Z by rw [List.append_assoc], show A.length + rm.length = (A ++ rm).length by simp, List.drop_left]
set_option maxHeartbeats 1000000 in
theorem ctxWrite_runG (k : Nat) (hW : ownW k = .no) (p : Plan) (hp : p.ok) (h1 : p.cls.length ≤ 1000) (h2 : p.rows.length ≤ 1000) (h3 : p.ents.length ≤ 1000) {H : Heap} {vC vR sE : Value} {rv : List (List Int × Value)} (hP : PlanSl H p vC vR sE rv)
  (subs : List (List Int × Value)) (hs : ∀ x, x ∈ subs → Sl H 1 x.2 encU2 x.1 ∧ x.1.length ≤ 60 ∧ ∀ n, n ∈ x.1 → 0 ≤ n ∧ n < 65536) (hn : subs.length ≤ 1000) {vS : Value} (hvS : Sl H 1 vS encSu subs) :
  R (T k) F.swashlaw15_Write [.agg #[vC, vR, sE, .int .u8 p.wide], vS] H = .ok (lv encB (ctxBytes p (subs.map Prod.fst))) H := by
 rw [swashlaw15_Write_R]
 obtain ⟨H1, hH1⟩ : ∃ H1, H1 = H.push ⟨[vC, vR, sE, .int .u8 p.wide], 1, false⟩ := ⟨_, rfl⟩
 have hx1 : Ext H H1 := by rw [hH1]; exact (Ext.refl H).push _
 have hg1 : H1.get H.n = some ⟨[vC, vR, sE, .int .u8 p.wide], 1, false⟩ := by rw [hH1]; exact get_push_eq _ _ _ rfl
 obtain ⟨N, hN⟩ : ∃ N, N = (planRoom p 2 (List.replicate 4 0)).length := ⟨_, rfl⟩
 have hNb : N ≤ 100000 := by rw [hN]; exact planRoom_len hp 2 (by simp) h1 h2 h3
 obtain ⟨fs, hfs⟩ : ∃ fs : List (List Int), fs = subs.map Prod.fst := ⟨_, rfl⟩
 have hfl : fs.length = subs.length := by rw [hfs]; simp
 have hfb : ∀ s, s ∈ fs → s.length ≤ 60 := fun s h => by
  rw [hfs] at h
  obtain ⟨x, hx, rfl⟩ := List.mem_map.1 h
  exact (hs x hx).2.1
 have hLk := lksB_le fs hfb
 have hLk2 := lksB_take_le fs
 have hol := offsB_len fs
 obtain ⟨s0, o0, J0, e0, g, _⟩ := Write_starG k hW p hp 2 (by omega) 4 (by omega) h1 h2 h3 (Star.nil H1) (hP.up hx1)
 rw [planBytes_room] at g
 simp only [List.nil_append] at g
 have hln0 : ∀ H', lnS s0 H' = .ok (.int .i64 N) H' := by rw [hN]; exact (g.row 0 rfl).len
 have hlnS : ∀ H', lnS vS H' = .ok (.int .i64 subs.length) H' := fun H' => hvS.len H'
 have g := g.more_row (Ext.refl _) (OwnO.nil encB _ 1) (fun b hb => by cases hb)
 simp only [List.cons_append, List.nil_append] at g
 obtain ⟨xx, e', J1, hr1, rfl, s5, s7, o5, o7, rfl, g⟩ := loop_up (body := swashlaw15_Write_l1 k (R (T k))) subs.length
  (fun j e H' => ∃ s5 s7 o5 o7, e = [(1, vS), (5, s5), (6, .int .i64 N), (7, s7), (16, vS), (17, .int .i64 subs.length), (18, .int .i64 j)] ∧ Star H1 H' [itRow o5 1 s5 encB (planRoom p 2 (List.replicate 4 0) ++ ((offsL fs).take j).flatten), itRow o7 1 s7 encB (lksB (fs.take j))])
  (fun xx e H' => xx = .exit 0 ∧ ∃ s5 s7 o5 o7, e = [(1, vS), (5, s5), (6, .int .i64 N), (7, s7), (16, vS), (17, .int .i64 subs.length), (18, .int .i64 subs.length), (19, .bool false)] ∧ Star H1 H' [itRow o5 1 s5 encB (planRoom p 2 (List.replicate 4 0) ++ offsB fs), itRow o7 1 s7 encB (lksB fs)])
  (e0 := [(1, vS), (5, s0), (6, .int .i64 N), (7, .slice none 0 0), (16, vS), (17, .int .i64 subs.length), (18, .int .i64 0)]) (H0 := J0) ⟨s0, _, o0, none, rfl, by simpa [lksB] using g⟩ (by omega)
  (fun j e H' hj ⟨s5, s7, o5, o7, he, g⟩ => by
   subst he
   have hjl : (j : Int) < subs.length := by omega
   obtain ⟨x, hx⟩ : ∃ x, subs[j]? = some x := ⟨_, List.getElem?_eq_getElem hj⟩
   have hxs := hs x (List.mem_of_getElem? hx)
   have hf : fs[j]? = some x.1 := by rw [hfs, List.getElem?_map, hx]; rfl
   obtain ⟨pt, i1, i2⟩ := (hvS.up hx1).ix1 encSu_len j x hx _ rfl
   have i2 := i2 H' g.ext
   have hlx : ∀ H', lnS x.2 H' = .ok (.int .i64 x.1.length) H' := fun H' => hxs.1.len H'
   have hlk := hLk2 j
   have hl7 : ∀ H', lnS s7 H' = .ok (.int .i64 (lksB (fs.take j)).length) H' := (g.row 1 rfl).len
   have hob : ((offsL fs).take j).flatten.length ≤ 4000 := by
    rw [flat_len (fun r hr => offsL_four fs r (List.mem_of_mem_take hr)), List.length_take, offsL_len]
    omega
   obtain ⟨t1, u1, J1, f1, g⟩ := Put_star k g 0 rfl (4 * fs.length + (lksB (fs.take j)).length) 4 4 rfl (by omega) (by omega) (by omega) (by rw [List.length_append]; omega)
   simp only [List.set_cons_zero, List.set_cons_succ] at g
   rw [List.append_assoc, ← offs_snoc fs (by omega)] at g
   obtain ⟨t2, u2, J2, f2, g⟩ := Put_star k g 1 rfl 8 2 2 rfl (by omega) (by omega) (by omega) (by omega)
   simp only [List.set_cons_zero, List.set_cons_succ] at g
   obtain ⟨t3, u3, J3, f3, g⟩ := Put_star k g 1 rfl 0 2 2 rfl (by omega) (by omega) (by omega) (by rw [List.length_append, bytesOf_len]; omega)
   simp only [List.set_cons_zero, List.set_cons_succ] at g
   obtain ⟨t4, u4, J4, f4, g⟩ := Put_star k g 1 rfl x.1.length 2 2 rfl (by omega) (by omega) (by omega) (by simp only [List.length_append, bytesOf_len]; omega)
   simp only [List.set_cons_zero, List.set_cons_succ] at g
   obtain ⟨t5, u5, zz, J5, f5, g⟩ := w15_l2 k g 1 rfl (hxs.1.up hx1) hxs.2.2 (by simp only [List.length_append, bytesOf_len]; omega) vS t1 (.int .i64 N) vS (.int .i64 subs.length) (.int .i64 j)
   simp only [List.set_cons_zero, List.set_cons_succ] at g
   have hsn : lksB (fs.take j) ++ bytesOf 8 2 ++ bytesOf 0 2 ++ bytesOf x.1.length 2 ++ twos x.1 = lksB (fs.take (j + 1)) := by
    rw [lksB_snoc fs hf]
    unfold ofS
    simp only [List.append_assoc]
   rw [hsn] at g
   rw [hfl] at f1
   refine .inl ⟨_, J5, ?_, t1, t5, u1, u5, rfl, g⟩
   rw [swashlaw15_Write_l1_eq]
   simp -implicitDefEqProofs (disch := omega) [hjl, i1, i2, hlnS, hl7, f1, f2, f3, hlx, f4, f5, swashlaw15_Write_l2k_x2])
  (fun e H' ⟨s5, s7, o5, o7, he, g⟩ => by
   subst he
   rw [List.take_of_length_le (by rw [offsL_len]; omega), List.take_of_length_le (by omega)] at g
   refine ⟨.exit 0, _, H', ?_, by simp, rfl, s5, s7, o5, o7, rfl, g⟩
   rw [swashlaw15_Write_l1_eq]
   simp -implicitDefEqProofs)
 -- where the lookups stand is told
 have hbl : (planRoom p 2 (List.replicate 4 0) ++ offsB fs).length = N + fs.length * 4 := by rw [List.length_append, hol, hN]
 have hN16 : 20 ≤ N := by rw [hN]; unfold planRoom; simp; omega
 obtain ⟨c5, rfl, hs5, cut1⟩ := g.cut1 0 rfl 16 4 (by omega) (by omega) .i64 .i64
 have g := g.more_row (Ext.refl _) (OwnO.nil encB _ 1) (fun b hb => by cases hb)
 simp only [List.cons_append, List.nil_append] at g
 obtain ⟨t6, u6, J6, f6, g⟩ := Put_star k g 2 rfl N 4 4 rfl (by omega) (by omega) (by omega) (by simp)
 simp only [List.set_cons_zero, List.set_cons_succ, List.nil_append] at g
 obtain ⟨c6, h6, _, cut2⟩ := g.cut1 0 rfl 16 4 (by omega) (by omega) .i64 .i64
 have h6 := Option.some.inj h6
 subst h6
 obtain ⟨J7, f7, g⟩ := g.copy1 0 2 rfl rfl 16 4 ((planRoom p 2 (List.replicate 4 0) ++ offsB fs).length - 16) (by simp) (by omega) (by omega)
 simp only [List.set_cons_zero] at g
 have hcopy := planRoom_copy p 2 (List.replicate 4 0) (bytesOf (N : Int) 4) (offsB fs) (by simp)
 rw [bytesOf_len] at hcopy
 rw [hcopy] at g
 have hrl : (planRoom p 2 (bytesOf (N : Int) 4)).length = N := by rw [hN]; exact planRoom_size p 2 _ _ (by simp)
 obtain ⟨t8, u8, J8, f8, g⟩ := g.appendRow (bytes := 1) 0 1 encB_len rfl rfl (by rw [List.length_append, hrl]; omega) (by decide)
 simp only [List.set_cons_zero, List.set_cons_succ] at g
 have hfin : planRoom p 2 (bytesOf (N : Int) 4) ++ offsB fs ++ lksB fs = ctxBytes p fs := by unfold ctxBytes; rw [← hN, List.append_assoc]
 rw [hfin] at g
 have hown : Own H J8 1 t8 encB (ctxBytes p fs) := (g.own 0 rfl).base hx1.n
 obtain ⟨L, hf⟩ := hown.freeze encB_len (fun n _ v hv => by simp at hv; subst hv; trivial) 6
 refine nrm_fz (v := t8) (H' := J8) ?_ (by rw [← hfs]; exact hf) (hx1.trans g.ext) (Flat.B _).alive
 have hv5 : veq (.slice (some ⟨c5, 16, none⟩) 4 ((planRoom p 2 (List.replicate 4 0) ++ offsB fs).length - 16)) (.slice (some ⟨c5, 16, none⟩) 4 ((planRoom p 2 (List.replicate 4 0) ++ offsB fs).length - 16)) = true := by simp
 generalize (planRoom p 2 (List.replicate 4 0) ++ offsB fs).length - 16 = cap at cut1 cut2 f7 hv5
 have cut1 : slS 1 s5 (some (.int .i64 16)) (some (.int .i64 20)) none J1 = .ok (.slice (some ⟨c5, 16, none⟩) 4 cap) J1 := cut1
 have cut2 : slS 1 s5 (some (.int .i64 16)) (some (.int .i64 20)) none J6 = .ok (.slice (some ⟨c5, 16, none⟩) 4 cap) J6 := cut2
 rw [hH1] at e0
 have e0 : R (T k) F.swashlaw07_Write [.agg #[vC, vR, sE, .int .u8 p.wide], .int .i64 2, .int .i64 4] (H.push ⟨[vC, vR, sE, .int .u8 p.wide], 1, false⟩) = .ok s0 J0 := e0
 simp -implicitDefEqProofs (disch := omega) [swashlaw15_Write, e0, hln0, hlnS, hr1, swashlaw15_Write_l1k_x0, cut1, f6, cut2, f7, hv5, f8]
end Go.Sw
end
section
namespace Go.Sw
open Go.RowKit
theorem and_two15 (n : Nat) : n &&& 2 ^ 15 = if n.testBit 15 then 2 ^ 15 else 0 := by
 apply Nat.eq_of_testBit_eq
 intro i
 rw [Nat.testBit_and, Nat.testBit_two_pow]
 by_cases h : 15 = i
 ·subst h
  cases hb : n.testBit 15 <;> simp <;> decide
 ·cases hb : n.testBit 15
  ·simp [h]
  ·simp only [h, decide_false, Bool.and_false, if_true, Nat.testBit_two_pow]
theorem and15 (P : Program) (t : TypeId) (H : Heap) {a : Int} (h0 : 0 ≤ a) (h1 : a < 65536) : binR P .and t (.int .i64 a) (.int .i64 32768) H = .ok (.int .i64 (if a ≥ 32768 then 32768 else 0)) H := by
 have e : (BitVec.ofInt 64 a &&& BitVec.ofInt 64 32768).toNat = (if a ≥ 32768 then 32768 else 0) := by
  rw [BitVec.toNat_and, BitVec.toNat_ofInt, BitVec.toNat_ofInt]
  rw [show ((32768 : Int) % ((2 ^ 64 : Nat) : Int)).toNat = 2 ^ 15 from by decide, and_two15, Nat.testBit_eq_decide_div_mod_eq]
  obtain ⟨n, rfl⟩ := Int.eq_ofNat_of_zero_le h0
  rw [show (((n : Int)) % ((2 ^ 64 : Nat) : Int)).toNat = n by omega]
  by_cases h : (n : Int) ≥ 32768
  ·rw [if_pos h, decide_eq_true (show n / 2 ^ 15 % 2 = 1 by omega)]; rfl
  ·rw [if_neg h, decide_eq_false (show ¬ n / 2 ^ 15 % 2 = 1 by omega)]; rfl
 have e1 : binV P .and t (.int .i64 a) (.int .i64 32768) = some (.int .i64 (IntKind.i64.wrap (BitVec.ofInt 64 a &&& BitVec.ofInt 64 32768).toNat)) := rfl
 unfold binR
 rw [e1, e]
 by_cases h : a ≥ 32768
 ·simp [h]
 ·simp [h]
def doC (t : CTab) (s : List Gl × Int) (i : Int) (e : En) : List Gl × Int :=
 (swapC t (swapC t s.1 s.2 e.a) i e.b, if e.flags ≥ 32768 ∧ i < (s.1.length : Int) then i else s.2)
def ctxW (t : CTab) (L : List It) (i c : Nat) (o : Option Nat) (p1 p3 pm : Nat) (s : List Gl × Int) : List It :=
 L.set i (itLine c o s.1) ++ [itBlk p1 ⟨[ctxV t], 1, false⟩, itBlk p3 ⟨[ptrV c], 1, false⟩, itBlk pm ⟨[.int .i64 s.2], 1, false⟩]
set_option maxHeartbeats 1000000 in
theorem ctx_do (k : Nat) (t : CTab) (ht : t.ok) (L : List It) (i c : Nat) (o : Option Nat) (hi : i < L.length) (p1 p3 pm n : Nat) {H0 : Heap} :
  DoOk k t.m H0 (ctxW t L i c o p1 p3 pm) (fun s => s.1.length = n) (.func (.func F.ctx_Table_Run_in1) #[] #[ptrV p1, ptrV p3, ptrV pm]) (doC t) := by
 intro s j e H X hI st h0 h1 he
 have hI2 : (swapC t (swapC t s.1 s.2 e.a) j e.b).length = n := by simpa using hI
 have heb := ht.m.ent e he
 have hhas := ht.has e he
 unfold ctxW at st ⊢
 have hline : ∀ (l : List Gl) (B : List It), (L.set i (itLine c o l) ++ B)[i]? = some (itLine c o l) := fun l B => by
  rw [List.getElem?_append_left (by simpa using hi), List.getElem?_set_self hi]
 have hset : ∀ (l l' : List Gl) (B : List It), (L.set i (itLine c o l) ++ B).set i (itLine c o l') = L.set i (itLine c o l') ++ B := fun l l' B => by
  rw [List.set_append_left _ _ (by simpa using hi), List.set_set]
 have st2 := st.push ⟨encEn e, 1, false⟩
 rw [List.append_assoc, List.append_assoc] at st2
 have g1 := st2.memBlk (c := p1) (k := ⟨[ctxV t], 1, false⟩) (by simp)
 have g3 := st2.memBlk (c := p3) (k := ⟨[ptrV c], 1, false⟩) (by simp)
 have gm := st2.memBlk (c := pm) (k := ⟨[.int .i64 s.2], 1, false⟩) (by simp)
 have ge := st2.memBlk (c := H.n) (k := ⟨encEn e, 1, false⟩) (by simp)
 obtain ⟨v1, H1, e1, st3⟩ := ctxSwap_star k t ht st2 i (hline s.1 _) s.2 e.a (by omega)
 rw [hset] at st3
 have f1 := st3.memBlk (c := p1) (k := ⟨[ctxV t], 1, false⟩) (by simp)
 have f3 := st3.memBlk (c := p3) (k := ⟨[ptrV c], 1, false⟩) (by simp)
 have fe := st3.memBlk (c := H.n) (k := ⟨encEn e, 1, false⟩) (by simp)
 obtain ⟨v2, H2, e2, st4⟩ := ctxSwap_star k t ht st3 i (hline _ _) j e.b (by omega)
 rw [hset] at st4
 have k3 := st4.memBlk (c := p3) (k := ⟨[ptrV c], 1, false⟩) (by simp)
 have ke := st4.memBlk (c := H.n) (k := ⟨encEn e, 1, false⟩) (by simp)
 have hlen := lineLen_run k st4 i (hline _ _)
 simp only [swapC_len] at hlen
 have han := fun H => and15 Prog 3 H heb.2.2.1 heb.2.2.2.1
 have fin : ∀ (H' : Heap) (M : Int), Star H0 H' (L.set i (itLine c o (swapC t (swapC t s.1 s.2 e.a) j e.b)) ++ ([itBlk p1 ⟨[ctxV t], 1, false⟩, itBlk p3 ⟨[ptrV c], 1, false⟩, itBlk pm ⟨[.int .i64 M], 1, false⟩] ++ (X ++ [itBlk H.n ⟨encEn e, 1, false⟩]))) →
   Star H0 H' (L.set i (itLine c o (swapC t (swapC t s.1 s.2 e.a) j e.b)) ++ [itBlk p1 ⟨[ctxV t], 1, false⟩, itBlk p3 ⟨[ptrV c], 1, false⟩, itBlk pm ⟨[.int .i64 M], 1, false⟩] ++ X) := fun H' M h => by
  rw [← List.append_assoc, ← List.append_assoc] at h
  exact h.drop_last
 by_cases hf : e.flags ≥ 32768
 ·rw [if_pos hf] at han
  by_cases hj : j < (s.1.length : Int)
  ·have hd : (doC t s j e).2 = j := by unfold doC; exact if_pos ⟨hf, hj⟩
   have hd1 : (doC t s j e).1 = swapC t (swapC t s.1 s.2 e.a) j e.b := rfl
   rw [hd, hd1]
   have hix : (L.set i (itLine c o (swapC t (swapC t s.1 s.2 e.a) j e.b)) ++ ([itBlk p1 ⟨[ctxV t], 1, false⟩, itBlk p3 ⟨[ptrV c], 1, false⟩, itBlk pm ⟨[.int .i64 s.2], 1, false⟩] ++ (X ++ [itBlk H.n ⟨encEn e, 1, false⟩]))) =
     (L.set i (itLine c o (swapC t (swapC t s.1 s.2 e.a) j e.b)) ++ [itBlk p1 ⟨[ctxV t], 1, false⟩, itBlk p3 ⟨[ptrV c], 1, false⟩]) ++ itBlk pm ⟨[.int .i64 s.2], 1, false⟩ :: (X ++ [itBlk H.n ⟨encEn e, 1, false⟩]) := by simp
   rw [hix] at st4
   obtain ⟨H3, e3, st5⟩ := st4.stEnd 0 (v := .int .i64 j) rfl rfl (by simp)
   simp only [List.set_cons_zero] at st5
   refine ⟨.tuple #[], H3, ?_, fin H3 j (by simpa using st5), hI2⟩
   simp only [callV, List.nil_append, List.cons_append]
   rw [ctx_Table_Run_in1_R, nrm_of]
   simp -implicitDefEqProofs (disch := omega) [-stR_ptr, ctx_Table_Run_in1, g1, g3, gm, ge, e1, f1, f3, fe, e2, k3, ke, han, bne, hlen, hj, e3]
  ·have hd : (doC t s j e).2 = s.2 := by unfold doC; exact if_neg fun h => hj h.2
   have hd1 : (doC t s j e).1 = swapC t (swapC t s.1 s.2 e.a) j e.b := rfl
   rw [hd, hd1]
   refine ⟨.tuple #[], H2, ?_, fin H2 s.2 st4, hI2⟩
   simp only [callV, List.nil_append, List.cons_append]
   rw [ctx_Table_Run_in1_R, nrm_of]
   simp -implicitDefEqProofs (disch := omega) [-stR_ptr, ctx_Table_Run_in1, g1, g3, gm, ge, e1, f1, f3, fe, e2, k3, ke, han, bne, hlen, hj]
 ·rw [if_neg hf] at han
  have hd : (doC t s j e).2 = s.2 := by unfold doC; exact if_neg fun h => hf h.1
  have hd1 : (doC t s j e).1 = swapC t (swapC t s.1 s.2 e.a) j e.b := rfl
  rw [hd, hd1]
  refine ⟨.tuple #[], H2, ?_, fin H2 s.2 st4, hI2⟩
  simp only [callV, List.nil_append, List.cons_append]
  rw [ctx_Table_Run_in1_R, nrm_of]
  simp -implicitDefEqProofs (disch := omega) [-stR_ptr, ctx_Table_Run_in1, g1, g3, gm, ge, e1, f1, f3, fe, e2, k3, ke, han, bne]
end Go.Sw
end
section
namespace Go.Sw
open Go.RowKit
theorem plainNew (k : Nat) (f : Fn) (a b : Array Value) (H : Heap) : R (T k) F.drive_Plain [.func f a b] H = .ok (.func (.func F.drive_Plain_in1) #[] #[ptrV H.n]) (H.push ⟨[.func f a b], 1, false⟩) := by
 rw [drive_Plain_R]
 have e : drive_Plain k (R (T k)) (.func f a b) H = .ok (.func (.func F.drive_Plain_in1) #[] #[ptrV H.n]) (H.push ⟨[.func f a b], 1, false⟩) := by
  simp -implicitDefEqProofs [drive_Plain]
 rw [e]
 have dead : ¬ Alive H (.func (.func F.drive_Plain_in1) #[] #[ptrV H.n]) := fun h => by
  cases h with
  | func fn xs ys h1 h2 =>
   have := h2 0 (ptrV H.n) rfl
   cases this with
   | ptr b off k hg => have := Heap.get_lt hg; omega
 unfold nrm
 exact if_neg fun hc => dead hc.2
end Go.Sw
end
section
namespace Go.Sw
open Go.RowKit
theorem veq_Ens (l : List En) : veq (lv encEn l) (lv encEn l) = true := veq_lv fun p _ v hv => by
 simp [encEn] at hv
 rcases hv with rfl | rfl | rfl | rfl <;> simp
theorem veq_Is (l : List Int) : veq (lv encI l) (lv encI l) = true := veq_lv fun p _ v hv => by
 simp [encI] at hv
 subst hv; simp
theorem veq_Rows (l : List (List Int)) : veq (lv encRow l) (lv encRow l) = true := veq_lv fun p _ v hv => by
 simp [encRow] at hv
 subst hv; exact veq_Is p
theorem veq_Ts (l : List (Int × List Pt)) : veq (lv encT l) (lv encT l) = true := veq_lv fun p _ v hv => by
 simp [encT] at hv
 subst hv; exact veq_tab p
theorem veq_mach (m : Mach) : veq (machV m) (machV m) = true := veq_boxV (l := [.int .i64 m.classes, tabV m.tab, lv encRow m.rows, lv encEn m.ents]) fun v hv => by
 simp at hv
 rcases hv with rfl | rfl | rfl | rfl
 ·simp
 ·exact veq_tab _
 ·exact veq_Rows _
 ·exact veq_Ens _
theorem veq_ctx (t : CTab) : veq (ctxV t) (ctxV t) = true := veq_boxV (l := ctxC t) fun v hv => by
 simp [ctxC] at hv
 rcases hv with rfl | rfl
 ·exact veq_mach _
 ·exact veq_Ts _
def runCr (t : CTab) (l : List Gl) : Int × Int × (List Gl × Int) :=
 runD t.m (fun s : List Gl × Int => s.1) (fun s i e => (doC t s i e, i, i + 1)) (2 * (l.length : Int) + 128) (2 * l.length + 128) ((l, -1), ⟨0, 0, 0, 0⟩)
def runC (t : CTab) (l : List Gl) : List Gl × Int := ((runCr t l).2.2.1, (runCr t l).2.1)
set_option maxHeartbeats 1000000 in
theorem ctxRun_star (k : Nat) (t : CTab) (ht : t.ok) {H0 H : Heap} {L : List It} (h : Star H0 H L) (i : Nat) {c : Nat} {o : Option Nat} {l : List Gl} (hi : L[i]? = some (itLine c o l)) (hl : l.length < 2 ^ 40) :
  ∃ H', R (T k) F.ctx_Table_Run [ctxV t, ptrV c] H = .ok (.int .i64 (runC t l).2) H' ∧ Star H0 H' (L.set i (itLine c o (runC t l).1)) ∧ (runC t l).1.length = l.length := by
 have hlt := (List.getElem?_eq_some_iff.1 hi).1
 have same : L.set i (itLine c o l) = L := by
  obtain ⟨hlt, hx⟩ := List.getElem?_eq_some_iff.1 hi
  rw [← hx, List.set_getElem_self]
 have st := ((h.push ⟨[ctxV t], 1, false⟩).push ⟨[ptrV c], 1, false⟩).push ⟨[.int .i64 (-1)], 1, false⟩
 simp only [hn_push] at st
 obtain ⟨H3, hH3⟩ : ∃ H3, H3 = ((H.push ⟨[ctxV t], 1, false⟩).push ⟨[ptrV c], 1, false⟩).push ⟨[.int .i64 (-1)], 1, false⟩ := ⟨_, rfl⟩
 rw [← hH3] at st
 have hn3 : H3.n = H.n + 3 := by rw [hH3]; simp
 have ePl := plainNew k (.func F.ctx_Table_Run_in1) #[] #[ptrV H.n, ptrV (H.n + 1), ptrV (H.n + 2)] H3
 have st4 := st.push ⟨[.func (.func F.ctx_Table_Run_in1) #[] #[ptrV H.n, ptrV (H.n + 1), ptrV (H.n + 2)]], 1, false⟩
 have g1 := st4.memBlk (c := H.n) (k := ⟨[ctxV t], 1, false⟩) (by simp)
 have g3 := st4.memBlk (c := H.n + 1) (k := ⟨[ptrV c], 1, false⟩) (by simp)
 have hact := plain_ok k (ctx_do k t ht L i c o hlt H.n (H.n + 1) (H.n + 2) l.length (H0 := H0)) H3.n
 obtain ⟨H5, eR, st5, hI5⟩ := driveRun_star k t.m ht.m (fun s : List Gl × Int => ctxW t L i c o H.n (H.n + 1) (H.n + 2) s ++ [itBlk H3.n ⟨[.func (.func F.ctx_Table_Run_in1) #[] #[ptrV H.n, ptrV (H.n + 1), ptrV (H.n + 2)]], 1, false⟩]) (fun s => s.1.length = l.length) (fun s => s.1) c
  (fun s => ⟨i, o, by
   unfold ctxW
   rw [List.append_assoc, List.getElem?_append_left (by simpa using hlt), List.getElem?_set_self hlt]⟩) _ _ hact [] (l, -1) rfl (by
   unfold ctxW
   rw [same]
   simpa [List.append_assoc] using st4) (by simpa using hl)
 refine ⟨H5, ?_, ?_, ?_⟩
 ·rw [ctx_Table_Run_R, nrm_of]
  have v1 := veq_ctx t
  have v2 := veq_mach t.m
  unfold runC
  dsimp only at eR ⊢
  have hr : runD t.m (fun s : List Gl × Int => s.1) (fun s i e => (doC t s i e, i, i + 1)) (2 * (l.length : Int) + 128) (2 * l.length + 128) ((l, -1), ⟨0, 0, 0, 0⟩) = runCr t l := by unfold runCr; rfl
  rw [hr] at eR
  generalize runCr t l = r at eR ⊢
  rw [hH3] at ePl eR g1 g3
  simp only [hn_push] at ePl eR
  simp -implicitDefEqProofs (disch := omega) [ctx_Table_Run, ePl, eR, v1, v2]
 ·unfold runC
  dsimp only at st5 ⊢
  have hr : runD t.m (fun s : List Gl × Int => s.1) (fun s i e => (doC t s i e, i, i + 1)) (2 * (l.length : Int) + 128) (2 * l.length + 128) ((l, -1), ⟨0, 0, 0, 0⟩) = runCr t l := by unfold runCr; rfl
  rw [hr] at st5
  generalize runCr t l = r at st5 ⊢
  unfold ctxW at st5
  have := st5.take L.length
  rw [List.append_assoc, List.append_assoc, List.take_append_of_le_length (by simp), List.take_of_length_le (by simp)] at this
  exact this
 ·unfold runC
  dsimp only at hI5 ⊢
  have hr : runD t.m (fun s : List Gl × Int => s.1) (fun s i e => (doC t s i e, i, i + 1)) (2 * (l.length : Int) + 128) (2 * l.length + 128) ((l, -1), ⟨0, 0, 0, 0⟩) = runCr t l := by unfold runCr; rfl
  rw [hr] at hI5
  exact hI5
end Go.Sw
end
section
namespace Go.Sw
open Go.RowKit
theorem speaks15_run (k : Nat) (hk : k % 1000000 = F.swashlaw15_speaks) (H : Heap) : R (T k) F.swashlaw15_speaks [] H = .ok (.bool true) H :=
 (R_sp (t := T k) (T_scott k) (s := constSp (.bool true)) (by unfold T C; dsimp only; rw [hk]; kernel_rfl) [] H).trans (nrm_gc (Pure.of rfl) (.bool _))
end Go.Sw
end
section
namespace Go.Sw
open Go.RowKit
end Go.Sw
end
section
set_option maxRecDepth 100000
set_option linter.unusedVariables false
namespace Go.Sw
noncomputable section
end
end Go.Sw
end
section
namespace Go.Sw
open Go.RowKit
end Go.Sw
end
section
namespace Go.Sw
open Go.RowKit
end Go.Sw
end
section
set_option maxRecDepth 100000
set_option linter.unusedVariables false
namespace Go.Sw
noncomputable section
def swashref15_Read_l1 (k : Nat) (call : Caller) : Env → Heap → Res (AExit × Env) := loopB (C k) call F.swashref15_Read [1, 1, 1, 1, 1, 0, 1, 0, 0]
def swashref15_Read_l1k (k : Nat) (call : Caller) : Kont Value := kBlock 0 (kSeq (pieceK (C k) call F.swashref15_Read [1, 1, 1, 1, 1, 1]) (kDone Prog (resOf Prog F.swashref15_Read)))
def swashref15_Read_l2 (k : Nat) (call : Caller) : Env → Heap → Res (AExit × Env) := loopB (C k) call F.swashref15_Read [1, 1, 1, 1, 1, 0, 1, 0, 0, 1, 0, 0, 1, 1, 0, 0]
def swashref15_Read_j1 (k : Nat) (call : Caller) (a0 a1 a4 a6 a8 a9 a10 a11 a12 a13 : Value) (h : Heap) : Res (AExit × Env) :=
 kSeq (pieceK (C k) call F.swashref15_Read [1, 1, 1, 1, 1, 0, 1, 0, 0, 1, 0, 0, 1, 1, 0, 0, 1, 0, 0, 1, 1]) (kBlock 3 (kSeq (pieceK (C k) call F.swashref15_Read [1, 1, 1, 1, 1, 0, 1, 0, 0, 1, 0, 0, 1, 1, 0, 0, 1, 1]) (kRound (ownOf (C k) F.swashref15_Read [1, 1, 1, 1, 1, 0, 1, 0, 0, 1, 0, 0, 1, 1, 0, 0])))) .normal [(0, a0), (1, a1), (4, a4), (6, a6), (8, a8), (9, a9), (10, a10), (11, a11), (12, a12), (13, a13)] h
def swashref15_Read_j2 (k : Nat) (call : Caller) (a0 a1 a4 a6 a8 a9 a10 a11 a12 a13 a56 : Value) (h : Heap) : Res (AExit × Env) :=
 kSeq (pieceK (C k) call F.swashref15_Read [1, 1, 1, 1, 1, 0, 1, 0, 0, 1, 0, 0, 1, 1, 0, 0, 1, 0, 0, 1, 1]) (kBlock 3 (kSeq (pieceK (C k) call F.swashref15_Read [1, 1, 1, 1, 1, 0, 1, 0, 0, 1, 0, 0, 1, 1, 0, 0, 1, 1]) (kRound (ownOf (C k) F.swashref15_Read [1, 1, 1, 1, 1, 0, 1, 0, 0, 1, 0, 0, 1, 1, 0, 0])))) .normal [(0, a0), (1, a1), (4, a4), (6, a6), (8, a8), (9, a9), (10, a10), (11, a11), (12, a12), (13, a13), (56, a56)] h
def swashref15_Read_l3 (k : Nat) (call : Caller) : Env → Heap → Res (AExit × Env) := loopB (C k) call F.swashref15_Read [1, 1, 1, 1, 1, 0, 1, 0, 0, 1, 0, 0, 1, 1, 0, 0, 1, 0, 0, 1, 1, 0, 0]
def swashref15_Read_l3k (k : Nat) (call : Caller) : Kont (AExit × Env) := kBlock 4 (kBlock 3 (kSeq (pieceK (C k) call F.swashref15_Read [1, 1, 1, 1, 1, 0, 1, 0, 0, 1, 0, 0, 1, 1, 0, 0, 1, 1]) (kRound (ownOf (C k) F.swashref15_Read [1, 1, 1, 1, 1, 0, 1, 0, 0, 1, 0, 0, 1, 1, 0, 0]))))
def swashref15_Read (k : Nat) (call : Caller) (a0 a1 : Value) (h : Heap) : Res Value :=
 (allocR Prog 198 h).bind fun v1 h2 =>
 (call F.swashref07_Read [a0, a1, (.int .i64 2)] h2).bind fun v3 h4 =>
 (extractR v3 0 h4).bind fun v5 h6 =>
 (extractR v3 1 h6).bind fun v7 h8 =>
 (allocR Prog 137 h8).bind fun v9 h10 =>
 (storeR Prog 137 v9 v5 h10).bind fun _v11 h12 =>
 (call F.swashref01_U [a0, (.int .i64 16), (.int .i64 4)] h12).bind fun v13 h14 =>
 (loadR Prog 137 v9 h14).bind fun v15 h16 =>
 (buildR Prog 198 [(0, v15)] h16).bind fun v17 h18 =>
 (allocR Prog 198 h18).bind fun v19 h20 =>
 (storeR Prog 198 v19 v17 h20).bind fun _v21 h22 =>
 (unR .not v7 h22).bind fun v23 h24 =>
 ((bif wantVal v23 false then Res.ok v13 h24 else Res.ok undef h24)).bind fun v25 h26 =>
 ((bif wantVal v23 false then binR Prog .lss 3 v25 (.int .i64 0) h26 else Res.ok undef h26)).bind fun v27 h28 =>
 (condV (some v23) (Res.ok (.bool true) h28) (Res.ok v27 h28)).bind fun v29 h30 =>
 ((bif wantVal v29 false then Res.ok v13 h30 else Res.ok undef h30)).bind fun v31 h32 =>
 ((bif wantVal v29 false then Res.ok a0 h32 else Res.ok undef h32)).bind fun v33 h34 =>
 ((bif wantVal v29 false then builtinV Prog .len [65] [v33] h34 else Res.ok undef h34)).bind fun v35 h36 =>
 ((bif wantVal v29 false then binR Prog .gtr 3 v31 v35 h36 else Res.ok undef h36)).bind fun v37 h38 =>
 (condV (some v29) (Res.ok (.bool true) h38) (Res.ok v37 h38)).bind fun v39 h40 =>
 condV (some v39) (
 (loadR Prog 198 v19 h40).bind fun v41 h42 =>
 (storeR Prog 198 v1 v41 h42).bind fun _v43 h44 =>
 (loadR Prog 198 v1 h44).bind fun v45 h46 =>
 .ok (.tuple #[v45, (.bool false)]) h46)
 (
 (loopN (swashref15_Read_l1 k call) loopFuel [(0, a0), (1, a1), (4, v1), (6, v9), (8, v13), (9, v19), (10, (.int .i64 0))] h40).bind fun r47 h48 =>
 swashref15_Read_l1k k call r47.1 r47.2 h48)
theorem swashref15_Read_l2_eq (k : Nat) (call : Caller) (a0 a1 a4 a6 a8 a9 a10 a11 a12 : Value) (h : Heap) : swashref15_Read_l2 k call [(0, a0), (1, a1), (4, a4), (6, a6), (8, a8), (9, a9), (10, a10), (11, a11), (12, a12)] h =
 (binR Prog .lss 3 a12 (.int .i64 2) h).bind fun v65 h66 =>
 condV (some v65) (
 (fieldAddrR Prog 150 a11 2 h66).bind fun v67 h68 =>
 (loadR Prog 3 v67 h68).bind fun v69 h70 =>
 (binR Prog .eql 3 a12 (.int .i64 1) h70).bind fun v71 h72 =>
 condV (some v71) (
 (fieldAddrR Prog 150 a11 3 h72).bind fun v73 h74 =>
 (loadR Prog 3 v73 h74).bind fun v75 h76 =>
 swashref15_Read_j1 k call a0 a1 a4 a6 a8 a9 a10 a11 a12 v75 h76)
 (
 swashref15_Read_j2 k call a0 a1 a4 a6 a8 a9 a10 a11 a12 v69 v71 h72))
 (
 .ok ((.exit 2), [(0, a0), (1, a1), (4, a4), (6, a6), (8, a8), (9, a9), (10, a10), (11, a11), (12, a12), (50, v65)]) h66) :=
 (loopB_eq _ _).trans (by kernel_rfl)
theorem swashref15_Read_j1_eq (k : Nat) (call : Caller) (a0 a1 a4 a6 a8 a9 a10 a11 a12 a13 : Value) (h : Heap) : swashref15_Read_j1 k call a0 a1 a4 a6 a8 a9 a10 a11 a12 a13 h =
 (loopN (swashref15_Read_l3 k call) loopFuel [(0, a0), (1, a1), (4, a4), (6, a6), (8, a8), (9, a9), (10, a10), (11, a11), (12, a12), (13, a13)] h).bind fun r77 h78 =>
 swashref15_Read_l3k k call r77.1 r77.2 h78 := by kernel_rfl
theorem swashref15_Read_j2_eq (k : Nat) (call : Caller) (a0 a1 a4 a6 a8 a9 a10 a11 a12 a13 a56 : Value) (h : Heap) : swashref15_Read_j2 k call a0 a1 a4 a6 a8 a9 a10 a11 a12 a13 a56 h =
 (loopN (swashref15_Read_l3 k call) loopFuel [(0, a0), (1, a1), (4, a4), (6, a6), (8, a8), (9, a9), (10, a10), (11, a11), (12, a12), (13, a13)] h).bind fun r79 h80 =>
 swashref15_Read_l3k k call r79.1 r79.2 h80 := by kernel_rfl
theorem swashref15_Read_l3_eq (k : Nat) (call : Caller) (a0 a1 a4 a6 a8 a9 a10 a11 a12 a13 : Value) (h : Heap) : swashref15_Read_l3 k call [(0, a0), (1, a1), (4, a4), (6, a6), (8, a8), (9, a9), (10, a10), (11, a11), (12, a12), (13, a13)] h =
 (binR Prog .neq 3 a13 (.int .i64 65535) h).bind fun v81 h82 =>
 ((bif wantVal v81 true then fieldAddrR Prog 198 a9 1 h82 else Res.ok undef h82)).bind fun v83 h84 =>
 ((bif wantVal v81 true then loadR Prog 196 v83 h84 else Res.ok undef h84)).bind fun v85 h86 =>
 ((bif wantVal v81 true then builtinV Prog .len [196] [v85] h86 else Res.ok undef h86)).bind fun v87 h88 =>
 ((bif wantVal v81 true then Res.ok a13 h88 else Res.ok undef h88)).bind fun v89 h90 =>
 ((bif wantVal v81 true then binR Prog .leq 3 v87 v89 h90 else Res.ok undef h90)).bind fun v91 h92 =>
 (condV (some v81) (Res.ok v91 h92) (Res.ok (.bool false) h92)).bind fun v93 h94 =>
 condV (some v93) (
 (fieldAddrR Prog 198 a9 1 h94).bind fun v95 h96 =>
 (loadR Prog 196 v95 h96).bind fun v97 h98 =>
 (builtinV Prog .len [196] [v97] h98).bind fun v99 h100 =>
 (binR Prog .mul 3 (.int .i64 4) v99 h100).bind fun v101 h102 =>
 (binR Prog .add 3 a8 v101 h102).bind fun v103 h104 =>
 (call F.swashref01_U [a0, v103, (.int .i64 4)] h104).bind fun v105 h106 =>
 (binR Prog .lss 3 v105 (.int .i64 0) h106).bind fun v107 h108 =>
 ((bif wantVal v107 false then Res.ok v105 h108 else Res.ok undef h108)).bind fun v109 h110 =>
 ((bif wantVal v107 false then Res.ok a0 h110 else Res.ok undef h110)).bind fun v111 h112 =>
 ((bif wantVal v107 false then builtinV Prog .len [65] [v111] h112 else Res.ok undef h112)).bind fun v113 h114 =>
 ((bif wantVal v107 false then Res.ok a8 h114 else Res.ok undef h114)).bind fun v115 h116 =>
 ((bif wantVal v107 false then binR Prog .sub 3 v113 v115 h116 else Res.ok undef h116)).bind fun v117 h118 =>
 ((bif wantVal v107 false then binR Prog .gtr 3 v109 v117 h118 else Res.ok undef h118)).bind fun v119 h120 =>
 (condV (some v107) (Res.ok (.bool true) h120) (Res.ok v119 h120)).bind fun v121 h122 =>
 condV (some v121) (
 (loadR Prog 198 a9 h122).bind fun v123 h124 =>
 (storeR Prog 198 a4 v123 h124).bind fun _v125 h126 =>
 .ok (.ret, [(4, a4), (5, (.bool false))]) h126)
 (
 (binR Prog .add 3 a8 v105 h122).bind fun v127 h128 =>
 (sliceR Prog 65 a0 (some v127) none none h128).bind fun v129 h130 =>
 (call F.swashref06_Read [v129, a1, (.int .i64 2)] h130).bind fun v131 h132 =>
 (extractR v131 0 h132).bind fun v133 h134 =>
 (extractR v131 1 h134).bind fun v135 h136 =>
 (allocR Prog 88 h136).bind fun v137 h138 =>
 (storeR Prog 88 v137 v133 h138).bind fun _v139 h140 =>
 (unR .not v135 h140).bind fun v141 h142 =>
 condV (some v141) (
 (loadR Prog 198 a9 h142).bind fun v143 h144 =>
 (storeR Prog 198 a4 v143 h144).bind fun _v145 h146 =>
 .ok (.ret, [(4, a4), (5, (.bool false))]) h146)
 (
 (fieldAddrR Prog 198 a9 1 h142).bind fun v147 h148 =>
 (loadR Prog 196 v147 h148).bind fun v149 h150 =>
 (loadR Prog 88 v137 h150).bind fun v151 h152 =>
 (buildSliceR Prog 196 1 [(0, v151)] h152).bind fun v153 h154 =>
 (builtinV Prog .append [196, 196] [v149, v153] h154).bind fun v155 h156 =>
 (fieldAddrR Prog 198 a9 1 h156).bind fun v157 h158 =>
 (storeR Prog 196 v157 v155 h158).bind fun _v159 h160 =>
 .ok (.normal, [(0, a0), (1, a1), (4, a4), (6, a6), (8, a8), (9, a9), (10, a10), (11, a11), (12, a12), (13, a13)]) h160)))
 (
 .ok ((.exit 4), [(0, a0), (1, a1), (4, a4), (6, a6), (8, a8), (9, a9), (10, a10), (11, a11), (12, a12), (13, a13), (67, v93)]) h94) :=
 (loopB_eq _ _).trans (by kernel_rfl)
theorem swashref15_Read_l3k_r (k : Nat) (call : Caller) (a4 a5 : Value) (h : Heap) : swashref15_Read_l3k k call .ret [(4, a4), (5, a5)] h =
 .ok (.ret, [(4, a4), (5, a5)]) h := by kernel_rfl
theorem swashref15_Read_l3k_x4 (k : Nat) (call : Caller) (a0 a1 a4 a6 a8 a9 a10 a11 a12 a13 a67 : Value) (h : Heap) : swashref15_Read_l3k k call (.exit 4) [(0, a0), (1, a1), (4, a4), (6, a6), (8, a8), (9, a9), (10, a10), (11, a11), (12, a12), (13, a13), (67, a67)] h =
 (binR Prog .add 3 a12 (.int .i64 1) h).bind fun v169 h170 =>
 .ok (.normal, [(0, a0), (1, a1), (4, a4), (6, a6), (8, a8), (9, a9), (10, a10), (11, a11), (12, v169)]) h170 := by kernel_rfl
end
end Go.Sw
end
section
namespace Go.Sw
open Go.RowKit
abbrev encRT (x : List Int × List RP) : List Value := [lv encB x.1, lv encRP x.2]
theorem encRT_len (x : List Int × List RP) : (encRT x).length = 2 := rfl
def Subs15 (subs : List (Int × List Pt)) (rs : List (List Int × List RP)) : Prop :=
 subs.length = rs.length ∧ ∀ (i : Nat) x y, subs[i]? = some x → rs[i]? = some y → Byt y.1 ∧ y.1.length < 2 ^ 31 ∧ Rel y.1 x.2 y.2 ∧ (∀ r, r ∈ y.2 → r.ok) ∧ y.2.length < 2 ^ 31
end Go.Sw
end
section
namespace Go.Sw
open Go.RowKit
variable {σ : Type}
end Go.Sw
end
section
namespace Go.Sw
open Go.RowKit
end Go.Sw
end
section
namespace Go.Sw
open Go.RowKit
end Go.Sw
end
section
namespace Go.Sw
open Go.RowKit
abbrev tC (r : RMach) (s : Value) : List Value := [lv encB r.b, .int .i64 r.cl, .int .i64 r.rowsAt, .int .i64 r.entsAt, .int .i64 r.states, .int .i64 r.n, .int .i64 r.words, lv encB r.tb, lv encRP r.parts, s]
abbrev rmC (r : RMach) : List Value := rmCells r.b r.cl r.rowsAt r.entsAt r.states r.n r.words r.tb r.parts
def st15 (X : List It) (p4 p6 p9 : Nat) (z : List Value) (r : RMach) (s : Value) (o : Option Nat) (rs : List (List Int × List RP)) : List It :=
 itBlk p4 ⟨z, 1, false⟩ :: itBlk p6 ⟨rmC r, 1, false⟩ :: itBlk p9 ⟨tC r s, 1, false⟩ :: itRow o 2 s encRT rs :: X
def To15 (sb : List Int) (g : Int) (c : Nat) (rs : List (List Int × List RP)) : Prop := ∃ subs, subsS sb g c = some subs ∧ Subs15 subs rs
set_option maxHeartbeats 1000000 in
theorem r15_l3 (k : Nat) (X : List It) (b : List Int) (hb : Byt b) (hbl : b.length < 2 ^ 31) (g : Int) (hg : 1 ≤ g ∧ g ≤ 65535) {p : Int} {sb : List Int} (hsb : restS b p = some sb) (p4 p6 p9 : Nat) (z0 : List Value) (hz0 : z0.length = 10) (r : RMach) (x : Int) (hx : 0 ≤ x ∧ x < 65536) (a10 a11 a12 : Value)
  (c : Nat) {H0 H : Heap} {s : Value} {o : Option Nat} {rs : List (List Int × List RP)} (hc : c ≤ 65536) (hto : To15 sb g c rs) (st : Star H0 H (st15 X p4 p6 p9 z0 r s o rs)) :
  ∃ H', (∃ c' rs' s' o' zz, ((c' : Nat) : Int) = (if x = 65535 then (c : Int) else max c (x + 1)) ∧ To15 sb g c' rs' ∧ Star H0 H' (st15 X p4 p6 p9 z0 r s' o' rs') ∧
    loopN (swashref15_Read_l3 k (R (T k))) loopFuel [(0, lv encB b), (1, .int .i64 g), (4, ptrV p4), (6, ptrV p6), (8, .int .i64 p), (9, ptrV p9), (10, a10), (11, a11), (12, a12), (13, .int .i64 x)] H =
     .ok (.exit 4, [(0, lv encB b), (1, .int .i64 g), (4, ptrV p4), (6, ptrV p6), (8, .int .i64 p), (9, ptrV p9), (10, a10), (11, a11), (12, a12), (13, .int .i64 x), (67, zz)]) H') ∨
   (∃ n rs' s' o', subsS sb g n = none ∧ (n : Int) ≤ (if x = 65535 then (c : Int) else max c (x + 1)) ∧ Star H0 H' (st15 X p4 p6 p9 (tC r s') r s' o' rs') ∧
    loopN (swashref15_Read_l3 k (R (T k))) loopFuel [(0, lv encB b), (1, .int .i64 g), (4, ptrV p4), (6, ptrV p6), (8, .int .i64 p), (9, ptrV p9), (10, a10), (11, a11), (12, a12), (13, .int .i64 x)] H = .ok (.ret, [(4, ptrV p4), (5, .bool false)]) H') := by
 have hzd : z0.drop 10 = [] := List.drop_of_length_le (by omega)
 have hpr := restS_iff.1 hsb
 have hsl := restS_length hsb
 have hU := fun (j : Int) H' => refU_run k (H := H') (Sl.lv H' 1 b) hb j 4 (by omega) (by omega)
 have hsbl : sb.length ≤ b.length := restS_len hsb
 have hR := fun tb htb hl H' => read06_run k tb htb g 2 hg (.inl rfl) hl H'
 obtain ⟨N, hN⟩ : ∃ N : Nat, (if x = 65535 then (c : Int) else max c (x + 1)) = ((c + N : Nat) : Int) := ⟨((if x = 65535 then (c : Int) else max c (x + 1)) - c).toNat, by split <;> omega⟩
 rw [hN]
 obtain ⟨xx, e', H1, hr1, hQ⟩ := loop_up (body := swashref15_Read_l3 k (R (T k))) N
  (fun j e H' => e = [(0, lv encB b), (1, .int .i64 g), (4, ptrV p4), (6, ptrV p6), (8, .int .i64 p), (9, ptrV p9), (10, a10), (11, a11), (12, a12), (13, .int .i64 x)] ∧ ∃ rs' s' o', To15 sb g (c + j) rs' ∧ Star H0 H' (st15 X p4 p6 p9 z0 r s' o' rs'))
  (fun xx e H' => (∃ rs' s' o' zz, xx = .exit 4 ∧ e = [(0, lv encB b), (1, .int .i64 g), (4, ptrV p4), (6, ptrV p6), (8, .int .i64 p), (9, ptrV p9), (10, a10), (11, a11), (12, a12), (13, .int .i64 x), (67, zz)] ∧ To15 sb g (c + N) rs' ∧ Star H0 H' (st15 X p4 p6 p9 z0 r s' o' rs')) ∨
   (∃ n rs' s' o', xx = .ret ∧ e = [(4, ptrV p4), (5, .bool false)] ∧ subsS sb g n = none ∧ n ≤ c + N ∧ Star H0 H' (st15 X p4 p6 p9 (tC r s') r s' o' rs')))
  (e0 := [(0, lv encB b), (1, .int .i64 g), (4, ptrV p4), (6, ptrV p6), (8, .int .i64 p), (9, ptrV p9), (10, a10), (11, a11), (12, a12), (13, .int .i64 x)]) (H0 := H) ⟨rfl, rs, s, o, hto, st⟩ (by split at hN <;> omega)
  (fun j e H' hj ⟨he, rs', s', o', hto', st⟩ => by
   subst he
   have hx5 : ¬ x = 65535 := fun h => by rw [if_pos h] at hN; omega
   rw [if_neg hx5] at hN
   obtain ⟨nn, hnn⟩ : ∃ nn, c + j = nn := ⟨_, rfl⟩
   have en : c + (j + 1) = nn + 1 := by omega
   rw [hnn] at hto'
   have hcx : (nn : Int) ≤ x := by omega
   have hx5' : (x != 65535) = true := by simpa using hx5
   have hlen := hto'.len
   obtain ⟨subs, t1, t2⟩ := hto'
   unfold st15 at st
   have q9 := st.get 2 rfl
   have q4 := st.get 0 rfl
   have hln : ∀ H', lnS s' H' = .ok (.int .i64 rs'.length) H' := (st.row 3 rfl).len
   have hvs := (st.row 3 rfl).veq
   have hsucc := subsS_succ sb g nn
   rw [t1, Option.bind_some] at hsucc
   have hu := fun H' => hU (p + 4 * (nn : Int)) H'
   have hur := uS_rest hsb (x := 4 * (nn : Int)) (by omega) 4
   rw [← hur] at hu
   have setz := st.setBlk 0 rfl ⟨tC r s', 1, false⟩
   simp only [List.set_cons_zero] at setz
   rw [hlen] at hln
   cases e1 : uS sb (4 * (nn : Int)) 4 with
   | none =>
    have hno : subsS sb g (nn + 1) = none := by rw [hsucc]; unfold subS; rw [e1]; rfl
    simp only [e1, Option.getD_none] at hu
    refine .inr ⟨.ret, _, H'.set p4 (some ⟨tC r s', 1, false⟩), ?_, by simp, .inr ⟨nn + 1, rs', s', o', rfl, rfl, hno, by omega, setz⟩⟩
    rw [swashref15_Read_l3_eq]
    simp -implicitDefEqProofs (disch := omega) [hx5', q9, q4, hln, hcx, hu, hz0, hzd]
   | some f =>
    have hf := uS_four (hb.rest hsb) e1
    simp only [e1, Option.getD_some] at hu
    have hf0 : ¬ f < 0 := by omega
    cases e2 : restS sb f with
    | none =>
     have hno : subsS sb g (nn + 1) = none := by rw [hsucc]; unfold subS; rw [e1, Option.bind_some, e2]; rfl
     have hbig : f > (b.length : Int) - p := by
      unfold restS at e2
      split at e2
      ·cases e2
      ·omega
     refine .inr ⟨.ret, _, H'.set p4 (some ⟨tC r s', 1, false⟩), ?_, by simp, .inr ⟨nn + 1, rs', s', o', rfl, rfl, hno, by omega, setz⟩⟩
     rw [swashref15_Read_l3_eq]
     simp -implicitDefEqProofs (disch := omega) [hx5', q9, q4, hln, hcx, hu, hf0, hbig, hz0, hzd]
    | some tb =>
     have htr := restS_iff.1 e2
     have hnb : ¬ f > (b.length : Int) - p := by omega
     have htl := restS_len e2
     have htb := (hb.rest hsb).rest e2
     have hcut : ∀ H', slS 1 (lv encB b) (some (.int .i64 (p + f))) none none H' = .ok (lv encB tb) H' := fun H' => by
      rw [slS_lv encB_len b (some (.int .i64 (p + f))) none none (p + f).toNat b.length b.length (by unfold boundOf; dsimp only; rw [if_pos (by omega)]) rfl rfl (fun h => by cases h) (by omega) (Nat.le_refl _) (Nat.le_refl _), List.take_length, htr.2, hpr.2, List.drop_drop]
      congr 3
      omega
     have hr := fun H' => hR tb htb (by omega) H'
     have hlr := look_ref htb hg.1 hg.2 (.inl rfl : (2 : Int) = 2 ∨ (2 : Int) = 4)
     cases e3 : lookS tb g 2 with
     | none =>
      have hno : subsS sb g (nn + 1) = none := by rw [hsucc]; unfold subS; rw [e1, Option.bind_some, e2, Option.bind_some, e3]; rfl
      rw [hlr.2 e3] at hr
      simp [tabRO] at hr
      have st2 := (st.push ⟨[lv encB [], lv encRP []], 1, false⟩).setBlk 0 rfl ⟨tC r s', 1, false⟩
      simp only [List.cons_append, List.nil_append, List.set_cons_zero] at st2
      have n4 : ¬ p4 = H'.n := by have := Heap.get_lt q4; omega
      have n9 : ¬ p9 = H'.n := by have := Heap.get_lt q9; omega
      refine .inr ⟨.ret, _, (H'.push ⟨[lv encB [], lv encRP []], 1, false⟩).set p4 (some ⟨tC r s', 1, false⟩), ?_, by simp, .inr ⟨nn + 1, rs', s', o', rfl, rfl, hno, by omega, (show Star H0 _ (st15 X p4 p6 p9 (tC r s') r s' o' rs' ++ [itBlk H'.n ⟨[lv encB [], lv encRP []], 1, false⟩]) from st2).drop_last⟩⟩
      rw [swashref15_Read_l3_eq]
      simp -implicitDefEqProofs (disch := omega) [hx5', q9, q4, hln, hcx, hu, hf0, hnb, hcut, hr, hz0, hzd, n4, n9]
     | some xt =>
      obtain ⟨rr, hrr, hrel⟩ := hlr.1 xt e3
      have hrok := refRead_ok htb hg (.inl rfl) hrr
      have hrl := refRead_len htb hg (.inl rfl) e3 hrr
      rw [hrr] at hr
      simp [tabRO] at hr
      have hyes : subsS sb g (nn + 1) = some (subs ++ [xt]) := by rw [hsucc]; unfold subS; rw [e1, Option.bind_some, e2, Option.bind_some, e3]; rfl
      have n9 : ¬ p9 = H'.n := by have := Heap.get_lt q9; omega
      have n91 : ¬ p9 = H'.n + 1 := by have := Heap.get_lt q9; omega
      have st2 := st.push ⟨[lv encB tb, lv encRP rr], 1, false⟩
      simp only [List.cons_append, List.nil_append] at st2
      obtain ⟨s2, o2, H2, f2, st3⟩ := st2.append1 (bytes := 48) 3 encRT_len rfl (tb, rr) (by omega) (by decide)
      simp only [List.set_cons_zero, List.set_cons_succ, hn_push] at st3 f2
      obtain ⟨H3, f3, st4, _⟩ := st3.stCell 2 rfl 9 (st3.row 3 rfl).storable (st3.row 3 rfl).cells (by simp)
      simp only [List.set_cons_zero, List.set_cons_succ] at st4
      refine .inl ⟨_, H3, ?_, rfl, rs' ++ [(tb, rr)], s2, o2, by rw [en]; exact ⟨subs ++ [xt], hyes, t2.snoc ⟨htb, by dsimp only; omega, hrel, hrok, hrl⟩⟩, (show Star H0 _ (st15 X p4 p6 p9 z0 r s2 o2 (rs' ++ [(tb, rr)]) ++ [itBlk H'.n ⟨[lv encB tb, lv encRP rr], 1, false⟩]) from st4).drop_last⟩
      rw [swashref15_Read_l3_eq]
      simp -implicitDefEqProofs (disch := omega) [-stR_ptr, stR_ptr 2 H'.n 0, hx5', q9, hln, hcx, hu, hf0, hnb, hcut, hr, n9, n91, f2, f3])
  (fun e H' ⟨he, rs', s', o', hto', st⟩ => by
   subst he
   have hlen := hto'.len
   have hst := st
   unfold st15 at st
   have q9 := st.get 2 rfl
   have hln : ∀ H', lnS s' H' = .ok (.int .i64 rs'.length) H' := (st.row 3 rfl).len
   rw [hlen] at hln
   refine ⟨.exit 4, _, H', ?_, by simp, .inl ⟨rs', s', o', .bool false, rfl, rfl, hto', hst⟩⟩
   rw [swashref15_Read_l3_eq]
   by_cases hx5 : x = 65535
   ·simp -implicitDefEqProofs (disch := omega) [hx5]
   ·rw [if_neg hx5] at hN
    have hx5' : (x != 65535) = true := by simpa using hx5
    obtain ⟨nn, hnn⟩ : ∃ nn, c + N = nn := ⟨_, rfl⟩
    rw [hnn] at hln
    have hcx : ¬ (nn : Int) ≤ x := by omega
    simp -implicitDefEqProofs (disch := omega) [hx5', q9, hln, hcx])
 refine ⟨H1, ?_⟩
 rcases hQ with ⟨rs', s', o', zz, rfl, rfl, h1, h2⟩ | ⟨n, rs', s', o', rfl, rfl, h1, h2, h3⟩
 ·exact .inl ⟨c + N, rs', s', o', zz, rfl, h1, h2, hr1⟩
 ·exact .inr ⟨n, rs', s', o', h1, by omega, h3, hr1⟩
end Go.Sw
end
section
namespace Go.Sw
open Go.RowKit
set_option maxHeartbeats 1000000 in
/-- An entry's two lookups. -/
theorem r15_l2 (k : Nat) (b : List Int) (hb : Byt b) (hbl : b.length < 2 ^ 31) (g : Int) (hg : 1 ≤ g ∧ g ≤ 65535) {p : Int} {sb : List Int} (hsb : restS b p = some sb) (p4 p6 p9 p11 : Nat) (z0 : List Value) (hz0 : z0.length = 10) (r : RMach) (e : En) (he : 0 ≤ e.a ∧ e.a < 65536 ∧ 0 ≤ e.b ∧ e.b < 65536) (a10 : Value)
  (c : Nat) {H0 H : Heap} {s : Value} {o : Option Nat} {rs : List (List Int × List RP)} (hc : c ≤ 65536) (hto : To15 sb g c rs) (st : Star H0 H (st15 [itBlk p11 ⟨encEn e, 1, false⟩] p4 p6 p9 z0 r s o rs)) :
  ∃ H', (∃ c' rs' s' o' zz, ((c' : Nat) : Int) = manyE c e ∧ To15 sb g c' rs' ∧ Star H0 H' (st15 [itBlk p11 ⟨encEn e, 1, false⟩] p4 p6 p9 z0 r s' o' rs') ∧
    loopN (swashref15_Read_l2 k (R (T k))) loopFuel [(0, lv encB b), (1, .int .i64 g), (4, ptrV p4), (6, ptrV p6), (8, .int .i64 p), (9, ptrV p9), (10, a10), (11, ptrV p11), (12, .int .i64 0)] H =
     .ok (.exit 2, [(0, lv encB b), (1, .int .i64 g), (4, ptrV p4), (6, ptrV p6), (8, .int .i64 p), (9, ptrV p9), (10, a10), (11, ptrV p11), (12, zz), (50, .bool false)]) H') ∨
   (∃ n rs' s' o', subsS sb g n = none ∧ (n : Int) ≤ manyE c e ∧ Star H0 H' (st15 [itBlk p11 ⟨encEn e, 1, false⟩] p4 p6 p9 (tC r s') r s' o' rs') ∧
    loopN (swashref15_Read_l2 k (R (T k))) loopFuel [(0, lv encB b), (1, .int .i64 g), (4, ptrV p4), (6, ptrV p6), (8, .int .i64 p), (9, ptrV p9), (10, a10), (11, ptrV p11), (12, .int .i64 0)] H = .ok (.ret, [(4, ptrV p4), (5, .bool false)]) H') := by
 obtain ⟨f, hf⟩ : ∃ f : Nat → Int, f = fun i => if i = 0 then (c : Int) else if i = 1 then (if e.a = 65535 then (c : Int) else max c (e.a + 1)) else manyE c e := ⟨_, rfl⟩
 have f0 : f 0 = c := by rw [hf]; rfl
 have f1 : f 1 = (if e.a = 65535 then (c : Int) else max c (e.a + 1)) := by rw [hf]; rfl
 have f2 : f 2 = manyE c e := by rw [hf]; rfl
 have f2' : f 2 = (if e.b = 65535 then f 1 else max (f 1) (e.b + 1)) := by rw [f2, f1]; rfl
 have fb : (c : Int) ≤ f 1 ∧ f 1 ≤ 65536 := by rw [f1]; split <;> omega
 have fb2 : f 1 ≤ f 2 ∧ f 2 ≤ 65536 := by rw [f2']; split <;> omega
 rw [← f2]
 obtain ⟨xx, e', H1, hr1, hQ⟩ := loop_up (body := swashref15_Read_l2 k (R (T k))) 2
  (fun j e' H' => e' = [(0, lv encB b), (1, .int .i64 g), (4, ptrV p4), (6, ptrV p6), (8, .int .i64 p), (9, ptrV p9), (10, a10), (11, ptrV p11), (12, .int .i64 j)] ∧ ∃ c' rs' s' o', ((c' : Nat) : Int) = f j ∧ To15 sb g c' rs' ∧ Star H0 H' (st15 [itBlk p11 ⟨encEn e, 1, false⟩] p4 p6 p9 z0 r s' o' rs'))
  (fun xx e' H' => (∃ c' rs' s' o' zz, xx = .exit 2 ∧ e' = [(0, lv encB b), (1, .int .i64 g), (4, ptrV p4), (6, ptrV p6), (8, .int .i64 p), (9, ptrV p9), (10, a10), (11, ptrV p11), (12, zz), (50, .bool false)] ∧ ((c' : Nat) : Int) = f 2 ∧ To15 sb g c' rs' ∧ Star H0 H' (st15 [itBlk p11 ⟨encEn e, 1, false⟩] p4 p6 p9 z0 r s' o' rs')) ∨
   (∃ n rs' s' o', xx = .ret ∧ e' = [(4, ptrV p4), (5, .bool false)] ∧ subsS sb g n = none ∧ (n : Int) ≤ f 2 ∧ Star H0 H' (st15 [itBlk p11 ⟨encEn e, 1, false⟩] p4 p6 p9 (tC r s') r s' o' rs')))
  (e0 := [(0, lv encB b), (1, .int .i64 g), (4, ptrV p4), (6, ptrV p6), (8, .int .i64 p), (9, ptrV p9), (10, a10), (11, ptrV p11), (12, .int .i64 0)]) (H0 := H) ⟨rfl, c, rs, s, o, f0.symm, hto, st⟩ (by omega)
  (fun j e' H' hj ⟨he', c1, rs', s', o', hc1, hto', st⟩ => by
   subst he'
   have q11 := st.get 4 rfl
   have hj2 : j = 0 ∨ j = 1 := by omega
   rcases hj2 with rfl | rfl
   ·obtain ⟨H2, h | h⟩ := r15_l3 k [itBlk p11 ⟨encEn e, 1, false⟩] b hb hbl g hg hsb p4 p6 p9 z0 hz0 r e.a ⟨he.1, he.2.1⟩ a10 (ptrV p11) (.int .i64 0) c1 (by omega) hto' st
    ·obtain ⟨c2, rs2, s2, o2, zz, k1, k2, k3, k4⟩ := h
     refine .inl ⟨_, H2, ?_, rfl, c2, rs2, s2, o2, by rw [k1, f1, hc1, f0], k2, k3⟩
     rw [swashref15_Read_l2_eq]
     simp -implicitDefEqProofs (disch := omega) [q11, swashref15_Read_j2_eq, k4, swashref15_Read_l3k_x4]
    ·obtain ⟨n, rs2, s2, o2, k1, k2, k3, k4⟩ := h
     refine .inr ⟨.ret, _, H2, ?_, by simp, .inr ⟨n, rs2, s2, o2, rfl, rfl, k1, ?_, k3⟩⟩
     ·rw [swashref15_Read_l2_eq]
      simp -implicitDefEqProofs (disch := omega) [q11, swashref15_Read_j2_eq, k4, swashref15_Read_l3k_r]
     ·rw [hc1, f0, ← f1] at k2; omega
   ·obtain ⟨H2, h | h⟩ := r15_l3 k [itBlk p11 ⟨encEn e, 1, false⟩] b hb hbl g hg hsb p4 p6 p9 z0 hz0 r e.b ⟨he.2.2.1, he.2.2.2⟩ a10 (ptrV p11) (.int .i64 1) c1 (by omega) hto' st
    ·obtain ⟨c2, rs2, s2, o2, zz, k1, k2, k3, k4⟩ := h
     refine .inl ⟨_, H2, ?_, rfl, c2, rs2, s2, o2, by rw [k1, f2', hc1], k2, k3⟩
     rw [swashref15_Read_l2_eq]
     simp -implicitDefEqProofs (disch := omega) [q11, swashref15_Read_j1_eq, k4, swashref15_Read_l3k_x4]
    ·obtain ⟨n, rs2, s2, o2, k1, k2, k3, k4⟩ := h
     refine .inr ⟨.ret, _, H2, ?_, by simp, .inr ⟨n, rs2, s2, o2, rfl, rfl, k1, ?_, k3⟩⟩
     ·rw [swashref15_Read_l2_eq]
      simp -implicitDefEqProofs (disch := omega) [q11, swashref15_Read_j1_eq, k4, swashref15_Read_l3k_r]
     ·rw [hc1, ← f2'] at k2; omega)
  (fun e' H' ⟨he', c1, rs', s', o', hc1, hto', st⟩ => by
   subst he'
   refine ⟨.exit 2, _, H', ?_, by simp, .inl ⟨c1, rs', s', o', .int .i64 ((2 : Nat) : Int), rfl, rfl, hc1, hto', st⟩⟩
   rw [swashref15_Read_l2_eq]
   simp -implicitDefEqProofs)
 refine ⟨H1, ?_⟩
 rcases hQ with ⟨c', rs', s', o', zz, rfl, rfl, h1, h2, h3⟩ | ⟨n, rs', s', o', rfl, rfl, h1, h2, h3⟩
 ·exact .inl ⟨c', rs', s', o', zz, h1, h2, h3, hr1⟩
 ·exact .inr ⟨n, rs', s', o', h1, h2, h3, hr1⟩
end Go.Sw
end
