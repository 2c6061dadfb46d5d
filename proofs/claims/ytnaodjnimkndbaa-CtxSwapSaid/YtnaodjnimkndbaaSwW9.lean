/-
  Functions' forms, and what is proved of them, part 9.
-/
import Derived.Test.YtnaodjnimkndbaaSwCfg
import Derived.Test.YtnaodjnimkndbaaSwW8
import Derived.Test.YtnaodjnimkndbaaSwW7
import Derived.Test.YtnaodjnimkndbaaSwW4
import Derived.Test.YtnaodjnimkndbaaSwLib8
import Derived.Eval
set_option linter.unusedSimpArgs false
set_option linter.unusedVariables false
set_option linter.unusedSectionVars false
section
set_option maxRecDepth 100000
set_option linter.unusedVariables false
namespace Go.Sw
noncomputable section
def swashref15_Read_l1 (k : Nat) (call : Caller) : Env → Heap → Res (AExit × Env) := loopB (C k) call F.swashref15_Read [1, 1, 1, 1, 1, 0, 1, 0, 0]
def swashref15_Read_l1k (k : Nat) (call : Caller) : Kont Value := kBlock 0 (kSeq (pieceK (C k) call F.swashref15_Read [1, 1, 1, 1, 1, 1]) (kDone Prog (resOf Prog F.swashref15_Read)))
def swashref15_Read_l2 (k : Nat) (call : Caller) : Env → Heap → Res (AExit × Env) := loopB (C k) call F.swashref15_Read [1, 1, 1, 1, 1, 0, 1, 0, 0, 1, 0, 0, 1, 1, 0, 0]
def swashref15_Read_j1 (k : Nat) (call : Caller) (a0 a1 a4 a6 a8 a9 a10 a11 a12 a13 : Value) (h : Heap) : Res (AExit × Env) :=
 kSeq (pieceK (C k) call F.swashref15_Read [1, 1, 1, 1, 1, 0, 1, 0, 0, 1, 0, 0, 1, 1, 0, 0, 1, 0, 0, 1, 1]) (kBlock 3 (kSeq (pieceK (C k) call F.swashref15_Read [1, 1, 1, 1, 1, 0, 1, 0, 0, 1, 0, 0, 1, 1, 0, 0, 1, 1]) (kRound (ownOf (C k) F.swashref15_Read [1, 1, 1, 1, 1, 0, 1, 0, 0, 1, 0, 0, 1, 1, 0, 0])))) .normal [(0, a0), (1, a1), (4, a4), (6, a6), (8, a8), (9, a9), (10, a10), (11, a11), (12, a12), (13, a13)] h
def swashref15_Read_j2 (k : Nat) (call : Caller) (a0 a1 a4 a6 a8 a9 a10 a11 a12 a13 a56 : Value) (h : Heap) : Res (AExit × Env) :=
 kSeq (pieceK (C k) call F.swashref15_Read [1, 1, 1, 1, 1, 0, 1, 0, 0, 1, 0, 0, 1, 1, 0, 0, 1, 0, 0, 1, 1]) (kBlock 3 (kSeq (pieceK (C k) call F.swashref15_Read [1, 1, 1, 1, 1, 0, 1, 0, 0, 1, 0, 0, 1, 1, 0, 0, 1, 1]) (kRound (ownOf (C k) F.swashref15_Read [1, 1, 1, 1, 1, 0, 1, 0, 0, 1, 0, 0, 1, 1, 0, 0])))) .normal [(0, a0), (1, a1), (4, a4), (6, a6), (8, a8), (9, a9), (10, a10), (11, a11), (12, a12), (13, a13), (56, a56)] h
def swashref15_Read_l3 (k : Nat) (call : Caller) : Env → Heap → Res (AExit × Env) := loopB (C k) call F.swashref15_Read [1, 1, 1, 1, 1, 0, 1, 0, 0, 1, 0, 0, 1, 1, 0, 0, 1, 0, 0, 1, 1, 0, 0]
def swashref15_Read_l3k (k : Nat) (call : Caller) : Kont (AExit × Env) := kBlock 4 (kBlock 3 (kSeq (pieceK (C k) call F.swashref15_Read [1, 1, 1, 1, 1, 0, 1, 0, 0, 1, 0, 0, 1, 1, 0, 0, 1, 1]) (kRound (ownOf (C k) F.swashref15_Read [1, 1, 1, 1, 1, 0, 1, 0, 0, 1, 0, 0, 1, 1, 0, 0]))))
def swashref15_Read (k : Nat) (call : Caller) (a0 a1 : Value) (h : Heap) : Res Value :=
 (allocR Prog 198 h).bind fun v1 h2 =>
 (call F.swashref07_Read [a0, a1, (.int .i64 2)] h2).bind fun v3 h4 =>
 (extractR v3 0 h4).bind fun v5 h6 =>
 (extractR v3 1 h6).bind fun v7 h8 =>
 (allocR Prog 137 h8).bind fun v9 h10 =>
 (storeR Prog 137 v9 v5 h10).bind fun _v11 h12 =>
 (call F.swashref01_U [a0, (.int .i64 16), (.int .i64 4)] h12).bind fun v13 h14 =>
 (loadR Prog 137 v9 h14).bind fun v15 h16 =>
 (buildR Prog 198 [(0, v15)] h16).bind fun v17 h18 =>
 (allocR Prog 198 h18).bind fun v19 h20 =>
 (storeR Prog 198 v19 v17 h20).bind fun _v21 h22 =>
 (unR .not v7 h22).bind fun v23 h24 =>
 ((bif wantVal v23 false then Res.ok v13 h24 else Res.ok undef h24)).bind fun v25 h26 =>
 ((bif wantVal v23 false then binR Prog .lss 3 v25 (.int .i64 0) h26 else Res.ok undef h26)).bind fun v27 h28 =>
 (condV (some v23) (Res.ok (.bool true) h28) (Res.ok v27 h28)).bind fun v29 h30 =>
 ((bif wantVal v29 false then Res.ok v13 h30 else Res.ok undef h30)).bind fun v31 h32 =>
 ((bif wantVal v29 false then Res.ok a0 h32 else Res.ok undef h32)).bind fun v33 h34 =>
 ((bif wantVal v29 false then builtinV Prog .len [65] [v33] h34 else Res.ok undef h34)).bind fun v35 h36 =>
 ((bif wantVal v29 false then binR Prog .gtr 3 v31 v35 h36 else Res.ok undef h36)).bind fun v37 h38 =>
 (condV (some v29) (Res.ok (.bool true) h38) (Res.ok v37 h38)).bind fun v39 h40 =>
 condV (some v39) (
 (loadR Prog 198 v19 h40).bind fun v41 h42 =>
 (storeR Prog 198 v1 v41 h42).bind fun _v43 h44 =>
 (loadR Prog 198 v1 h44).bind fun v45 h46 =>
 .ok (.tuple #[v45, (.bool false)]) h46)
 (
 (loopN (swashref15_Read_l1 k call) loopFuel [(0, a0), (1, a1), (4, v1), (6, v9), (8, v13), (9, v19), (10, (.int .i64 0))] h40).bind fun r47 h48 =>
 swashref15_Read_l1k k call r47.1 r47.2 h48)
theorem swashref15_Read_l2_eq (k : Nat) (call : Caller) (a0 a1 a4 a6 a8 a9 a10 a11 a12 : Value) (h : Heap) : swashref15_Read_l2 k call [(0, a0), (1, a1), (4, a4), (6, a6), (8, a8), (9, a9), (10, a10), (11, a11), (12, a12)] h =
 (binR Prog .lss 3 a12 (.int .i64 2) h).bind fun v65 h66 =>
 condV (some v65) (
 (fieldAddrR Prog 150 a11 2 h66).bind fun v67 h68 =>
 (loadR Prog 3 v67 h68).bind fun v69 h70 =>
 (binR Prog .eql 3 a12 (.int .i64 1) h70).bind fun v71 h72 =>
 condV (some v71) (
 (fieldAddrR Prog 150 a11 3 h72).bind fun v73 h74 =>
 (loadR Prog 3 v73 h74).bind fun v75 h76 =>
 swashref15_Read_j1 k call a0 a1 a4 a6 a8 a9 a10 a11 a12 v75 h76)
 (
 swashref15_Read_j2 k call a0 a1 a4 a6 a8 a9 a10 a11 a12 v69 v71 h72))
 (
 .ok ((.exit 2), [(0, a0), (1, a1), (4, a4), (6, a6), (8, a8), (9, a9), (10, a10), (11, a11), (12, a12), (50, v65)]) h66) :=
 (loopB_eq _ _).trans (by kernel_rfl)
theorem swashref15_Read_j1_eq (k : Nat) (call : Caller) (a0 a1 a4 a6 a8 a9 a10 a11 a12 a13 : Value) (h : Heap) : swashref15_Read_j1 k call a0 a1 a4 a6 a8 a9 a10 a11 a12 a13 h =
 (loopN (swashref15_Read_l3 k call) loopFuel [(0, a0), (1, a1), (4, a4), (6, a6), (8, a8), (9, a9), (10, a10), (11, a11), (12, a12), (13, a13)] h).bind fun r77 h78 =>
 swashref15_Read_l3k k call r77.1 r77.2 h78 := by kernel_rfl
theorem swashref15_Read_j2_eq (k : Nat) (call : Caller) (a0 a1 a4 a6 a8 a9 a10 a11 a12 a13 a56 : Value) (h : Heap) : swashref15_Read_j2 k call a0 a1 a4 a6 a8 a9 a10 a11 a12 a13 a56 h =
 (loopN (swashref15_Read_l3 k call) loopFuel [(0, a0), (1, a1), (4, a4), (6, a6), (8, a8), (9, a9), (10, a10), (11, a11), (12, a12), (13, a13)] h).bind fun r79 h80 =>
 swashref15_Read_l3k k call r79.1 r79.2 h80 := by kernel_rfl
theorem swashref15_Read_l3_eq (k : Nat) (call : Caller) (a0 a1 a4 a6 a8 a9 a10 a11 a12 a13 : Value) (h : Heap) : swashref15_Read_l3 k call [(0, a0), (1, a1), (4, a4), (6, a6), (8, a8), (9, a9), (10, a10), (11, a11), (12, a12), (13, a13)] h =
 (binR Prog .neq 3 a13 (.int .i64 65535) h).bind fun v81 h82 =>
 ((bif wantVal v81 true then fieldAddrR Prog 198 a9 1 h82 else Res.ok undef h82)).bind fun v83 h84 =>
 ((bif wantVal v81 true then loadR Prog 196 v83 h84 else Res.ok undef h84)).bind fun v85 h86 =>
 ((bif wantVal v81 true then builtinV Prog .len [196] [v85] h86 else Res.ok undef h86)).bind fun v87 h88 =>
 ((bif wantVal v81 true then Res.ok a13 h88 else Res.ok undef h88)).bind fun v89 h90 =>
 ((bif wantVal v81 true then binR Prog .leq 3 v87 v89 h90 else Res.ok undef h90)).bind fun v91 h92 =>
 (condV (some v81) (Res.ok v91 h92) (Res.ok (.bool false) h92)).bind fun v93 h94 =>
 condV (some v93) (
 (fieldAddrR Prog 198 a9 1 h94).bind fun v95 h96 =>
 (loadR Prog 196 v95 h96).bind fun v97 h98 =>
 (builtinV Prog .len [196] [v97] h98).bind fun v99 h100 =>
 (binR Prog .mul 3 (.int .i64 4) v99 h100).bind fun v101 h102 =>
 (binR Prog .add 3 a8 v101 h102).bind fun v103 h104 =>
 (call F.swashref01_U [a0, v103, (.int .i64 4)] h104).bind fun v105 h106 =>
 (binR Prog .lss 3 v105 (.int .i64 0) h106).bind fun v107 h108 =>
 ((bif wantVal v107 false then Res.ok v105 h108 else Res.ok undef h108)).bind fun v109 h110 =>
 ((bif wantVal v107 false then Res.ok a0 h110 else Res.ok undef h110)).bind fun v111 h112 =>
 ((bif wantVal v107 false then builtinV Prog .len [65] [v111] h112 else Res.ok undef h112)).bind fun v113 h114 =>
 ((bif wantVal v107 false then Res.ok a8 h114 else Res.ok undef h114)).bind fun v115 h116 =>
 ((bif wantVal v107 false then binR Prog .sub 3 v113 v115 h116 else Res.ok undef h116)).bind fun v117 h118 =>
 ((bif wantVal v107 false then binR Prog .gtr 3 v109 v117 h118 else Res.ok undef h118)).bind fun v119 h120 =>
 (condV (some v107) (Res.ok (.bool true) h120) (Res.ok v119 h120)).bind fun v121 h122 =>
 condV (some v121) (
 (loadR Prog 198 a9 h122).bind fun v123 h124 =>
 (storeR Prog 198 a4 v123 h124).bind fun _v125 h126 =>
 .ok (.ret, [(4, a4), (5, (.bool false))]) h126)
 (
 (binR Prog .add 3 a8 v105 h122).bind fun v127 h128 =>
 (sliceR Prog 65 a0 (some v127) none none h128).bind fun v129 h130 =>
 (call F.swashref06_Read [v129, a1, (.int .i64 2)] h130).bind fun v131 h132 =>
 (extractR v131 0 h132).bind fun v133 h134 =>
 (extractR v131 1 h134).bind fun v135 h136 =>
 (allocR Prog 88 h136).bind fun v137 h138 =>
 (storeR Prog 88 v137 v133 h138).bind fun _v139 h140 =>
 (unR .not v135 h140).bind fun v141 h142 =>
 condV (some v141) (
 (loadR Prog 198 a9 h142).bind fun v143 h144 =>
 (storeR Prog 198 a4 v143 h144).bind fun _v145 h146 =>
 .ok (.ret, [(4, a4), (5, (.bool false))]) h146)
 (
 (fieldAddrR Prog 198 a9 1 h142).bind fun v147 h148 =>
 (loadR Prog 196 v147 h148).bind fun v149 h150 =>
 (loadR Prog 88 v137 h150).bind fun v151 h152 =>
 (buildSliceR Prog 196 1 [(0, v151)] h152).bind fun v153 h154 =>
 (builtinV Prog .append [196, 196] [v149, v153] h154).bind fun v155 h156 =>
 (fieldAddrR Prog 198 a9 1 h156).bind fun v157 h158 =>
 (storeR Prog 196 v157 v155 h158).bind fun _v159 h160 =>
 .ok (.normal, [(0, a0), (1, a1), (4, a4), (6, a6), (8, a8), (9, a9), (10, a10), (11, a11), (12, a12), (13, a13)]) h160)))
 (
 .ok ((.exit 4), [(0, a0), (1, a1), (4, a4), (6, a6), (8, a8), (9, a9), (10, a10), (11, a11), (12, a12), (13, a13), (67, v93)]) h94) :=
 (loopB_eq _ _).trans (by kernel_rfl)
theorem swashref15_Read_l3k_r (k : Nat) (call : Caller) (a4 a5 : Value) (h : Heap) : swashref15_Read_l3k k call .ret [(4, a4), (5, a5)] h =
 .ok (.ret, [(4, a4), (5, a5)]) h := by kernel_rfl
theorem swashref15_Read_l3k_x4 (k : Nat) (call : Caller) (a0 a1 a4 a6 a8 a9 a10 a11 a12 a13 a67 : Value) (h : Heap) : swashref15_Read_l3k k call (.exit 4) [(0, a0), (1, a1), (4, a4), (6, a6), (8, a8), (9, a9), (10, a10), (11, a11), (12, a12), (13, a13), (67, a67)] h =
 (binR Prog .add 3 a12 (.int .i64 1) h).bind fun v169 h170 =>
 .ok (.normal, [(0, a0), (1, a1), (4, a4), (6, a6), (8, a8), (9, a9), (10, a10), (11, a11), (12, v169)]) h170 := by kernel_rfl
end
end Go.Sw
end
section
namespace Go.Sw
open Go.RowKit
abbrev encRT (x : List Int × List RP) : List Value := [lv encB x.1, lv encRP x.2]
theorem encRT_len (x : List Int × List RP) : (encRT x).length = 2 := rfl
def Subs15 (subs : List (Int × List Pt)) (rs : List (List Int × List RP)) : Prop :=
 subs.length = rs.length ∧ ∀ (i : Nat) x y, subs[i]? = some x → rs[i]? = some y → Byt y.1 ∧ y.1.length < 2 ^ 31 ∧ Rel y.1 x.2 y.2 ∧ (∀ r, r ∈ y.2 → r.ok) ∧ y.2.length < 2 ^ 31
end Go.Sw
end
section
namespace Go.Sw
open Go.RowKit
variable {σ : Type}
end Go.Sw
end
section
namespace Go.Sw
open Go.RowKit
end Go.Sw
end
section
namespace Go.Sw
open Go.RowKit
end Go.Sw
end
section
namespace Go.Sw
open Go.RowKit
abbrev tC (r : RMach) (s : Value) : List Value := [lv encB r.b, .int .i64 r.cl, .int .i64 r.rowsAt, .int .i64 r.entsAt, .int .i64 r.states, .int .i64 r.n, .int .i64 r.words, lv encB r.tb, lv encRP r.parts, s]
abbrev rmC (r : RMach) : List Value := rmCells r.b r.cl r.rowsAt r.entsAt r.states r.n r.words r.tb r.parts
def st15 (X : List It) (p4 p6 p9 : Nat) (z : List Value) (r : RMach) (s : Value) (o : Option Nat) (rs : List (List Int × List RP)) : List It :=
 itBlk p4 ⟨z, 1, false⟩ :: itBlk p6 ⟨rmC r, 1, false⟩ :: itBlk p9 ⟨tC r s, 1, false⟩ :: itRow o 2 s encRT rs :: X
def To15 (sb : List Int) (g : Int) (c : Nat) (rs : List (List Int × List RP)) : Prop := ∃ subs, subsS sb g c = some subs ∧ Subs15 subs rs
theorem To15.len {sb : List Int} {g : Int} {c : Nat} {rs : List (List Int × List RP)} (h : To15 sb g c rs) : rs.length = c := by
 obtain ⟨subs, h1, h2⟩ := h
 rw [← h2.1, subsS_len h1]
theorem Subs15.snoc {subs : List (Int × List Pt)} {rs : List (List Int × List RP)} (h : Subs15 subs rs) {x : Int × List Pt} {y : List Int × List RP} (hy : Byt y.1 ∧ y.1.length < 2 ^ 31 ∧ Rel y.1 x.2 y.2 ∧ (∀ r, r ∈ y.2 → r.ok) ∧ y.2.length < 2 ^ 31) : Subs15 (subs ++ [x]) (rs ++ [y]) := by
 refine ⟨by simp [h.1], fun i a b ha hb => ?_⟩
 by_cases hi : i < subs.length
 ·rw [List.getElem?_append_left hi] at ha
  rw [List.getElem?_append_left (by rw [← h.1]; exact hi)] at hb
  exact h.2 i a b ha hb
 ·rw [List.getElem?_append_right (by omega)] at ha
  rw [List.getElem?_append_right (by rw [← h.1]; omega)] at hb
  rw [← h.1] at hb
  have hz : i - subs.length = 0 := by
   have := (List.getElem?_eq_some_iff.1 ha).1
   simp at this; omega
  rw [hz] at ha hb
  simp at ha hb
  subst ha hb
  exact hy
set_option maxHeartbeats 1000000 in
theorem r15_l3 (k : Nat) (X : List It) (b : List Int) (hb : Byt b) (hbl : b.length < 2 ^ 31) (g : Int) (hg : 1 ≤ g ∧ g ≤ 65535) {p : Int} {sb : List Int} (hsb : restS b p = some sb) (p4 p6 p9 : Nat) (z0 : List Value) (hz0 : z0.length = 10) (r : RMach) (x : Int) (hx : 0 ≤ x ∧ x < 65536) (a10 a11 a12 : Value)
  (c : Nat) {H0 H : Heap} {s : Value} {o : Option Nat} {rs : List (List Int × List RP)} (hc : c ≤ 65536) (hto : To15 sb g c rs) (st : Star H0 H (st15 X p4 p6 p9 z0 r s o rs)) :
  ∃ H', (∃ c' rs' s' o' zz, ((c' : Nat) : Int) = (if x = 65535 then (c : Int) else max c (x + 1)) ∧ To15 sb g c' rs' ∧ Star H0 H' (st15 X p4 p6 p9 z0 r s' o' rs') ∧
    loopN (swashref15_Read_l3 k (R (T k))) loopFuel [(0, lv encB b), (1, .int .i64 g), (4, ptrV p4), (6, ptrV p6), (8, .int .i64 p), (9, ptrV p9), (10, a10), (11, a11), (12, a12), (13, .int .i64 x)] H =
     .ok (.exit 4, [(0, lv encB b), (1, .int .i64 g), (4, ptrV p4), (6, ptrV p6), (8, .int .i64 p), (9, ptrV p9), (10, a10), (11, a11), (12, a12), (13, .int .i64 x), (67, zz)]) H') ∨
   (∃ n rs' s' o', subsS sb g n = none ∧ (n : Int) ≤ (if x = 65535 then (c : Int) else max c (x + 1)) ∧ Star H0 H' (st15 X p4 p6 p9 (tC r s') r s' o' rs') ∧
    loopN (swashref15_Read_l3 k (R (T k))) loopFuel [(0, lv encB b), (1, .int .i64 g), (4, ptrV p4), (6, ptrV p6), (8, .int .i64 p), (9, ptrV p9), (10, a10), (11, a11), (12, a12), (13, .int .i64 x)] H = .ok (.ret, [(4, ptrV p4), (5, .bool false)]) H') := by
 have hzd : z0.drop 10 = [] := List.drop_of_length_le (by omega)
 have hpr := restS_iff.1 hsb
 have hsl := restS_length hsb
 have hU := fun (j : Int) H' => refU_run k (H := H') (Sl.lv H' 1 b) hb j 4 (by omega) (by omega)
 have hsbl : sb.length ≤ b.length := restS_len hsb
 have hR := fun tb htb hl H' => read06_run k tb htb g 2 hg (.inl rfl) hl H'
 obtain ⟨N, hN⟩ : ∃ N : Nat, (if x = 65535 then (c : Int) else max c (x + 1)) = ((c + N : Nat) : Int) := ⟨((if x = 65535 then (c : Int) else max c (x + 1)) - c).toNat, by split <;> omega⟩
 rw [hN]
 obtain ⟨xx, e', H1, hr1, hQ⟩ := loop_up (body := swashref15_Read_l3 k (R (T k))) N
  (fun j e H' => e = [(0, lv encB b), (1, .int .i64 g), (4, ptrV p4), (6, ptrV p6), (8, .int .i64 p), (9, ptrV p9), (10, a10), (11, a11), (12, a12), (13, .int .i64 x)] ∧ ∃ rs' s' o', To15 sb g (c + j) rs' ∧ Star H0 H' (st15 X p4 p6 p9 z0 r s' o' rs'))
  (fun xx e H' => (∃ rs' s' o' zz, xx = .exit 4 ∧ e = [(0, lv encB b), (1, .int .i64 g), (4, ptrV p4), (6, ptrV p6), (8, .int .i64 p), (9, ptrV p9), (10, a10), (11, a11), (12, a12), (13, .int .i64 x), (67, zz)] ∧ To15 sb g (c + N) rs' ∧ Star H0 H' (st15 X p4 p6 p9 z0 r s' o' rs')) ∨
   (∃ n rs' s' o', xx = .ret ∧ e = [(4, ptrV p4), (5, .bool false)] ∧ subsS sb g n = none ∧ n ≤ c + N ∧ Star H0 H' (st15 X p4 p6 p9 (tC r s') r s' o' rs')))
  (e0 := [(0, lv encB b), (1, .int .i64 g), (4, ptrV p4), (6, ptrV p6), (8, .int .i64 p), (9, ptrV p9), (10, a10), (11, a11), (12, a12), (13, .int .i64 x)]) (H0 := H) ⟨rfl, rs, s, o, hto, st⟩ (by split at hN <;> omega)
  (fun j e H' hj ⟨he, rs', s', o', hto', st⟩ => by
   subst he
   have hx5 : ¬ x = 65535 := fun h => by rw [if_pos h] at hN; omega
   rw [if_neg hx5] at hN
   obtain ⟨nn, hnn⟩ : ∃ nn, c + j = nn := ⟨_, rfl⟩
   have en : c + (j + 1) = nn + 1 := by omega
   rw [hnn] at hto'
   have hcx : (nn : Int) ≤ x := by omega
   have hx5' : (x != 65535) = true := by simpa using hx5
   have hlen := hto'.len
   obtain ⟨subs, t1, t2⟩ := hto'
   unfold st15 at st
   have q9 := st.get 2 rfl
   have q4 := st.get 0 rfl
   have hln : ∀ H', lnS s' H' = .ok (.int .i64 rs'.length) H' := (st.row 3 rfl).len
   have hvs := (st.row 3 rfl).veq
   have hsucc := subsS_succ sb g nn
   rw [t1, Option.bind_some] at hsucc
   have hu := fun H' => hU (p + 4 * (nn : Int)) H'
   have hur := uS_rest hsb (x := 4 * (nn : Int)) (by omega) 4
   rw [← hur] at hu
   have setz := st.setBlk 0 rfl ⟨tC r s', 1, false⟩
   simp only [List.set_cons_zero] at setz
   rw [hlen] at hln
   cases e1 : uS sb (4 * (nn : Int)) 4 with
   | none =>
    have hno : subsS sb g (nn + 1) = none := by rw [hsucc]; unfold subS; rw [e1]; rfl
    simp only [e1, Option.getD_none] at hu
    refine .inr ⟨.ret, _, H'.set p4 (some ⟨tC r s', 1, false⟩), ?_, by simp, .inr ⟨nn + 1, rs', s', o', rfl, rfl, hno, by omega, setz⟩⟩
    rw [swashref15_Read_l3_eq]
    simp -implicitDefEqProofs (disch := omega) [hx5', q9, q4, hln, hcx, hu, hz0, hzd]
   | some f =>
    have hf := uS_four (hb.rest hsb) e1
    simp only [e1, Option.getD_some] at hu
    have hf0 : ¬ f < 0 := by omega
    cases e2 : restS sb f with
    | none =>
     have hno : subsS sb g (nn + 1) = none := by rw [hsucc]; unfold subS; rw [e1, Option.bind_some, e2]; rfl
     have hbig : f > (b.length : Int) - p := by
      unfold restS at e2
      split at e2
      ·cases e2
      ·omega
     refine .inr ⟨.ret, _, H'.set p4 (some ⟨tC r s', 1, false⟩), ?_, by simp, .inr ⟨nn + 1, rs', s', o', rfl, rfl, hno, by omega, setz⟩⟩
     rw [swashref15_Read_l3_eq]
     simp -implicitDefEqProofs (disch := omega) [hx5', q9, q4, hln, hcx, hu, hf0, hbig, hz0, hzd]
    | some tb =>
     have htr := restS_iff.1 e2
     have hnb : ¬ f > (b.length : Int) - p := by omega
     have htl := restS_len e2
     have htb := (hb.rest hsb).rest e2
     have hcut : ∀ H', slS 1 (lv encB b) (some (.int .i64 (p + f))) none none H' = .ok (lv encB tb) H' := fun H' => by
      rw [slS_lv encB_len b (some (.int .i64 (p + f))) none none (p + f).toNat b.length b.length (by unfold boundOf; dsimp only; rw [if_pos (by omega)]) rfl rfl (fun h => by cases h) (by omega) (Nat.le_refl _) (Nat.le_refl _), List.take_length, htr.2, hpr.2, List.drop_drop]
      congr 3
      omega
     have hr := fun H' => hR tb htb (by omega) H'
     have hlr := look_ref htb hg.1 hg.2 (.inl rfl : (2 : Int) = 2 ∨ (2 : Int) = 4)
     cases e3 : lookS tb g 2 with
     | none =>
      have hno : subsS sb g (nn + 1) = none := by rw [hsucc]; unfold subS; rw [e1, Option.bind_some, e2, Option.bind_some, e3]; rfl
      rw [hlr.2 e3] at hr
      simp [tabRO] at hr
      have st2 := (st.push ⟨[lv encB [], lv encRP []], 1, false⟩).setBlk 0 rfl ⟨tC r s', 1, false⟩
      simp only [List.cons_append, List.nil_append, List.set_cons_zero] at st2
      have n4 : ¬ p4 = H'.n := by have := Heap.get_lt q4; omega
      have n9 : ¬ p9 = H'.n := by have := Heap.get_lt q9; omega
      refine .inr ⟨.ret, _, (H'.push ⟨[lv encB [], lv encRP []], 1, false⟩).set p4 (some ⟨tC r s', 1, false⟩), ?_, by simp, .inr ⟨nn + 1, rs', s', o', rfl, rfl, hno, by omega, (show Star H0 _ (st15 X p4 p6 p9 (tC r s') r s' o' rs' ++ [itBlk H'.n ⟨[lv encB [], lv encRP []], 1, false⟩]) from st2).drop_last⟩⟩
      rw [swashref15_Read_l3_eq]
      simp -implicitDefEqProofs (disch := omega) [hx5', q9, q4, hln, hcx, hu, hf0, hnb, hcut, hr, hz0, hzd, n4, n9]
     | some xt =>
      obtain ⟨rr, hrr, hrel⟩ := hlr.1 xt e3
      have hrok := refRead_ok htb hg (.inl rfl) hrr
      have hrl := refRead_len htb hg (.inl rfl) e3 hrr
      rw [hrr] at hr
      simp [tabRO] at hr
      have hyes : subsS sb g (nn + 1) = some (subs ++ [xt]) := by rw [hsucc]; unfold subS; rw [e1, Option.bind_some, e2, Option.bind_some, e3]; rfl
      have n9 : ¬ p9 = H'.n := by have := Heap.get_lt q9; omega
      have n91 : ¬ p9 = H'.n + 1 := by have := Heap.get_lt q9; omega
      have st2 := st.push ⟨[lv encB tb, lv encRP rr], 1, false⟩
      simp only [List.cons_append, List.nil_append] at st2
      obtain ⟨s2, o2, H2, f2, st3⟩ := st2.append1 (bytes := 48) 3 encRT_len rfl (tb, rr) (by omega) (by decide)
      simp only [List.set_cons_zero, List.set_cons_succ, hn_push] at st3 f2
      obtain ⟨H3, f3, st4, _⟩ := st3.stCell 2 rfl 9 (st3.row 3 rfl).storable (st3.row 3 rfl).cells (by simp)
      simp only [List.set_cons_zero, List.set_cons_succ] at st4
      refine .inl ⟨_, H3, ?_, rfl, rs' ++ [(tb, rr)], s2, o2, by rw [en]; exact ⟨subs ++ [xt], hyes, t2.snoc ⟨htb, by dsimp only; omega, hrel, hrok, hrl⟩⟩, (show Star H0 _ (st15 X p4 p6 p9 z0 r s2 o2 (rs' ++ [(tb, rr)]) ++ [itBlk H'.n ⟨[lv encB tb, lv encRP rr], 1, false⟩]) from st4).drop_last⟩
      rw [swashref15_Read_l3_eq]
      simp -implicitDefEqProofs (disch := omega) [-stR_ptr, stR_ptr 2 H'.n 0, hx5', q9, hln, hcx, hu, hf0, hnb, hcut, hr, n9, n91, f2, f3])
  (fun e H' ⟨he, rs', s', o', hto', st⟩ => by
   subst he
   have hlen := hto'.len
   have hst := st
   unfold st15 at st
   have q9 := st.get 2 rfl
   have hln : ∀ H', lnS s' H' = .ok (.int .i64 rs'.length) H' := (st.row 3 rfl).len
   rw [hlen] at hln
   refine ⟨.exit 4, _, H', ?_, by simp, .inl ⟨rs', s', o', .bool false, rfl, rfl, hto', hst⟩⟩
   rw [swashref15_Read_l3_eq]
   by_cases hx5 : x = 65535
   ·simp -implicitDefEqProofs (disch := omega) [hx5]
   ·rw [if_neg hx5] at hN
    have hx5' : (x != 65535) = true := by simpa using hx5
    obtain ⟨nn, hnn⟩ : ∃ nn, c + N = nn := ⟨_, rfl⟩
    rw [hnn] at hln
    have hcx : ¬ (nn : Int) ≤ x := by omega
    simp -implicitDefEqProofs (disch := omega) [hx5', q9, hln, hcx])
 refine ⟨H1, ?_⟩
 rcases hQ with ⟨rs', s', o', zz, rfl, rfl, h1, h2⟩ | ⟨n, rs', s', o', rfl, rfl, h1, h2, h3⟩
 ·exact .inl ⟨c + N, rs', s', o', zz, rfl, h1, h2, hr1⟩
 ·exact .inr ⟨n, rs', s', o', h1, by omega, h3, hr1⟩
end Go.Sw
end
section
namespace Go.Sw
open Go.RowKit
set_option maxHeartbeats 1000000 in
/-- An entry's two lookups. -/
theorem r15_l2 (k : Nat) (b : List Int) (hb : Byt b) (hbl : b.length < 2 ^ 31) (g : Int) (hg : 1 ≤ g ∧ g ≤ 65535) {p : Int} {sb : List Int} (hsb : restS b p = some sb) (p4 p6 p9 p11 : Nat) (z0 : List Value) (hz0 : z0.length = 10) (r : RMach) (e : En) (he : 0 ≤ e.a ∧ e.a < 65536 ∧ 0 ≤ e.b ∧ e.b < 65536) (a10 : Value)
  (c : Nat) {H0 H : Heap} {s : Value} {o : Option Nat} {rs : List (List Int × List RP)} (hc : c ≤ 65536) (hto : To15 sb g c rs) (st : Star H0 H (st15 [itBlk p11 ⟨encEn e, 1, false⟩] p4 p6 p9 z0 r s o rs)) :
  ∃ H', (∃ c' rs' s' o' zz, ((c' : Nat) : Int) = manyE c e ∧ To15 sb g c' rs' ∧ Star H0 H' (st15 [itBlk p11 ⟨encEn e, 1, false⟩] p4 p6 p9 z0 r s' o' rs') ∧
    loopN (swashref15_Read_l2 k (R (T k))) loopFuel [(0, lv encB b), (1, .int .i64 g), (4, ptrV p4), (6, ptrV p6), (8, .int .i64 p), (9, ptrV p9), (10, a10), (11, ptrV p11), (12, .int .i64 0)] H =
     .ok (.exit 2, [(0, lv encB b), (1, .int .i64 g), (4, ptrV p4), (6, ptrV p6), (8, .int .i64 p), (9, ptrV p9), (10, a10), (11, ptrV p11), (12, zz), (50, .bool false)]) H') ∨
   (∃ n rs' s' o', subsS sb g n = none ∧ (n : Int) ≤ manyE c e ∧ Star H0 H' (st15 [itBlk p11 ⟨encEn e, 1, false⟩] p4 p6 p9 (tC r s') r s' o' rs') ∧
    loopN (swashref15_Read_l2 k (R (T k))) loopFuel [(0, lv encB b), (1, .int .i64 g), (4, ptrV p4), (6, ptrV p6), (8, .int .i64 p), (9, ptrV p9), (10, a10), (11, ptrV p11), (12, .int .i64 0)] H = .ok (.ret, [(4, ptrV p4), (5, .bool false)]) H') := by
 obtain ⟨f, hf⟩ : ∃ f : Nat → Int, f = fun i => if i = 0 then (c : Int) else if i = 1 then (if e.a = 65535 then (c : Int) else max c (e.a + 1)) else manyE c e := ⟨_, rfl⟩
 have f0 : f 0 = c := by rw [hf]; rfl
 have f1 : f 1 = (if e.a = 65535 then (c : Int) else max c (e.a + 1)) := by rw [hf]; rfl
 have f2 : f 2 = manyE c e := by rw [hf]; rfl
 have f2' : f 2 = (if e.b = 65535 then f 1 else max (f 1) (e.b + 1)) := by rw [f2, f1]; rfl
 have fb : (c : Int) ≤ f 1 ∧ f 1 ≤ 65536 := by rw [f1]; split <;> omega
 have fb2 : f 1 ≤ f 2 ∧ f 2 ≤ 65536 := by rw [f2']; split <;> omega
 rw [← f2]
 obtain ⟨xx, e', H1, hr1, hQ⟩ := loop_up (body := swashref15_Read_l2 k (R (T k))) 2
  (fun j e' H' => e' = [(0, lv encB b), (1, .int .i64 g), (4, ptrV p4), (6, ptrV p6), (8, .int .i64 p), (9, ptrV p9), (10, a10), (11, ptrV p11), (12, .int .i64 j)] ∧ ∃ c' rs' s' o', ((c' : Nat) : Int) = f j ∧ To15 sb g c' rs' ∧ Star H0 H' (st15 [itBlk p11 ⟨encEn e, 1, false⟩] p4 p6 p9 z0 r s' o' rs'))
  (fun xx e' H' => (∃ c' rs' s' o' zz, xx = .exit 2 ∧ e' = [(0, lv encB b), (1, .int .i64 g), (4, ptrV p4), (6, ptrV p6), (8, .int .i64 p), (9, ptrV p9), (10, a10), (11, ptrV p11), (12, zz), (50, .bool false)] ∧ ((c' : Nat) : Int) = f 2 ∧ To15 sb g c' rs' ∧ Star H0 H' (st15 [itBlk p11 ⟨encEn e, 1, false⟩] p4 p6 p9 z0 r s' o' rs')) ∨
   (∃ n rs' s' o', xx = .ret ∧ e' = [(4, ptrV p4), (5, .bool false)] ∧ subsS sb g n = none ∧ (n : Int) ≤ f 2 ∧ Star H0 H' (st15 [itBlk p11 ⟨encEn e, 1, false⟩] p4 p6 p9 (tC r s') r s' o' rs')))
  (e0 := [(0, lv encB b), (1, .int .i64 g), (4, ptrV p4), (6, ptrV p6), (8, .int .i64 p), (9, ptrV p9), (10, a10), (11, ptrV p11), (12, .int .i64 0)]) (H0 := H) ⟨rfl, c, rs, s, o, f0.symm, hto, st⟩ (by omega)
  (fun j e' H' hj ⟨he', c1, rs', s', o', hc1, hto', st⟩ => by
   subst he'
   have q11 := st.get 4 rfl
   have hj2 : j = 0 ∨ j = 1 := by omega
   rcases hj2 with rfl | rfl
   ·obtain ⟨H2, h | h⟩ := r15_l3 k [itBlk p11 ⟨encEn e, 1, false⟩] b hb hbl g hg hsb p4 p6 p9 z0 hz0 r e.a ⟨he.1, he.2.1⟩ a10 (ptrV p11) (.int .i64 0) c1 (by omega) hto' st
    ·obtain ⟨c2, rs2, s2, o2, zz, k1, k2, k3, k4⟩ := h
     refine .inl ⟨_, H2, ?_, rfl, c2, rs2, s2, o2, by rw [k1, f1, hc1, f0], k2, k3⟩
     rw [swashref15_Read_l2_eq]
     simp -implicitDefEqProofs (disch := omega) [q11, swashref15_Read_j2_eq, k4, swashref15_Read_l3k_x4]
    ·obtain ⟨n, rs2, s2, o2, k1, k2, k3, k4⟩ := h
     refine .inr ⟨.ret, _, H2, ?_, by simp, .inr ⟨n, rs2, s2, o2, rfl, rfl, k1, ?_, k3⟩⟩
     ·rw [swashref15_Read_l2_eq]
      simp -implicitDefEqProofs (disch := omega) [q11, swashref15_Read_j2_eq, k4, swashref15_Read_l3k_r]
     ·rw [hc1, f0, ← f1] at k2; omega
   ·obtain ⟨H2, h | h⟩ := r15_l3 k [itBlk p11 ⟨encEn e, 1, false⟩] b hb hbl g hg hsb p4 p6 p9 z0 hz0 r e.b ⟨he.2.2.1, he.2.2.2⟩ a10 (ptrV p11) (.int .i64 1) c1 (by omega) hto' st
    ·obtain ⟨c2, rs2, s2, o2, zz, k1, k2, k3, k4⟩ := h
     refine .inl ⟨_, H2, ?_, rfl, c2, rs2, s2, o2, by rw [k1, f2', hc1], k2, k3⟩
     rw [swashref15_Read_l2_eq]
     simp -implicitDefEqProofs (disch := omega) [q11, swashref15_Read_j1_eq, k4, swashref15_Read_l3k_x4]
    ·obtain ⟨n, rs2, s2, o2, k1, k2, k3, k4⟩ := h
     refine .inr ⟨.ret, _, H2, ?_, by simp, .inr ⟨n, rs2, s2, o2, rfl, rfl, k1, ?_, k3⟩⟩
     ·rw [swashref15_Read_l2_eq]
      simp -implicitDefEqProofs (disch := omega) [q11, swashref15_Read_j1_eq, k4, swashref15_Read_l3k_r]
     ·rw [hc1, ← f2'] at k2; omega)
  (fun e' H' ⟨he', c1, rs', s', o', hc1, hto', st⟩ => by
   subst he'
   refine ⟨.exit 2, _, H', ?_, by simp, .inl ⟨c1, rs', s', o', .int .i64 ((2 : Nat) : Int), rfl, rfl, hc1, hto', st⟩⟩
   rw [swashref15_Read_l2_eq]
   simp -implicitDefEqProofs)
 refine ⟨H1, ?_⟩
 rcases hQ with ⟨c', rs', s', o', zz, rfl, rfl, h1, h2, h3⟩ | ⟨n, rs', s', o', rfl, rfl, h1, h2, h3⟩
 ·exact .inl ⟨c', rs', s', o', zz, h1, h2, h3, hr1⟩
 ·exact .inr ⟨n, rs', s', o', h1, h2, h3, hr1⟩
end Go.Sw
end
section
namespace Go.Sw
open Go.RowKit
theorem mapO_takeL {β : Type} {f : Nat → Option β} {l : List β} (h : ∀ (i : Nat) y, l[i]? = some y → f i = some y) {n : Nat} (hn : n ≤ l.length) : mapO f (List.range n) = some (l.take n) := by
 refine mapO_some (by simp; omega) fun i x y hx hy => ?_
 rw [List.getElem?_take] at hy
 split at hy
 ·rename_i hi
  rw [List.getElem?_range hi] at hx
  injection hx with hx
  subst hx
  exact h i y hy
 ·cases hy
theorem needE_of {es : List En} {S : Int} (h2 : 2 ≤ S) (h : ∀ e, e ∈ es → e.next < S) : needE es ≤ S := by
 have := needL_lt (l := es.map En.next) (n := S) (by omega) fun x hx => by
  obtain ⟨e, he, rfl⟩ := List.mem_map.1 hx
  exact h e he
 unfold needE
 omega
theorem close_plan {n : Nat} (hn : 0 < n) {w : Int} (hw : w = 0 ∨ w = 1 ∨ w = 2) {rs : List (List Int)} {es : List En} (hb : ∀ r, r ∈ rs → Byt r) (hcell : ∀ r, r ∈ rs → ∀ x, x ∈ rowL n r → x < (es.length : Int)) (hnx : ∀ e, e ∈ es → m16 e.next < (rs.length : Int)) (x y : List Int) :
  ∀ (f s : Nat), 2 ≤ s → s ≤ rs.length → 65537 - s ≤ f → s ≤ 65536 → ∃ r, closeS (rowsL n rs ++ x) (entsB w es ++ y) n w f s = some r ∧ r.1.length ≤ rs.length ∧ (∃ s', r.1 = (rs.map (rowL n)).take s') ∧ (∃ N, r.2 = (es.map (entM w)).take N)
 | 0, s, _, _, h1, h2 => by omega
 | f + 1, s, h2, hs, hf, h6 => by
  have e1 : rowsTo (rowsL n rs ++ x) n s = some ((rs.map (rowL n)).take s) := mapO_takeL (fun i r hr => by
   rw [List.getElem?_map] at hr
   obtain ⟨q, hq, rfl⟩ := Option.map_eq_some_iff.1 hr
   exact rowK_plan hn hb x hq) (by simpa using hs)
  have hneed : needR ((rs.map (rowL n)).take s) ≤ (es.length : Int) := by
   refine needL_lt (by omega) fun y hy => ?_
   obtain ⟨r, hr, hyr⟩ := List.mem_flatten.1 hy
   obtain ⟨q, hq, rfl⟩ := List.mem_map.1 (List.mem_of_mem_take hr)
   exact hcell q hq y hyr
  have h0 := needR_nonneg ((rs.map (rowL n)).take s)
  have e2 : entsTo (entsB w es ++ y) w (needR ((rs.map (rowL n)).take s)).toNat = some ((es.map (entM w)).take (needR ((rs.map (rowL n)).take s)).toNat) := mapO_takeL (fun i r hr => by
   rw [List.getElem?_map] at hr
   obtain ⟨q, hq, rfl⟩ := Option.map_eq_some_iff.1 hr
   exact entK_plan hw y hq) (by simp; omega)
  have h3 : needE ((es.map (entM w)).take (needR ((rs.map (rowL n)).take s)).toNat) ≤ (rs.length : Int) := needE_of (by omega) fun e he => by
   obtain ⟨q, hq, rfl⟩ := List.mem_map.1 (List.mem_of_mem_take he)
   exact hnx q hq
  simp only [closeS]
  rw [e1, Option.bind_some, e2, Option.bind_some]
  split
  ·exact ⟨_, rfl, by simp; omega, ⟨s, rfl⟩, ⟨_, rfl⟩⟩
  ·rename_i hgt
   exact close_plan hn hw hb hcell hnx x y f _ (by omega) (by omega) (by omega) (by
    have : 2 ≤ needE ((es.map (entM w)).take (needR ((rs.map (rowL n)).take s)).toNat) := by unfold needE; omega
    by_cases hle : (rs.length : Nat) ≤ 65536
    ·omega
    ·have hlt : needE ((es.map (entM w)).take (needR ((rs.map (rowL n)).take s)).toNat) ≤ 65536 := needE_of (by omega) fun e he => by
      obtain ⟨q, hq, rfl⟩ := List.mem_map.1 (List.mem_of_mem_take he)
      exact (m16_bound q.next).2
     omega)
structure Reads (p : Plan) (w : Int) (m : Mach) : Prop where
 classes : m.classes = planN p
 tab : m.tab = tabOf p.cls
 few : m.rows.length ≤ p.rows.length
 row : ∀ (s : Nat) r, m.rows[s]? = some r → ∃ q, p.rows[s]? = some q ∧ r = rowL (planN p) q
 ent : ∀ (i : Nat) e, m.ents[i]? = some e → ∃ q, p.ents[i]? = some q ∧ e = entM w q
theorem plan_closed {p : Plan} (hp : p.ok) {w : Int} (hw : w = 0 ∨ w = 1 ∨ w = 2) {rm more : List Int} (hrm : rm.length ≤ 1000) (h1 : p.cls.length ≤ 1000) (h2 : p.rows.length ≤ 1000) (hS : 2 ≤ p.rows.length)
  (hcell : ∀ r, r ∈ p.rows → ∀ x, x ∈ rowL (planN p) r → x < (p.ents.length : Int)) (hnx : ∀ e, e ∈ p.ents → m16 e.next < (p.rows.length : Int)) (g : Int) : ∃ m, machS (planRoom p w rm ++ more) g w = some m ∧ Reads p w m := by
 have e1 := plan_mach p hp w rm more hrm h1 h2 g
 obtain ⟨r, hr, h3, ⟨s', h4⟩, ⟨N, h5⟩⟩ := close_plan (n := planN p) (by unfold planN; omega) hw hp.2.1 hcell hnx (entsB w p.ents ++ more) more (65538 - 2) 2 (Nat.le_refl _) hS (by omega) (by omega)
 unfold closeA at e1
 rw [hr, Option.map_some] at e1
 refine ⟨_, e1, rfl, rfl, h3, fun s q hq => ?_, fun i e he => ?_⟩
 ·dsimp only at hq
  rw [h4, List.getElem?_take] at hq
  split at hq
  ·rw [List.getElem?_map] at hq
   obtain ⟨q', hq', rfl⟩ := Option.map_eq_some_iff.1 hq
   exact ⟨q', hq', rfl⟩
  ·cases hq
 ·dsimp only at he
  rw [h5, List.getElem?_take] at he
  split at he
  ·rw [List.getElem?_map] at he
   obtain ⟨q', hq', rfl⟩ := Option.map_eq_some_iff.1 he
   exact ⟨q', hq', rfl⟩
  ·cases he
theorem Reads.step {p : Plan} {w : Int} {m : Mach} (h : Reads p w m) (hm : m.ok) {s c : Nat} (hs : s < m.rows.length) (hc : c < planN p) {q : List Int} (hq : p.rows[s]? = some q) :
  ∃ e, p.ents[(q[c]?.getD 0).toNat]? = some e ∧ stepS m s c = some (entM w e) := by
 obtain ⟨r, hr⟩ : ∃ r, m.rows[s]? = some r := ⟨_, List.getElem?_eq_getElem hs⟩
 obtain ⟨q', hq', rfl⟩ := h.row s r hr
 rw [hq] at hq'
 injection hq' with hq'
 subst hq'
 obtain ⟨r', x, e, h1, h2, h3, h4, h5⟩ := stepS_some hm (s := (s : Int)) (c := (c : Int)) ⟨by omega, by omega, by omega, by rw [h.classes]; omega⟩
 rw [Int.toNat_natCast, hr] at h1
 injection h1 with h1
 subst h1
 rw [Int.toNat_natCast] at h2
 have hx : (rowL (planN p) q)[c]? = some (q[c]?.getD 0) := by
  unfold rowL
  rw [List.getElem?_map, List.getElem?_range hc]
  rfl
 rw [hx] at h2
 injection h2 with h2
 subst h2
 obtain ⟨e', he', rfl⟩ := h.ent _ e h4
 exact ⟨e', he', h5⟩
theorem Reads.entS {p : Plan} {w : Int} {m : Mach} (h : Reads p w m) (hm : m.ok) (l : List Gl) {st : Nat} (j x y : Int) (hst : st < m.rows.length) :
  ∃ q e, p.rows[st]? = some q ∧ p.ents[(q[(clsS m l j).1.toNat]?.getD 0).toNat]? = some e ∧ entS m l ⟨st, j, x, y⟩ = entM w e := by
 have hb := clsS_bound hm l j
 rw [h.classes] at hb
 obtain ⟨r, hr⟩ : ∃ r, m.rows[st]? = some r := ⟨_, List.getElem?_eq_getElem hst⟩
 obtain ⟨q, hq, _⟩ := h.row st r hr
 obtain ⟨e, he, hs⟩ := h.step hm (c := (clsS m l j).1.toNat) hst (by omega) hq
 refine ⟨q, e, hq, he, ?_⟩
 unfold Go.Sw.entS
 dsimp only
 rw [show (((clsS m l j).1.toNat : Nat) : Int) = (clsS m l j).1 by omega] at hs
 rw [hs]
 rfl
end Go.Sw
end
section
namespace Go.Sw
open Go.RowKit
theorem atG_new (ids : List Int) (j : Nat) {x : Int} (h : ids[j]? = some x) : atG (newG ids) j = some ⟨x, (j : Int)⟩ := by
 have hj := (List.getElem?_eq_some_iff.1 h).1
 unfold atG
 rw [if_pos ⟨by omega, by rw [newG_len]; omega⟩, Int.toNat_natCast]
 unfold newG
 rw [List.getElem?_map, List.getElem?_zipIdx, h]
 simp
def swapN (sub : List Int) (g : Gl) : Gl := if 0 ≤ g.id then (match sub[g.id.toNat]? with | some x => ⟨x, g.cl⟩ | none => g) else g
def swapTo (sub : List Int) (l : List Gl) (j : Nat) : List Gl := (l.take j).map (swapN sub) ++ l.drop j
theorem swapTo_len (sub : List Int) (l : List Gl) (j : Nat) : (swapTo sub l j).length = l.length := by unfold swapTo; simp; omega
theorem swapTo_get (sub : List Int) (l : List Gl) {j : Nat} {g : Gl} (h : l[j]? = some g) : (swapTo sub l j)[j]? = some g := map_at h
theorem swapC_step (t : CTab) (sub : List Int) (hsub : t.subs[0]? = some (tabOf sub)) (l : List Gl) {j : Nat} (hj : j < l.length) : swapC t (swapTo sub l j) j 0 = swapTo sub l (j + 1) := by
 obtain ⟨g, hg⟩ : ∃ g, l[j]? = some g := ⟨_, List.getElem?_eq_getElem hj⟩
 have hat : atG (swapTo sub l j) j = some g := by
  unfold atG
  rw [if_pos ⟨by omega, by rw [swapTo_len]; omega⟩, Int.toNat_natCast, swapTo_get sub l hg]
 unfold swapC
 rw [if_neg (by decide), hat]
 dsimp only
 rw [show (0 : Int).toNat = 0 from rfl, hsub, Option.bind_some, tab_get]
 by_cases h0 : 0 ≤ g.id
 ·rw [if_pos h0]
  cases hx : sub[g.id.toNat]? with
  | none =>
   dsimp only
   exact map_keep hg (by unfold swapN; rw [if_pos h0, hx])
  | some x =>
   dsimp only
   unfold setG
   rw [if_pos ⟨by omega, by rw [swapTo_len]; omega⟩, Int.toNat_natCast, modify_set _ _ _ _ (swapTo_get sub l hg)]
   have := map_step (f := swapN sub) hg
   unfold swapTo
   rw [← this]
   unfold swapN
   rw [if_pos h0, hx]
 ·rw [if_neg h0]
  dsimp only
  exact map_keep hg (by unfold swapN; rw [if_neg h0])
theorem swapC_end (t : CTab) (l : List Gl) (w : Int) : swapC t l (l.length : Int) w = l := by
 unfold swapC atG
 split
 ·rfl
 ·rw [if_neg (by omega)]
theorem runC_swap {t : CTab} (sub : List Int) (hsub : t.subs[0]? = some (tabOf sub)) (hent : ∀ (l : List Gl) (st : Int) (j : Nat), st = 0 → entS t.m l ⟨st, j, j, 0⟩ = ⟨0, 0, 65535, 0⟩) (l : List Gl) : runC t l = (l.map (swapN sub), 0) := by
 obtain ⟨s', st', hP, hr⟩ := runD_go t.m (fun s : List Gl × Int => s.1) (fun s i e => (doC t s i e, i, i + 1)) (2 * (l.length : Int) + 128) l.length (by omega) (fun j s st => s.1 = swapTo sub l j ∧ st = 0 ∧ s.2 = -1) (fun j s st h => by rw [h.1, swapTo_len])
  (fun j s st hj ⟨h1, h2, h3⟩ => by
   rw [hent s.1 st j h2]
   refine ⟨by decide, rfl, fun hlt => ⟨?_, rfl, ?_⟩⟩
   ·dsimp only [doC]
    rw [show swapC t s.1 s.2 65535 = s.1 from if_pos rfl, h1]
    exact swapC_step t sub hsub l hlt
   ·dsimp only [doC]
    rw [if_neg (fun hc => absurd hc.1 (by decide))]
    exact h3) l.length 0 (2 * l.length + 128) 0 (l, -1) 0 rfl (by omega) (by omega) ⟨by unfold swapTo; simp, rfl, rfl⟩
 obtain ⟨h1, h2, h3⟩ := hP
 unfold runC runCr
 rw [hr]
 dsimp only
 rw [hent s'.1 st' l.length h2]
 dsimp only [doC]
 rw [show swapC t s'.1 s'.2 65535 = s'.1 from if_pos rfl, h1]
 have e : swapTo sub l l.length = l.map (swapN sub) := by unfold swapTo; simp
 have hl := swapTo_len sub l l.length
 have := swapC_end t (swapTo sub l l.length) 0
 rw [hl] at this
 rw [this, e]
end Go.Sw
end
section
namespace Go.Sw
open Go.RowKit
structure CPlan where
 m : Plan
 subs : List (List Int)
def CPlan.ok (p : CPlan) : Prop := (p.m.ok ∧ p.subs.length < 2 ^ 63) ∧ ∀ s, s ∈ p.subs → ∀ n, n ∈ s → 0 ≤ n ∧ n < 65536
def CSmall (p : CPlan) (n : Nat) : Prop := (∀ s, s ∈ p.subs → s.length ≤ 60) ∧ p.m.cls.length ≤ 40 ∧ p.m.rows.length ≤ 20 ∧ p.m.ents.length ≤ 40 ∧ p.subs.length ≤ 20 ∧ n ≤ 60
instance (p : CPlan) (n : Nat) : Decidable (CSmall p n) := by unfold CSmall; infer_instance
theorem ctxBytes_byt {p : Plan} (hp : p.ok) (subs : List (List Int)) : Byt (ctxBytes p subs) := by
 unfold ctxBytes
 refine (planRoom_byt hp 2 (bytesOf_byt _ _)).app (Byt.app ?_ ?_)
 ·exact Byt.flat fun r hr => by obtain ⟨j, _, rfl⟩ := List.mem_map.1 hr; exact bytesOf_byt _ _
 ·exact Byt.flat fun r hr => by
   obtain ⟨s, _, rfl⟩ := List.mem_map.1 hr
   exact ((((bytesOf_byt _ _).app (bytesOf_byt _ _)).app (bytesOf_byt _ _)).app (Byt.flat fun r hr => by obtain ⟨x, _, rfl⟩ := List.mem_map.1 hr; exact bytesOf_byt _ _))
theorem ctxBytes_len {p : Plan} (hp : p.ok) (h1 : p.cls.length ≤ 1000) (h2 : p.rows.length ≤ 1000) (h3 : p.ents.length ≤ 1000) {subs : List (List Int)} (hs : ∀ s, s ∈ subs → s.length ≤ 60) (hn : subs.length ≤ 1000) : (ctxBytes p subs).length ≤ 300000 := by
 have hl := planRoom_len hp 2 (rm := bytesOf ((planRoom p 2 (List.replicate 4 0)).length : Int) 4) (by simp) h1 h2 h3
 have := offsB_len subs
 have := lksB_le subs hs
 unfold ctxBytes
 simp only [List.length_append]
 omega
end Go.Sw
end
section
namespace Go.Sw
open Go.RowKit
def swPlan : Plan := ⟨[], [[0], [0]], [⟨0, 0, 65535, 0⟩], 0⟩
theorem swPlan_ok : swPlan.ok := ⟨fun _ h => (by cases h), fun r hr x hx => by
 have : r = [0] := by simp [swPlan] at hr; exact hr
 subst this
 have : x = 0 := by simpa using hx
 omega, by decide, by decide⟩
theorem sw_ents {m : Mach} (hr : Reads swPlan 2 m) (hm : m.ok) : m.ents = [⟨0, 0, 65535, 0⟩] := by
 have hall : ∀ (i : Nat) e, m.ents[i]? = some e → i = 0 ∧ e = ⟨0, 0, 65535, 0⟩ := fun i e he => by
  obtain ⟨q, hq, rfl⟩ := hr.ent i e he
  have hi := (List.getElem?_eq_some_iff.1 hq).1
  have hi : i = 0 := by simp [swPlan] at hi; exact hi
  subst hi
  have : q = ⟨0, 0, 65535, 0⟩ := by simp [swPlan] at hq; exact hq.symm
  subst this
  exact ⟨rfl, rfl⟩
 have h1 : m.ents.length ≤ 1 := Nat.le_of_not_lt fun h => by
  have := hall 1 _ (List.getElem?_eq_getElem h)
  omega
 have h2 : 1 ≤ m.ents.length := by
  obtain ⟨r, hrr⟩ : ∃ r, m.rows[0]? = some r := ⟨_, List.getElem?_eq_getElem (by have := hm.two; omega)⟩
  obtain ⟨h3, h4⟩ := hm.row r (List.mem_of_getElem? hrr)
  have hc := hm.cl
  obtain ⟨x, hx⟩ : ∃ x, r[0]? = some x := ⟨_, List.getElem?_eq_getElem (by omega)⟩
  have := h4 x (List.mem_of_getElem? hx)
  omega
 obtain ⟨e, he⟩ : ∃ e, m.ents[0]? = some e := ⟨_, List.getElem?_eq_getElem (by omega)⟩
 have := (hall 0 e he).2
 subst this
 cases hm2 : m.ents with
 | nil => rw [hm2] at h2; simp at h2
 | cons a l =>
  rw [hm2] at he h1
  simp at he h1
  rw [he, h1]
theorem ctx_one (sub : List Int) (hs : sub.length ≤ 60) (hb : ∀ x, x ∈ sub → 0 ≤ x ∧ x < 65536) (hcb : Byt (ctxBytes swPlan [sub])) : ∃ t, ctxS (ctxBytes swPlan [sub]) 40 = some t ∧ t.subs[0]? = some (tabOf sub) ∧ ∀ (l : List Gl) (st : Int) (j : Nat), st = 0 → entS t.m l ⟨st, j, j, 0⟩ = ⟨0, 0, 65535, 0⟩ := by
  obtain ⟨m, hm, hr⟩ := plan_closed (p := swPlan) swPlan_ok (w := 2) (by omega) (rm := bytesOf ((planRoom swPlan 2 (List.replicate 4 0)).length : Int) 4) (more := offsB [sub] ++ lksB [sub]) (by simp) (by decide) (by decide) (by decide)
    (fun r hr x hx => by
      have : r = [0] := by simp [swPlan] at hr; exact hr
      subst this
      obtain ⟨i, hi, rfl⟩ := List.mem_map.1 hx
      have : ([0] : List Int)[i]?.getD 0 = 0 := by cases i <;> rfl
      rw [this]
      decide)
    (fun e he => by
      have : e = ⟨0, 0, 65535, 0⟩ := by simp [swPlan] at he; exact he
      subst this
      decide) 40
  have hm : machS (ctxBytes swPlan [sub]) 40 2 = some m := hm
  have hok := machS_ok hcb (by omega) (by omega) (by omega) hm
  have hen := sw_ents hr hok
  obtain ⟨e1, e2⟩ := ctx_parts swPlan swPlan_ok (by decide) (by decide) (by decide) [sub]
  have h0 := sub_written [sub] (fun s h => by have : s = sub := by simpa using h
                                              subst this; exact ⟨hs, hb⟩) (by simp) 40 (j := 0) rfl
  have hss : subsS (offsB [sub] ++ lksB [sub]) 40 1 = some [tabOf sub] := by
    rw [subsS_succ, show subsS (offsB [sub] ++ lksB [sub]) 40 0 = some [] from rfl, Option.bind_some, h0]
    rfl
  have hmany : (manyS m.ents).toNat = 1 := by rw [hen]; decide
  refine ⟨⟨m, [tabOf sub]⟩, ?_, rfl, fun l st j hst => ?_⟩
  · unfold ctxS
    rw [hm, Option.bind_some, e1, Option.bind_some, e2, Option.bind_some, hmany, hss]
    rfl
  · subst hst
    obtain ⟨q, e, _, he, h⟩ := hr.entS hok l (st := 0) j j 0 (by have := hok.two; omega)
    have hq := List.mem_of_getElem? he
    have : e = ⟨0, 0, 65535, 0⟩ := by simp [swPlan] at hq; exact hq
    subst this
    exact h
end Go.Sw
end
section
namespace Go.Sw
open Go.RowKit
theorem Sl.blk {α : Type} {enc : α → List Value} {H : Heap} {m b : Nat} {k : Blk} (l : List α) (hg : H.get b = some k) (hk : k.cells = rows enc l) (he : ∀ x, (enc x).length = m) : Sl H m (.slice (some ⟨b, 0, none⟩) l.length l.length) enc l :=
 .inr (.inr ⟨b, 0, _, _, rfl, Nat.le_refl _, hg, by rw [List.drop_zero, hk, List.take_of_length_le (by rw [rows_length he]; exact Nat.le_refl _)]⟩)
set_option maxHeartbeats 2000000 in
theorem CtxSwap_run (sub ids : List Int) (hb : ∀ x, x ∈ sub → 0 ≤ x ∧ x < 65536) (hsl : sub.length < 2 ^ 63) : R (T F.swashlaw15_speaks) F.swashlaw15_CtxSwap [lv encU2 sub, lv encI ids] Heap.empty = .ok (.bool true) Heap.empty := by
  generalize hk : F.swashlaw15_speaks = k
  have hs := speaks15_run k (by subst hk; rfl)
  have hk6 : k < 1000000 := by subst hk; decide
  have hW : ownW k = .no := by subst hk; rfl
  clear hk
  rw [swashlaw15_CtxSwap_R]
  generalize Heap.empty = H
  by_cases c1 : sub.length > 60
  · have c1' : (sub.length : Int) > 60 := by omega
    refine nrm_gc ⟨H, ?_, Ext.refl _⟩ (.bool _)
    simp -implicitDefEqProofs (disch := omega) [swashlaw15_CtxSwap, hs, c1']
  have c1' : ¬ (sub.length : Int) > 60 := by omega
  by_cases c2 : ids.length > 60
  · have c2' : (ids.length : Int) > 60 := by omega
    refine nrm_gc ⟨H, ?_, Ext.refl _⟩ (.bool _)
    simp -implicitDefEqProofs (disch := omega) [swashlaw15_CtxSwap, hs, c1', c2']
  have c2' : ¬ (ids.length : Int) > 60 := by omega
  have g := (((((Star.nil H).push ⟨[.int .u8 0], 1, false⟩).push ⟨[.int .u8 0], 1, false⟩).push ⟨[.slice (some ⟨H.n, 0, none⟩) 1 1, .slice (some ⟨H.n + 1, 0, none⟩) 1 1], 1, false⟩).push ⟨[.int .i64 0, .int .i64 0, .int .i64 65535, .int .i64 0], 4, false⟩).push ⟨[.slice none 0 0, .slice (some ⟨H.n + 2, 0, none⟩) 2 2, .slice (some ⟨H.n + 3, 0, none⟩) 1 1, .int .u8 0], 1, false⟩
  have g := g.push ⟨[lv encU2 sub], 1, false⟩
  simp only [List.nil_append, List.cons_append, hn_push] at g
  generalize hH6 : (((((H.push ⟨[.int .u8 0], 1, false⟩).push ⟨[.int .u8 0], 1, false⟩).push ⟨[.slice (some ⟨H.n, 0, none⟩) 1 1, .slice (some ⟨H.n + 1, 0, none⟩) 1 1], 1, false⟩).push ⟨[.int .i64 0, .int .i64 0, .int .i64 65535, .int .i64 0], 4, false⟩).push ⟨[.slice none 0 0, .slice (some ⟨H.n + 2, 0, none⟩) 2 2, .slice (some ⟨H.n + 3, 0, none⟩) 1 1, .int .u8 0], 1, false⟩).push ⟨[lv encU2 sub], 1, false⟩ = H6 at g
  have s0 := Sl.blk (enc := encB) (m := 1) ([0] : List Int) (g.get 0 rfl) rfl encB_len
  have s1 := Sl.blk (enc := encB) (m := 1) ([0] : List Int) (g.get 1 rfl) rfl encB_len
  have s2 := Sl.blk (enc := encU) (m := 1) ([([0], .slice (some ⟨H.n, 0, none⟩) 1 1), ([0], .slice (some ⟨H.n + 1, 0, none⟩) 1 1)] : List (List Int × Value)) (g.get 2 rfl) rfl encU_len
  have s3 := Sl.blk (enc := encEn) (m := 4) ([⟨0, 0, 65535, 0⟩] : List En) (g.get 3 rfl) rfl encEn_len
  have s5 := Sl.blk (enc := encSu) (m := 1) ([(sub, lv encU2 sub)] : List (List Int × Value)) (g.get 5 rfl) rfl encSu_len
  have hP : PlanSl H6 swPlan (.slice none 0 0) (.slice (some ⟨H.n + 2, 0, none⟩) 2 2) (.slice (some ⟨H.n + 3, 0, none⟩) 1 1) [([0], .slice (some ⟨H.n, 0, none⟩) 1 1), ([0], .slice (some ⟨H.n + 1, 0, none⟩) 1 1)] :=
    ⟨Sl.nil _ _, rfl, fun x hx => by simp at hx; rcases hx with rfl | rfl; exact s0; exact s1, s2, s3⟩
  have hw := ctxWrite_runG k hW swPlan swPlan_ok (by decide) (by decide) (by decide) hP [(sub, lv encU2 sub)] (fun x hx => by
    have : x = (sub, lv encU2 sub) := by simpa using hx
    subst this
    exact ⟨Sl.lv _ 1 _, by show sub.length ≤ 60; omega, hb⟩) (by simp) (vS := .slice (some ⟨H.n + 5, 0, none⟩) 1 1) s5
  have hcb := ctxBytes_byt swPlan_ok [sub]
  have hcl := ctxBytes_len swPlan_ok (by decide) (by decide) (by decide) (subs := [sub]) (fun s h => by have : s = sub := by simpa using h
                                                                                                        subst this; omega) (by simp)
  obtain ⟨t, ht, hsub, hent⟩ := ctx_one sub (by omega) hb hcb
  have hw : R (T k) F.swashlaw15_Write [.agg #[.slice none 0 0, .slice (some ⟨H.n + 2, 0, none⟩) 2 2, .slice (some ⟨H.n + 3, 0, none⟩) 1 1, .int .u8 0], .slice (some ⟨H.n + 5, 0, none⟩) 1 1] H6 = .ok (lv encB (ctxBytes swPlan [sub])) H6 := hw
  generalize ctxBytes swPlan [sub] = b at hw hcb hcl ht
  have hrd := fun H' => ctxRead_run k hk6 b hcb 40 (by omega) (by omega) H'
  have hok := ctxS_ok hcb (by omega) (by omega) ht
  rw [ht] at hrd
  simp only [cV, Option.isSome_some, if_true] at hrd
  obtain ⟨c, o, H7, e7, g⟩ := lineNew_star k g ids (by omega)
  simp only [List.nil_append, List.cons_append] at g
  obtain ⟨H8, e8, g, hlen⟩ := ctxRun_star k t hok g 6 rfl (by simp; omega)
  simp only [List.set_cons_zero, List.set_cons_succ] at g
  have hres := runC_swap sub hsub hent (newG ids)
  rw [hres] at e8 g
  dsimp only at e8 g
  have gl := lineGlyphs_run k hk6 g 6 rfl (by simp; omega)
  have hln0 := lineLen_run k g 6 rfl
  obtain ⟨L, hL⟩ : ∃ L, L = (newG ids).map (swapN sub) := ⟨_, rfl⟩
  have hLl : L.length = ids.length := by rw [hL]; simp
  rw [← hL] at g gl
  have hln : R (T k) F.line_Line_Len [ptrV c] H8 = .ok (.int .i64 L.length) H8 := by rw [hL]; exact hln0
  obtain ⟨xx, e', H9, hr9, rfl, ⟨a, rfl⟩, hx9⟩ := loop_up (body := swashlaw15_CtxSwap_l1 k (R (T k))) ids.length
    (fun j e H' => e = [(0, lv encU2 sub), (1, lv encI ids), (8, ptrV c), (49, lv encG L), (50, .int .i64 ids.length), (51, .int .i64 j)] ∧ Ext H8 H')
    (fun xx e H' => xx = .exit 0 ∧ (∃ a, e = [(0, lv encU2 sub), (1, lv encI ids), (8, ptrV c), (49, lv encG L), (50, .int .i64 ids.length), (51, a), (52, .bool false)]) ∧ Ext H8 H')
    (e0 := [(0, lv encU2 sub), (1, lv encI ids), (8, ptrV c), (49, lv encG L), (50, .int .i64 ids.length), (51, .int .i64 0)]) (H0 := H8) ⟨rfl, Ext.refl _⟩ (by omega)
    (fun j e H' hj ⟨he, hx⟩ => by
      subst he
      have hlt : (j : Int) < ids.length := by omega
      obtain ⟨x, hxj⟩ : ∃ x, ids[j]? = some x := ⟨_, List.getElem?_eq_getElem hj⟩
      have hg : L[j]? = some (swapN sub ⟨x, (j : Int)⟩) := by
        rw [hL, List.getElem?_map]
        have := atG_new ids j hxj
        unfold atG at this
        rw [if_pos ⟨by omega, by rw [newG_len]; omega⟩, Int.toNat_natCast] at this
        rw [this]
        rfl
      have i1 := fun H' => ixS_lvN encG_len L .i64 j _ hg H'
      have i2 := fun H' => ixS_lvN encI_len ids .i64 j x hxj H'
      refine .inl ⟨_, H'.push ⟨encG (swapN sub ⟨x, (j : Int)⟩), 1, false⟩, ?_, rfl, hx.push _⟩
      rw [swashlaw15_CtxSwap_l1_eq]
      by_cases h0 : 0 ≤ x
      · by_cases h1 : x < (sub.length : Int)
        · obtain ⟨y, hy⟩ : ∃ y, sub[x.toNat]? = some y := ⟨_, List.getElem?_eq_getElem (by omega)⟩
          have hsw : swapN sub ⟨x, (j : Int)⟩ = ⟨y, (j : Int)⟩ := by
            unfold swapN
            rw [if_pos h0]
            dsimp only
            rw [hy]
          have i3 := fun H' => ixS_lvN encU2_len sub .i64 x.toNat y hy H'
          rw [Int.toNat_of_nonneg h0] at i3
          have hyb := hb y (List.mem_of_getElem? hy)
          rw [hsw] at i1 ⊢
          simp -implicitDefEqProofs (disch := omega) [hlt, i1, i2, h0, h1, i3, swashlaw15_CtxSwap_j1_eq]
        · have hsw : swapN sub ⟨x, (j : Int)⟩ = ⟨x, (j : Int)⟩ := by
            unfold swapN
            rw [if_pos h0]
            dsimp only
            rw [List.getElem?_eq_none (by omega)]
          rw [hsw] at i1 ⊢
          simp -implicitDefEqProofs (disch := omega) [hlt, i1, i2, h0, h1, swashlaw15_CtxSwap_j2_eq]
      · have hsw : swapN sub ⟨x, (j : Int)⟩ = ⟨x, (j : Int)⟩ := by
          unfold swapN
          rw [if_neg h0]
        rw [hsw] at i1 ⊢
        simp -implicitDefEqProofs (disch := omega) [hlt, i1, i2, h0, swashlaw15_CtxSwap_j2_eq])
    (fun e H' ⟨he, hx⟩ => by
      subst he
      refine ⟨.exit 0, _, H', ?_, by simp, rfl, ⟨.int .i64 ids.length, rfl⟩, hx⟩
      rw [swashlaw15_CtxSwap_l1_eq]
      simp -implicitDefEqProofs)
  have hln9 : R (T k) F.line_Line_Len [ptrV c] H9 = .ok (.int .i64 ids.length) H9 := by
    have := lineLen_run k (g.rest hx9) 6 rfl
    rw [hLl] at this
    exact this
  refine nrm_gc ⟨H9, ?_, (g.rest hx9).ext⟩ (.bool _)
  simp -implicitDefEqProofs (disch := omega) [swashlaw15_CtxSwap, hs, c1', c2', hH6, hw, hrd, e7, e8, gl, hLl, hr9, swashlaw15_CtxSwap_l1k_x0, hln9]
theorem CtxSwap_args (vs : List Value) (h : ArgsLay [.one (.slice [.int .u16]), .one (.slice [.int .i64])] vs) : ∃ H', R (T F.swashlaw15_speaks) F.swashlaw15_CtxSwap vs Heap.empty = .ok (.bool true) H' := by
 obtain ⟨v1, _, rfl, h1, h⟩ := h.head
 obtain ⟨v2, _, rfl, h2, h⟩ := h.head
 obtain rfl := h.done
 obtain ⟨ids, rfl, _⟩ := arg_I h2
 obtain ⟨d, h1⟩ := h1.cell
 ·obtain ⟨b, rfl, hn, hb⟩ := Lay.listN (enc := encU2) (ok := fun n => 0 ≤ n ∧ n < 65536) (fun r cs h => by
   obtain ⟨d, v, ds, vs, rfl, h1, h2⟩ := h.head
   obtain rfl := h2.done
   obtain ⟨n, rfl, w⟩ := h1.intv
   exact ⟨n, rfl, wf_u16 w⟩) h1
  exact ⟨_, CtxSwap_run b ids hb hn⟩
end Go.Sw
end
section
namespace Go.Sw
open Go.RowKit
theorem names_ok : NamesOk Prog := NamesOk.of (by kernel_rfl)
theorem mixed_ok : Prog.follows .mixedOrders = true := Checked.mixed Go.Proofs.Try.checked
theorem laid_ok : laidOutB Prog = true := by kernel_rfl
theorem cloneP_is : SpIs Prog F.slices_Clone_of_api_Place_api_Place fun _ args H => cloneV 3 12 args H :=
 clone_is (c := { P := Prog, kp := kpS, sp := fun _ => none }) names_ok mixed_ok (t := 31) (e := 34) (by kernel_rfl) fun call a H => (slices_Clone_of_api_Place_api_Place_body 0 _ call a H).trans (by
  unfold slices_Clone_of_api_Place_api_Place cloneF
  simp only [be_31_0, ap_31, beR_bare])
theorem cloneG_is : SpIs Prog F.slices_Clone_of_api_Glyph_api_Glyph fun _ args H => cloneV 2 16 args H :=
 clone_is (c := { P := Prog, kp := kpS, sp := fun _ => none }) names_ok mixed_ok (t := 50) (e := 55) (by kernel_rfl) fun call a H => (slices_Clone_of_api_Glyph_api_Glyph_body 0 _ call a H).trans (by
  unfold slices_Clone_of_api_Glyph_api_Glyph cloneF
  simp only [be_50_0, ap_50, beR_bare])
theorem more_is (f : FuncId) (s : Sp) (h : moreS f = some s) : SpIs Prog f s := by
 unfold moreS at h
 cases h1 : Nat.beq f 77 with
 | true => have := Nat.eq_of_beq_eq_true h1; subst this; rw [h1, cond_true] at h; injection h with h; subst h; exact try_is
 | false =>
 rw [h1, cond_false] at h
 cases h2 : Nat.beq f 147 with
 | true => have := Nat.eq_of_beq_eq_true h2; subst this; rw [h2, cond_true] at h; injection h with h; subst h; exact cloneP_is
 | false =>
 rw [h2, cond_false] at h
 cases h3 : Nat.beq f 151 with
 | true => have := Nat.eq_of_beq_eq_true h3; subst this; rw [h3, cond_true] at h; injection h with h; subst h; exact cloneG_is
 | false =>
 rw [h3, cond_false] at h
 cases h4 : Nat.beq f 152 with
 | true => rw [h4, cond_true] at h; injection h with h; subst h; exact SpIs.stuck _ _
 | false => rw [h4, cond_false] at h; cases h
theorem T_prog (k : Nat) : (T k).c.P = Prog := by unfold T C; rfl
theorem told_ok {k m : Nat} (hsp : okTrue (run (baseCfg Prog kpS moreS) m (k % 1000000) [] Heap.empty) = true) : SpOk (T k).c := by
 have h0 : CallOk Prog (run (baseCfg Prog kpS moreS) m) := run_ok (c := baseCfg Prog kpS moreS) names_ok mixed_ok (SpOk.base more_is) m
 have h1 : SpOk (C k) := by
  unfold C
  exact SpOk.of (P := Prog) (kp := kpS) (speaks := speaksT) (more := moreS) (k := k % 1000000) h0 hsp more_is
 exact h1
end Go.Sw
end
