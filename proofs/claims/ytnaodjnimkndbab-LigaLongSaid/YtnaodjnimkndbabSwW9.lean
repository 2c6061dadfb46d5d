/-
  Functions' forms, and what is proved of them, part 9.
-/
import Derived.Test.YtnaodjnimkndbabSwW8
import Derived.Test.YtnaodjnimkndbabSwCfg
import Derived.Test.YtnaodjnimkndbabSwW2
set_option linter.unusedSimpArgs false
set_option linter.unusedVariables false
set_option linter.unusedSectionVars false
section
namespace Go.Sw
open Go.RowKit
def ligN (p : Plan) : Nat := (planRoom p 1 (List.replicate 12 0)).length
def ligRm (N a c : Nat) : List Int := bytesOf (N : Int) 4 ++ (bytesOf ((N + 4 * a : Nat) : Int) 4 ++ bytesOf ((N + 4 * a + 2 * c : Nat) : Int) 4)
def ligB (p : Plan) (a c l : List Int) : List Int := planRoom p 1 (ligRm (ligN p) a.length c.length) ++ (fours a ++ (twos c ++ twos l))
theorem ζe8 (N a c : Nat) : (ligRm N a c).length = 12 := by simp [ligRm]
theorem ligN_eq (p : Plan) (N a c : Nat) : (planRoom p 1 (ligRm N a c)).length = ligN p := ζad p 1 _ _ (by rw [ζe8]; simp)
theorem ligN_le {p : Plan} (hp : p.ok) (h1 : p.cls.length ≤ 1000) (h2 : p.rows.length ≤ 1000) (h3 : p.ents.length ≤ 1000) : ligN p ≤ 100000 := ζfb hp 1 (rm := List.replicate 12 0) (by simp) h1 h2 h3
theorem ligB_byt {p : Plan} (hp : p.ok) (a c l : List Int) : Byt (ligB p a c l) := by
 refine (ζji hp 1 ?_).app ((ζnv a).app ((twos_byt c).app (twos_byt l)))
 exact (ζ19 _ _).app ((ζ19 _ _).app (ζ19 _ _))
theorem ligB_len {p : Plan} (hp : p.ok) {a c l : List Int} (h1 : p.cls.length ≤ 1000) (h2 : p.rows.length ≤ 1000) (h3 : p.ents.length ≤ 1000) (h4 : a.length ≤ 1000) (h5 : c.length ≤ 1000) (h6 : l.length ≤ 1000) : (ligB p a c l).length ≤ 108000 := by
 have := ligN_le hp h1 h2 h3
 unfold ligB
 rw [List.length_append, List.length_append, List.length_append, ligN_eq, ζ7t, twos_len, twos_len]
 omega
theorem ζo3 {p : Plan} {a c l : List Int} (hN : ligN p ≤ 100000) (h4 : a.length ≤ 1000) (h5 : c.length ≤ 1000) : listAt (ligB p a c l) 16 = some (fours a ++ (twos c ++ twos l)) := by
 unfold listAt
 have hu := room_u p 1 [] (bytesOf ((ligN p + 4 * a.length : Nat) : Int) 4 ++ bytesOf ((ligN p + 4 * a.length + 2 * c.length : Nat) : Int) 4) (fours a ++ (twos c ++ twos l)) (ligN p : Int) 16 rfl (by omega) (by omega)
 have hu : uS (ligB p a c l) 16 4 = some (ligN p : Int) := hu
 rw [hu, Option.bind_some]
 exact ζhu p 1 (ligRm (ligN p) a.length c.length) [] (fours a ++ (twos c ++ twos l)) (ligN p : Nat) (by rw [ligN_eq]; simp)
theorem ζmg {p : Plan} {a c l : List Int} (hN : ligN p ≤ 100000) (h4 : a.length ≤ 1000) (h5 : c.length ≤ 1000) : listAt (ligB p a c l) 20 = some (twos c ++ twos l) := by
 unfold listAt
 have hu := room_u p 1 (bytesOf (ligN p : Int) 4) (bytesOf ((ligN p + 4 * a.length + 2 * c.length : Nat) : Int) 4) (fours a ++ (twos c ++ twos l)) ((ligN p + 4 * a.length : Nat) : Int) 20 (by simp) (by omega) (by omega)
 have hu : uS (ligB p a c l) 20 4 = some ((ligN p + 4 * a.length : Nat) : Int) := hu
 rw [hu, Option.bind_some]
 exact ζhu p 1 (ligRm (ligN p) a.length c.length) (fours a) (twos c ++ twos l) ((ligN p + 4 * a.length : Nat) : Int) (by rw [ligN_eq, ζ7t]; omega)
theorem ζo4 {p : Plan} {a c l : List Int} (hN : ligN p ≤ 100000) (h4 : a.length ≤ 1000) (h5 : c.length ≤ 1000) : listAt (ligB p a c l) 24 = some (twos l) := by
 unfold listAt
 have hu := room_u p 1 (bytesOf (ligN p : Int) 4 ++ bytesOf ((ligN p + 4 * a.length : Nat) : Int) 4) [] (fours a ++ (twos c ++ twos l)) ((ligN p + 4 * a.length + 2 * c.length : Nat) : Int) 24 (by simp) (by omega) (by omega)
 have hu : uS (ligB p a c l) 24 4 = some ((ligN p + 4 * a.length + 2 * c.length : Nat) : Int) := by
  unfold ligB ligRm
  simpa only [List.append_assoc, List.append_nil] using hu
 rw [hu, Option.bind_some]
 have := ζhu p 1 (ligRm (ligN p) a.length c.length) (fours a ++ twos c) (twos l) ((ligN p + 4 * a.length + 2 * c.length : Nat) : Int) (by rw [ligN_eq, List.length_append, ζ7t, twos_len]; omega)
 unfold ligB
 rw [← List.append_assoc (fours a)]
 exact this
theorem ζmi {p : Plan} {a c l : List Int} (hN : ligN p ≤ 100000) (h4 : a.length ≤ 1000) (h5 : c.length ≤ 1000) (g : Int) : ligaS (ligB p a c l) g = (machS (ligB p a c l) g 1).bind fun m => if m.ents.all (entLast (fours a ++ (twos c ++ twos l))) then some ⟨m, fours a ++ (twos c ++ twos l), twos c ++ twos l, twos l⟩ else none := by
 unfold ligaS
 rw [ζo3 hN h4 h5, ζmg hN h4 h5, ζo4 hN h4 h5]
 rfl
theorem byt45 : Byt [4, 5] := fun x hx => by
 have : x = 4 ∨ x = 5 := by simpa using hx
 omega
theorem ζo6 {n : Nat} (h0 : 0 < n) (hn : n ≤ 1000) : ∃ m, ligaS (ligB lgPlan (lgActs n) [0, 1] [8, 9]) 9 = some (lgTab m n) ∧ Reads lgPlan 1 m := by
 obtain ⟨m, hm, hr⟩ := two_mach (cls := [4, 5]) (e0 := ⟨0, 0, 0, 0⟩) (e1 := ⟨0, 32768, 0, 0⟩) (e2 := ⟨0, 40960, 0, 0⟩) byt45 (by decide) (by decide) (by decide) (by decide) (w := 1) (.inr (.inl rfl)) (ligRm (ligN lgPlan) (lgActs n).length 2) (fours (lgActs n) ++ (twos [0, 1] ++ twos [8, 9])) (by rw [ζe8]; omega) 9
 refine ⟨m, ?_, hr⟩
 have hN : ligN lgPlan ≤ 100000 := ligN_le (ζft byt45 _ _ _) (by decide) (by decide) (by decide)
 rw [ζmi hN (by rw [ζa6 h0]; exact hn) (by decide)]
 have hm : machS (ligB lgPlan (lgActs n) [0, 1] [8, 9]) 9 1 = some m := hm
 rw [hm, Option.bind_some, if_pos]
 ·rfl
 refine List.all_eq_true.2 fun e he => ?_
 obtain ⟨i, hi⟩ := List.mem_iff_getElem?.1 he
 obtain ⟨q, hq, rfl⟩ := hr.ent i e hi
 have hq : q = ⟨0, 0, 0, 0⟩ ∨ q = ⟨0, 32768, 0, 0⟩ ∨ q = ⟨0, 40960, 0, 0⟩ := by
  have := List.mem_of_getElem? hq
  simpa [lgPlan, twoPlan] using this
 rcases hq with rfl | rfl | rfl
 ·rfl
 ·rfl
 ·have ho : lastB (fours (lgActs n) ++ (twos [0, 1] ++ twos [8, 9])) 0 = true := ζ6o.2 ⟨n - 1, by omega, by rw [List.length_append, ζ7t, ζa6 h0]; omega, by
   rw [fours_gU _ _ (ζk3 (m := n) (i := n - 1) (by omega)) (by split <;> omega), if_pos (by omega)]
   omega⟩
  show (decide _ || lastB _ 0) = true
  rw [ho, Bool.or_true]
end Go.Sw
end
section
set_option maxRecDepth 100000
set_option linter.unusedVariables false
namespace Go.Sw
noncomputable section
def ζ27 (k : Nat) (call : Caller) : Env → Heap → Res (AExit × Env) := loopB (C k) call F.ζ9 [1, 1, 1, 1, 1, 0, 1, 0, 0]
def ζ52 (k : Nat) (call : Caller) : Kont Value := kBlock 0 (kSeq (pieceK (C k) call F.ζ9 [1, 1, 1, 1, 1, 1]) (kDone Prog (resOf Prog F.ζ9)))
def ζ28 (k : Nat) (call : Caller) : Env → Heap → Res (AExit × Env) := loopB (C k) call F.ζ9 [1, 1, 1, 1, 1, 1, 1, 1, 1, 1, 1, 1, 1, 1, 1, 1, 0, 1, 0, 0]
def ζ53 (k : Nat) (call : Caller) : Kont Value := kBlock 2 (kSeq (pieceK (C k) call F.ζ9 [1, 1, 1, 1, 1, 1, 1, 1, 1, 1, 1, 1, 1, 1, 1, 1, 1]) (kDone Prog (resOf Prog F.ζ9)))
def ζ3f (k : Nat) (call : Caller) (a5 a6 a7 a13 a15 a17 a84 a85 a86 : Value) (h : Heap) : Res (AExit × Env) :=
 kSeq (pieceK (C k) call F.ζ9 [1, 1, 1, 1, 1, 1, 1, 1, 1, 1, 1, 1, 1, 1, 1, 1, 0, 1, 0, 0, 1, 1, 0, 0, 1, 1, 1, 1]) (kBlock 3 (kSeq (pieceK (C k) call F.ζ9 [1, 1, 1, 1, 1, 1, 1, 1, 1, 1, 1, 1, 1, 1, 1, 1, 0, 1, 0, 0, 1, 1, 1]) (kRound (ownOf (C k) F.ζ9 [1, 1, 1, 1, 1, 1, 1, 1, 1, 1, 1, 1, 1, 1, 1, 1, 0, 1, 0, 0])))) .normal [(5, a5), (6, a6), (7, a7), (13, a13), (15, a15), (17, a17), (84, a84), (85, a85), (86, a86)] h
def ζ5u (k : Nat) (call : Caller) (a5 a6 a7 a13 a15 a17 a84 a85 a86 a114 : Value) (h : Heap) : Res (AExit × Env) :=
 kSeq (pieceK (C k) call F.ζ9 [1, 1, 1, 1, 1, 1, 1, 1, 1, 1, 1, 1, 1, 1, 1, 1, 0, 1, 0, 0, 1, 1, 0, 0, 1, 1, 1, 1]) (kBlock 3 (kSeq (pieceK (C k) call F.ζ9 [1, 1, 1, 1, 1, 1, 1, 1, 1, 1, 1, 1, 1, 1, 1, 1, 0, 1, 0, 0, 1, 1, 1]) (kRound (ownOf (C k) F.ζ9 [1, 1, 1, 1, 1, 1, 1, 1, 1, 1, 1, 1, 1, 1, 1, 1, 0, 1, 0, 0])))) .normal [(5, a5), (6, a6), (7, a7), (13, a13), (15, a15), (17, a17), (84, a84), (85, a85), (86, a86), (114, a114)] h
def ζ9 (k : Nat) (call : Caller) (a0 a1 : Value) (h : Heap) : Res Value :=
 (call F.ζl [] h).bind fun v1 h2 =>
 (unR .not v1 h2).bind fun v3 h4 =>
 condV (some v3) (
 .ok (.bool false) h4)
 (
 (convR Prog 5 3 a0 h4).bind fun v5 h6 =>
 (binR Prog .rem 3 v5 (.int .i64 120) h6).bind fun v7 h8 =>
 (binR Prog .add 3 (.int .i64 2) v7 h8).bind fun v9 h10 =>
 (call F.ζ2w [] h10).bind fun v11 h12 =>
 (allocR Prog 111 h12).bind fun v13 h14 =>
 (storeR Prog 111 v13 v11 h14).bind fun _v15 h16 =>
 (fieldAddrR Prog 111 v13 1 h16).bind fun v17 h18 =>
 (storeR Prog 108 v17 (.slice none 0 0) h18).bind fun _v19 h20 =>
 (convR Prog 5 3 a1 h20).bind fun v21 h22 =>
 (binR Prog .rem 3 v21 (.int .i64 3) h22).bind fun v23 h24 =>
 (binR Prog .add 3 v9 v23 h24).bind fun v25 h26 =>
 (binR Prog .sub 3 v25 (.int .i64 1) h26).bind fun v27 h28 =>
 (loopN (ζ27 k call) loopFuel [(5, v9), (6, v13), (31, v27), (32, (.int .i64 0))] h28).bind fun r29 h30 =>
 ζ52 k call r29.1 r29.2 h30)
theorem ζb5 (k : Nat) (a0 a1 : Value) (h : Heap) : R (T k) F.ζ9 [a0, a1] h = nrm .gc h (ζ9 k (R (T k)) a0 a1 h) :=
 (R_body (t := T k) (T_scott k) (by kernel_rfl) (by kernel_rfl) _ _).trans (by kernel_rfl)
theorem ζ49 (k : Nat) (call : Caller) (a5 a6 a31 a32 : Value) (h : Heap) : ζ27 k call [(5, a5), (6, a6), (31, a31), (32, a32)] h =
 (binR Prog .lss 3 a32 a31 h).bind fun v31 h32 =>
 condV (some v31) (
 (fieldAddrR Prog 111 a6 1 h32).bind fun v33 h34 =>
 (loadR Prog 108 v33 h34).bind fun v35 h36 =>
 (buildSliceR Prog 108 1 [(0, (.int .u32 0))] h36).bind fun v37 h38 =>
 (builtinV Prog .append [108, 108] [v35, v37] h38).bind fun v39 h40 =>
 (fieldAddrR Prog 111 a6 1 h40).bind fun v41 h42 =>
 (storeR Prog 108 v41 v39 h42).bind fun _v43 h44 =>
 (binR Prog .add 3 a32 (.int .i64 1) h44).bind fun v45 h46 =>
 .ok (.normal, [(5, a5), (6, a6), (31, a31), (32, v45)]) h46)
 (
 .ok ((.exit 0), [(5, a5), (6, a6), (31, a31), (32, a32), (33, v31)]) h32) :=
 (loopB_eq _ _).trans (by kernel_rfl)
theorem ζ88 (k : Nat) (call : Caller) (a5 a6 a31 a32 a33 : Value) (h : Heap) : ζ52 k call (.exit 0) [(5, a5), (6, a6), (31, a31), (32, a32), (33, a33)] h =
 (fieldAddrR Prog 111 a6 1 h).bind fun v47 h48 =>
 (loadR Prog 108 v47 h48).bind fun v49 h50 =>
 (buildSliceR Prog 108 1 [(0, (.int .u32 2147483648))] h50).bind fun v51 h52 =>
 (builtinV Prog .append [108, 108] [v49, v51] h52).bind fun v53 h54 =>
 (fieldAddrR Prog 111 a6 1 h54).bind fun v55 h56 =>
 (storeR Prog 108 v55 v53 h56).bind fun _v57 h58 =>
 (makeSliceV Prog 27 a5 a5 h58).bind fun v59 h60 =>
 (binR Prog .sub 3 a5 (.int .i64 1) h60).bind fun v61 h62 =>
 (indexAddrR Prog 27 v59 v61 h62).bind fun v63 h64 =>
 (storeR Prog 3 v63 (.int .i64 1) h64).bind fun _v65 h66 =>
 (loadR Prog 111 a6 h66).bind fun v67 h68 =>
 (call F.ζ8 [v67] h68).bind fun v69 h70 =>
 (call F.ζ4c [v69, (.int .i64 9)] h70).bind fun v71 h72 =>
 (extractR v71 0 h72).bind fun v73 h74 =>
 (extractR v71 1 h74).bind fun v75 h76 =>
 (binR Prog .neq 34 v75 (.int .i64 0) h76).bind fun v77 h78 =>
 ((bif wantVal v77 false then Res.ok v73 h78 else Res.ok undef h78)).bind fun v79 h80 =>
 ((bif wantVal v77 false then binR Prog .eql 99 v79 (.pointer none) h80 else Res.ok undef h80)).bind fun v81 h82 =>
 (condV (some v77) (Res.ok (.bool true) h82) (Res.ok v81 h82)).bind fun v83 h84 =>
 condV (some v83) (
 .ok (.bool false) h84)
 (
 (call F.line_New [v59] h84).bind fun v85 h86 =>
 (call F.ζ1t [v73, v85] h86).bind fun v87 h88 =>
 (call F.ζ1g [v85] h88).bind fun v89 h90 =>
 (fieldAddrR Prog 111 a6 1 h90).bind fun v91 h92 =>
 (loadR Prog 108 v91 h92).bind fun v93 h94 =>
 (builtinV Prog .len [108] [v93] h94).bind fun v95 h96 =>
 (builtinV Prog .min [3, 3] [a5, (.int .i64 64)] h96).bind fun v97 h98 =>
 (binR Prog .leq 3 v95 v97 h98).bind fun v99 h100 =>
 (binR Prog .neq 34 v87 (.int .i64 0) h100).bind fun v101 h102 =>
 ((bif wantVal v101 false then Res.ok v89 h102 else Res.ok undef h102)).bind fun v103 h104 =>
 ((bif wantVal v101 false then builtinV Prog .len [48] [v103] h104 else Res.ok undef h104)).bind fun v105 h106 =>
 ((bif wantVal v101 false then Res.ok a5 h106 else Res.ok undef h106)).bind fun v107 h108 =>
 ((bif wantVal v101 false then binR Prog .neq 3 v105 v107 h108 else Res.ok undef h108)).bind fun v109 h110 =>
 (condV (some v101) (Res.ok (.bool true) h110) (Res.ok v109 h110)).bind fun v111 h112 =>
 condV (some v111) (
 .ok (.bool false) h112)
 (
 (builtinV Prog .len [48] [v89] h112).bind fun v113 h114 =>
 (loopN (ζ28 k call) loopFuel [(5, a5), (6, a6), (7, v59), (13, v99), (84, v89), (85, v113), (86, (.int .i64 0))] h114).bind fun r115 h116 =>
 ζ53 k call r115.1 r115.2 h116)) := by kernel_rfl
theorem ζ1r (k : Nat) (call : Caller) (a5 a6 a7 a13 a84 a85 a86 : Value) (h : Heap) : ζ28 k call [(5, a5), (6, a6), (7, a7), (13, a13), (84, a84), (85, a85), (86, a86)] h =
 (binR Prog .lss 3 a86 a85 h).bind fun v117 h118 =>
 condV (some v117) (
 (indexAddrR Prog 48 a84 a86 h118).bind fun v119 h120 =>
 (loadR Prog 115 v119 h120).bind fun v121 h122 =>
 (allocR Prog 115 h122).bind fun v123 h124 =>
 (storeR Prog 115 v123 v121 h124).bind fun _v125 h126 =>
 (fieldAddrR Prog 111 a6 1 h126).bind fun v127 h128 =>
 (loadR Prog 108 v127 h128).bind fun v129 h130 =>
 (builtinV Prog .len [108] [v129] h130).bind fun v131 h132 =>
 (binR Prog .sub 3 a5 v131 h132).bind fun v133 h134 =>
 (indexAddrR Prog 27 a7 a86 h134).bind fun v135 h136 =>
 (loadR Prog 3 v135 h136).bind fun v137 h138 =>
 (buildR Prog 115 [(0, v137), (1, a86)] h138).bind fun v139 h140 =>
 (allocR Prog 115 h140).bind fun v141 h142 =>
 (storeR Prog 115 v141 v139 h142).bind fun _v143 h144 =>
 ((bif wantVal a13 true then Res.ok a86 h144 else Res.ok undef h144)).bind fun v145 h146 =>
 ((bif wantVal a13 true then Res.ok v133 h146 else Res.ok undef h146)).bind fun v147 h148 =>
 ((bif wantVal a13 true then binR Prog .eql 3 v145 v147 h148 else Res.ok undef h148)).bind fun v149 h150 =>
 (condV (some a13) (Res.ok v149 h150) (Res.ok (.bool false) h150)).bind fun v151 h152 =>
 condV (some v151) (
 (fieldAddrR Prog 115 v141 0 h152).bind fun v153 h154 =>
 (storeR Prog 3 v153 (.int .i64 9) h154).bind fun _v155 h156 =>
 ζ3f k call a5 a6 a7 a13 v123 v141 a84 a85 a86 h156)
 (
 ((bif wantVal a13 true then Res.ok a86 h152 else Res.ok undef h152)).bind fun v157 h158 =>
 ((bif wantVal a13 true then Res.ok v133 h158 else Res.ok undef h158)).bind fun v159 h160 =>
 ((bif wantVal a13 true then binR Prog .gtr 3 v157 v159 h160 else Res.ok undef h160)).bind fun v161 h162 =>
 (condV (some a13) (Res.ok v161 h162) (Res.ok (.bool false) h162)).bind fun v163 h164 =>
 condV (some v163) (
 (fieldAddrR Prog 115 v141 0 h164).bind fun v165 h166 =>
 (storeR Prog 3 v165 (.int .i64 65535) h166).bind fun _v167 h168 =>
 ζ3f k call a5 a6 a7 a13 v123 v141 a84 a85 a86 h168)
 (
 ζ5u k call a5 a6 a7 a13 v123 v141 a84 a85 a86 v163 h164)))
 (
 .ok ((.exit 2), [(5, a5), (6, a6), (7, a7), (13, a13), (84, a84), (85, a85), (86, a86), (87, v117)]) h118) :=
 (loopB_eq _ _).trans (by kernel_rfl)
theorem ζ48 (k : Nat) (call : Caller) (a5 a6 a7 a13 a15 a17 a84 a85 a86 : Value) (h : Heap) : ζ3f k call a5 a6 a7 a13 a15 a17 a84 a85 a86 h =
 (loadR Prog 115 a15 h).bind fun v169 h170 =>
 (loadR Prog 115 a17 h170).bind fun v171 h172 =>
 (binR Prog .neq 115 v169 v171 h172).bind fun v173 h174 =>
 condV (some v173) (
 .ok (.ret, [(4, (.bool false))]) h174)
 (
 (binR Prog .add 3 a86 (.int .i64 1) h174).bind fun v175 h176 =>
 .ok (.normal, [(5, a5), (6, a6), (7, a7), (13, a13), (84, a84), (85, a85), (86, v175)]) h176) := by kernel_rfl
theorem ζ8m (k : Nat) (call : Caller) (a5 a6 a7 a13 a15 a17 a84 a85 a86 a114 : Value) (h : Heap) : ζ5u k call a5 a6 a7 a13 a15 a17 a84 a85 a86 a114 h =
 (loadR Prog 115 a15 h).bind fun v177 h178 =>
 (loadR Prog 115 a17 h178).bind fun v179 h180 =>
 (binR Prog .neq 115 v177 v179 h180).bind fun v181 h182 =>
 condV (some v181) (
 .ok (.ret, [(4, (.bool false))]) h182)
 (
 (binR Prog .add 3 a86 (.int .i64 1) h182).bind fun v183 h184 =>
 .ok (.normal, [(5, a5), (6, a6), (7, a7), (13, a13), (84, a84), (85, a85), (86, v183)]) h184) := by kernel_rfl
theorem ζ89 (k : Nat) (call : Caller) (a5 a6 a7 a13 a84 a85 a86 a87 : Value) (h : Heap) : ζ53 k call (.exit 2) [(5, a5), (6, a6), (7, a7), (13, a13), (84, a84), (85, a85), (86, a86), (87, a87)] h =
 .ok (.bool true) h := by kernel_rfl
def ζ3e (k : Nat) (call : Caller) : Env → Heap → Res (AExit × Env) := loopB (C k) call F.ζe [1, 1, 1, 1, 1, 0, 1, 0, 0]
def ζ51 (k : Nat) (call : Caller) : Kont Value := kBlock 0 (kSeq (pieceK (C k) call F.ζe [1, 1, 1, 1, 1, 1]) (kDone Prog (resOf Prog F.ζe)))
def ζ3d (k : Nat) (call : Caller) (a1 a2 a7 a31 a32 : Value) (h : Heap) : Res (AExit × Env) :=
 kSeq (pieceK (C k) call F.ζe [1, 1, 1, 1, 1, 0, 1, 0, 0, 1, 1, 1]) (kRound (ownOf (C k) F.ζe [1, 1, 1, 1, 1, 0, 1, 0, 0])) .normal [(1, a1), (2, a2), (7, a7), (31, a31), (32, a32)] h
def ζe (k : Nat) (call : Caller) (a0 a1 a2 : Value) (h : Heap) : Res Value :=
 (boxR a0 h).bind fun v1 h2 =>
 (call F.ζl [] h2).bind fun v3 h4 =>
 (unR .not v3 h4).bind fun v5 h6 =>
 condV (some v5) (
 .ok (.bool false) h6)
 (
 (loadR Prog 111 v1 h6).bind fun v7 h8 =>
 (call F.ζq [v7, a1] h8).bind fun v9 h10 =>
 (unR .not v9 h10).bind fun v11 h12 =>
 condV (some v11) (
 .ok (.bool true) h12)
 (
 (loadR Prog 111 v1 h12).bind fun v13 h14 =>
 (allocR Prog 111 h14).bind fun v15 h16 =>
 (storeR Prog 111 v15 v13 h16).bind fun _v17 h18 =>
 (buildSliceR Prog 24 0 [] h18).bind fun v19 h20 =>
 (fieldAddrR Prog 111 v1 0 h20).bind fun v21 h22 =>
 (fieldAddrR Prog 26 v21 2 h22).bind fun v23 h24 =>
 (loadR Prog 24 v23 h24).bind fun v25 h26 =>
 (builtinV Prog .append [24, 24] [v19, v25] h26).bind fun v27 h28 =>
 (fieldAddrR Prog 111 v15 0 h28).bind fun v29 h30 =>
 (fieldAddrR Prog 26 v29 2 h30).bind fun v31 h32 =>
 (storeR Prog 24 v31 v27 h32).bind fun _v33 h34 =>
 (fieldAddrR Prog 111 v15 0 h34).bind fun v35 h36 =>
 (fieldAddrR Prog 26 v35 2 h36).bind fun v37 h38 =>
 (loadR Prog 24 v37 h38).bind fun v39 h40 =>
 (builtinV Prog .len [24] [v39] h40).bind fun v41 h42 =>
 (loopN (ζ3e k call) loopFuel [(1, a1), (2, a2), (7, v15), (31, v41), (32, (.int .i64 0))] h42).bind fun r43 h44 =>
 ζ51 k call r43.1 r43.2 h44))
theorem ζb4 (k : Nat) (a0 a1 a2 : Value) (h : Heap) : R (T k) F.ζe [a0, a1, a2] h = nrm .gc h (ζe k (R (T k)) a0 a1 a2 h) :=
 (R_body (t := T k) (T_scott k) (by kernel_rfl) (by kernel_rfl) _ _).trans (by kernel_rfl)
theorem ζ47 (k : Nat) (call : Caller) (a1 a2 a7 a31 a32 : Value) (h : Heap) : ζ3e k call [(1, a1), (2, a2), (7, a7), (31, a31), (32, a32)] h =
 (binR Prog .lss 3 a32 a31 h).bind fun v45 h46 =>
 condV (some v45) (
 condV (some a2) (
 (fieldAddrR Prog 111 a7 0 h46).bind fun v47 h48 =>
 (fieldAddrR Prog 26 v47 2 h48).bind fun v49 h50 =>
 (loadR Prog 24 v49 h50).bind fun v51 h52 =>
 (indexAddrR Prog 24 v51 a32 h52).bind fun v53 h54 =>
 (fieldAddrR Prog 31 v53 1 h54).bind fun v55 h56 =>
 (loadR Prog 3 v55 h56).bind fun v57 h58 =>
 (binR Prog .andNot 3 v57 (.int .i64 8192) h58).bind fun v59 h60 =>
 (indexAddrR Prog 24 v51 a32 h60).bind fun v61 h62 =>
 (fieldAddrR Prog 31 v61 1 h62).bind fun v63 h64 =>
 (storeR Prog 3 v63 v59 h64).bind fun _v65 h66 =>
 ζ3d k call a1 a2 a7 a31 a32 h66)
 (
 (fieldAddrR Prog 111 a7 0 h46).bind fun v67 h68 =>
 (fieldAddrR Prog 26 v67 2 h68).bind fun v69 h70 =>
 (loadR Prog 24 v69 h70).bind fun v71 h72 =>
 (indexAddrR Prog 24 v71 a32 h72).bind fun v73 h74 =>
 (fieldAddrR Prog 31 v73 1 h74).bind fun v75 h76 =>
 (loadR Prog 3 v75 h76).bind fun v77 h78 =>
 (binR Prog .andNot 3 v77 (.int .i64 32768) h78).bind fun v79 h80 =>
 (indexAddrR Prog 24 v71 a32 h80).bind fun v81 h82 =>
 (fieldAddrR Prog 31 v81 1 h82).bind fun v83 h84 =>
 (storeR Prog 3 v83 v79 h84).bind fun _v85 h86 =>
 ζ3d k call a1 a2 a7 a31 a32 h86))
 (
 .ok ((.exit 0), [(1, a1), (2, a2), (7, a7), (31, a31), (32, a32), (33, v45)]) h46) :=
 (loopB_eq _ _).trans (by kernel_rfl)
theorem ζ46 (k : Nat) (call : Caller) (a1 a2 a7 a31 a32 : Value) (h : Heap) : ζ3d k call a1 a2 a7 a31 a32 h =
 (binR Prog .add 3 a32 (.int .i64 1) h).bind fun v87 h88 =>
 .ok (.normal, [(1, a1), (2, a2), (7, a7), (31, a31), (32, v87)]) h88 := by kernel_rfl
theorem ζ1n (k : Nat) (call : Caller) (a1 a2 a7 a31 a32 a33 : Value) (h : Heap) : ζ51 k call (.exit 0) [(1, a1), (2, a2), (7, a7), (31, a31), (32, a32), (33, a33)] h =
 (loadR Prog 111 a7 h).bind fun v89 h90 =>
 (call F.ζ8 [v89] h90).bind fun v91 h92 =>
 (call F.ζ4c [v91, (.int .i64 40)] h92).bind fun v93 h94 =>
 (extractR v93 0 h94).bind fun v95 h96 =>
 (extractR v93 1 h96).bind fun v97 h98 =>
 (loadR Prog 111 a7 h98).bind fun v99 h100 =>
 (call F.ζ8 [v99] h100).bind fun v101 h102 =>
 (call F.ζc [v101, (.int .i64 40)] h102).bind fun v103 h104 =>
 (extractR v103 0 h104).bind fun v105 h106 =>
 (extractR v103 1 h106).bind fun v107 h108 =>
 (allocR Prog 103 h108).bind fun v109 h110 =>
 (storeR Prog 103 v109 v105 h110).bind fun _v111 h112 =>
 (binR Prog .eql 99 v95 (.pointer none) h112).bind fun v113 h114 =>
 ((bif wantVal v113 false then Res.ok v107 h114 else Res.ok undef h114)).bind fun v115 h116 =>
 ((bif wantVal v113 false then unR .not v115 h116 else Res.ok undef h116)).bind fun v117 h118 =>
 (condV (some v113) (Res.ok (.bool true) h118) (Res.ok v117 h118)).bind fun v119 h120 =>
 ((bif wantVal v119 false then fieldAddrR Prog 103 v109 0 h120 else Res.ok undef h120)).bind fun v121 h122 =>
 ((bif wantVal v119 false then fieldAddrR Prog 41 v121 5 h122 else Res.ok undef h122)).bind fun v123 h124 =>
 ((bif wantVal v119 false then loadR Prog 3 v123 h124 else Res.ok undef h124)).bind fun v125 h126 =>
 ((bif wantVal v119 false then fieldAddrR Prog 111 a7 0 h126 else Res.ok undef h126)).bind fun v127 h128 =>
 ((bif wantVal v119 false then fieldAddrR Prog 26 v127 2 h128 else Res.ok undef h128)).bind fun v129 h130 =>
 ((bif wantVal v119 false then loadR Prog 24 v129 h130 else Res.ok undef h130)).bind fun v131 h132 =>
 ((bif wantVal v119 false then builtinV Prog .len [24] [v131] h132 else Res.ok undef h132)).bind fun v133 h134 =>
 ((bif wantVal v119 false then binR Prog .gtr 3 v125 v133 h134 else Res.ok undef h134)).bind fun v135 h136 =>
 (condV (some v119) (Res.ok (.bool true) h136) (Res.ok v135 h136)).bind fun v137 h138 =>
 ((bif wantVal v137 false then fieldAddrR Prog 103 v109 0 h138 else Res.ok undef h138)).bind fun v139 h140 =>
 ((bif wantVal v137 false then fieldAddrR Prog 41 v139 4 h140 else Res.ok undef h140)).bind fun v141 h142 =>
 ((bif wantVal v137 false then loadR Prog 3 v141 h142 else Res.ok undef h142)).bind fun v143 h144 =>
 ((bif wantVal v137 false then fieldAddrR Prog 111 a7 0 h144 else Res.ok undef h144)).bind fun v145 h146 =>
 ((bif wantVal v137 false then fieldAddrR Prog 26 v145 1 h146 else Res.ok undef h146)).bind fun v147 h148 =>
 ((bif wantVal v137 false then loadR Prog 23 v147 h148 else Res.ok undef h148)).bind fun v149 h150 =>
 ((bif wantVal v137 false then builtinV Prog .len [23] [v149] h150 else Res.ok undef h150)).bind fun v151 h152 =>
 ((bif wantVal v137 false then binR Prog .gtr 3 v143 v151 h152 else Res.ok undef h152)).bind fun v153 h154 =>
 (condV (some v137) (Res.ok (.bool true) h154) (Res.ok v153 h154)).bind fun v155 h156 =>
 condV (some v155) (
 (binR Prog .eql 99 v95 (.pointer none) h156).bind fun v157 h158 =>
 ((bif wantVal v157 false then Res.ok v107 h158 else Res.ok undef h158)).bind fun v159 h160 =>
 (condV (some v157) (Res.ok (.bool true) h160) (Res.ok v159 h160)).bind fun v161 h162 =>
 .ok v161 h162)
 (
 (call F.line_New [a1] h156).bind fun v163 h164 =>
 (call F.ζ1t [v95, v163] h164).bind fun v165 h166 =>
 (call F.ζ1g [v163] h166).bind fun v167 h168 =>
 (call F.ζ1v [a1] h168).bind fun v169 h170 =>
 (call F.ζ12 [v167, v169] h170).bind fun v171 h172 =>
 .ok v171 h172) := by kernel_rfl
def ζu (k : Nat) (call : Caller) (a0 a1 : Value) (h : Heap) : Res Value :=
 (boxR a0 h).bind fun v1 h2 =>
 (call F.ζl [] h2).bind fun v3 h4 =>
 (unR .not v3 h4).bind fun v5 h6 =>
 condV (some v5) (
 .ok (.bool false) h6)
 (
 (loadR Prog 22 v1 h6).bind fun v7 h8 =>
 (builtinV Prog .len [22] [v7] h8).bind fun v9 h10 =>
 (binR Prog .gtr 3 v9 (.int .i64 800) h10).bind fun v11 h12 =>
 ((bif wantVal v11 false then Res.ok a1 h12 else Res.ok undef h12)).bind fun v13 h14 =>
 ((bif wantVal v11 false then builtinV Prog .len [27] [v13] h14 else Res.ok undef h14)).bind fun v15 h16 =>
 ((bif wantVal v11 false then binR Prog .gtr 3 v15 (.int .i64 40) h16 else Res.ok undef h16)).bind fun v17 h18 =>
 (condV (some v11) (Res.ok (.bool true) h18) (Res.ok v17 h18)).bind fun v19 h20 =>
 condV (some v19) (
 .ok (.bool true) h20)
 (
 (allocR Prog 99 h20).bind fun v21 h22 =>
 (call F.view_Try [(.func (.func F.ζk) #[] #[v1, v21])] h22).bind fun v23 h24 =>
 (loadR Prog 22 v1 h24).bind fun v25 h26 =>
 (call F.ζ4c [v25, (.int .i64 40)] h26).bind fun v27 h28 =>
 (extractR v27 0 h28).bind fun v29 h30 =>
 (extractR v27 1 h30).bind fun v31 h32 =>
 (binR Prog .eql 34 v31 (.int .i64 0) h32).bind fun v33 h34 =>
 (binR Prog .neq 4 v23 v33 h34).bind fun v35 h36 =>
 ((bif wantVal v35 false then Res.ok v23 h36 else Res.ok undef h36)).bind fun v37 h38 =>
 ((bif wantVal v35 false then loadR Prog 99 v21 h38 else Res.ok undef h38)).bind fun v39 h40 =>
 ((bif wantVal v35 false then binR Prog .neq 99 v39 (.pointer none) h40 else Res.ok undef h40)).bind fun v41 h42 =>
 ((bif wantVal v35 false then binR Prog .neq 4 v37 v41 h42 else Res.ok undef h42)).bind fun v43 h44 =>
 (condV (some v35) (Res.ok (.bool true) h44) (Res.ok v43 h44)).bind fun v45 h46 =>
 ((bif wantVal v45 false then Res.ok v23 h46 else Res.ok undef h46)).bind fun v47 h48 =>
 ((bif wantVal v45 false then Res.ok v29 h48 else Res.ok undef h48)).bind fun v49 h50 =>
 ((bif wantVal v45 false then binR Prog .neq 99 v49 (.pointer none) h50 else Res.ok undef h50)).bind fun v51 h52 =>
 ((bif wantVal v45 false then binR Prog .neq 4 v47 v51 h52 else Res.ok undef h52)).bind fun v53 h54 =>
 (condV (some v45) (Res.ok (.bool true) h54) (Res.ok v53 h54)).bind fun v55 h56 =>
 condV (some v55) (
 .ok (.bool false) h56)
 (
 (unR .not v23 h56).bind fun v57 h58 =>
 condV (some v57) (
 .ok (.bool true) h58)
 (
 (call F.line_New [a1] h58).bind fun v59 h60 =>
 (call F.line_New [a1] h60).bind fun v61 h62 =>
 (loadR Prog 99 v21 h62).bind fun v63 h64 =>
 (call F.ζ1t [v63, v59] h64).bind fun v65 h66 =>
 (call F.ζ1t [v29, v61] h66).bind fun v67 h68 =>
 (binR Prog .eql 34 v65 v67 h68).bind fun v69 h70 =>
 ((bif wantVal v69 true then Res.ok v59 h70 else Res.ok undef h70)).bind fun v71 h72 =>
 ((bif wantVal v69 true then call F.ζ1g [v71] h72 else Res.ok undef h72)).bind fun v73 h74 =>
 ((bif wantVal v69 true then Res.ok v61 h74 else Res.ok undef h74)).bind fun v75 h76 =>
 ((bif wantVal v69 true then call F.ζ1g [v75] h76 else Res.ok undef h76)).bind fun v77 h78 =>
 ((bif wantVal v69 true then call F.ζ12 [v73, v77] h78 else Res.ok undef h78)).bind fun v79 h80 =>
 (condV (some v69) (Res.ok v79 h80) (Res.ok (.bool false) h80)).bind fun v81 h82 =>
 .ok v81 h82))))
theorem ζal (k : Nat) (a0 a1 : Value) (h : Heap) : R (T k) F.ζu [a0, a1] h = nrm .gc h (ζu k (R (T k)) a0 a1 h) :=
 (R_body (t := T k) (T_scott k) (by kernel_rfl) (by kernel_rfl) _ _).trans (by kernel_rfl)
def ζq (k : Nat) (call : Caller) (a0 a1 : Value) (h : Heap) : Res Value :=
 (boxR a0 h).bind fun v1 h2 =>
 (fieldAddrR Prog 111 v1 0 h2).bind fun v3 h4 =>
 (fieldAddrR Prog 26 v3 0 h4).bind fun v5 h6 =>
 (loadR Prog 22 v5 h6).bind fun v7 h8 =>
 (builtinV Prog .len [22] [v7] h8).bind fun v9 h10 =>
 (binR Prog .leq 3 v9 (.int .i64 40) h10).bind fun v11 h12 =>
 ((bif wantVal v11 true then fieldAddrR Prog 111 v1 0 h12 else Res.ok undef h12)).bind fun v13 h14 =>
 ((bif wantVal v11 true then fieldAddrR Prog 26 v13 1 h14 else Res.ok undef h14)).bind fun v15 h16 =>
 ((bif wantVal v11 true then loadR Prog 23 v15 h16 else Res.ok undef h16)).bind fun v17 h18 =>
 ((bif wantVal v11 true then builtinV Prog .len [23] [v17] h18 else Res.ok undef h18)).bind fun v19 h20 =>
 ((bif wantVal v11 true then binR Prog .leq 3 v19 (.int .i64 20) h20 else Res.ok undef h20)).bind fun v21 h22 =>
 (condV (some v11) (Res.ok v21 h22) (Res.ok (.bool false) h22)).bind fun v23 h24 =>
 ((bif wantVal v23 true then fieldAddrR Prog 111 v1 0 h24 else Res.ok undef h24)).bind fun v25 h26 =>
 ((bif wantVal v23 true then fieldAddrR Prog 26 v25 2 h26 else Res.ok undef h26)).bind fun v27 h28 =>
 ((bif wantVal v23 true then loadR Prog 24 v27 h28 else Res.ok undef h28)).bind fun v29 h30 =>
 ((bif wantVal v23 true then builtinV Prog .len [24] [v29] h30 else Res.ok undef h30)).bind fun v31 h32 =>
 ((bif wantVal v23 true then binR Prog .leq 3 v31 (.int .i64 40) h32 else Res.ok undef h32)).bind fun v33 h34 =>
 (condV (some v23) (Res.ok v33 h34) (Res.ok (.bool false) h34)).bind fun v35 h36 =>
 ((bif wantVal v35 true then fieldAddrR Prog 111 v1 1 h36 else Res.ok undef h36)).bind fun v37 h38 =>
 ((bif wantVal v35 true then loadR Prog 108 v37 h38 else Res.ok undef h38)).bind fun v39 h40 =>
 ((bif wantVal v35 true then builtinV Prog .len [108] [v39] h40 else Res.ok undef h40)).bind fun v41 h42 =>
 ((bif wantVal v35 true then binR Prog .leq 3 v41 (.int .i64 60) h42 else Res.ok undef h42)).bind fun v43 h44 =>
 (condV (some v35) (Res.ok v43 h44) (Res.ok (.bool false) h44)).bind fun v45 h46 =>
 ((bif wantVal v45 true then fieldAddrR Prog 111 v1 2 h46 else Res.ok undef h46)).bind fun v47 h48 =>
 ((bif wantVal v45 true then loadR Prog 109 v47 h48 else Res.ok undef h48)).bind fun v49 h50 =>
 ((bif wantVal v45 true then builtinV Prog .len [109] [v49] h50 else Res.ok undef h50)).bind fun v51 h52 =>
 ((bif wantVal v45 true then binR Prog .leq 3 v51 (.int .i64 100) h52 else Res.ok undef h52)).bind fun v53 h54 =>
 (condV (some v45) (Res.ok v53 h54) (Res.ok (.bool false) h54)).bind fun v55 h56 =>
 ((bif wantVal v55 true then fieldAddrR Prog 111 v1 3 h56 else Res.ok undef h56)).bind fun v57 h58 =>
 ((bif wantVal v55 true then loadR Prog 109 v57 h58 else Res.ok undef h58)).bind fun v59 h60 =>
 ((bif wantVal v55 true then builtinV Prog .len [109] [v59] h60 else Res.ok undef h60)).bind fun v61 h62 =>
 ((bif wantVal v55 true then binR Prog .leq 3 v61 (.int .i64 100) h62 else Res.ok undef h62)).bind fun v63 h64 =>
 (condV (some v55) (Res.ok v63 h64) (Res.ok (.bool false) h64)).bind fun v65 h66 =>
 ((bif wantVal v65 true then Res.ok a1 h66 else Res.ok undef h66)).bind fun v67 h68 =>
 ((bif wantVal v65 true then builtinV Prog .len [27] [v67] h68 else Res.ok undef h68)).bind fun v69 h70 =>
 ((bif wantVal v65 true then binR Prog .leq 3 v69 (.int .i64 100) h70 else Res.ok undef h70)).bind fun v71 h72 =>
 (condV (some v65) (Res.ok v71 h72) (Res.ok (.bool false) h72)).bind fun v73 h74 =>
 .ok v73 h74
theorem ζd9 (k : Nat) (a0 a1 : Value) (h : Heap) : R (T k) F.ζq [a0, a1] h = nrm .gc h (ζq k (R (T k)) a0 a1 h) :=
 (R_body (t := T k) (T_scott k) (by kernel_rfl) (by kernel_rfl) _ _).trans (by kernel_rfl)
def ζ32 (k : Nat) (call : Caller) : Env → Heap → Res (AExit × Env) := loopB (C k) call F.ζ8 [1, 1, 1, 0, 1, 0, 0]
def ζ7f (k : Nat) (call : Caller) : Kont Value := kBlock 0 (kSeq (pieceK (C k) call F.ζ8 [1, 1, 1, 1]) (kDone Prog (resOf Prog F.ζ8)))
def ζ33 (k : Nat) (call : Caller) : Env → Heap → Res (AExit × Env) := loopB (C k) call F.ζ8 [1, 1, 1, 1, 0, 1, 0, 0]
def ζ7g (k : Nat) (call : Caller) : Kont Value := kBlock 2 (kSeq (pieceK (C k) call F.ζ8 [1, 1, 1, 1, 1]) (kDone Prog (resOf Prog F.ζ8)))
def ζ34 (k : Nat) (call : Caller) : Env → Heap → Res (AExit × Env) := loopB (C k) call F.ζ8 [1, 1, 1, 1, 1, 0, 1, 0, 0]
def ζ7h (k : Nat) (call : Caller) : Kont Value := kBlock 4 (kSeq (pieceK (C k) call F.ζ8 [1, 1, 1, 1, 1, 1]) (kDone Prog (resOf Prog F.ζ8)))
def ζ35 (k : Nat) (call : Caller) : Env → Heap → Res (AExit × Env) := loopB (C k) call F.ζ8 [1, 1, 1, 1, 1, 1, 0, 1, 0, 0]
def ζ7i (k : Nat) (call : Caller) : Kont Value := kBlock 6 (kSeq (pieceK (C k) call F.ζ8 [1, 1, 1, 1, 1, 1, 1]) (kDone Prog (resOf Prog F.ζ8)))
def ζ8 (k : Nat) (call : Caller) (a0 : Value) (h : Heap) : Res Value :=
 (boxR a0 h).bind fun v1 h2 =>
 (fieldAddrR Prog 111 v1 0 h2).bind fun v3 h4 =>
 (loadR Prog 26 v3 h4).bind fun v5 h6 =>
 (call F.ζ0 [v5, (.int .i64 1), (.int .i64 12)] h6).bind fun v7 h8 =>
 (builtinV Prog .len [22] [v7] h8).bind fun v9 h10 =>
 (builtinV Prog .len [22] [v7] h10).bind fun v11 h12 =>
 (fieldAddrR Prog 111 v1 1 h12).bind fun v13 h14 =>
 (loadR Prog 108 v13 h14).bind fun v15 h16 =>
 (builtinV Prog .len [108] [v15] h16).bind fun v17 h18 =>
 (binR Prog .mul 3 (.int .i64 4) v17 h18).bind fun v19 h20 =>
 (binR Prog .add 3 v11 v19 h20).bind fun v21 h22 =>
 (builtinV Prog .len [22] [v7] h22).bind fun v23 h24 =>
 (fieldAddrR Prog 111 v1 1 h24).bind fun v25 h26 =>
 (loadR Prog 108 v25 h26).bind fun v27 h28 =>
 (builtinV Prog .len [108] [v27] h28).bind fun v29 h30 =>
 (binR Prog .mul 3 (.int .i64 4) v29 h30).bind fun v31 h32 =>
 (binR Prog .add 3 v23 v31 h32).bind fun v33 h34 =>
 (fieldAddrR Prog 111 v1 2 h34).bind fun v35 h36 =>
 (loadR Prog 109 v35 h36).bind fun v37 h38 =>
 (builtinV Prog .len [109] [v37] h38).bind fun v39 h40 =>
 (binR Prog .mul 3 (.int .i64 2) v39 h40).bind fun v41 h42 =>
 (binR Prog .add 3 v33 v41 h42).bind fun v43 h44 =>
 (buildR Prog 250 [(0, v9), (1, v21), (2, v43)] h44).bind fun v45 h46 =>
 (allocR Prog 250 h46).bind fun v47 h48 =>
 (storeR Prog 250 v47 v45 h48).bind fun _v49 h50 =>
 (loadR Prog 250 v47 h50).bind fun v51 h52 =>
 (loopN (ζ32 k call) loopFuel [(1, v1), (3, v7), (38, v51), (39, (.int .i64 0))] h52).bind fun r53 h54 =>
 ζ7f k call r53.1 r53.2 h54
theorem ζd8 (k : Nat) (a0 : Value) (h : Heap) : R (T k) F.ζ8 [a0] h = nrm (own k) h (ζ8 k (R (T k)) a0 h) :=
 (R_body (t := T k) (T_scott k) (by kernel_rfl) (by kernel_rfl) _ _).trans (by kernel_rfl)
theorem ζ5v (k : Nat) (call : Caller) (a1 a3 a38 a39 : Value) (h : Heap) : ζ32 k call [(1, a1), (3, a3), (38, a38), (39, a39)] h =
 (binR Prog .lss 3 a39 (.int .i64 3) h).bind fun v55 h56 =>
 condV (some v55) (
 (indexR Prog 250 a38 a39 h56).bind fun v57 h58 =>
 (binR Prog .mul 3 (.int .i64 4) a39 h58).bindN fun v59 h60 =>
 (binR Prog .add 3 (.int .i64 16) v59 h60).bindN fun v61 h62 =>
 (binR Prog .mul 3 (.int .i64 4) a39 h62).bindN fun v63 h64 =>
 (binR Prog .add 3 (.int .i64 20) v63 h64).bindN fun v65 h66 =>
 (sliceR Prog 22 a3 (some v61) (some v65) none h66).bindN fun v67 h68 =>
 (call F.ζ6 [(.slice none 0 0), v57, (.int .i64 4)] h68).bindT (fun p71 h72 => .panic p71 h72) fun v69 h70 =>
 (builtinV Prog .copy [22, 22] [v67, v69] h70).bindN fun v73 h74 =>
 chkR ((okVal (sliceR Prog 22 a3 (some v61) (some v65) none h70) v67 && true) && true) (
 (binR Prog .add 3 a39 (.int .i64 1) h74).bind fun v75 h76 =>
 .ok (.normal, [(1, a1), (3, a3), (38, a38), (39, v75)]) h76))
 (
 .ok ((.exit 0), [(1, a1), (3, a3), (38, a38), (39, a39), (40, v55)]) h56) :=
 (loopB_eq _ _).trans (by kernel_rfl)
theorem ζ9z (k : Nat) (call : Caller) (a1 a3 a38 a39 a40 : Value) (h : Heap) : ζ7f k call (.exit 0) [(1, a1), (3, a3), (38, a38), (39, a39), (40, a40)] h =
 (fieldAddrR Prog 111 a1 1 h).bind fun v77 h78 =>
 (loadR Prog 108 v77 h78).bind fun v79 h80 =>
 (builtinV Prog .len [108] [v79] h80).bind fun v81 h82 =>
 (loopN (ζ33 k call) loopFuel [(1, a1), (3, a3), (56, v79), (57, v81), (58, (.int .i64 0))] h82).bind fun r83 h84 =>
 ζ7g k call r83.1 r83.2 h84 := by kernel_rfl
theorem ζ5w (k : Nat) (call : Caller) (a1 a3 a56 a57 a58 : Value) (h : Heap) : ζ33 k call [(1, a1), (3, a3), (56, a56), (57, a57), (58, a58)] h =
 (binR Prog .lss 3 a58 a57 h).bind fun v85 h86 =>
 condV (some v85) (
 (indexAddrR Prog 108 a56 a58 h86).bind fun v87 h88 =>
 (loadR Prog 117 v87 h88).bind fun v89 h90 =>
 (convR Prog 117 3 v89 h90).bind fun v91 h92 =>
 (call F.ζ6 [a3, v91, (.int .i64 4)] h92).bind fun v93 h94 =>
 (binR Prog .add 3 a58 (.int .i64 1) h94).bind fun v95 h96 =>
 .ok (.normal, [(1, a1), (3, v93), (56, a56), (57, a57), (58, v95)]) h96)
 (
 .ok ((.exit 2), [(1, a1), (3, a3), (56, a56), (57, a57), (58, a58), (59, v85)]) h86) :=
 (loopB_eq _ _).trans (by kernel_rfl)
theorem ζa0 (k : Nat) (call : Caller) (a1 a3 a56 a57 a58 a59 : Value) (h : Heap) : ζ7g k call (.exit 2) [(1, a1), (3, a3), (56, a56), (57, a57), (58, a58), (59, a59)] h =
 (fieldAddrR Prog 111 a1 2 h).bind fun v97 h98 =>
 (loadR Prog 109 v97 h98).bind fun v99 h100 =>
 (builtinV Prog .len [109] [v99] h100).bind fun v101 h102 =>
 (loopN (ζ34 k call) loopFuel [(1, a1), (3, a3), (68, v99), (69, v101), (70, (.int .i64 0))] h102).bind fun r103 h104 =>
 ζ7h k call r103.1 r103.2 h104 := by kernel_rfl
theorem ζ5x (k : Nat) (call : Caller) (a1 a3 a68 a69 a70 : Value) (h : Heap) : ζ34 k call [(1, a1), (3, a3), (68, a68), (69, a69), (70, a70)] h =
 (binR Prog .lss 3 a70 a69 h).bind fun v105 h106 =>
 condV (some v105) (
 (indexAddrR Prog 109 a68 a70 h106).bind fun v107 h108 =>
 (loadR Prog 154 v107 h108).bind fun v109 h110 =>
 (convR Prog 154 3 v109 h110).bind fun v111 h112 =>
 (call F.ζ6 [a3, v111, (.int .i64 2)] h112).bind fun v113 h114 =>
 (binR Prog .add 3 a70 (.int .i64 1) h114).bind fun v115 h116 =>
 .ok (.normal, [(1, a1), (3, v113), (68, a68), (69, a69), (70, v115)]) h116)
 (
 .ok ((.exit 4), [(1, a1), (3, a3), (68, a68), (69, a69), (70, a70), (71, v105)]) h106) :=
 (loopB_eq _ _).trans (by kernel_rfl)
theorem ζa1 (k : Nat) (call : Caller) (a1 a3 a68 a69 a70 a71 : Value) (h : Heap) : ζ7h k call (.exit 4) [(1, a1), (3, a3), (68, a68), (69, a69), (70, a70), (71, a71)] h =
 (fieldAddrR Prog 111 a1 3 h).bind fun v117 h118 =>
 (loadR Prog 109 v117 h118).bind fun v119 h120 =>
 (builtinV Prog .len [109] [v119] h120).bind fun v121 h122 =>
 (loopN (ζ35 k call) loopFuel [(3, a3), (80, v119), (81, v121), (82, (.int .i64 0))] h122).bind fun r123 h124 =>
 ζ7i k call r123.1 r123.2 h124 := by kernel_rfl
theorem ζ5y (k : Nat) (call : Caller) (a3 a80 a81 a82 : Value) (h : Heap) : ζ35 k call [(3, a3), (80, a80), (81, a81), (82, a82)] h =
 (binR Prog .lss 3 a82 a81 h).bind fun v125 h126 =>
 condV (some v125) (
 (indexAddrR Prog 109 a80 a82 h126).bind fun v127 h128 =>
 (loadR Prog 154 v127 h128).bind fun v129 h130 =>
 (convR Prog 154 3 v129 h130).bind fun v131 h132 =>
 (call F.ζ6 [a3, v131, (.int .i64 2)] h132).bind fun v133 h134 =>
 (binR Prog .add 3 a82 (.int .i64 1) h134).bind fun v135 h136 =>
 .ok (.normal, [(3, v133), (80, a80), (81, a81), (82, v135)]) h136)
 (
 .ok ((.exit 6), [(3, a3), (80, a80), (81, a81), (82, a82), (83, v125)]) h126) :=
 (loopB_eq _ _).trans (by kernel_rfl)
theorem ζa2 (k : Nat) (call : Caller) (a3 a80 a81 a82 a83 : Value) (h : Heap) : ζ7i k call (.exit 6) [(3, a3), (80, a80), (81, a81), (82, a82), (83, a83)] h =
 .ok a3 h := by kernel_rfl
def ζ2w (k : Nat) (call : Caller) (h : Heap) : Res Value :=
 (allocR Prog 111 h).bind fun v1 h2 =>
 (buildSliceR Prog 22 6 [(0, (.int .u8 0)), (1, (.int .u8 0)), (2, (.int .u8 0)), (3, (.int .u8 0)), (4, (.int .u8 1)), (5, (.int .u8 2))] h2).bind fun v3 h4 =>
 (buildSliceR Prog 22 6 [(0, (.int .u8 0)), (1, (.int .u8 0)), (2, (.int .u8 0)), (3, (.int .u8 0)), (4, (.int .u8 1)), (5, (.int .u8 2))] h4).bind fun v5 h6 =>
 (buildSliceR Prog 23 2 [(0, v3), (1, v5)] h6).bind fun v7 h8 =>
 (buildSliceR Prog 22 2 [(0, (.int .u8 4)), (1, (.int .u8 5))] h8).bind fun v9 h10 =>
 (buildR Prog 31 [] h10).bind fun v11 h12 =>
 (buildR Prog 31 [(1, (.int .i64 32768))] h12).bind fun v13 h14 =>
 (buildR Prog 31 [(1, (.int .i64 40960))] h14).bind fun v15 h16 =>
 (buildSliceR Prog 24 3 [(0, v11), (1, v13), (2, v15)] h16).bind fun v17 h18 =>
 (buildR Prog 26 [(0, v9), (3, (.int .u8 2)), (1, v7), (2, v17)] h18).bind fun v19 h20 =>
 (allocR Prog 26 h20).bind fun v21 h22 =>
 (storeR Prog 26 v21 v19 h22).bind fun _v23 h24 =>
 (loadR Prog 26 v21 h24).bind fun v25 h26 =>
 (buildSliceR Prog 108 2 [(0, (.int .u32 0)), (1, (.int .u32 2147483648))] h26).bind fun v27 h28 =>
 (buildSliceR Prog 109 2 [(0, (.int .u16 0)), (1, (.int .u16 1))] h28).bind fun v29 h30 =>
 (buildSliceR Prog 109 2 [(0, (.int .u16 8)), (1, (.int .u16 9))] h30).bind fun v31 h32 =>
 (buildR Prog 111 [(0, v25), (1, v27), (2, v29), (3, v31)] h32).bind fun v33 h34 =>
 (storeR Prog 111 v1 v33 h34).bind fun _v35 h36 =>
 (loadR Prog 111 v1 h36).bind fun v37 h38 =>
 .ok v37 h38
theorem ζds (k : Nat) (h : Heap) : R (T k) F.ζ2w [] h = nrm .fz h (ζ2w k (R (T k)) h) :=
 (R_body (t := T k) (T_scott k) (by kernel_rfl) (by kernel_rfl) _ _).trans (by kernel_rfl)
def ζk (k : Nat) (call : Caller) (a0 a1 : Value) (h : Heap) : Res Value :=
 (loadR Prog 22 a0 h).bind fun v1 h2 =>
 (call F.view_Of [v1] h2).bind fun v3 h4 =>
 (call F.ζ1u [v3, (.int .i64 40)] h4).bind fun v5 h6 =>
 (storeR Prog 99 a1 v5 h6).bind fun _v7 h8 =>
 .ok (.tuple #[]) h8
theorem ζ8a (k : Nat) (a0 a1 : Value) (h : Heap) : R (T k) F.ζk [a0, a1] h = nrm .no h (ζk k (R (T k)) a0 a1 h) :=
 (R_body (t := T k) (T_scott k) (by kernel_rfl) (by kernel_rfl) _ _).trans (by kernel_rfl)
end
end Go.Sw
end
section
namespace Go.Sw
open Go.RowKit
abbrev encF (n : Int) : List Value := [.int .u32 n]
theorem encF_len (n : Int) : (encF n).length = 1 := rfl
abbrev encH (n : Int) : List Value := [.int .u16 n]
theorem encH_len (n : Int) : (encH n).length = 1 := rfl
theorem room_put (p : Plan) (w : Int) (a x r y : List Int) (h : x.length = r.length) : (planRoom p w (a ++ (x ++ y))).take (16 + a.length) ++ (r ++ (planRoom p w (a ++ (x ++ y))).drop (16 + a.length + r.length)) = planRoom p w (a ++ (r ++ y)) := by
 obtain ⟨hd, tl, h16, hs⟩ := ζiw p w (a ++ (x ++ y)).length
 rw [hs _ rfl, hs (a ++ (r ++ y)) (by simp [h])]
 rw [← h16, show hd ++ (a ++ (x ++ y) ++ tl) = (hd ++ a) ++ (x ++ (y ++ tl)) by simp, show hd.length + a.length = (hd ++ a).length by simp, List.take_left, ← h]
 rw [show (hd ++ a) ++ (x ++ (y ++ tl)) = (hd ++ a ++ x) ++ (y ++ tl) by simp, show (hd ++ a).length + x.length = (hd ++ a ++ x).length by simp [Nat.add_assoc], List.drop_left]
 simp
theorem ζj9 (s : List Int) {j : Nat} {x : Int} (h : s[j]? = some x) : twos (s.take (j + 1)) = twos (s.take j) ++ bytesOf x 2 := by rw [ζ1b h, ζhw]
theorem ζgo (s : List Int) {j : Nat} {x : Int} (h : s[j]? = some x) : fours (s.take (j + 1)) = fours (s.take j) ++ bytesOf x 4 := by rw [ζ1b h, ζm8]
def ligNs (N a c : Nat) : List Int := [(N : Int), ((N + 4 * a : Nat) : Int), ((N + 4 * a + 2 * c : Nat) : Int)]
theorem ζl7 (N a c : Nat) : ligRm N a c = fours (ligNs N a c) := by simp [ligRm, ligNs, fours]
set_option maxHeartbeats 1000000 in
theorem w17_l1 (k : Nat) {H0 H : Heap} (p : Plan) (N na nc : Nat) (hN : (planRoom p 1 (List.replicate 12 0)).length = N) (hNb : N ≤ 100000) (hna : na ≤ 1000) (hnc : nc ≤ 1000) {o : Option Nat} {s : Value} (a1 : Value) (g : Star H0 H [itRow o 1 s encB (planRoom p 1 (List.replicate 12 0))]) :
  ∃ H', loopN (ζ32 k (R (T k))) loopFuel [(1, a1), (3, s), (38, .agg #[.int .i64 N, .int .i64 ((N : Int) + 4 * (na : Int)), .int .i64 ((N : Int) + 4 * (na : Int) + 2 * (nc : Int))]), (39, .int .i64 0)] H =
   .ok (.exit 0, [(1, a1), (3, s), (38, .agg #[.int .i64 N, .int .i64 ((N : Int) + 4 * (na : Int)), .int .i64 ((N : Int) + 4 * (na : Int) + 2 * (nc : Int))]), (39, .int .i64 3), (40, .bool false)]) H' ∧ Star H0 H' [itRow o 1 s encB (planRoom p 1 (ligRm N na nc))] := by
 have hN28 : 28 ≤ N := by rw [← hN]; unfold planRoom; simp; omega
 obtain ⟨xx, e', H1, hr1, rfl, rfl, g1⟩ := loop_up (body := ζ32 k (R (T k))) 3
  (fun j e H' => e = [(1, a1), (3, s), (38, .agg #[.int .i64 N, .int .i64 ((N : Int) + 4 * (na : Int)), .int .i64 ((N : Int) + 4 * (na : Int) + 2 * (nc : Int))]), (39, .int .i64 j)] ∧ Star H0 H' [itRow o 1 s encB (planRoom p 1 (fours ((ligNs N na nc).take j) ++ List.replicate (12 - 4 * j) 0))])
  (fun xx e H' => xx = .exit 0 ∧ e = [(1, a1), (3, s), (38, .agg #[.int .i64 N, .int .i64 ((N : Int) + 4 * (na : Int)), .int .i64 ((N : Int) + 4 * (na : Int) + 2 * (nc : Int))]), (39, .int .i64 3), (40, .bool false)] ∧ Star H0 H' [itRow o 1 s encB (planRoom p 1 (ligRm N na nc))])
  (e0 := [(1, a1), (3, s), (38, .agg #[.int .i64 N, .int .i64 ((N : Int) + 4 * (na : Int)), .int .i64 ((N : Int) + 4 * (na : Int) + 2 * (nc : Int))]), (39, .int .i64 0)]) (H0 := H) ⟨rfl, by simpa [fours] using g⟩ (by omega)
  (fun j e H' hj ⟨he, g⟩ => by
   subst he
   have hjl : (j : Int) < 3 := by omega
   obtain ⟨x, hx⟩ : ∃ x, (ligNs N na nc)[j]? = some x := ⟨_, List.getElem?_eq_getElem (by simpa [ligNs] using hj)⟩
   have hxb : 0 ≤ x ∧ x < 4294967296 := by
    have := List.mem_of_getElem? hx
    have : x = (N : Int) ∨ x = ((N + 4 * na : Nat) : Int) ∨ x = ((N + 4 * na + 2 * nc : Nat) : Int) := by simpa [ligNs] using this
    omega
   have hal : (fours ((ligNs N na nc).take j)).length = 4 * j := by
    rw [ζ7t, List.length_take]
    simp only [ligNs, List.length_cons, List.length_nil]
    omega
   have hlen : (planRoom p 1 (fours ((ligNs N na nc).take j) ++ List.replicate (12 - 4 * j) 0)).length = N := by
    have := ζad p 1 (fours ((ligNs N na nc).take j) ++ List.replicate (12 - 4 * j) 0) (List.replicate 12 0) (by rw [List.length_append, hal]; simp; omega)
    rw [this, hN]
   obtain ⟨c5, rfl, hs5, cut1⟩ := g.cut1 0 rfl (16 + 4 * j) 4 (by omega) (by omega) .i64 .i64
   have g := g.more_row (Ext.refl _) (OwnO.nil encB _ 1) (fun b hb => by cases hb)
   simp only [List.cons_append, List.nil_append] at g
   obtain ⟨t6, u6, J6, f6, g⟩ := Put_star k g 1 rfl x 4 4 rfl hxb.1 (by omega) (by omega) (by simp)
   simp only [List.set_cons_zero, List.set_cons_succ, List.nil_append] at g
   obtain ⟨c6, h6, _, cut2⟩ := g.cut1 0 rfl (16 + 4 * j) 4 (by omega) (by omega) .i64 .i64
   have h6 := Option.some.inj h6
   subst h6
   obtain ⟨J7, f7, g⟩ := g.copy1 0 1 rfl rfl (16 + 4 * j) 4 ((planRoom p 1 (fours ((ligNs N na nc).take j) ++ List.replicate (12 - 4 * j) 0)).length - (16 + 4 * j)) (by simp) (by omega) (by omega)
   simp only [List.set_cons_zero] at g
   have hrep : List.replicate (12 - 4 * j) (0 : Int) = List.replicate 4 0 ++ List.replicate (12 - 4 * (j + 1)) 0 := by
    rw [List.replicate_append_replicate]
    congr 1
    omega
   have hput := room_put p 1 (fours ((ligNs N na nc).take j)) (List.replicate 4 0) (bytesOf x 4) (List.replicate (12 - 4 * (j + 1)) 0) (by simp)
   rw [hal, ζ6u, ← hrep] at hput
   rw [hput, ← List.append_assoc, ← ζgo _ hx] at g
   have g0 := g.take 1
   simp only [List.take_succ_cons, List.take_zero] at g0
   have hv5 : veq (.slice (some ⟨c5, 16 + 4 * j, none⟩) 4 ((planRoom p 1 (fours ((ligNs N na nc).take j) ++ List.replicate (12 - 4 * j) 0)).length - (16 + 4 * j))) (.slice (some ⟨c5, 16 + 4 * j, none⟩) 4 ((planRoom p 1 (fours ((ligNs N na nc).take j) ++ List.replicate (12 - 4 * j) 0)).length - (16 + 4 * j))) = true := by simp
   generalize (planRoom p 1 (fours ((ligNs N na nc).take j) ++ List.replicate (12 - 4 * j) 0)).length - (16 + 4 * j) = cap at cut1 cut2 f7 hv5
   have e16 : ((16 + 4 * j : Nat) : Int) = 16 + 4 * (j : Int) := by omega
   have e20 : ((16 + 4 * j + 4 : Nat) : Int) = 20 + 4 * (j : Int) := by omega
   rw [e16, e20] at cut1 cut2
   refine .inl ⟨_, J7, ?_, rfl, g0⟩
   rw [ζ5v]
   have hget : #[Value.int .i64 N, Value.int .i64 ((N : Int) + 4 * (na : Int)), Value.int .i64 ((N : Int) + 4 * (na : Int) + 2 * (nc : Int))][j]? = some (.int .i64 x) := by
    have h3 : j = 0 ∨ j = 1 ∨ j = 2 := by omega
    rcases h3 with rfl | rfl | rfl
    ·have : (N : Int) = x := by simpa [ligNs] using hx
     rw [← this]; rfl
    ·have : (N : Int) + 4 * (na : Int) = x := by simpa [ligNs] using hx
     rw [← this]; rfl
    ·have : (N : Int) + 4 * (na : Int) + 2 * (nc : Int) = x := by simpa [ligNs] using hx
     rw [← this]; rfl
   have i0 := fun H' => iv1_get (k := .i64) (len := 3) hj hget H'
   have hj1 : ((j + 1 : Nat) : Int) = (j : Int) + 1 := rfl
   obtain ⟨V, hV⟩ : ∃ V, V = Value.agg #[.int .i64 N, .int .i64 ((N : Int) + 4 * (na : Int)), .int .i64 ((N : Int) + 4 * (na : Int) + 2 * (nc : Int))] := ⟨_, rfl⟩
   rw [← hV] at i0 ⊢
   rw [hj1]
   simp -implicitDefEqProofs (disch := omega) [hjl, i0, cut1, f6, cut2, f7, hv5])
  (fun e H' ⟨he, g⟩ => by
   subst he
   refine ⟨.exit 0, _, H', ?_, by simp, rfl, rfl, ?_⟩
   ·rw [ζ5v]
    simp -implicitDefEqProofs
   ·rw [ζl7]
    simpa [ligNs] using g)
 exact ⟨H1, hr1, g1⟩
theorem w17_l2 (k : Nat) {H0 H : Heap} {o : Option Nat} {s7 : Value} {lk : List Int} (a1 : Value) (g : Star H0 H [itRow o 1 s7 encB lk]) {v : Value} {s : List Int} (hv : Sl H0 1 v encF s) (hb : ∀ x, x ∈ s → 0 ≤ x ∧ x < 4294967296) (hl : lk.length + 4 * s.length < 2 ^ 29) :
  ∃ s' o' zz H', loopN (ζ33 k (R (T k))) loopFuel [(1, a1), (3, s7), (56, v), (57, .int .i64 s.length), (58, .int .i64 0)] H =
   .ok (.exit 2, [(1, a1), (3, s'), (56, v), (57, .int .i64 s.length), (58, zz), (59, .bool false)]) H' ∧ Star H0 H' [itRow o' 1 s' encB (lk ++ fours s)] := by
 obtain ⟨xx, e', H1, hr1, rfl, s', o', rfl, g1⟩ := loop_up (body := ζ33 k (R (T k))) s.length
  (fun j e H' => ∃ s' o', e = [(1, a1), (3, s'), (56, v), (57, .int .i64 s.length), (58, .int .i64 j)] ∧ Star H0 H' [itRow o' 1 s' encB (lk ++ fours (s.take j))])
  (fun xx e H' => xx = .exit 2 ∧ ∃ s' o', e = [(1, a1), (3, s'), (56, v), (57, .int .i64 s.length), (58, .int .i64 s.length), (59, .bool false)] ∧ Star H0 H' [itRow o' 1 s' encB (lk ++ fours s)])
  (e0 := [(1, a1), (3, s7), (56, v), (57, .int .i64 s.length), (58, .int .i64 0)]) (H0 := H) ⟨s7, o, rfl, by simpa [fours] using g⟩ (by omega)
  (fun j e H' hj ⟨s', o', he, g⟩ => by
   subst he
   have hjl : (j : Int) < s.length := by omega
   obtain ⟨x, hx⟩ : ∃ x, s[j]? = some x := ⟨_, List.getElem?_eq_getElem hj⟩
   have hxb := hb x (List.mem_of_getElem? hx)
   obtain ⟨p, i1, i2⟩ := hv.ix1 encF_len j x hx _ rfl
   have i2 := i2 H' g.ext
   obtain ⟨s2, o2, H2, e2, g2⟩ := Put_star k g 0 rfl x 4 4 rfl hxb.1 (by omega) (by omega) (by rw [List.length_append, ζ7t, List.length_take]; omega)
   simp only [List.set_cons_zero] at g2
   rw [List.append_assoc, ← ζgo _ hx] at g2
   have hw64 : IntKind.i64.wrap x = x := wrap_i64 (by omega) (by omega)
   refine .inl ⟨_, H2, ?_, s2, o2, rfl, g2⟩
   rw [ζ5w]
   simp -implicitDefEqProofs (disch := omega) [hjl, i1, i2, hw64, e2])
  (fun e H' ⟨s', o', he, g⟩ => by
   subst he
   rw [List.take_length] at g
   refine ⟨.exit 2, _, H', ?_, by simp, rfl, s', o', rfl, g⟩
   rw [ζ5w]
   simp -implicitDefEqProofs)
 exact ⟨s', o', _, H1, hr1, g1⟩
theorem w17_l3 (k : Nat) {H0 H : Heap} {o : Option Nat} {s7 : Value} {lk : List Int} (a1 : Value) (g : Star H0 H [itRow o 1 s7 encB lk]) {v : Value} {s : List Int} (hv : Sl H0 1 v encH s) (hb : ∀ x, x ∈ s → 0 ≤ x ∧ x < 65536) (hl : lk.length + 2 * s.length < 2 ^ 29) :
  ∃ s' o' zz H', loopN (ζ34 k (R (T k))) loopFuel [(1, a1), (3, s7), (68, v), (69, .int .i64 s.length), (70, .int .i64 0)] H =
   .ok (.exit 4, [(1, a1), (3, s'), (68, v), (69, .int .i64 s.length), (70, zz), (71, .bool false)]) H' ∧ Star H0 H' [itRow o' 1 s' encB (lk ++ twos s)] := by
 obtain ⟨xx, e', H1, hr1, rfl, s', o', rfl, g1⟩ := loop_up (body := ζ34 k (R (T k))) s.length
  (fun j e H' => ∃ s' o', e = [(1, a1), (3, s'), (68, v), (69, .int .i64 s.length), (70, .int .i64 j)] ∧ Star H0 H' [itRow o' 1 s' encB (lk ++ twos (s.take j))])
  (fun xx e H' => xx = .exit 4 ∧ ∃ s' o', e = [(1, a1), (3, s'), (68, v), (69, .int .i64 s.length), (70, .int .i64 s.length), (71, .bool false)] ∧ Star H0 H' [itRow o' 1 s' encB (lk ++ twos s)])
  (e0 := [(1, a1), (3, s7), (68, v), (69, .int .i64 s.length), (70, .int .i64 0)]) (H0 := H) ⟨s7, o, rfl, by simpa [twos] using g⟩ (by omega)
  (fun j e H' hj ⟨s', o', he, g⟩ => by
   subst he
   have hjl : (j : Int) < s.length := by omega
   obtain ⟨x, hx⟩ : ∃ x, s[j]? = some x := ⟨_, List.getElem?_eq_getElem hj⟩
   have hxb := hb x (List.mem_of_getElem? hx)
   obtain ⟨p, i1, i2⟩ := hv.ix1 encH_len j x hx _ rfl
   have i2 := i2 H' g.ext
   obtain ⟨s2, o2, H2, e2, g2⟩ := Put_star k g 0 rfl x 2 2 rfl hxb.1 (by omega) (by omega) (by rw [List.length_append, twos_len, List.length_take]; omega)
   simp only [List.set_cons_zero] at g2
   rw [List.append_assoc, ← ζj9 _ hx] at g2
   have hw64 : IntKind.i64.wrap x = x := wrap_i64 (by omega) (by omega)
   refine .inl ⟨_, H2, ?_, s2, o2, rfl, g2⟩
   rw [ζ5x]
   simp -implicitDefEqProofs (disch := omega) [hjl, i1, i2, hw64, e2])
  (fun e H' ⟨s', o', he, g⟩ => by
   subst he
   rw [List.take_length] at g
   refine ⟨.exit 4, _, H', ?_, by simp, rfl, s', o', rfl, g⟩
   rw [ζ5x]
   simp -implicitDefEqProofs)
 exact ⟨s', o', _, H1, hr1, g1⟩
theorem w17_l4 (k : Nat) {H0 H : Heap} {o : Option Nat} {s7 : Value} {lk : List Int} (g : Star H0 H [itRow o 1 s7 encB lk]) {v : Value} {s : List Int} (hv : Sl H0 1 v encH s) (hb : ∀ x, x ∈ s → 0 ≤ x ∧ x < 65536) (hl : lk.length + 2 * s.length < 2 ^ 29) :
  ∃ s' o' zz H', loopN (ζ35 k (R (T k))) loopFuel [(3, s7), (80, v), (81, .int .i64 s.length), (82, .int .i64 0)] H =
   .ok (.exit 6, [(3, s'), (80, v), (81, .int .i64 s.length), (82, zz), (83, .bool false)]) H' ∧ Star H0 H' [itRow o' 1 s' encB (lk ++ twos s)] := by
 obtain ⟨xx, e', H1, hr1, rfl, s', o', rfl, g1⟩ := loop_up (body := ζ35 k (R (T k))) s.length
  (fun j e H' => ∃ s' o', e = [(3, s'), (80, v), (81, .int .i64 s.length), (82, .int .i64 j)] ∧ Star H0 H' [itRow o' 1 s' encB (lk ++ twos (s.take j))])
  (fun xx e H' => xx = .exit 6 ∧ ∃ s' o', e = [(3, s'), (80, v), (81, .int .i64 s.length), (82, .int .i64 s.length), (83, .bool false)] ∧ Star H0 H' [itRow o' 1 s' encB (lk ++ twos s)])
  (e0 := [(3, s7), (80, v), (81, .int .i64 s.length), (82, .int .i64 0)]) (H0 := H) ⟨s7, o, rfl, by simpa [twos] using g⟩ (by omega)
  (fun j e H' hj ⟨s', o', he, g⟩ => by
   subst he
   have hjl : (j : Int) < s.length := by omega
   obtain ⟨x, hx⟩ : ∃ x, s[j]? = some x := ⟨_, List.getElem?_eq_getElem hj⟩
   have hxb := hb x (List.mem_of_getElem? hx)
   obtain ⟨p, i1, i2⟩ := hv.ix1 encH_len j x hx _ rfl
   have i2 := i2 H' g.ext
   obtain ⟨s2, o2, H2, e2, g2⟩ := Put_star k g 0 rfl x 2 2 rfl hxb.1 (by omega) (by omega) (by rw [List.length_append, twos_len, List.length_take]; omega)
   simp only [List.set_cons_zero] at g2
   rw [List.append_assoc, ← ζj9 _ hx] at g2
   have hw64 : IntKind.i64.wrap x = x := wrap_i64 (by omega) (by omega)
   refine .inl ⟨_, H2, ?_, s2, o2, rfl, g2⟩
   rw [ζ5y]
   simp -implicitDefEqProofs (disch := omega) [hjl, i1, i2, hw64, e2])
  (fun e H' ⟨s', o', he, g⟩ => by
   subst he
   rw [List.take_length] at g
   refine ⟨.exit 6, _, H', ?_, by simp, rfl, s', o', rfl, g⟩
   rw [ζ5y]
   simp -implicitDefEqProofs)
 exact ⟨s', o', _, H1, hr1, g1⟩
structure LPlan where
 p : Plan
 acts : List Int
 comps : List Int
 ligs : List Int
structure LPlan.ok (x : LPlan) : Prop where
 p : x.p.ok
 acts : ∀ n, n ∈ x.acts → 0 ≤ n ∧ n < 4294967296
 comps : ∀ n, n ∈ x.comps → 0 ≤ n ∧ n < 65536
 ligs : ∀ n, n ∈ x.ligs → 0 ≤ n ∧ n < 65536
set_option maxRecDepth 20000 in
set_option maxHeartbeats 2000000 in
theorem ζjm (k : Nat) (hW : ownW k = .no) (x : LPlan) (hx : x.ok) (h1 : x.p.cls.length ≤ 1000) (h2 : x.p.rows.length ≤ 1000) (h3 : x.p.ents.length ≤ 1000) (h4 : x.acts.length ≤ 1000) (h5 : x.comps.length ≤ 1000) (h6 : x.ligs.length ≤ 1000) {H : Heap} {vC vR sE : Value} {rv : List (List Int × Value)} (hP : PlanSl H x.p vC vR sE rv)
  {vA vB vL : Value} (hA : Sl H 1 vA encF x.acts) (hB : Sl H 1 vB encH x.comps) (hL : Sl H 1 vL encH x.ligs) :
  ∃ s o H', ζ8 k (R (T k)) (.agg #[vC, vR, sE, .int .u8 x.p.wide, vA, vB, vL]) H = .ok s H' ∧ Star H H' [itRow o 1 s encB (ligB x.p x.acts x.comps x.ligs)] := by
 obtain ⟨H1, hH1⟩ : ∃ H1, H1 = H.push ⟨[vC, vR, sE, .int .u8 x.p.wide, vA, vB, vL], 1, false⟩ := ⟨_, rfl⟩
 have hx1 : Ext H H1 := by rw [hH1]; exact (Ext.refl H).push _
 have hg1 : H1.get H.n = some ⟨[vC, vR, sE, .int .u8 x.p.wide, vA, vB, vL], 1, false⟩ := by rw [hH1]; exact ζf _ _ _ rfl
 obtain ⟨N, hN⟩ : ∃ N, (planRoom x.p 1 (List.replicate 12 0)).length = N := ⟨_, rfl⟩
 have hNb : N ≤ 100000 := by rw [← hN]; exact ζfb hx.p 1 (by simp) h1 h2 h3
 obtain ⟨s0, o0, J0, e0, g, gx0⟩ := ζkw k hW x.p hx.p 1 (by omega) 12 (by omega) h1 h2 h3 (Star.nil H1) (hP.up hx1)
 rw [ζht] at g
 simp only [List.nil_append] at g
 have hln0 : ∀ H', lnS s0 H' = .ok (.int .i64 N) H' := by rw [← hN]; exact (g.row 0 rfl).len
 have hlnA : ∀ H', lnS vA H' = .ok (.int .i64 x.acts.length) H' := fun H' => hA.len H'
 have hlnB : ∀ H', lnS vB H' = .ok (.int .i64 x.comps.length) H' := fun H' => hB.len H'
 have hlnL : ∀ H', lnS vL H' = .ok (.int .i64 x.ligs.length) H' := fun H' => hL.len H'
 have gk := gx0.get hg1
 have hnk : ¬ H.n = J0.n := by have := Heap.get_lt gk; omega
 have gR := g.rest ((Ext.refl J0).push ⟨[.int .i64 N, .int .i64 ((N : Int) + 4 * (x.acts.length : Int)), .int .i64 ((N : Int) + 4 * (x.acts.length : Int) + 2 * (x.comps.length : Int))], 1, false⟩)
 obtain ⟨K1, f1, gK⟩ := w17_l1 k x.p N x.acts.length x.comps.length hN hNb h4 h5 (ptrV H.n) gR
 have hrl : (planRoom x.p 1 (ligRm N x.acts.length x.comps.length)).length = N := by rw [← hN]; exact ζad x.p 1 _ _ (by rw [ζe8]; simp)
 have gk1 := gK.ext.get hg1
 obtain ⟨s2, o2, z2, K2, f2, gK2⟩ := w17_l2 k (ptrV H.n) gK (hA.up hx1) hx.acts (by rw [hrl]; omega)
 have gk2 := gK2.ext.get hg1
 obtain ⟨s3, o3, z3, K3, f3, gK3⟩ := w17_l3 k (ptrV H.n) gK2 (hB.up hx1) hx.comps (by rw [List.length_append, hrl, ζ7t]; omega)
 have gk3 := gK3.ext.get hg1
 obtain ⟨s4, o4, z4, K4, f4, gK4⟩ := w17_l4 k gK3 (hL.up hx1) hx.ligs (by rw [List.length_append, List.length_append, hrl, ζ7t, twos_len]; omega)
 have hfin : planRoom x.p 1 (ligRm N x.acts.length x.comps.length) ++ fours x.acts ++ twos x.comps ++ twos x.ligs = ligB x.p x.acts x.comps x.ligs := by
  unfold ligB ligN
  rw [hN]
  simp only [List.append_assoc]
 rw [hfin] at gK4
 have hpos : 0 < (ligB x.p x.acts x.comps x.ligs).length := by
  rw [← hfin, List.length_append, List.length_append, List.length_append, hrl]
  have : 28 ≤ N := by rw [← hN]; unfold planRoom; simp; omega
  omega
 refine ⟨s4, o4, K4, ?_, ?_⟩
 rotate_left
 ·have ho := (gK4.own 0 rfl).base hx1.n
  obtain ⟨o5, ho5, hlt⟩ := ho.toO
  have hst : Star H K4 ([] ++ [itRow o5 1 s4 encB (ligB x.p x.acts x.comps x.ligs)]) := (Star.nil H).more_row (hx1.trans gK4.ext) ho5 fun b hb => ⟨hlt b hb, ho5.lt b hb⟩
  have h7 : o5 = o4 := by
   have hr := gK4.row 0 rfl
   rcases hr with ⟨r1, r2, r3⟩ | ⟨b, r1, r2, r3⟩
   ·exfalso
    rw [r2] at hpos
    simp at hpos
   ·rcases ho5 with ⟨q1, q2, q3⟩ | ⟨b2, q1, q2, q3⟩
    ·exfalso
     rw [q2] at hpos
     simp at hpos
    ·rw [r1, q1]
     rw [r2] at q2
     injection q2 with q2
     injection q2 with q2
     injection q2 with q2
     rw [q2]
  subst h7
  simpa using hst
 rw [hH1] at e0
 have e0 : R (T k) F.ζ0 [.agg #[vC, vR, sE, .int .u8 x.p.wide], .int .i64 1, .int .i64 12] (H.push ⟨[vC, vR, sE, .int .u8 x.p.wide, vA, vB, vL], 1, false⟩) = .ok s0 J0 := e0
 simp -implicitDefEqProofs (disch := omega) [ζ8, e0, hln0, gk, hnk, hlnA, hlnB, hlnL, f1, ζ9z, gk1, f2, ζa0, gk2, f3, ζa1, gk3, f4, ζa2]
theorem ζja (k : Nat) (hk : k < 1000000) (hW : ownW k = .no) (x : LPlan) (hx : x.ok) (h1 : x.p.cls.length ≤ 1000) (h2 : x.p.rows.length ≤ 1000) (h3 : x.p.ents.length ≤ 1000) (h4 : x.acts.length ≤ 1000) (h5 : x.comps.length ≤ 1000) (h6 : x.ligs.length ≤ 1000) {H : Heap} {vC vR sE : Value} {rv : List (List Int × Value)} (hP : PlanSl H x.p vC vR sE rv)
  {vA vB vL : Value} (hA : Sl H 1 vA encF x.acts) (hB : Sl H 1 vB encH x.comps) (hL : Sl H 1 vL encH x.ligs) :
  R (T k) F.ζ8 [.agg #[vC, vR, sE, .int .u8 x.p.wide, vA, vB, vL]] H = .ok (lv encB (ligB x.p x.acts x.comps x.ligs)) H := by
 obtain ⟨s, o, H', e, g⟩ := ζjm k hW x hx h1 h2 h3 h4 h5 h6 hP hA hB hL
 rw [ζd8]
 have ho : own k = .fz := by
  unfold own
  rw [show Nat.blt k 1000000 = true from Nat.ble_eq_true_of_le hk]
  rfl
 rw [ho]
 obtain ⟨L, hf⟩ := (g.own 0 rfl).freeze encB_len (fun n _ v hv => by simp at hv; subst hv; trivial) 6
 exact nrm_fz (v := s) (H' := H') e hf g.ext (Flat.B _).alive
abbrev lplC (x : LPlan) : List Value := [lv encB x.p.cls, lv encBR x.p.rows, lv encEn x.p.ents, .int .u8 x.p.wide, lv encF x.acts, lv encH x.comps, lv encH x.ligs]
abbrev lplV (x : LPlan) : Value := .agg (lplC x).toArray
def LSmall (x : LPlan) (n : Nat) : Prop := x.p.cls.length ≤ 40 ∧ x.p.rows.length ≤ 20 ∧ x.p.ents.length ≤ 40 ∧ x.acts.length ≤ 60 ∧ x.comps.length ≤ 100 ∧ x.ligs.length ≤ 100 ∧ n ≤ 100
instance (x : LPlan) (n : Nat) : Decidable (LSmall x n) := by unfold LSmall; exact inferInstance
theorem ζc3 (k : Nat) (hk : k % 1000000 = F.ζl) (H : Heap) : R (T k) F.ζl [] H = .ok (.bool true) H :=
 (R_sp (t := T k) (T_scott k) (s := constSp (.bool true)) (by unfold T C; dsimp only; rw [hk]; kernel_rfl) [] H).trans (nrm_gc (Pure.of rfl) (.bool _))
theorem ζln (k : Nat) (x : LPlan) (ids : List Int) (H : Heap) : R (T k) F.ζq [lplV x, lv encI ids] H = .ok (.bool (decide (LSmall x ids.length))) H := by
 rw [ζd9]
 refine nrm_gc ⟨_, ?_, (Ext.refl H).push ⟨lplC x, 1, false⟩⟩ (.bool _)
 unfold LSmall
 by_cases h1 : x.p.cls.length ≤ 40
 ·have h1' : (x.p.cls.length : Int) ≤ 40 := by omega
  by_cases h2 : x.p.rows.length ≤ 20
  ·have h2' : (x.p.rows.length : Int) ≤ 20 := by omega
   by_cases h3 : x.p.ents.length ≤ 40
   ·have h3' : (x.p.ents.length : Int) ≤ 40 := by omega
    by_cases h4 : x.acts.length ≤ 60
    ·have h4' : (x.acts.length : Int) ≤ 60 := by omega
     by_cases h5 : x.comps.length ≤ 100
     ·have h5' : (x.comps.length : Int) ≤ 100 := by omega
      by_cases h6 : x.ligs.length ≤ 100
      ·have h6' : (x.ligs.length : Int) ≤ 100 := by omega
       by_cases h7 : ids.length ≤ 100
       ·have h7' : (ids.length : Int) ≤ 100 := by omega
        simp -implicitDefEqProofs [ζq, h1, h2, h3, h4, h5, h6, h7, h1', h2', h3', h4', h5', h6', h7']
       ·have h7' : ¬ (ids.length : Int) ≤ 100 := by omega
        simp -implicitDefEqProofs [ζq, h1, h2, h3, h4, h5, h6, h7, h1', h2', h3', h4', h5', h6', h7']
      ·have h6' : ¬ (x.ligs.length : Int) ≤ 100 := by omega
       simp -implicitDefEqProofs [ζq, h1, h2, h3, h4, h5, h6, h1', h2', h3', h4', h5', h6']
     ·have h5' : ¬ (x.comps.length : Int) ≤ 100 := by omega
      simp -implicitDefEqProofs [ζq, h1, h2, h3, h4, h5, h1', h2', h3', h4', h5']
    ·have h4' : ¬ (x.acts.length : Int) ≤ 60 := by omega
     simp -implicitDefEqProofs [ζq, h1, h2, h3, h4, h1', h2', h3', h4']
   ·have h3' : ¬ (x.p.ents.length : Int) ≤ 40 := by omega
    simp -implicitDefEqProofs [ζq, h1, h2, h3, h1', h2', h3']
  ·have h2' : ¬ (x.p.rows.length : Int) ≤ 20 := by omega
   simp -implicitDefEqProofs [ζq, h1, h2, h1', h2']
 ·have h1' : ¬ (x.p.cls.length : Int) ≤ 40 := by omega
  simp -implicitDefEqProofs [ζq, h1, h1']
end Go.Sw
end
section
namespace Go.Sw
open Go.RowKit
theorem uS_fits {b : List Int} {i n x : Int} (h : uS b i n = some x) : 0 ≤ i ∧ i + n ≤ b.length := by
 unfold uS pieceS at h
 split at h
 ·omega
 ·simp at h
end Go.Sw
end
