/-
  Functions' forms, and what is proved of them, part 6.
-/
import Derived.Test.YtnaodjnimkndbaaSwW5
import Derived.Test.YtnaodjnimkndbaaSwCfg
import Derived.Test.YtnaodjnimkndbaaSwW3
import Derived.Test.YtnaodjnimkndbaaSwLib8
import Derived.Eval
import Derived.Test.YtnaodjnimkndbaaSwW4
set_option linter.unusedSimpArgs false
set_option linter.unusedVariables false
set_option linter.unusedSectionVars false
section
namespace Go.Sw
open Go.RowKit
theorem ofS_len (s : List Int) : (ofS s).length = 6 + s.length * 2 := by unfold ofS; simp [twos_len]; omega
theorem get_nil (g : Int) : getS ([] : List Pt) g = none := rfl
theorem tab_get (s : List Int) (id : Int) : getS (tabOf s).2 id = if 0 ≤ id then s[id.toNat]? else none := by
 unfold tabOf
 by_cases hc : s = []
 ·subst hc; simp [get_nil]
 ·rw [if_neg hc]
  have hpos : 0 < s.length := List.length_pos_iff.2 hc
  unfold getS
  by_cases h1 : id ≤ (s.length : Int) - 1
  ·rw [show ([(⟨0, (s.length : Int) - 1, s⟩ : Pt)]).find? (fun p => decide (id ≤ p.last)) = some ⟨0, (s.length : Int) - 1, s⟩ by simp [List.find?, h1], Option.bind_some]
   by_cases h0 : 0 ≤ id
   ·rw [if_pos h0, if_pos h0]
    unfold Pt.num
    dsimp only
    rw [show (min (id - 0) ((s.length : Int) - 1)).toNat = id.toNat by omega]
   ·rw [if_neg h0, if_neg h0]
  ·rw [show ([(⟨0, (s.length : Int) - 1, s⟩ : Pt)]).find? (fun p => decide (id ≤ p.last)) = none by simp [List.find?, h1]]
   by_cases h0 : 0 ≤ id
   ·rw [if_pos h0, List.getElem?_eq_none (by omega)]; rfl
   ·rw [if_neg h0]; rfl
end Go.Sw
end
section
namespace Go.Sw
open Go.RowKit
def anewCls (m : Mach) : List Int := (List.range 40).map fun (i : Nat) => classS m i
def anewRow (C s : Nat) : List Int := (List.range C).map fun (c : Nat) => ((s * C + c : Nat) : Int)
def anewEnt (m : Mach) (C i : Nat) : En := (stepS m ((i / C : Nat) : Int) ((i % C : Nat) : Int)).getD ⟨0, 0, 0, 0⟩
def anewP (m : Mach) (C S : Nat) : Plan := ⟨anewCls m, (List.range S).map (anewRow C), (List.range (S * C)).map (anewEnt m C), (C : Int) - 4⟩
theorem anew_planN {m : Mach} {C S : Nat} (h4 : 4 ≤ C) (h11 : C ≤ 11) : planN (anewP m C S) = C := by
 unfold planN anewP
 dsimp only
 omega
theorem anew_ok {m : Mach} (hm : m.ok) {C S : Nat} (hC : m.classes = C) (h4 : 4 ≤ C) (h11 : C ≤ 11) (hSC : S * C ≤ 250) : (anewP m C S).ok := by
 refine ⟨fun x hx => ?_, fun r hr x hx => ?_, by unfold anewP; dsimp only; omega, by unfold anewP; dsimp only; omega⟩
 ·obtain ⟨i, _, rfl⟩ := List.mem_map.1 hx
  have := classS_bound hm (i : Int)
  omega
 ·obtain ⟨s, hs, rfl⟩ := List.mem_map.1 hr
  obtain ⟨c, hc, rfl⟩ := List.mem_map.1 hx
  have hs := List.mem_range.1 hs
  have hc := List.mem_range.1 hc
  have : (s + 1) * C ≤ S * C := Nat.mul_le_mul_right _ hs
  rw [Nat.add_mul, Nat.one_mul] at this
  exact ⟨Int.natCast_nonneg _, Int.ofNat_lt.2 (show s * C + c < 256 by omega)⟩
theorem anew_ent {m : Mach} (hm : m.ok) {C S i : Nat} (hC : m.classes = C) (hS : m.rows.length = S) (h4 : 4 ≤ C) (hi : i < S * C) : ∃ e, stepS m ((i / C : Nat) : Int) ((i % C : Nat) : Int) = some e ∧ anewEnt m C i = e ∧ e ∈ m.ents := by
 have h1 : i / C < S := Nat.div_lt_of_lt_mul (by rw [Nat.mul_comm]; exact hi)
 have h2 : i % C < C := Nat.mod_lt _ (by omega)
 obtain ⟨r, x, e, _, _, _, he, hs⟩ := stepS_some hm (s := ((i / C : Nat) : Int)) (c := ((i % C : Nat) : Int)) ⟨Int.natCast_nonneg _, by rw [hS]; exact Int.ofNat_lt.2 h1, Int.natCast_nonneg _, by rw [hC]; exact Int.ofNat_lt.2 h2⟩
 exact ⟨e, hs, by unfold anewEnt; rw [hs]; rfl, List.mem_of_getElem? he⟩
theorem entM_same {m : Mach} (hm : m.ok) {e : En} (he : e ∈ m.ents) (h16 : m.rows.length ≤ 65535) : entM 2 e = e := by
 have := hm.ent e he
 obtain ⟨a, b, c, d⟩ := e
 unfold entM m16
 dsimp only at this ⊢
 rw [if_pos (by decide), if_pos (by decide)]
 congr 1 <;> omega
theorem anew_read {m : Mach} (hm : m.ok) {C S : Nat} (hC : m.classes = C) (hS : m.rows.length = S) (h4 : 4 ≤ C) (h11 : C ≤ 11) (hSC : S * C ≤ 250) {rm more : List Int} (hrm : rm.length ≤ 1000) (hbyt : Byt (planRoom (anewP m C S) 2 rm ++ more)) {g : Int} (hg : 1 ≤ g ∧ g ≤ 65535) :
  ∃ o, machS (planRoom (anewP m C S) 2 rm ++ more) g 2 = some o ∧ o.ok ∧ o.rows.length ≤ S ∧ o.classes = C ∧ (∀ s c : Nat, s < o.rows.length → c < C → stepS o s c = stepS m s c) ∧ ∀ id : Nat, id < 40 → classS o id = classS m id := by
 have hp := anew_ok hm hC h4 h11 hSC (S := S)
 have hN := anew_planN (m := m) (S := S) h4 h11
 have htwo := hm.two
 have hS250 : S ≤ 250 := by
  have : S * 1 ≤ S * C := Nat.mul_le_mul_left _ (by omega)
  omega
 obtain ⟨o, ho, hr⟩ := plan_closed hp (w := 2) (by omega) hrm (by simp [anewP, anewCls]) (by simp [anewP]; omega) (more := more) (by simp [anewP]; omega)
  (fun r hr x hx => by
   rw [hN] at hx
   obtain ⟨s, hs, rfl⟩ := List.mem_map.1 hr
   have hs := List.mem_range.1 hs
   unfold rowL at hx
   obtain ⟨c, hc, rfl⟩ := List.mem_map.1 hx
   have hc := List.mem_range.1 hc
   have : (s + 1) * C ≤ S * C := Nat.mul_le_mul_right _ hs
   rw [Nat.add_mul, Nat.one_mul] at this
   unfold anewRow
   rw [List.getElem?_map, List.getElem?_range hc]
   simp [anewP]
   omega)
  (fun e he => by
   obtain ⟨i, hi, rfl⟩ := List.mem_map.1 he
   obtain ⟨e, _, h2, h3⟩ := anew_ent hm hC hS h4 (List.mem_range.1 hi)
   rw [h2]
   have := hm.ent e h3
   simp [anewP]
   unfold m16
   omega) g
 have hok := machS_ok hbyt hg.1 hg.2 (by omega) ho
 refine ⟨o, ho, hok, by have := hr.few; simp [anewP] at this; exact this, by rw [hr.classes, hN], fun s c hs hc => ?_, fun id hid => ?_⟩
 ·have hsS : s < S := by have := hr.few; simp [anewP] at this; omega
  have hq : (anewP m C S).rows[s]? = some (anewRow C s) := by
   unfold anewP
   rw [List.getElem?_map, List.getElem?_range hsS]
   rfl
  obtain ⟨e, he, hst⟩ := hr.step hok hs (c := c) (by rw [hN]; exact hc) hq
  have hlt : s * C + c < S * C := by
   have : (s + 1) * C ≤ S * C := Nat.mul_le_mul_right _ hsS
   rw [Nat.add_mul, Nat.one_mul] at this
   omega
  have hx : ((anewRow C s)[c]?.getD 0).toNat = s * C + c := by
   unfold anewRow
   rw [List.getElem?_map, List.getElem?_range hc]
   show (((s * C + c : Nat) : Int)).toNat = _
   rw [Int.toNat_natCast]
  rw [hx] at he
  have he2 : (anewP m C S).ents[s * C + c]? = some (anewEnt m C (s * C + c)) := by
   unfold anewP
   rw [List.getElem?_map, List.getElem?_range hlt]
   rfl
  rw [he2] at he
  injection he with he
  obtain ⟨e', h1, h2, h3⟩ := anew_ent hm hC hS h4 hlt
  rw [show (s * C + c) / C = s by rw [Nat.mul_comm, Nat.mul_add_div (by omega), Nat.div_eq_of_lt hc, Nat.add_zero], show (s * C + c) % C = c by rw [Nat.mul_comm, Nat.mul_add_mod, Nat.mod_eq_of_lt hc]] at h1
  rw [hst, ← he, h2, entM_same hm h3 (by omega), h1]
 ·have hb := classS_bound hm (id : Int)
  have hc : (anewCls m)[id]? = some (classS m (id : Int)) := by
   unfold anewCls
   rw [List.getElem?_map, List.getElem?_range hid]
   rfl
  conv => lhs; unfold classS
  rw [if_neg (by omega), hr.tab, show (anewP m C S).cls = anewCls m from rfl, tab_get, if_pos (by omega), Int.toNat_natCast, hc]
  dsimp only
  rw [if_pos (by rw [hr.classes, hN]; omega)]
end Go.Sw
end
section
set_option maxRecDepth 100000
set_option linter.unusedVariables false
namespace Go.Sw
noncomputable section
def swashtop_WholeMachines_l1 (k : Nat) (call : Caller) : Env → Heap → Res (AExit × Env) := loopB (C k) call F.swashtop_WholeMachines [1, 1, 1, 1, 1, 1, 1, 0, 1, 0, 0]
def swashtop_WholeMachines_l1k (k : Nat) (call : Caller) : Kont Value := kBlock 0 (kSeq (pieceK (C k) call F.swashtop_WholeMachines [1, 1, 1, 1, 1, 1, 1, 1]) (kDone Prog (resOf Prog F.swashtop_WholeMachines)))
def swashtop_WholeMachines_l2 (k : Nat) (call : Caller) : Env → Heap → Res (AExit × Env) := loopB (C k) call F.swashtop_WholeMachines [1, 1, 1, 1, 1, 1, 1, 1, 0, 1, 0, 0]
def swashtop_WholeMachines_l2k (k : Nat) (call : Caller) : Kont Value := kBlock 2 (kSeq (pieceK (C k) call F.swashtop_WholeMachines [1, 1, 1, 1, 1, 1, 1, 1, 1]) (kDone Prog (resOf Prog F.swashtop_WholeMachines)))
def swashtop_WholeMachines_l3 (k : Nat) (call : Caller) : Env → Heap → Res (AExit × Env) := loopB (C k) call F.swashtop_WholeMachines [1, 1, 1, 1, 1, 1, 1, 1, 0, 1, 0, 0, 1, 1, 0, 0, 1, 1, 0, 1, 0, 0]
def swashtop_WholeMachines_l3k (k : Nat) (call : Caller) : Kont (AExit × Env) := kBlock 4 (kSeq (pieceK (C k) call F.swashtop_WholeMachines [1, 1, 1, 1, 1, 1, 1, 1, 0, 1, 0, 0, 1, 1, 0, 0, 1, 1, 1]) (kBlock 3 (kSeq (pieceK (C k) call F.swashtop_WholeMachines [1, 1, 1, 1, 1, 1, 1, 1, 0, 1, 0, 0, 1, 1, 1]) (kRound (ownOf (C k) F.swashtop_WholeMachines [1, 1, 1, 1, 1, 1, 1, 1, 0, 1, 0, 0])))))
def swashtop_WholeMachines_l4 (k : Nat) (call : Caller) : Env → Heap → Res (AExit × Env) := loopB (C k) call F.swashtop_WholeMachines [1, 1, 1, 1, 1, 1, 1, 1, 1, 1, 1, 0, 1, 0, 0]
def swashtop_WholeMachines_l4k (k : Nat) (call : Caller) : Kont Value := kBlock 6 (kSeq (pieceK (C k) call F.swashtop_WholeMachines [1, 1, 1, 1, 1, 1, 1, 1, 1, 1, 1, 1]) (kDone Prog (resOf Prog F.swashtop_WholeMachines)))
def swashtop_WholeMachines_l5 (k : Nat) (call : Caller) : Env → Heap → Res (AExit × Env) := loopB (C k) call F.swashtop_WholeMachines [1, 1, 1, 1, 1, 1, 1, 1, 1, 1, 1, 0, 1, 0, 0, 1, 1, 0, 0, 1, 1, 0, 0]
def swashtop_WholeMachines_l5k (k : Nat) (call : Caller) : Kont (AExit × Env) := kBlock 8 (kBlock 7 (kSeq (pieceK (C k) call F.swashtop_WholeMachines [1, 1, 1, 1, 1, 1, 1, 1, 1, 1, 1, 0, 1, 0, 0, 1, 1, 1]) (kRound (ownOf (C k) F.swashtop_WholeMachines [1, 1, 1, 1, 1, 1, 1, 1, 1, 1, 1, 0, 1, 0, 0]))))
def swashtop_WholeMachines_l6 (k : Nat) (call : Caller) : Env → Heap → Res (AExit × Env) := loopB (C k) call F.swashtop_WholeMachines [1, 1, 1, 1, 1, 1, 1, 1, 1, 1, 1, 1, 0, 1, 0, 0]
def swashtop_WholeMachines_l6k (k : Nat) (call : Caller) : Kont Value := kBlock 10 (kSeq (pieceK (C k) call F.swashtop_WholeMachines [1, 1, 1, 1, 1, 1, 1, 1, 1, 1, 1, 1, 1]) (kDone Prog (resOf Prog F.swashtop_WholeMachines)))
def swashtop_WholeMachines (k : Nat) (call : Caller) (a0 : Value) (h : Heap) : Res Value :=
 (boxR a0 h).bind fun v1 h2 =>
 (buildR Prog 150 [(0, (.int .i64 1))] h2).bind fun v3 h4 =>
 (allocR Prog 150 h4).bind fun v5 h6 =>
 (storeR Prog 150 v5 v3 h6).bind fun _v7 h8 =>
 (buildSliceR Prog 65 1 [(0, (.int .u8 0))] h8).bind fun v9 h10 =>
 (buildSliceR Prog 65 1 [(0, (.int .u8 0))] h10).bind fun v11 h12 =>
 (buildSliceR Prog 143 2 [(0, v9), (1, v11)] h12).bind fun v13 h14 =>
 (loadR Prog 150 v5 h14).bind fun v15 h16 =>
 (buildSliceR Prog 144 1 [(0, v15)] h16).bind fun v17 h18 =>
 (buildR Prog 146 [(1, v13), (2, v17)] h18).bind fun v19 h20 =>
 (call F.swashlaw07_Write [v19, (.int .i64 2), (.int .i64 0)] h20).bind fun v21 h22 =>
 (call F.state_Read [v21, (.int .i64 9), (.int .i64 2)] h22).bind fun v23 h24 =>
 (extractR v23 0 h24).bind fun v25 h26 =>
 (extractR v23 1 h26).bind fun v27 h28 =>
 (binR Prog .neq 69 v27 (.int .i64 0) h28).bind fun v29 h30 =>
 ((bif wantVal v29 false then Res.ok v25 h30 else Res.ok undef h30)).bind fun v31 h32 =>
 ((bif wantVal v29 false then binR Prog .eql 133 v31 (.pointer none) h32 else Res.ok undef h32)).bind fun v33 h34 =>
 (condV (some v29) (Res.ok (.bool true) h34) (Res.ok v33 h34)).bind fun v35 h36 =>
 ((bif wantVal v35 false then Res.ok v25 h36 else Res.ok undef h36)).bind fun v37 h38 =>
 ((bif wantVal v35 false then call F.state_Machine_States [v37] h38 else Res.ok undef h38)).bind fun v39 h40 =>
 ((bif wantVal v35 false then binR Prog .neq 3 v39 (.int .i64 2) h40 else Res.ok undef h40)).bind fun v41 h42 =>
 (condV (some v35) (Res.ok (.bool true) h42) (Res.ok v41 h42)).bind fun v43 h44 =>
 condV (some v43) (
 .ok (.bool false) h44)
 (
 (fieldAddrR Prog 146 v1 0 h44).bind fun v45 h46 =>
 (loadR Prog 65 v45 h46).bind fun v47 h48 =>
 (builtinV Prog .len [65] [v47] h48).bind fun v49 h50 =>
 (binR Prog .gtr 3 v49 (.int .i64 40) h50).bind fun v51 h52 =>
 ((bif wantVal v51 false then fieldAddrR Prog 146 v1 1 h52 else Res.ok undef h52)).bind fun v53 h54 =>
 ((bif wantVal v51 false then loadR Prog 143 v53 h54 else Res.ok undef h54)).bind fun v55 h56 =>
 ((bif wantVal v51 false then builtinV Prog .len [143] [v55] h56 else Res.ok undef h56)).bind fun v57 h58 =>
 ((bif wantVal v51 false then binR Prog .gtr 3 v57 (.int .i64 8) h58 else Res.ok undef h58)).bind fun v59 h60 =>
 (condV (some v51) (Res.ok (.bool true) h60) (Res.ok v59 h60)).bind fun v61 h62 =>
 ((bif wantVal v61 false then fieldAddrR Prog 146 v1 2 h62 else Res.ok undef h62)).bind fun v63 h64 =>
 ((bif wantVal v61 false then loadR Prog 144 v63 h64 else Res.ok undef h64)).bind fun v65 h66 =>
 ((bif wantVal v61 false then builtinV Prog .len [144] [v65] h66 else Res.ok undef h66)).bind fun v67 h68 =>
 ((bif wantVal v61 false then binR Prog .gtr 3 v67 (.int .i64 20) h68 else Res.ok undef h68)).bind fun v69 h70 =>
 (condV (some v61) (Res.ok (.bool true) h70) (Res.ok v69 h70)).bind fun v71 h72 =>
 condV (some v71) (
 .ok (.bool true) h72)
 (
 (loadR Prog 146 v1 h72).bind fun v73 h74 =>
 (call F.swashlaw07_Write [v73, (.int .i64 2), (.int .i64 0)] h74).bind fun v75 h76 =>
 (call F.state_Read [v75, (.int .i64 40), (.int .i64 2)] h76).bind fun v77 h78 =>
 (extractR v77 0 h78).bind fun v79 h80 =>
 (extractR v77 1 h80).bind fun v81 h82 =>
 (binR Prog .eql 133 v79 (.pointer none) h82).bind fun v83 h84 =>
 ((bif wantVal v83 false then Res.ok v79 h84 else Res.ok undef h84)).bind fun v85 h86 =>
 ((bif wantVal v83 false then call F.state_Machine_States [v85] h86 else Res.ok undef h86)).bind fun v87 h88 =>
 ((bif wantVal v83 false then Res.ok v79 h88 else Res.ok undef h88)).bind fun v89 h90 =>
 ((bif wantVal v83 false then call F.state_Machine_Classes [v89] h90 else Res.ok undef h90)).bind fun v91 h92 =>
 ((bif wantVal v83 false then binR Prog .mul 3 v87 v91 h92 else Res.ok undef h92)).bind fun v93 h94 =>
 ((bif wantVal v83 false then binR Prog .gtr 3 v93 (.int .i64 250) h94 else Res.ok undef h94)).bind fun v95 h96 =>
 (condV (some v83) (Res.ok (.bool true) h96) (Res.ok v95 h96)).bind fun v97 h98 =>
 ((bif wantVal v97 false then Res.ok v79 h98 else Res.ok undef h98)).bind fun v99 h100 =>
 ((bif wantVal v97 false then call F.state_Machine_Classes [v99] h100 else Res.ok undef h100)).bind fun v101 h102 =>
 ((bif wantVal v97 false then binR Prog .gtr 3 v101 (.int .i64 11) h102 else Res.ok undef h102)).bind fun v103 h104 =>
 (condV (some v97) (Res.ok (.bool true) h104) (Res.ok v103 h104)).bind fun v105 h106 =>
 condV (some v105) (
 .ok (.bool true) h106)
 (
 (call F.state_Machine_Classes [v79] h106).bind fun v107 h108 =>
 (binR Prog .sub 3 v107 (.int .i64 4) h108).bind fun v109 h110 =>
 (convR Prog 3 5 v109 h110).bind fun v111 h112 =>
 (buildR Prog 146 [(3, v111)] h112).bind fun v113 h114 =>
 (allocR Prog 146 h114).bind fun v115 h116 =>
 (storeR Prog 146 v115 v113 h116).bind fun _v117 h118 =>
 (loopN (swashtop_WholeMachines_l1 k call) loopFuel [(6, v79), (8, v115), (89, (.int .i64 0))] h118).bind fun r119 h120 =>
 swashtop_WholeMachines_l1k k call r119.1 r119.2 h120)))
theorem swashtop_WholeMachines_R (k : Nat) (a0 : Value) (h : Heap) : R (T k) F.swashtop_WholeMachines [a0] h = nrm .gc h (swashtop_WholeMachines k (R (T k)) a0 h) :=
 (R_body (t := T k) (T_scott k) (by kernel_rfl) (by kernel_rfl) _ _).trans (by kernel_rfl)
theorem swashtop_WholeMachines_l1_eq (k : Nat) (call : Caller) (a6 a8 a89 : Value) (h : Heap) : swashtop_WholeMachines_l1 k call [(6, a6), (8, a8), (89, a89)] h =
 (binR Prog .lss 3 a89 (.int .i64 40) h).bind fun v121 h122 =>
 condV (some v121) (
 (fieldAddrR Prog 146 a8 0 h122).bindN fun v123 h124 =>
 (loadR Prog 65 v123 h124).bindN fun v125 h126 =>
 (call F.state_Machine_Class [a6, a89] h126).bindT (fun p129 h130 => .panic p129 h130) fun v127 h128 =>
 (convR Prog 3 5 v127 h128).bindN fun v131 h132 =>
 (buildSliceR Prog 65 1 [(0, v131)] h132).bindN fun v133 h134 =>
 (builtinV Prog .append [65, 65] [v125, v133] h134).bindN fun v135 h136 =>
 (fieldAddrR Prog 146 a8 0 h136).bindN fun v137 h138 =>
 (storeR Prog 65 v137 v135 h138).bindN fun _v139 h140 =>
 chkR ((okVal (loadR Prog 65 v123 h128) v125 && (okVal (loadR Prog 65 v123 h134) v125 && true)) && true) (
 (binR Prog .add 3 a89 (.int .i64 1) h140).bind fun v141 h142 =>
 .ok (.normal, [(6, a6), (8, a8), (89, v141)]) h142))
 (
 .ok ((.exit 0), [(6, a6), (8, a8), (89, a89), (90, v121)]) h122) :=
 (loopB_eq _ _).trans (by kernel_rfl)
theorem swashtop_WholeMachines_l1k_x0 (k : Nat) (call : Caller) (a6 a8 a89 a90 : Value) (h : Heap) : swashtop_WholeMachines_l1k k call (.exit 0) [(6, a6), (8, a8), (89, a89), (90, a90)] h =
 (call F.state_Machine_States [a6] h).bind fun v143 h144 =>
 (loopN (swashtop_WholeMachines_l2 k call) loopFuel [(6, a6), (8, a8), (103, v143), (104, (.int .i64 0))] h144).bind fun r145 h146 =>
 swashtop_WholeMachines_l2k k call r145.1 r145.2 h146 := by kernel_rfl
theorem swashtop_WholeMachines_l2_eq (k : Nat) (call : Caller) (a6 a8 a103 a104 : Value) (h : Heap) : swashtop_WholeMachines_l2 k call [(6, a6), (8, a8), (103, a103), (104, a104)] h =
 (binR Prog .lss 3 a104 a103 h).bind fun v147 h148 =>
 condV (some v147) (
 (call F.state_Machine_Classes [a6] h148).bind fun v149 h150 =>
 (loopN (swashtop_WholeMachines_l3 k call) loopFuel [(6, a6), (8, a8), (10, a104), (11, (.slice none 0 0)), (103, a103), (104, a104), (108, v149), (109, (.int .i64 0))] h150).bind fun r151 h152 =>
 swashtop_WholeMachines_l3k k call r151.1 r151.2 h152)
 (
 .ok ((.exit 2), [(6, a6), (8, a8), (103, a103), (104, a104), (105, v147)]) h148) :=
 (loopB_eq _ _).trans (by kernel_rfl)
theorem swashtop_WholeMachines_l3_eq (k : Nat) (call : Caller) (a6 a8 a10 a11 a103 a104 a108 a109 : Value) (h : Heap) : swashtop_WholeMachines_l3 k call [(6, a6), (8, a8), (10, a10), (11, a11), (103, a103), (104, a104), (108, a108), (109, a109)] h =
 (binR Prog .lss 3 a109 a108 h).bind fun v153 h154 =>
 condV (some v153) (
 (call F.state_Machine_Step [a6, a10, a109] h154).bind fun v155 h156 =>
 (extractR v155 0 h156).bind fun v157 h158 =>
 (extractR v155 1 h158).bind fun v159 h160 =>
 (allocR Prog 150 h160).bind fun v161 h162 =>
 (storeR Prog 150 v161 v157 h162).bind fun _v163 h164 =>
 (fieldAddrR Prog 146 a8 2 h164).bind fun v165 h166 =>
 (loadR Prog 144 v165 h166).bind fun v167 h168 =>
 (builtinV Prog .len [144] [v167] h168).bind fun v169 h170 =>
 (convR Prog 3 5 v169 h170).bind fun v171 h172 =>
 (buildSliceR Prog 65 1 [(0, v171)] h172).bind fun v173 h174 =>
 (builtinV Prog .append [65, 65] [a11, v173] h174).bind fun v175 h176 =>
 (fieldAddrR Prog 146 a8 2 h176).bind fun v177 h178 =>
 (loadR Prog 144 v177 h178).bind fun v179 h180 =>
 (loadR Prog 150 v161 h180).bind fun v181 h182 =>
 (buildSliceR Prog 144 1 [(0, v181)] h182).bind fun v183 h184 =>
 (builtinV Prog .append [144, 144] [v179, v183] h184).bind fun v185 h186 =>
 (fieldAddrR Prog 146 a8 2 h186).bind fun v187 h188 =>
 (storeR Prog 144 v187 v185 h188).bind fun _v189 h190 =>
 (binR Prog .add 3 a109 (.int .i64 1) h190).bind fun v191 h192 =>
 .ok (.normal, [(6, a6), (8, a8), (10, a10), (11, v175), (103, a103), (104, a104), (108, a108), (109, v191)]) h192)
 (
 .ok ((.exit 4), [(6, a6), (8, a8), (10, a10), (11, a11), (103, a103), (104, a104), (108, a108), (109, a109), (110, v153)]) h154) :=
 (loopB_eq _ _).trans (by kernel_rfl)
theorem swashtop_WholeMachines_l2k_x2 (k : Nat) (call : Caller) (a6 a8 a103 a104 a105 : Value) (h : Heap) : swashtop_WholeMachines_l2k k call (.exit 2) [(6, a6), (8, a8), (103, a103), (104, a104), (105, a105)] h =
 (loadR Prog 146 a8 h).bind fun v193 h194 =>
 (call F.swashlaw07_Write [v193, (.int .i64 2), (.int .i64 0)] h194).bind fun v195 h196 =>
 (call F.state_Read [v195, (.int .i64 40), (.int .i64 2)] h196).bind fun v197 h198 =>
 (extractR v197 0 h198).bind fun v199 h200 =>
 (extractR v197 1 h200).bind fun v201 h202 =>
 (binR Prog .neq 69 v201 (.int .i64 0) h202).bind fun v203 h204 =>
 ((bif wantVal v203 false then Res.ok v199 h204 else Res.ok undef h204)).bind fun v205 h206 =>
 ((bif wantVal v203 false then binR Prog .eql 133 v205 (.pointer none) h206 else Res.ok undef h206)).bind fun v207 h208 =>
 (condV (some v203) (Res.ok (.bool true) h208) (Res.ok v207 h208)).bind fun v209 h210 =>
 ((bif wantVal v209 false then Res.ok v199 h210 else Res.ok undef h210)).bind fun v211 h212 =>
 ((bif wantVal v209 false then call F.state_Machine_States [v211] h212 else Res.ok undef h212)).bind fun v213 h214 =>
 ((bif wantVal v209 false then Res.ok a6 h214 else Res.ok undef h214)).bind fun v215 h216 =>
 ((bif wantVal v209 false then call F.state_Machine_States [v215] h216 else Res.ok undef h216)).bind fun v217 h218 =>
 ((bif wantVal v209 false then binR Prog .gtr 3 v213 v217 h218 else Res.ok undef h218)).bind fun v219 h220 =>
 (condV (some v209) (Res.ok (.bool true) h220) (Res.ok v219 h220)).bind fun v221 h222 =>
 condV (some v221) (
 .ok (.bool false) h222)
 (
 (call F.state_Machine_States [v199] h222).bind fun v223 h224 =>
 (loopN (swashtop_WholeMachines_l4 k call) loopFuel [(6, a6), (15, v199), (160, v223), (161, (.int .i64 0))] h224).bind fun r225 h226 =>
 swashtop_WholeMachines_l4k k call r225.1 r225.2 h226) := by kernel_rfl
theorem swashtop_WholeMachines_l4_eq (k : Nat) (call : Caller) (a6 a15 a160 a161 : Value) (h : Heap) : swashtop_WholeMachines_l4 k call [(6, a6), (15, a15), (160, a160), (161, a161)] h =
 (binR Prog .lss 3 a161 a160 h).bind fun v227 h228 =>
 condV (some v227) (
 (call F.state_Machine_Classes [a15] h228).bind fun v229 h230 =>
 (loopN (swashtop_WholeMachines_l5 k call) loopFuel [(6, a6), (15, a15), (17, a161), (160, a160), (161, a161), (165, v229), (166, (.int .i64 0))] h230).bind fun r231 h232 =>
 swashtop_WholeMachines_l5k k call r231.1 r231.2 h232)
 (
 .ok ((.exit 6), [(6, a6), (15, a15), (160, a160), (161, a161), (162, v227)]) h228) :=
 (loopB_eq _ _).trans (by kernel_rfl)
theorem swashtop_WholeMachines_l5_eq (k : Nat) (call : Caller) (a6 a15 a17 a160 a161 a165 a166 : Value) (h : Heap) : swashtop_WholeMachines_l5 k call [(6, a6), (15, a15), (17, a17), (160, a160), (161, a161), (165, a165), (166, a166)] h =
 (binR Prog .lss 3 a166 a165 h).bind fun v233 h234 =>
 condV (some v233) (
 (call F.state_Machine_Step [a6, a17, a166] h234).bind fun v235 h236 =>
 (extractR v235 0 h236).bind fun v237 h238 =>
 (extractR v235 1 h238).bind fun v239 h240 =>
 (allocR Prog 150 h240).bind fun v241 h242 =>
 (storeR Prog 150 v241 v237 h242).bind fun _v243 h244 =>
 (call F.state_Machine_Step [a15, a17, a166] h244).bind fun v245 h246 =>
 (extractR v245 0 h246).bind fun v247 h248 =>
 (extractR v245 1 h248).bind fun v249 h250 =>
 (allocR Prog 150 h250).bind fun v251 h252 =>
 (storeR Prog 150 v251 v247 h252).bind fun _v253 h254 =>
 (unR .not v239 h254).bind fun v255 h256 =>
 ((bif wantVal v255 false then Res.ok v249 h256 else Res.ok undef h256)).bind fun v257 h258 =>
 ((bif wantVal v255 false then unR .not v257 h258 else Res.ok undef h258)).bind fun v259 h260 =>
 (condV (some v255) (Res.ok (.bool true) h260) (Res.ok v259 h260)).bind fun v261 h262 =>
 ((bif wantVal v261 false then loadR Prog 150 v241 h262 else Res.ok undef h262)).bind fun v263 h264 =>
 ((bif wantVal v261 false then loadR Prog 150 v251 h264 else Res.ok undef h264)).bind fun v265 h266 =>
 ((bif wantVal v261 false then binR Prog .neq 150 v263 v265 h266 else Res.ok undef h266)).bind fun v267 h268 =>
 (condV (some v261) (Res.ok (.bool true) h268) (Res.ok v267 h268)).bind fun v269 h270 =>
 condV (some v269) (
 .ok (.ret, [(2, (.bool false))]) h270)
 (
 (binR Prog .add 3 a166 (.int .i64 1) h270).bind fun v271 h272 =>
 .ok (.normal, [(6, a6), (15, a15), (17, a17), (160, a160), (161, a161), (165, a165), (166, v271)]) h272))
 (
 .ok ((.exit 8), [(6, a6), (15, a15), (17, a17), (160, a160), (161, a161), (165, a165), (166, a166), (167, v233)]) h234) :=
 (loopB_eq _ _).trans (by kernel_rfl)
theorem swashtop_WholeMachines_l3k_x4 (k : Nat) (call : Caller) (a6 a8 a10 a11 a103 a104 a108 a109 a110 : Value) (h : Heap) : swashtop_WholeMachines_l3k k call (.exit 4) [(6, a6), (8, a8), (10, a10), (11, a11), (103, a103), (104, a104), (108, a108), (109, a109), (110, a110)] h =
 (fieldAddrR Prog 146 a8 1 h).bind fun v273 h274 =>
 (loadR Prog 143 v273 h274).bind fun v275 h276 =>
 (buildSliceR Prog 143 1 [(0, a11)] h276).bind fun v277 h278 =>
 (builtinV Prog .append [143, 143] [v275, v277] h278).bind fun v279 h280 =>
 (fieldAddrR Prog 146 a8 1 h280).bind fun v281 h282 =>
 (storeR Prog 143 v281 v279 h282).bind fun _v283 h284 =>
 (binR Prog .add 3 a104 (.int .i64 1) h284).bind fun v285 h286 =>
 .ok (.normal, [(6, a6), (8, a8), (103, a103), (104, v285)]) h286 := by kernel_rfl
theorem swashtop_WholeMachines_l4k_x6 (k : Nat) (call : Caller) (a6 a15 a160 a161 a162 : Value) (h : Heap) : swashtop_WholeMachines_l4k k call (.exit 6) [(6, a6), (15, a15), (160, a160), (161, a161), (162, a162)] h =
 (loopN (swashtop_WholeMachines_l6 k call) loopFuel [(6, a6), (15, a15), (196, (.int .i64 0))] h).bind fun r287 h288 =>
 swashtop_WholeMachines_l6k k call r287.1 r287.2 h288 := by kernel_rfl
theorem swashtop_WholeMachines_l6_eq (k : Nat) (call : Caller) (a6 a15 a196 : Value) (h : Heap) : swashtop_WholeMachines_l6 k call [(6, a6), (15, a15), (196, a196)] h =
 (binR Prog .lss 3 a196 (.int .i64 40) h).bind fun v289 h290 =>
 condV (some v289) (
 (call F.state_Machine_Class [a15, a196] h290).bind fun v291 h292 =>
 (call F.state_Machine_Class [a6, a196] h292).bind fun v293 h294 =>
 (binR Prog .neq 3 v291 v293 h294).bind fun v295 h296 =>
 condV (some v295) (
 .ok (.ret, [(2, (.bool false))]) h296)
 (
 (binR Prog .add 3 a196 (.int .i64 1) h296).bind fun v297 h298 =>
 .ok (.normal, [(6, a6), (15, a15), (196, v297)]) h298))
 (
 .ok ((.exit 10), [(6, a6), (15, a15), (196, a196), (197, v289)]) h290) :=
 (loopB_eq _ _).trans (by kernel_rfl)
theorem swashtop_WholeMachines_l5k_x8 (k : Nat) (call : Caller) (a6 a15 a17 a160 a161 a165 a166 a167 : Value) (h : Heap) : swashtop_WholeMachines_l5k k call (.exit 8) [(6, a6), (15, a15), (17, a17), (160, a160), (161, a161), (165, a165), (166, a166), (167, a167)] h =
 (binR Prog .add 3 a161 (.int .i64 1) h).bind fun v299 h300 =>
 .ok (.normal, [(6, a6), (15, a15), (160, a160), (161, v299)]) h300 := by kernel_rfl
theorem swashtop_WholeMachines_l6k_x10 (k : Nat) (call : Caller) (a6 a15 a196 a197 : Value) (h : Heap) : swashtop_WholeMachines_l6k k call (.exit 10) [(6, a6), (15, a15), (196, a196), (197, a197)] h =
 .ok (.bool true) h := by kernel_rfl
end
end Go.Sw
end
section
namespace Go.Sw
open Go.RowKit
theorem g4_get (a b c d : It) (bs : List It) (x : It) (tl : List It) : (a :: b :: c :: d :: (bs ++ x :: tl))[bs.length + 4]? = some x := by simp
theorem g4_set (a b c d : It) (bs : List It) (x y : It) (tl : List It) : (a :: b :: c :: d :: (bs ++ x :: tl)).set (bs.length + 4) y = a :: b :: c :: d :: (bs ++ y :: tl) := by simp
abbrev itPlan (p : Nat) (w : Int) (sc sr se : Value) : It := itBlk p ⟨[sc, sr, se, .int .u8 w], 1, false⟩
theorem wm_l1 (k : Nat) {m : Mach} (hm : m.ok) (h11 : m.classes ≤ 11) {H0 H : Heap} {p : Nat} {w : Int} (g : Star H0 H [itPlan p w (.slice none 0 0) (.slice none 0 0) (.slice none 0 0), itRow none 1 (.slice none 0 0) encB [], itRow none 1 (.slice none 0 0) encU [], itRow none 4 (.slice none 0 0) encEn []]) :
  ∃ sc oc H', loopN (swashtop_WholeMachines_l1 k (R (T k))) loopFuel [(6, machV m), (8, ptrV p), (89, .int .i64 0)] H = .ok (.exit 0, [(6, machV m), (8, ptrV p), (89, .int .i64 40), (90, .bool false)]) H' ∧
   Star H0 H' [itPlan p w sc (.slice none 0 0) (.slice none 0 0), itRow oc 1 sc encB (anewCls m), itRow none 1 (.slice none 0 0) encU [], itRow none 4 (.slice none 0 0) encEn []] := by
 have hcl : (anewCls m).length = 40 := by simp [anewCls]
 obtain ⟨xx, e', H1, hr1, rfl, rfl, sc, oc, g⟩ := loop_up (body := swashtop_WholeMachines_l1 k (R (T k))) 40
  (fun j e H' => e = [(6, machV m), (8, ptrV p), (89, .int .i64 j)] ∧ ∃ sc oc, Star H0 H' [itPlan p w sc (.slice none 0 0) (.slice none 0 0), itRow oc 1 sc encB ((anewCls m).take j), itRow none 1 (.slice none 0 0) encU [], itRow none 4 (.slice none 0 0) encEn []])
  (fun xx e H' => xx = .exit 0 ∧ e = [(6, machV m), (8, ptrV p), (89, .int .i64 40), (90, .bool false)] ∧ ∃ sc oc, Star H0 H' [itPlan p w sc (.slice none 0 0) (.slice none 0 0), itRow oc 1 sc encB (anewCls m), itRow none 1 (.slice none 0 0) encU [], itRow none 4 (.slice none 0 0) encEn []])
  (e0 := [(6, machV m), (8, ptrV p), (89, .int .i64 0)]) (H0 := H) ⟨rfl, _, none, g⟩ (by omega)
  (fun j e H' hj ⟨he, sc, oc, g⟩ => by
   subst he
   have hjl : (j : Int) < 40 := by omega
   have hb := g.get 0 rfl
   have hcb := classS_bound hm (j : Int)
   have hcr := fun H' => Class_run k m hm (j : Int) H'
   have hcj : (anewCls m)[j]? = some (classS m (j : Int)) := by
    unfold anewCls
    rw [List.getElem?_map, List.getElem?_range hj]
    rfl
   have hq := (g.row 1 rfl).veq
   have hpn : ¬ p = H'.n := by have := Heap.get_lt hb; omega
   obtain ⟨s2, o2, H2, e2, g⟩ := g.append1 (bytes := 1) 1 encB_len rfl (classS m (j : Int)) (by rw [List.length_take]; omega) (by decide)
   simp only [List.set_cons_zero, List.set_cons_succ] at g
   rw [← take_snoc hcj] at g
   obtain ⟨H3, e3, g, _⟩ := g.stCell 0 rfl 0 (g.row 1 rfl).storable (g.row 1 rfl).cells (by simp)
   simp only [List.set_cons_zero, List.set_cons_succ] at g
   refine .inl ⟨_, H3, ?_, rfl, s2, o2, g⟩
   rw [swashtop_WholeMachines_l1_eq]
   simp -implicitDefEqProofs (disch := omega) [-stR_ptr, hjl, hb, hcr, e2, e3, hpn, hq])
  (fun e H' ⟨he, sc, oc, g⟩ => by
   subst he
   rw [List.take_of_length_le (by omega)] at g
   refine ⟨.exit 0, _, H', ?_, by simp, rfl, rfl, sc, oc, g⟩
   rw [swashtop_WholeMachines_l1_eq]
   simp -implicitDefEqProofs)
 exact ⟨sc, oc, H1, hr1, g⟩
theorem anewEnt_take (m : Mach) (C n : Nat) : (List.range (n + 1)).map (anewEnt m C) = (List.range n).map (anewEnt m C) ++ [anewEnt m C n] := by simp [List.range_succ]
theorem anewRow_len (C s : Nat) : (anewRow C s).length = C := by simp [anewRow]
set_option maxHeartbeats 1000000 in
theorem wm_l3 (k : Nat) {m : Mach} (hm : m.ok) {C S : Nat} (hC : m.classes = C) (hS : m.rows.length = S) (h4 : 4 ≤ C) (hSC : S * C ≤ 250) {s : Nat} (hs : s < S) {H0 H : Heap} {p : Nat} {w : Int} {sc sr se : Value} {oc or oe : Option Nat} {cl : List Int} {l : List (List Int × Value)} {bs : List It}
  (g : Star H0 H (itPlan p w sc sr se :: itRow oc 1 sc encB cl :: itRow or 1 sr encU l :: itRow oe 4 se encEn ((List.range (s * C)).map (anewEnt m C)) :: bs)) :
  ∃ se' oe' s11 o11 H', loopN (swashtop_WholeMachines_l3 k (R (T k))) loopFuel [(6, machV m), (8, ptrV p), (10, .int .i64 s), (11, .slice none 0 0), (103, .int .i64 S), (104, .int .i64 s), (108, .int .i64 C), (109, .int .i64 0)] H =
   .ok (.exit 4, [(6, machV m), (8, ptrV p), (10, .int .i64 s), (11, s11), (103, .int .i64 S), (104, .int .i64 s), (108, .int .i64 C), (109, .int .i64 C), (110, .bool false)]) H' ∧
   Star H0 H' (itPlan p w sc sr se' :: itRow oc 1 sc encB cl :: itRow or 1 sr encU l :: itRow oe' 4 se' encEn ((List.range ((s + 1) * C)).map (anewEnt m C)) :: (bs ++ [itRow o11 1 s11 encB (anewRow C s)])) := by
 have hmul : (s + 1) * C ≤ S * C := Nat.mul_le_mul_right _ hs
 rw [Nat.add_mul, Nat.one_mul] at hmul
 have g := g.more_row (Ext.refl _) (OwnO.nil encB _ 1) (fun b hb => by cases hb)
 simp only [List.cons_append] at g
 obtain ⟨xx, e', H1, hr1, rfl, s11, rfl, se', oe', o11, g⟩ := loop_up (body := swashtop_WholeMachines_l3 k (R (T k))) C
  (fun j e H' => ∃ s11, e = [(6, machV m), (8, ptrV p), (10, .int .i64 s), (11, s11), (103, .int .i64 S), (104, .int .i64 s), (108, .int .i64 C), (109, .int .i64 j)] ∧ ∃ se' oe' o11, Star H0 H' (itPlan p w sc sr se' :: itRow oc 1 sc encB cl :: itRow or 1 sr encU l :: itRow oe' 4 se' encEn ((List.range (s * C + j)).map (anewEnt m C)) :: (bs ++ [itRow o11 1 s11 encB ((anewRow C s).take j)])))
  (fun xx e H' => xx = .exit 4 ∧ ∃ s11, e = [(6, machV m), (8, ptrV p), (10, .int .i64 s), (11, s11), (103, .int .i64 S), (104, .int .i64 s), (108, .int .i64 C), (109, .int .i64 C), (110, .bool false)] ∧ ∃ se' oe' o11, Star H0 H' (itPlan p w sc sr se' :: itRow oc 1 sc encB cl :: itRow or 1 sr encU l :: itRow oe' 4 se' encEn ((List.range (s * C + C)).map (anewEnt m C)) :: (bs ++ [itRow o11 1 s11 encB (anewRow C s)])))
  (e0 := [(6, machV m), (8, ptrV p), (10, .int .i64 s), (11, .slice none 0 0), (103, .int .i64 S), (104, .int .i64 s), (108, .int .i64 C), (109, .int .i64 0)]) (H0 := H) ⟨_, rfl, se, oe, none, by simpa using g⟩ (by omega)
  (fun j e H' hj ⟨s11, he, se', oe', o11, g⟩ => by
   subst he
   have hjl : (j : Int) < C := by omega
   have hlt : s * C + j < S * C := by omega
   obtain ⟨en, t1, t2, t3⟩ := anew_ent hm hC hS h4 hlt
   rw [show (s * C + j) / C = s by rw [Nat.mul_comm, Nat.mul_add_div (by omega), Nat.div_eq_of_lt hj, Nat.add_zero], show (s * C + j) % C = j by rw [Nat.mul_comm, Nat.mul_add_mod, Nat.mod_eq_of_lt hj]] at t1
   have hst := fun H' => Step_run k m hm (s : Int) (j : Int) H'
   rw [t1] at hst
   have hee : encEA (some en) = .agg (encEn en).toArray := rfl
   rw [hee] at hst
   simp only [Option.isSome_some] at hst
   have hrow : (anewRow C s)[j]? = some ((s * C + j : Nat) : Int) := by
    unfold anewRow
    rw [List.getElem?_map, List.getElem?_range hj]
    rfl
   have hx1 : s * C + (j + 1) = s * C + j + 1 := rfl
   rw [hx1]
   generalize s * C + j = x at hlt t2 hrow g ⊢
   have hlen : ((List.range x).map (anewEnt m C)).length = x := by simp
   have hbp := g.get 0 rfl
   have hln := fun H' => (g.row 3 rfl).len H'
   rw [hlen] at hln
   have g := g.push ⟨encEn en, 1, false⟩
   simp only [List.cons_append, List.append_assoc, List.nil_append] at g
   have hb1 := g.get 0 rfl
   have he1 := g.memBlk (c := H'.n) (k := ⟨encEn en, 1, false⟩) (by simp)
   have hpn : ¬ p = H'.n := by have := Heap.get_lt hbp; omega
   obtain ⟨s12, o12, H2, e2, g⟩ := g.append1 (bytes := 1) (bs.length + 4) encB_len (g4_get _ _ _ _ _ _ _) (x : Int) (by rw [List.length_take]; have := anewRow_len C s; omega) (by decide)
   rw [g4_set, ← take_snoc hrow] at g
   simp only [hn_push] at e2
   have hb2 := g.get 0 rfl
   have he2 := g.memBlk (c := H'.n) (k := ⟨encEn en, 1, false⟩) (by simp)
   obtain ⟨se2, oe2, H3, e3, g⟩ := g.append1 (bytes := 32) 3 encEn_len rfl en (by rw [hlen]; omega) (by decide)
   simp only [List.set_cons_zero, List.set_cons_succ] at g
   rw [← t2, ← anewEnt_take] at g
   have hb3 := g.get 0 rfl
   obtain ⟨H4, e4, g, _⟩ := g.stCell 0 rfl 2 (g.row 3 rfl).storable (g.row 3 rfl).cells (by simp)
   simp only [List.set_cons_zero, List.set_cons_succ] at g
   have g : Star H0 H4 ((itPlan p w sc sr se2 :: itRow oc 1 sc encB cl :: itRow or 1 sr encU l :: itRow oe2 4 se2 encEn ((List.range (x + 1)).map (anewEnt m C)) :: (bs ++ [itRow o12 1 s12 encB ((anewRow C s).take (j + 1))])) ++ [itBlk H'.n ⟨encEn en, 1, false⟩]) := by
    rw [t2] at g
    simpa using g
   refine .inl ⟨_, H4, ?_, s12, rfl, se2, oe2, o12, g.drop_last⟩
   rw [swashtop_WholeMachines_l3_eq]
   simp -implicitDefEqProofs (disch := omega) [-stR_ptr, stR_ptr 4 H'.n 0, hjl, hst, hb1, he1, hpn, hln, e2, hb2, he2, e3, hb3, e4])
  (fun e H' ⟨s11, he, se', oe', o11, g⟩ => by
   subst he
   rw [List.take_of_length_le (by rw [anewRow_len]; exact Nat.le_refl _)] at g
   refine ⟨.exit 4, _, H', ?_, by simp, rfl, s11, rfl, se', oe', o11, g⟩
   rw [swashtop_WholeMachines_l3_eq]
   simp -implicitDefEqProofs)
 rw [show s * C + C = (s + 1) * C by rw [Nat.add_mul, Nat.one_mul]] at g
 exact ⟨se', oe', s11, o11, H1, hr1, g⟩
set_option maxHeartbeats 1000000 in
theorem wm_l2 (k : Nat) {m : Mach} (hm : m.ok) {C S : Nat} (hC : m.classes = C) (hS : m.rows.length = S) (h4 : 4 ≤ C) (hSC : S * C ≤ 250) {H0 H : Heap} {p : Nat} {w : Int} {sc : Value} {oc : Option Nat} {cl : List Int}
  (g : Star H0 H [itPlan p w sc (.slice none 0 0) (.slice none 0 0), itRow oc 1 sc encB cl, itRow none 1 (.slice none 0 0) encU [], itRow none 4 (.slice none 0 0) encEn []]) :
  ∃ sr or se oe l bs H', loopN (swashtop_WholeMachines_l2 k (R (T k))) loopFuel [(6, machV m), (8, ptrV p), (103, .int .i64 S), (104, .int .i64 0)] H =
   .ok (.exit 2, [(6, machV m), (8, ptrV p), (103, .int .i64 S), (104, .int .i64 S), (105, .bool false)]) H' ∧
   Star H0 H' (itPlan p w sc sr se :: itRow oc 1 sc encB cl :: itRow or 1 sr encU l :: itRow oe 4 se encEn ((List.range (S * C)).map (anewEnt m C)) :: bs) ∧ l.map Prod.fst = (List.range S).map (anewRow C) ∧ ∀ x, x ∈ l → ∃ o, itRow o 1 x.2 encB x.1 ∈ bs := by
 have hS2 : S ≤ 250 := by
  have : S * 1 ≤ S * C := Nat.mul_le_mul_left _ (by omega)
  omega
 have hcls := fun H' => Classes_run k m H'
 rw [hC] at hcls
 obtain ⟨xx, e', H1, hr1, rfl, rfl, sr, or, se, oe, l, bs, g, hl, hb⟩ := loop_up (body := swashtop_WholeMachines_l2 k (R (T k))) S
  (fun s e H' => e = [(6, machV m), (8, ptrV p), (103, .int .i64 S), (104, .int .i64 s)] ∧ ∃ sr or se oe l bs, Star H0 H' (itPlan p w sc sr se :: itRow oc 1 sc encB cl :: itRow or 1 sr encU l :: itRow oe 4 se encEn ((List.range (s * C)).map (anewEnt m C)) :: bs) ∧ l.map Prod.fst = (List.range s).map (anewRow C) ∧ ∀ x, x ∈ l → ∃ o, itRow o 1 x.2 encB x.1 ∈ bs)
  (fun xx e H' => xx = .exit 2 ∧ e = [(6, machV m), (8, ptrV p), (103, .int .i64 S), (104, .int .i64 S), (105, .bool false)] ∧ ∃ sr or se oe l bs, Star H0 H' (itPlan p w sc sr se :: itRow oc 1 sc encB cl :: itRow or 1 sr encU l :: itRow oe 4 se encEn ((List.range (S * C)).map (anewEnt m C)) :: bs) ∧ l.map Prod.fst = (List.range S).map (anewRow C) ∧ ∀ x, x ∈ l → ∃ o, itRow o 1 x.2 encB x.1 ∈ bs)
  (e0 := [(6, machV m), (8, ptrV p), (103, .int .i64 S), (104, .int .i64 0)]) (H0 := H) ⟨rfl, _, none, _, none, [], [], by simpa using g, rfl, fun x h => by cases h⟩ (by omega)
  (fun s e H' hj ⟨he, sr, or, se, oe, l, bs, g, hl, hb⟩ => by
   subst he
   have hjl : (s : Int) < S := by omega
   have hll : l.length = s := by have := congrArg List.length hl; simpa using this
   obtain ⟨se2, oe2, s11, o11, H2, e2, g⟩ := wm_l3 k hm hC hS h4 hSC hj g
   have hb2 := g.get 0 rfl
   have hst11 := (g.row (bs.length + 4) (g4_get _ _ _ _ _ _ [])).storable
   have hce11 := (g.row (bs.length + 4) (g4_get _ _ _ _ _ _ [])).cells
   obtain ⟨sr2, or2, H3, e3, g⟩ := g.append1 (bytes := 24) 2 encU_len rfl (anewRow C s, s11) (by omega) (by decide)
   simp only [List.set_cons_zero, List.set_cons_succ] at g
   have hb3 := g.get 0 rfl
   obtain ⟨H4, e4, g, _⟩ := g.stCell 0 rfl 1 (g.row 2 rfl).storable (g.row 2 rfl).cells (by simp)
   simp only [List.set_cons_zero, List.set_cons_succ] at g
   refine .inl ⟨_, H4, ?_, rfl, sr2, or2, se2, oe2, l ++ [(anewRow C s, s11)], bs ++ [itRow o11 1 s11 encB (anewRow C s)], g, by simp [hl, List.range_succ], fun x hx => ?_⟩
   ·rw [swashtop_WholeMachines_l2_eq]
    simp -implicitDefEqProofs (disch := omega) [-stR_ptr, hjl, hcls, e2, swashtop_WholeMachines_l3k_x4, hb2, hst11, hce11, e3, hb3, e4]
   ·rcases List.mem_append.1 hx with h | h
    ·obtain ⟨o, ho⟩ := hb x h
     exact ⟨o, List.mem_append_left _ ho⟩
    ·have := List.mem_singleton.1 h
     subst this
     exact ⟨o11, by simp⟩)
  (fun e H' ⟨he, sr, or, se, oe, l, bs, g, hl, hb⟩ => by
   subst he
   refine ⟨.exit 2, _, H', ?_, by simp, rfl, rfl, sr, or, se, oe, l, bs, g, hl, hb⟩
   rw [swashtop_WholeMachines_l2_eq]
   simp -implicitDefEqProofs)
 exact ⟨sr, or, se, oe, l, bs, H1, hr1, g, hl, hb⟩
theorem wm_l5 (k : Nat) {m o : Mach} (hm : m.ok) (ho : o.ok) {C S : Nat} (hCm : m.classes = C) (hSm : m.rows.length = S) (hCo : o.classes = C) (hSo : o.rows.length ≤ S) {s : Nat} (hs : s < o.rows.length) (hst : ∀ c : Nat, c < C → stepS o s c = stepS m s c) (hC11 : C ≤ 11) (a160 a161 : Value) (H : Heap) :
  ∃ H', loopN (swashtop_WholeMachines_l5 k (R (T k))) loopFuel [(6, machV m), (15, machV o), (17, .int .i64 s), (160, a160), (161, a161), (165, .int .i64 C), (166, .int .i64 0)] H =
   .ok (.exit 8, [(6, machV m), (15, machV o), (17, .int .i64 s), (160, a160), (161, a161), (165, .int .i64 C), (166, .int .i64 C), (167, .bool false)]) H' ∧ Ext H H' := by
 obtain ⟨xx, e', H1, hr1, rfl, rfl, hx⟩ := loop_up (body := swashtop_WholeMachines_l5 k (R (T k))) C
  (fun c e H' => e = [(6, machV m), (15, machV o), (17, .int .i64 s), (160, a160), (161, a161), (165, .int .i64 C), (166, .int .i64 c)] ∧ Ext H H')
  (fun xx e H' => xx = .exit 8 ∧ e = [(6, machV m), (15, machV o), (17, .int .i64 s), (160, a160), (161, a161), (165, .int .i64 C), (166, .int .i64 C), (167, .bool false)] ∧ Ext H H')
  (e0 := [(6, machV m), (15, machV o), (17, .int .i64 s), (160, a160), (161, a161), (165, .int .i64 C), (166, .int .i64 0)]) (H0 := H) ⟨rfl, Ext.refl _⟩ (by omega)
  (fun c e H' hj ⟨he, hx⟩ => by
   subst he
   have hjl : (c : Int) < C := by omega
   obtain ⟨r, x, en, _, _, _, _, hse⟩ := stepS_some hm (s := (s : Int)) (c := (c : Int)) ⟨by omega, by omega, by omega, by omega⟩
   have h1 := fun H' => Step_run k m hm (s : Int) (c : Int) H'
   have h2 := fun H' => Step_run k o ho (s : Int) (c : Int) H'
   rw [hst c hj] at h2
   rw [hse] at h1 h2
   have hee : encEA (some en) = .agg (encEn en).toArray := rfl
   rw [hee] at h1 h2
   simp only [Option.isSome_some] at h1 h2
   have hnn : ¬ H'.n = H'.n + 1 := by omega
   refine .inl ⟨_, (H'.push ⟨encEn en, 1, false⟩).push ⟨encEn en, 1, false⟩, ?_, rfl, (hx.push _).push _⟩
   rw [swashtop_WholeMachines_l5_eq]
   simp -implicitDefEqProofs (disch := omega) [hjl, h1, h2, hnn])
  (fun e H' ⟨he, hx⟩ => by
   subst he
   refine ⟨.exit 8, _, H', ?_, by simp, rfl, rfl, hx⟩
   rw [swashtop_WholeMachines_l5_eq]
   simp -implicitDefEqProofs)
 exact ⟨H1, hr1, hx⟩
theorem wm_l4 (k : Nat) {m o : Mach} (hm : m.ok) (ho : o.ok) {C S : Nat} (hCm : m.classes = C) (hSm : m.rows.length = S) (hCo : o.classes = C) (hSo : o.rows.length ≤ S) (hS2 : S ≤ 65536) (hst : ∀ s c : Nat, s < o.rows.length → c < C → stepS o s c = stepS m s c) (hC11 : C ≤ 11) (H : Heap) :
  ∃ H', loopN (swashtop_WholeMachines_l4 k (R (T k))) loopFuel [(6, machV m), (15, machV o), (160, .int .i64 o.rows.length), (161, .int .i64 0)] H =
   .ok (.exit 6, [(6, machV m), (15, machV o), (160, .int .i64 o.rows.length), (161, .int .i64 o.rows.length), (162, .bool false)]) H' ∧ Ext H H' := by
 have hcls := fun H' => Classes_run k o H'
 rw [hCo] at hcls
 obtain ⟨xx, e', H1, hr1, rfl, rfl, hx⟩ := loop_up (body := swashtop_WholeMachines_l4 k (R (T k))) o.rows.length
  (fun s e H' => e = [(6, machV m), (15, machV o), (160, .int .i64 o.rows.length), (161, .int .i64 s)] ∧ Ext H H')
  (fun xx e H' => xx = .exit 6 ∧ e = [(6, machV m), (15, machV o), (160, .int .i64 o.rows.length), (161, .int .i64 o.rows.length), (162, .bool false)] ∧ Ext H H')
  (e0 := [(6, machV m), (15, machV o), (160, .int .i64 o.rows.length), (161, .int .i64 0)]) (H0 := H) ⟨rfl, Ext.refl _⟩ (by omega)
  (fun s e H' hj ⟨he, hx⟩ => by
   subst he
   have hjl : (s : Int) < o.rows.length := by omega
   obtain ⟨H2, e2, hx2⟩ := wm_l5 k hm ho hCm hSm hCo hSo hj (fun c hc => hst s c hj hc) hC11 (.int .i64 o.rows.length) (.int .i64 s) H'
   refine .inl ⟨_, H2, ?_, rfl, hx.trans hx2⟩
   rw [swashtop_WholeMachines_l4_eq]
   simp -implicitDefEqProofs (disch := omega) [hjl, hcls, e2, swashtop_WholeMachines_l5k_x8])
  (fun e H' ⟨he, hx⟩ => by
   subst he
   refine ⟨.exit 6, _, H', ?_, by simp, rfl, rfl, hx⟩
   rw [swashtop_WholeMachines_l4_eq]
   simp -implicitDefEqProofs)
 exact ⟨H1, hr1, hx⟩
theorem wm_l6 (k : Nat) {m o : Mach} (hm : m.ok) (ho : o.ok) (hc : ∀ id : Nat, id < 40 → classS o id = classS m id) (H : Heap) :
  loopN (swashtop_WholeMachines_l6 k (R (T k))) loopFuel [(6, machV m), (15, machV o), (196, .int .i64 0)] H = .ok (.exit 10, [(6, machV m), (15, machV o), (196, .int .i64 40), (197, .bool false)]) H := by
 obtain ⟨xx, e', H1, hr1, rfl, rfl, rfl⟩ := loop_up (body := swashtop_WholeMachines_l6 k (R (T k))) 40
  (fun j e H' => e = [(6, machV m), (15, machV o), (196, .int .i64 j)] ∧ H' = H)
  (fun xx e H' => xx = .exit 10 ∧ e = [(6, machV m), (15, machV o), (196, .int .i64 40), (197, .bool false)] ∧ H' = H)
  (e0 := [(6, machV m), (15, machV o), (196, .int .i64 0)]) (H0 := H) ⟨rfl, rfl⟩ (by omega)
  (fun j e H' hj ⟨he, hH⟩ => by
   subst he hH
   have hjl : (j : Int) < 40 := by omega
   have h1 := fun H' => Class_run k m hm (j : Int) H'
   have h2 := fun H' => Class_run k o ho (j : Int) H'
   rw [hc j hj] at h2
   refine .inl ⟨_, _, ?_, rfl, rfl⟩
   rw [swashtop_WholeMachines_l6_eq]
   simp -implicitDefEqProofs (disch := omega) [hjl, h1, h2])
  (fun e H' ⟨he, hH⟩ => by
   subst he hH
   refine ⟨.exit 10, _, _, ?_, by simp, rfl, rfl, rfl⟩
   rw [swashtop_WholeMachines_l6_eq]
   simp -implicitDefEqProofs)
 exact hr1
end Go.Sw
end
section
namespace Go.Sw
open Go.RowKit
def chkPlan : Plan := ⟨[], [[0], [0]], [⟨1, 0, 0, 0⟩], 0⟩
theorem chkPlan_ok : chkPlan.ok := ⟨fun _ h => (by cases h), fun r hr x hx => by
 have : r = [0] := by simp [chkPlan] at hr; exact hr
 subst this
 have : x = 0 := by simpa using hx
 omega, by decide, by decide⟩
theorem chk_read (hcb : Byt (planRoom chkPlan 2 (List.replicate 0 0))) : ∃ m, machS (planRoom chkPlan 2 (List.replicate 0 0)) 9 2 = some m ∧ m.rows.length = 2 := by
 obtain ⟨m, hm, hr⟩ := plan_closed (p := chkPlan) chkPlan_ok (w := 2) (by omega) (rm := List.replicate 0 0) (more := []) (by simp) (by decide) (by decide) (by decide)
  (fun r hr x hx => by
   have : r = [0] := by simp [chkPlan] at hr; exact hr
   subst this
   obtain ⟨i, hi, rfl⟩ := List.mem_map.1 hx
   have : ([0] : List Int)[i]?.getD 0 = 0 := by cases i <;> rfl
   rw [this]
   decide)
  (fun e he => by
   have : e = ⟨1, 0, 0, 0⟩ := by simp [chkPlan] at he; exact he
   subst this
   decide) 9
 rw [List.append_nil] at hm
 have hok := machS_ok hcb (by omega) (by omega) (by omega) hm
 have h1 := hr.few
 have h2 := hok.two
 have h3 : chkPlan.rows.length = 2 := rfl
 exact ⟨m, hm, by omega⟩
set_option maxHeartbeats 2000000 in
theorem WholeMachines_run (p : Plan) (hp : p.ok) (hn : p.cls.length < 2 ^ 63 ∧ p.rows.length < 2 ^ 63 ∧ p.ents.length < 2 ^ 63) : R (T 0) F.swashtop_WholeMachines [planV p] Heap.empty = .ok (.bool true) Heap.empty := by
 generalize hk : (0 : Nat) = k
 have hW : ownW k = .fz := by subst hk; rfl
 clear hk
 rw [swashtop_WholeMachines_R]
 generalize Heap.empty = H
 -- the machine that is looked at first
 have g := (((((Star.nil H).push ⟨planCells p, 1, false⟩).push ⟨[.int .i64 1, .int .i64 0, .int .i64 0, .int .i64 0], 1, false⟩).push ⟨[.int .u8 0], 1, false⟩).push ⟨[.int .u8 0], 1, false⟩).push ⟨[.slice (some ⟨H.n + 2, 0, none⟩) 1 1, .slice (some ⟨H.n + 3, 0, none⟩) 1 1], 1, false⟩
 have g := g.push ⟨[.int .i64 1, .int .i64 0, .int .i64 0, .int .i64 0], 4, false⟩
 simp only [List.nil_append, List.cons_append, hn_push] at g
 generalize hH6 : (((((H.push ⟨planCells p, 1, false⟩).push ⟨[.int .i64 1, .int .i64 0, .int .i64 0, .int .i64 0], 1, false⟩).push ⟨[.int .u8 0], 1, false⟩).push ⟨[.int .u8 0], 1, false⟩).push ⟨[.slice (some ⟨H.n + 2, 0, none⟩) 1 1, .slice (some ⟨H.n + 3, 0, none⟩) 1 1], 1, false⟩).push ⟨[.int .i64 1, .int .i64 0, .int .i64 0, .int .i64 0], 4, false⟩ = H6 at g
 have hP : PlanSl H6 chkPlan (.slice none 0 0) (.slice (some ⟨H.n + 4, 0, none⟩) 2 2) (.slice (some ⟨H.n + 5, 0, none⟩) 1 1) [([0], .slice (some ⟨H.n + 2, 0, none⟩) 1 1), ([0], .slice (some ⟨H.n + 3, 0, none⟩) 1 1)] :=
  ⟨Sl.nil _ _, rfl, fun x hx => by
   have hx : x = ([0], .slice (some ⟨H.n + 2, 0, none⟩) 1 1) ∨ x = ([0], .slice (some ⟨H.n + 3, 0, none⟩) 1 1) := by simpa using hx
   rcases hx with rfl | rfl
   ·exact .inr (.inr ⟨H.n + 2, 0, 1, _, rfl, Nat.le_refl _, g.get 2 rfl, rfl⟩)
   ·exact .inr (.inr ⟨H.n + 3, 0, 1, _, rfl, Nat.le_refl _, g.get 3 rfl, rfl⟩),
   .inr (.inr ⟨H.n + 4, 0, 2, _, rfl, Nat.le_refl _, g.get 4 rfl, rfl⟩), .inr (.inr ⟨H.n + 5, 0, 1, _, rfl, Nat.le_refl _, g.get 5 rfl, rfl⟩)⟩
 have hw1 := Write_anyG k hW chkPlan chkPlan_ok 2 (by omega) 0 (by omega) (by decide) (by decide) (by decide) hP
 rw [planBytes_room] at hw1
 have hcb1 : Byt (planRoom chkPlan 2 (List.replicate 0 0)) := planRoom_byt chkPlan_ok 2 (rep_byt 0)
 have hcl1 := planRoom_len chkPlan_ok 2 (rm := List.replicate 0 0) (by simp) (by decide) (by decide) (by decide)
 obtain ⟨m1, hm1, hm2⟩ := chk_read hcb1
 have hw1 : R (T k) F.swashlaw07_Write [.agg #[.slice none 0 0, .slice (some ⟨H.n + 4, 0, none⟩) 2 2, .slice (some ⟨H.n + 5, 0, none⟩) 1 1, .int .u8 0], .int .i64 2, .int .i64 0] H6 = .ok (lv encB (planRoom chkPlan 2 (List.replicate 0 0))) H6 := hw1
 generalize planRoom chkPlan 2 (List.replicate 0 0) = b1 at hw1 hcb1 hcl1 hm1
 have hrd1 := fun H' => stateRead_run k (H := H') (Sl.lv H' 1 b1) hcb1 9 2 (by omega)
 unfold machO machN at hrd1
 rw [show badM 9 2 = false from rfl, hm1] at hrd1
 simp [machP] at hrd1
 have hst1 := fun H' => States_run k m1 H'
 rw [hm2] at hst1
 have bp := g.get 0 rfl
 by_cases c1 : p.cls.length > 40
 ·have c1' : (p.cls.length : Int) > 40 := by omega
  refine nrm_gc ⟨H6, ?_, g.ext⟩ (.bool _)
  simp -implicitDefEqProofs (disch := omega) [swashtop_WholeMachines, hH6, hw1, hrd1, hst1, bp, c1']
 have c1' : ¬ (p.cls.length : Int) > 40 := by omega
 by_cases c2 : p.rows.length > 8
 ·have c2' : (p.rows.length : Int) > 8 := by omega
  refine nrm_gc ⟨H6, ?_, g.ext⟩ (.bool _)
  simp -implicitDefEqProofs (disch := omega) [swashtop_WholeMachines, hH6, hw1, hrd1, hst1, bp, c1', c2']
 have c2' : ¬ (p.rows.length : Int) > 8 := by omega
 by_cases c3 : p.ents.length > 20
 ·have c3' : (p.ents.length : Int) > 20 := by omega
  refine nrm_gc ⟨H6, ?_, g.ext⟩ (.bool _)
  simp -implicitDefEqProofs (disch := omega) [swashtop_WholeMachines, hH6, hw1, hrd1, hst1, bp, c1', c2', c3']
 have c3' : ¬ (p.ents.length : Int) > 20 := by omega
 have hw2 : ∀ H', R (T k) F.swashlaw07_Write [planV p, .int .i64 2, .int .i64 0] H' = .ok (lv encB (planBytes p 2 0)) H' := fun H' => Write_run k hW p hp 2 (by omega) 0 (by omega) (by omega) (by omega) (by omega) H'
 rw [planBytes_room] at hw2
 have hcb2 : Byt (planRoom p 2 (List.replicate 0 0)) := planRoom_byt hp 2 (rep_byt 0)
 have hcl2 := planRoom_len hp 2 (rm := List.replicate 0 0) (by simp) (by omega) (by omega) (by omega)
 generalize planRoom p 2 (List.replicate 0 0) = b2 at hw2 hcb2 hcl2
 have hrd2 := fun H' => stateRead_run k (H := H') (Sl.lv H' 1 b2) hcb2 40 2 (by omega)
 unfold machO machN at hrd2
 rw [show badM 40 2 = false from rfl] at hrd2
 cases h : machS b2 40 2 with
 | none =>
  rw [h] at hrd2
  simp [machP] at hrd2
  refine nrm_gc ⟨H6, ?_, g.ext⟩ (.bool _)
  simp -implicitDefEqProofs (disch := omega) [swashtop_WholeMachines, hH6, hw1, hrd1, hst1, bp, c1', c2', c3', hw2, hrd2]
 | some m =>
  rw [h] at hrd2
  simp [machP] at hrd2
  have hok := machS_ok hcb2 (by omega) (by omega) (by omega) h
  have htwo := hok.two
  have hclb := hok.cl
  obtain ⟨C, hC⟩ := Int.eq_ofNat_of_zero_le (show 0 ≤ m.classes by omega)
  obtain ⟨S, hS⟩ : ∃ S, m.rows.length = S := ⟨_, rfl⟩
  have hst2 := fun H' => States_run k m H'
  have hcl2 := fun H' => Classes_run k m H'
  rw [hS] at hst2
  rw [hC] at hcl2
  have hpr : (S : Int) * (C : Int) = ((S * C : Nat) : Int) := (Int.natCast_mul S C).symm
  have hbig : S * C ≤ 65536 * 65535 := Nat.mul_le_mul (by omega) (by omega)
  have hmul := fun H => bin_mul Prog 3 H .i64 (S : Int) (C : Int)
  by_cases d1 : S * C > 250
  ·have d1' : (S : Int) * (C : Int) > 250 := by omega
   refine nrm_gc ⟨H6, ?_, g.ext⟩ (.bool _)
   simp -implicitDefEqProofs (disch := omega) [swashtop_WholeMachines, hH6, hw1, hrd1, hst1, bp, c1', c2', c3', hw2, hrd2, hst2, hcl2, d1']
  have d1' : ¬ (S : Int) * (C : Int) > 250 := by omega
  by_cases d2 : C > 11
  ·have d2' : (C : Int) > 11 := by omega
   refine nrm_gc ⟨H6, ?_, g.ext⟩ (.bool _)
   simp -implicitDefEqProofs (disch := omega) [swashtop_WholeMachines, hH6, hw1, hrd1, hst1, bp, c1', c2', c3', hw2, hrd2, hst2, hcl2, d1', d2']
  have d2' : ¬ (C : Int) > 11 := by omega
  have h4 : 4 ≤ C := by omega
  have gn := g.push ⟨[.slice none 0 0, .slice none 0 0, .slice none 0 0, .int .u8 ((C : Int) - 4)], 1, false⟩
  have gn := (gn.more_row (Ext.refl _) (OwnO.nil encB _ 1) (fun b hb => by cases hb)).more_row (Ext.refl _) (OwnO.nil encU _ 1) (fun b hb => by cases hb)
  have gn := gn.more_row (Ext.refl _) (OwnO.nil encEn _ 4) (fun b hb => by cases hb)
  simp only [List.nil_append, List.cons_append] at gn
  have gn : Star H _ [itPlan H6.n ((C : Int) - 4) (.slice none 0 0) (.slice none 0 0) (.slice none 0 0), itRow none 1 (.slice none 0 0) encB [], itRow none 1 (.slice none 0 0) encU [], itRow none 4 (.slice none 0 0) encEn []] := gn.drop 6
  obtain ⟨sc, oc, H7, e7, gn⟩ := wm_l1 k hok (by omega) gn
  obtain ⟨sr, or, se, oe, l, bs, H8, e8, gn, hl, hbs⟩ := wm_l2 k hok hC hS h4 (by omega) gn
  have hb8 := gn.get 0 rfl
  have hanok := anew_ok hok hC h4 (by omega) (S := S) (by omega)
  have hP2 : PlanSl H8 (anewP m C S) sc sr se l := ⟨(gn.row 1 rfl).sl encB_len, hl, fun x hx => by
   obtain ⟨o, ho⟩ := hbs x hx
   exact (gn.memOwn (List.mem_cons_of_mem _ (List.mem_cons_of_mem _ (List.mem_cons_of_mem _ (List.mem_cons_of_mem _ ho))))).sl encB_len, (gn.row 2 rfl).sl encU_len, (gn.row 3 rfl).sl encEn_len⟩
  have hS250 : S ≤ 250 := by
   have : S * 1 ≤ S * C := Nat.mul_le_mul_left _ (by omega)
   omega
  have l1 : (anewP m C S).cls.length ≤ 1000 := by simp [anewP, anewCls]
  have l2 : (anewP m C S).rows.length ≤ 1000 := by simp [anewP]; omega
  have l3 : (anewP m C S).ents.length ≤ 1000 := by simp [anewP]; omega
  have hw3 := Write_anyG k hW (anewP m C S) hanok 2 (by omega) 0 (by omega) l1 l2 l3 hP2
  rw [planBytes_room] at hw3
  have hw3 : R (T k) F.swashlaw07_Write [.agg #[sc, sr, se, .int .u8 ((C : Int) - 4)], .int .i64 2, .int .i64 0] H8 = .ok (lv encB (planRoom (anewP m C S) 2 (List.replicate 0 0))) H8 := hw3
  have hcb3 : Byt (planRoom (anewP m C S) 2 (List.replicate 0 0)) := planRoom_byt hanok 2 (rep_byt 0)
  have hcl3 := planRoom_len hanok 2 (rm := List.replicate 0 0) (by simp) l1 l2 l3
  obtain ⟨o, ho, hook, hoS, hoC, hostep, hocls⟩ := anew_read hok hC hS h4 (by omega) (by omega) (rm := List.replicate 0 0) (more := []) (by simp) (by rw [List.append_nil]; exact hcb3) (g := 40) (by omega)
  rw [List.append_nil] at ho
  generalize planRoom (anewP m C S) 2 (List.replicate 0 0) = b3 at hw3 hcb3 hcl3 ho
  have hrd3 := fun H' => stateRead_run k (H := H') (Sl.lv H' 1 b3) hcb3 40 2 (by omega)
  unfold machO machN at hrd3
  rw [show badM 40 2 = false from rfl, ho] at hrd3
  simp [machP] at hrd3
  have hst3 := fun H' => States_run k o H'
  have hle : ¬ (o.rows.length : Int) > S := by omega
  obtain ⟨H9, e9, hx9⟩ := wm_l4 k hok hook hC hS hoC hoS (by omega) hostep (by omega) H8
  have e10 := wm_l6 k hok hook hocls H9
  refine nrm_gc ⟨H9, ?_, gn.ext.trans hx9⟩ (.bool _)
  simp -implicitDefEqProofs (disch := omega) [-stR_ptr, stR_ptr 4 H6.n 0, stR_ptr 4 (H.n + 1) 0, swashtop_WholeMachines, hH6, hw1, hrd1, hst1, bp, c1', c2', c3', hw2, hrd2, hst2, hcl2, d1', d2', e7, swashtop_WholeMachines_l1k_x0, e8, swashtop_WholeMachines_l2k_x2, hb8, hw3, hrd3, hst3, hle, e9, swashtop_WholeMachines_l4k_x6, e10, swashtop_WholeMachines_l6k_x10]
theorem arg_planN {v : Value} (h : ArgLay planSh v) : ∃ p, v = planV p ∧ p.ok ∧ p.cls.length < 2 ^ 63 ∧ p.rows.length < 2 ^ 63 ∧ p.ents.length < 2 ^ 63 := by
 cases h with
 | agg ss ds vs h =>
  obtain ⟨_, v1, _, _, rfl, h1, h⟩ := h.head
  obtain ⟨_, v2, _, _, rfl, h2, h⟩ := h.head
  obtain ⟨_, v3, _, _, rfl, h3, h⟩ := h.head
  obtain ⟨_, v4, _, _, rfl, h4, h⟩ := h.head
  obtain rfl := h.done
  obtain ⟨a, rfl, na, wa⟩ := Lay.listN (enc := encB) (ok := fun n => 0 ≤ n ∧ n < 256) (fun r cs h => row_B h) h1
  obtain ⟨b, rfl, nb, wb⟩ := Lay.listN (enc := encBR) (ok := Byt) (fun r cs h => row_BR h) h2
  obtain ⟨c, rfl, nc, wc⟩ := Lay.listN (enc := encEn) (ok := fun _ => True) (fun r cs h => row_En h) h3
  obtain ⟨d, rfl, wd⟩ := h4.intv
  exact ⟨⟨a, b, c, d⟩, rfl, ⟨wa, wb, wf_u8 wd⟩, na, nb, nc⟩
theorem WholeMachines_args (vs : List Value) (h : ArgsLay [planSh] vs) : ∃ H', R (T 0) F.swashtop_WholeMachines vs Heap.empty = .ok (.bool true) H' := by
 obtain ⟨v1, _, rfl, h1, h⟩ := h.head
 obtain rfl := h.done
 obtain ⟨p, rfl, hp, hn⟩ := arg_planN h1
 exact ⟨_, WholeMachines_run p hp hn⟩
end Go.Sw
end
section
namespace Go.Sw
open Go.RowKit
theorem names_ok : NamesOk Prog := NamesOk.of (by kernel_rfl)
theorem mixed_ok : Prog.follows .mixedOrders = true := Checked.mixed Go.Proofs.Try.checked
theorem laid_ok : laidOutB Prog = true := by kernel_rfl
theorem cloneP_is : SpIs Prog F.slices_Clone_of_api_Place_api_Place fun _ args H => cloneV 3 12 args H :=
 clone_is (c := { P := Prog, kp := kpS, sp := fun _ => none }) names_ok mixed_ok (t := 31) (e := 34) (by kernel_rfl) fun call a H => (slices_Clone_of_api_Place_api_Place_body 0 _ call a H).trans (by
  unfold slices_Clone_of_api_Place_api_Place cloneF
  simp only [be_31_0, ap_31, beR_bare])
theorem cloneG_is : SpIs Prog F.slices_Clone_of_api_Glyph_api_Glyph fun _ args H => cloneV 2 16 args H :=
 clone_is (c := { P := Prog, kp := kpS, sp := fun _ => none }) names_ok mixed_ok (t := 50) (e := 55) (by kernel_rfl) fun call a H => (slices_Clone_of_api_Glyph_api_Glyph_body 0 _ call a H).trans (by
  unfold slices_Clone_of_api_Glyph_api_Glyph cloneF
  simp only [be_50_0, ap_50, beR_bare])
theorem more_is (f : FuncId) (s : Sp) (h : moreS f = some s) : SpIs Prog f s := by
 unfold moreS at h
 cases h1 : Nat.beq f 77 with
 | true => have := Nat.eq_of_beq_eq_true h1; subst this; rw [h1, cond_true] at h; injection h with h; subst h; exact try_is
 | false =>
 rw [h1, cond_false] at h
 cases h2 : Nat.beq f 147 with
 | true => have := Nat.eq_of_beq_eq_true h2; subst this; rw [h2, cond_true] at h; injection h with h; subst h; exact cloneP_is
 | false =>
 rw [h2, cond_false] at h
 cases h3 : Nat.beq f 151 with
 | true => have := Nat.eq_of_beq_eq_true h3; subst this; rw [h3, cond_true] at h; injection h with h; subst h; exact cloneG_is
 | false =>
 rw [h3, cond_false] at h
 cases h4 : Nat.beq f 152 with
 | true => rw [h4, cond_true] at h; injection h with h; subst h; exact SpIs.stuck _ _
 | false => rw [h4, cond_false] at h; cases h
theorem T_prog (k : Nat) : (T k).c.P = Prog := by unfold T C; rfl
theorem told0 {k : Nat} (hk : oneOf (k % 1000000) speaksT = false) : SpOk (T k).c := by
 have h1 : SpOk (C k) := by
  unfold C
  exact SpOk.none (P := Prog) (kp := kpS) (speaks := speaksT) (more := moreS) (k := k % 1000000) hk more_is
 exact h1
end Go.Sw
end
section
set_option maxRecDepth 100000
set_option linter.unusedVariables false
namespace Go.Sw
noncomputable section
def swap_Read (k : Nat) (call : Caller) (a0 a1 : Value) (h : Heap) : Res Value :=
 (call F.lookup_Read [a0, a1, (.int .i64 2)] h).bind fun v1 h2 =>
 (extractR v1 0 h2).bind fun v3 h4 =>
 (extractR v1 1 h4).bind fun v5 h6 =>
 (binR Prog .neq 69 v5 (.int .i64 0) h6).bind fun v7 h8 =>
 condV (some v7) (
 .ok (.tuple #[(.pointer none), v5]) h8)
 (
 (buildR Prog 252 [(0, v3)] h8).bind fun v9 h10 =>
 (boxR v9 h10).bind fun v11 h12 =>
 .ok (.tuple #[v11, (.int .i64 0)]) h12)
theorem swap_Read_R (k : Nat) (a0 a1 : Value) (h : Heap) : R (T k) F.swap_Read [a0, a1] h = nrm .fz h (swap_Read k (R (T k)) a0 a1 h) :=
 (R_body (t := T k) (T_scott k) (by kernel_rfl) (by kernel_rfl) _ _).trans (by kernel_rfl)
def swap_Table_Run_l1 (k : Nat) (call : Caller) : Env → Heap → Res (AExit × Env) := loopB (C k) call F.swap_Table_Run [1, 0, 1, 0, 0]
def swap_Table_Run_l1k (k : Nat) (call : Caller) : Kont Value := kBlock 0 (kSeq (pieceK (C k) call F.swap_Table_Run [1, 1]) (kDone Prog (resOf Prog F.swap_Table_Run)))
def swap_Table_Run_j1 (k : Nat) (call : Caller) (a0 a1 a5 a6 a10 a11 a12 a19 : Value) (h : Heap) : Res (AExit × Env) :=
 kSeq (pieceK (C k) call F.swap_Table_Run [1, 0, 1, 0, 0, 1, 1, 1]) (kRound (ownOf (C k) F.swap_Table_Run [1, 0, 1, 0, 0])) .normal [(0, a0), (1, a1), (5, a5), (6, a6), (10, a10), (11, a11), (12, a12), (19, a19)] h
def swap_Table_Run_j2 (k : Nat) (call : Caller) (a0 a1 a10 a11 a12 : Value) (h : Heap) : Res (AExit × Env) :=
 kSeq (pieceK (C k) call F.swap_Table_Run [1, 0, 1, 0, 0, 1, 1, 1]) (kRound (ownOf (C k) F.swap_Table_Run [1, 0, 1, 0, 0])) .normal [(0, a0), (1, a1), (10, a10), (11, a11), (12, a12)] h
def swap_Table_Run_j3 (k : Nat) (call : Caller) (a0 a1 a5 a7 a10 a11 a12 a30 : Value) (h : Heap) : Res (AExit × Env) :=
 kSeq (pieceK (C k) call F.swap_Table_Run [1, 0, 1, 0, 0, 1, 1, 1]) (kRound (ownOf (C k) F.swap_Table_Run [1, 0, 1, 0, 0])) .normal [(0, a0), (1, a1), (5, a5), (7, a7), (10, a10), (11, a11), (12, a12), (30, a30)] h
def swap_Table_Run (k : Nat) (call : Caller) (a0 a1 : Value) (h : Heap) : Res Value :=
 (call F.line_Line_Glyphs [a1] h).bind fun v1 h2 =>
 (builtinV Prog .len [50] [v1] h2).bind fun v3 h4 =>
 (loopN (swap_Table_Run_l1 k call) loopFuel [(0, a0), (1, a1), (10, v1), (11, v3), (12, (.int .i64 0))] h4).bind fun r5 h6 =>
 swap_Table_Run_l1k k call r5.1 r5.2 h6
theorem swap_Table_Run_R (k : Nat) (a0 a1 : Value) (h : Heap) : R (T k) F.swap_Table_Run [a0, a1] h = nrm .no h (swap_Table_Run k (R (T k)) a0 a1 h) :=
 (R_body (t := T k) (T_scott k) (by kernel_rfl) (by kernel_rfl) _ _).trans (by kernel_rfl)
theorem swap_Table_Run_l1_eq (k : Nat) (call : Caller) (a0 a1 a10 a11 a12 : Value) (h : Heap) : swap_Table_Run_l1 k call [(0, a0), (1, a1), (10, a10), (11, a11), (12, a12)] h =
 (binR Prog .lss 3 a12 a11 h).bind fun v7 h8 =>
 condV (some v7) (
 (indexAddrR Prog 50 a10 a12 h8).bind fun v9 h10 =>
 (loadR Prog 55 v9 h10).bind fun v11 h12 =>
 (allocR Prog 55 h12).bind fun v13 h14 =>
 (storeR Prog 55 v13 v11 h14).bind fun _v15 h16 =>
 (fieldAddrR Prog 55 v13 0 h16).bind fun v17 h18 =>
 (loadR Prog 3 v17 h18).bind fun v19 h20 =>
 (binR Prog .eql 3 v19 (.int .i64 65535) h20).bind fun v21 h22 =>
 condV (some v21) (
 swap_Table_Run_j1 k call a0 a1 a12 v13 a10 a11 a12 v21 h22)
 (
 (nilR a0 h22).bindN fun v23 h24 =>
 (fieldAddrR Prog 252 v23 0 h24).bindN fun v25 h26 =>
 (loadR Prog 68 v25 h26).bindN fun v27 h28 =>
 (fieldAddrR Prog 55 v13 0 h28).bindN fun v29 h30 =>
 (loadR Prog 3 v29 h30).bindN fun v31 h32 =>
 (call F.lookup_Table_Get [v27, v31] h32).bindT (fun p35 h36 => .panic p35 h36) fun v33 h34 =>
 (extractR v33 0 h34).bindN fun v37 h38 =>
 (extractR v33 1 h38).bindN fun v39 h40 =>
 condV (some v39) (
 (call F.line_Line_Set [a1, a12, v37] h40).bind fun v41 h42 =>
 swap_Table_Run_j2 k call a0 a1 a10 a11 a12 h42)
 (
 swap_Table_Run_j3 k call a0 a1 a12 v37 a10 a11 a12 v39 h40)))
 (
 .ok ((.exit 0), [(0, a0), (1, a1), (10, a10), (11, a11), (12, a12), (13, v7)]) h8) :=
 (loopB_eq _ _).trans (by kernel_rfl)
theorem swap_Table_Run_j1_eq (k : Nat) (call : Caller) (a0 a1 a5 a6 a10 a11 a12 a19 : Value) (h : Heap) : swap_Table_Run_j1 k call a0 a1 a5 a6 a10 a11 a12 a19 h =
 (binR Prog .add 3 a12 (.int .i64 1) h).bind fun v43 h44 =>
 .ok (.normal, [(0, a0), (1, a1), (10, a10), (11, a11), (12, v43)]) h44 := by kernel_rfl
theorem swap_Table_Run_j2_eq (k : Nat) (call : Caller) (a0 a1 a10 a11 a12 : Value) (h : Heap) : swap_Table_Run_j2 k call a0 a1 a10 a11 a12 h =
 (binR Prog .add 3 a12 (.int .i64 1) h).bind fun v45 h46 =>
 .ok (.normal, [(0, a0), (1, a1), (10, a10), (11, a11), (12, v45)]) h46 := by kernel_rfl
theorem swap_Table_Run_j3_eq (k : Nat) (call : Caller) (a0 a1 a5 a7 a10 a11 a12 a30 : Value) (h : Heap) : swap_Table_Run_j3 k call a0 a1 a5 a7 a10 a11 a12 a30 h =
 (binR Prog .add 3 a12 (.int .i64 1) h).bind fun v47 h48 =>
 .ok (.normal, [(0, a0), (1, a1), (10, a10), (11, a11), (12, v47)]) h48 := by kernel_rfl
theorem swap_Table_Run_l1k_x0 (k : Nat) (call : Caller) (a0 a1 a10 a11 a12 a13 : Value) (h : Heap) : swap_Table_Run_l1k k call (.exit 0) [(0, a0), (1, a1), (10, a10), (11, a11), (12, a12), (13, a13)] h =
 .ok (.int .i64 0) h := by kernel_rfl
end
end Go.Sw
end
section
namespace Go.Sw
open Go.RowKit
abbrev swapTab (x : Int × List Pt) : Value := boxV #[tabV x]
theorem Flat.swap (x : Int × List Pt) : Flat (swapTab x) := .boxV (l := [tabV x]) (.cons (Flat.tab x) .nil)
def swapV (o : Option (Int × List Pt)) : Value := match o with | some x => swapTab x | none => .pointer none
theorem swapV_flat (o : Option (Int × List Pt)) : Flat (swapV o) := by
 cases o with
 | none => exact .nilPtr
 | some x => exact Flat.swap x
theorem swapRead_run (k : Nat) {H : Heap} {v : Value} {b : List Int} (hv : Sl H 1 v encB b) (hb : Byt b) (g : Int) (hl : b.length < 2 ^ 31) :
  R (T k) F.swap_Read [v, .int .i64 g] H = .ok (.tuple #[swapV (lookO b g 2), .int .i64 (lookN b g 2)]) H := by
 rw [swap_Read_R]
 have hr := lookRead_run k hv hb g 2 hl
 have fl : Flat (.tuple #[swapV (lookO b g 2), .int .i64 (lookN b g 2)]) := .tupleL (.cons (swapV_flat _) (.cons (.int _ _) .nil))
 cases h : lookO b g 2 with
 | none =>
  have hn : (lookN b g 2 == 0) = false := by
   unfold lookO at h
   unfold lookN
   cases hbad : badS g 2 with
   | true => rfl
   | false => rw [hbad] at h; simp at h; rw [h]; rfl
  rw [h] at hr fl
  simp [lookV] at hr
  refine nrm_fz (H' := H) (v := .tuple #[.pointer none, .int .i64 (lookN b g 2)]) ?_ rfl (Ext.refl H) fl.alive
  simp -implicitDefEqProofs [swap_Read, hr, bne, hn]
 | some x =>
  have hn : lookN b g 2 = 0 := by
   unfold lookO at h
   unfold lookN
   cases hbad : badS g 2 with
   | true => rw [hbad] at h; simp at h
   | false => rw [hbad] at h; simp at h; rw [h]; rfl
  rw [h] at hr fl
  simp [lookV] at hr
  rw [hn] at hr fl ⊢
  refine nrm_fz (L := [H.n]) (H' := H.push ⟨[tabV x], 1, false⟩) (v := .tuple #[ptrV H.n, .int .i64 0]) ?_ ?_ ((Ext.refl H).push _) fl.alive
  ·simp -implicitDefEqProofs [swap_Read, hr, bne]
  ·exact fz_tuple (l := [ptrV H.n, .int .i64 0]) (mapF_cons (fz_box (by omega) (get_push_eq _ _ _ rfl) (mapF_one (fzV_still (v := tabV x) trivial))) (mapF_one (L := []) rfl))
def swapG (ps : List Pt) (g : Gl) : Gl := if g.id = 65535 then g else match getS ps g.id with | some y => ⟨y, g.cl⟩ | none => g
theorem swapRun_star (k : Nat) {H0 H : Heap} {L : List It} (h : Star H0 H L) (i : Nat) {c : Nat} {o : Option Nat} {l : List Gl} (hi : L[i]? = some (itLine c o l)) (hl : l.length < 2 ^ 31)
  (x : Int × List Pt) (hok : ∀ p, p ∈ x.2 → p.ok) (hr : risesS x.2 = true) (hpl : x.2.length < 2 ^ 31) :
  ∃ H', R (T k) F.swap_Table_Run [swapTab x, ptrV c] H = .ok (.int .i64 0) H' ∧ Star H0 H' (L.set i (itLine c o (l.map (swapG x.2)))) := by
 have hil := (List.getElem?_eq_some_iff.1 hi).1
 have hself : L.set i (itLine c o l) = L := by
  obtain ⟨hlt, hx⟩ := List.getElem?_eq_some_iff.1 hi
  rw [← hx, List.set_getElem_self]
 obtain ⟨v, ov, H1, e1, g⟩ := lineGlyphs_any k h i hi (by omega)
 have hget := fun id H => Get_run k x hok hr id hpl H
 have hrdl := (g.sl L.length encG_len (list_at_end _)).len
 obtain ⟨y, e', H2, hr2, rfl, ⟨a, rfl⟩, g2⟩ := loop_up (body := swap_Table_Run_l1 k (R (T k))) l.length
  (fun j e H' => e = [(0, swapTab x), (1, ptrV c), (10, v), (11, .int .i64 l.length), (12, .int .i64 j)] ∧ Star H0 H' ((L.set i (itLine c o ((l.take j).map (swapG x.2) ++ l.drop j))) ++ [itV ov 2 v encG l]))
  (fun y e H' => y = .exit 0 ∧ (∃ a, e = [(0, swapTab x), (1, ptrV c), (10, v), (11, .int .i64 l.length), (12, .int .i64 l.length), (13, a)]) ∧ Star H0 H' ((L.set i (itLine c o (l.map (swapG x.2)))) ++ [itV ov 2 v encG l]))
  (e0 := [(0, swapTab x), (1, ptrV c), (10, v), (11, .int .i64 l.length), (12, .int .i64 0)]) (H0 := H1) ⟨rfl, by simpa [hself] using g⟩ (by omega)
  (fun j e H' hj ⟨he, g⟩ => by
   subst he
   have hlt : (j : Int) < l.length := by omega
   obtain ⟨q, hq⟩ : ∃ q, l[j]? = some q := ⟨_, List.getElem?_eq_getElem hj⟩
   obtain ⟨p, p1, p2⟩ := ((g.sl L.length encG_len (by rw [List.getElem?_append_right (by simp)]; simp; rfl)).rd (by decide) encG_len).2 j q hq
   have gi : ∀ (z : It) (M : List It), ((L.set i z) ++ M)[i]? = some z := fun z M => by rw [List.getElem?_append_left (by simpa using hil), List.getElem?_set_self hil]
   have hx1 : Ext H' (H'.push ⟨encG q, 1, false⟩) := (Ext.refl H').push _
   have g := g.rest hx1
   by_cases hid : q.id = 65535
   ·refine .inl ⟨_, _, ?_, rfl, by rw [← map_keep hq (by unfold swapG; rw [if_pos hid])]; exact g⟩
    have hid' : (q.id == 65535) = true := by simpa using hid
    rw [swap_Table_Run_l1_eq]
    simp -implicitDefEqProofs (disch := omega) [-ldA_ptr, hlt, p1, p2, hid, swap_Table_Run_j1_eq]
   ·have hid' : (q.id == 65535) = false := by simpa using hid
    cases hgq : getS x.2 q.id with
    | none =>
     refine .inl ⟨_, _, ?_, rfl, by rw [← map_keep hq (by unfold swapG; rw [if_neg hid, hgq])]; exact g⟩
     rw [swap_Table_Run_l1_eq]
     simp -implicitDefEqProofs (disch := omega) [-ldA_ptr, hlt, p1, p2, hid', hget, hgq, swap_Table_Run_j3_eq]
    | some y =>
     obtain ⟨H2, e2, g2⟩ := lineSet_star k g i (gi _ _) j y
     refine .inl ⟨_, H2, ?_, rfl, ?_⟩
     ·rw [swap_Table_Run_l1_eq]
      simp -implicitDefEqProofs (disch := omega) [-ldA_ptr, hlt, p1, p2, hid', hget, hgq, e2, swap_Table_Run_j2_eq]
     ·have hst : setG ((l.take j).map (swapG x.2) ++ l.drop j) j y = (l.take (j + 1)).map (swapG x.2) ++ l.drop (j + 1) := by
       unfold setG
       rw [if_pos ⟨by omega, by simp; omega⟩, Int.toNat_natCast, modify_set _ _ _ _ (map_at hq), ← map_step hq]
       congr 1
       unfold swapG
       rw [if_neg hid, hgq]
      rw [hst, List.set_append_left _ _ (by simpa using hil), List.set_set] at g2
      exact g2)
  (fun e H' ⟨he, g⟩ => by
   subst he
   refine ⟨.exit 0, _, H', ?_, by simp, rfl, ⟨.bool false, rfl⟩, by simpa using g⟩
   rw [swap_Table_Run_l1_eq]
   simp -implicitDefEqProofs)
 refine ⟨H2, ?_, g2.drop_last⟩
 rw [swap_Table_Run_R]
 refine nrm_of ?_
 simp -implicitDefEqProofs [swap_Table_Run, e1, hrdl, hr2, swap_Table_Run_l1k_x0]
end Go.Sw
end
section
namespace Go.Sw
open Go.RowKit
end Go.Sw
end
section
set_option maxRecDepth 100000
set_option linter.unusedVariables false
namespace Go.Sw
noncomputable section
end
end Go.Sw
end
section
namespace Go.Sw
open Go.RowKit
abbrev encU2 (n : Int) : List Value := [.int .u16 n]
theorem encU2_len (n : Int) : (encU2 n).length = 1 := rfl
theorem twos_take (s : List Int) {j : Nat} {x : Int} (h : s[j]? = some x) : twos (s.take (j + 1)) = twos (s.take j) ++ bytesOf x 2 := by rw [take_snoc h, twos_snoc]
end Go.Sw
end
section
namespace Go.Sw
open Go.RowKit
end Go.Sw
end
section
namespace Go.Sw
open Go.RowKit
end Go.Sw
end
section
namespace Go.Sw
open Go.RowKit
end Go.Sw
end
section
namespace Go.Sw
open Go.RowKit
end Go.Sw
end
