/-
  Functions' forms, and what is proved of them, part 2.
-/
import Derived.Test.YtnaodjnimkndbaaSwW1
import Derived.Test.YtnaodjnimkndbaaSwLib9
import Derived.Test.YtnaodjnimkndbaaSwCfg
import Derived.Test.YtnaodjnimkndbaaSwLib8
section
namespace Go.Sw
open Go.RowKit
theorem tryV_np {short : TypeId} {call : Caller} {args : List Value} {H : Heap} {v : Value} {H' : Heap} : tryV short call args H ≠ .panic v H' := by
  unfold tryV
  split
  · rename_i g f c
    cases call g (f.toList ++ c.toList) H with
    | stuck => simp [Res.bindP]
    | ok a H => simp [Res.bindP]
    | panic a H =>
      simp only [Res.bindP]
      split
      · rename_i t xs
        cases Nat.beq t short && Nat.beq xs.size 0 <;> simp
      · simp
  · simp
theorem Try_R (k : Nat) (f : Value) (H : Heap) : R (T k) F.view_Try [f] H = tryV shortT (R (T k)) [f] H :=
  ((R_sp (t := T k) (T_scott k) (s := tryV shortT) (by kernel_rfl) [f] H).trans (by
    show nrm Mode.no H _ = _
    cases h : tryV shortT (R (T k)) [f] H with
    | ok a H => rfl
    | stuck => rfl
    | panic a H => exact absurd h tryV_np))
theorem Try_ok (k : Nat) (g : FuncId) (cap : Array Value) {H H' : Heap} {v : Value} (h : R (T k) g cap.toList H = .ok v H') : R (T k) F.view_Try [.func (.func g) #[] cap] H = .ok (.bool true) H' := by
  rw [Try_R]
  unfold tryV
  simp [h, Res.bindP]
theorem Try_no (k : Nat) (g : FuncId) (cap : Array Value) {H H' : Heap} (h : R (T k) g cap.toList H = .panic failV H') : R (T k) F.view_Try [.func (.func g) #[] cap] H = .ok (.bool false) H' := by
  rw [Try_R]
  unfold tryV
  simp [h, Res.bindP]
theorem Sl.boxR {α : Type} {enc : α → List Value} {H : Heap} {m : Nat} {v : Value} {l : List α} (h : Sl H m v enc l) (H' : Heap) : Go.Sw.boxR v H' = newP [v] H' := by
  unfold Go.Sw.boxR
  rw [h.storable, h.cells]
  rfl
end Go.Sw
end
section
namespace Go.Sw
open Go.RowKit
end Go.Sw
end
section
namespace Go.Sw
open Go.RowKit
section
variable {α : Type} {enc : α → List Value}
theorem Star.ix {H0 H : Heap} {L : List It} (h : Star H0 H L) (i : Nat) {o : Option Nat} {m : Nat} {s : Value} {l : List α} (hi : L[i]? = some (itRow o m s enc l)) (k : IntKind) (j : Nat) (hj : j < l.length) :
    ∃ b, o = some b ∧ H.get b = some ⟨rows enc l, m, false⟩ ∧ ∀ H', ixS m s (.int k j) H' = .ok (.pointer (some ⟨b, j * m, none⟩)) H' := by
  obtain ⟨b, h1, _, h3, h4⟩ := (h.row i hi).ix k j hj
  exact ⟨b, h1, h3, h4⟩
end
section
variable {α : Type} {enc : α → List Value}
theorem Sl.lenL {H : Heap} {m : Nat} {v : Value} {l : List α} (h : Sl H m v enc l) : Go.Sw.lenL v = some l.length := by
  rcases h with rfl | ⟨rfl, rfl | rfl | rfl⟩ | ⟨b, off, cap, k, rfl, _⟩ <;> rfl
theorem Sl.first {H : Heap} {m : Nat} {v : Value} {l : List α} (he : ∀ x, (enc x).length = m) (h : Sl H m v enc l) : firstV m l.length v H = some (rows enc l) := by
  rcases h with rfl | ⟨rfl, rfl | rfl | rfl⟩ | ⟨b, off, cap, k, rfl, hc, hk, hr⟩
  · exact lv_first he l H
  · rfl
  · rfl
  · rfl
  · unfold firstV
    dsimp only
    have hl := rows_length he l
    split
    · rename_i h0
      rw [List.length_eq_zero_iff.1 (hl.trans h0)]
    · rename_i h0
      rw [cellsAt_eq, hk, Option.bind_some, hr, if_pos]
      have := congrArg List.length hr
      rw [hl] at this
      simp at this
      omega
theorem Sl.rd {H : Heap} {m : Nat} (hm : 0 < m) {v : Value} {l : List α} (he : ∀ x, (enc x).length = m) (h : Sl H m v enc l) : Rd H m v enc l := by
  have hlen := h.len
  rcases h with rfl | ⟨rfl, _⟩ | ⟨b, off, cap, k, rfl, hc, hk, hr⟩
  · exact Rd.lv he H l
  · exact ⟨hlen, fun i x hx => by simp at hx⟩
  · refine ⟨hlen, fun i x hx => ?_⟩
    have hi := (List.getElem?_eq_some_iff.1 hx).1
    refine ⟨.pointer (some ⟨b, off + i * m, none⟩), fun k H' => ixS_slice m b off l.length cap k i H' hi, ?_⟩
    have hl := rows_length he l
    have hle : i * m + m ≤ l.length * m := by rw [← Nat.succ_mul]; exact Nat.mul_le_mul_right _ hi
    have hkl := congrArg List.length hr
    rw [hl] at hkl
    have hpos : 0 < l.length * m := Nat.mul_pos (by omega) hm
    rw [List.length_take, List.length_drop] at hkl
    have hfit : off + i * m + m ≤ k.cells.length := by omega
    simp only [ldA_ptr, hk, Option.bind_some]
    rw [if_pos hfit]
    have := rows_at he l i x hx
    rw [← hr, List.drop_take, List.take_take, List.drop_drop] at this
    rw [show min m (l.length * m - i * m) = m by omega] at this
    rw [this]
    rfl
theorem Star.more_own {H0 H H' : Heap} {L : List It} (h : Star H0 H L) {m : Nat} {s : Value} {l : List α} (ho : Own H H' m s enc l) (he : Ext H H') : ∃ o, Star H0 H' (L ++ [itRow o m s enc l]) := by
  obtain ⟨o, h1, h2⟩ := ho.toO
  exact ⟨o, h.more_row he h1 fun b hb => ⟨h2 b hb, h1.lt b hb⟩⟩
end
theorem take_snoc {α : Type} {l : List α} {j : Nat} {p : α} (h : l[j]? = some p) : l.take (j + 1) = l.take j ++ [p] := by
  rw [List.take_add_one, h]; rfl
def itV {α : Type} (o : Option Nat) (m : Nat) (v : Value) (enc : α → List Value) (l : List α) : It :=
  ⟨o.toList, fun H => v = lv enc l ∨ OwnO H o m v enc l, fun H H' h hk => h.imp id fun h => h.up fun b hb => hk b (Option.mem_toList.2 hb)⟩
theorem Star.sl {α : Type} {enc : α → List Value} {H0 H : Heap} {L : List It} (h : Star H0 H L) (i : Nat) {o : Option Nat} {m : Nat} {v : Value} {l : List α} (he : ∀ x, (enc x).length = m) (hi : L[i]? = some (itV o m v enc l)) : Sl H m v enc l := by
  rcases h.at i hi with h | h
  · rw [h]; exact Sl.lv _ _ _
  · exact h.sl he
theorem nrm_of {H H' : Heap} {r : Res Value} {v : Value} (h : r = .ok v H') : nrm .no H r = .ok v H' := by rw [h]; rfl
theorem fz_box {n0 : Nat} {H : Heap} {d c e : Nat} {cells r : List Value} {L : List Nat} (hn : n0 ≤ c) (hc : H.get c = some ⟨cells, e, false⟩) (h : mapF (fzV n0 H d) cells = some (r, L)) : fzV n0 H (d + 1) (.pointer (some ⟨c, 0, none⟩)) = some (boxV r.toArray, c :: L) := by
  have h1 : Nat.blt c n0 = false := by
    cases hb : Nat.blt c n0 with
    | false => rfl
    | true => exact absurd (Nat.le_of_ble_eq_true hb) (by omega)
  simp only [fzV, h1, cond_false, hc, List.drop_zero, h]
  rfl
theorem mapF_one {f : Value → Option (Value × List Nat)} {v u : Value} {L : List Nat} (h : f v = some (u, L)) : mapF f [v] = some ([u], L) := by
  have := mapF_cons (f := f) h mapF_nil
  simpa using this
end Go.Sw
end
section
set_option maxRecDepth 100000
set_option linter.unusedVariables false
namespace Go.Sw
noncomputable section
end
end Go.Sw
end
section
set_option maxRecDepth 100000
set_option linter.unusedVariables false
namespace Go.Sw
noncomputable section
def slices_Clone_of_api_Place_api_Place (k : Nat) (call : Caller) (a0 : Value) (h : Heap) : Res Value :=
  (binR Prog .eql 31 a0 (.slice none 0 0) h).bind fun v1 h2 =>
  condV (some v1) (
    .ok (.slice none 0 0) h2)
  (
    (buildSliceR Prog 31 0 [] h2).bind fun v3 h4 =>
    (builtinV Prog .append [31, 31] [v3, a0] h4).bind fun v5 h6 =>
    .ok v5 h6)
theorem slices_Clone_of_api_Place_api_Place_body (k : Nat) (sp : FuncId → Option Sp) (call : Caller) (a0 : Value) (h : Heap) : bodyK { P := Prog, kp := kpS, sp := sp } call F.slices_Clone_of_api_Place_api_Place [a0] h = slices_Clone_of_api_Place_api_Place k call a0 h := by kernel_rfl
def slices_Clone_of_api_Glyph_api_Glyph (k : Nat) (call : Caller) (a0 : Value) (h : Heap) : Res Value :=
  (binR Prog .eql 50 a0 (.slice none 0 0) h).bind fun v1 h2 =>
  condV (some v1) (
    .ok (.slice none 0 0) h2)
  (
    (buildSliceR Prog 50 0 [] h2).bind fun v3 h4 =>
    (builtinV Prog .append [50, 50] [v3, a0] h4).bind fun v5 h6 =>
    .ok v5 h6)
theorem slices_Clone_of_api_Glyph_api_Glyph_body (k : Nat) (sp : FuncId → Option Sp) (call : Caller) (a0 : Value) (h : Heap) : bodyK { P := Prog, kp := kpS, sp := sp } call F.slices_Clone_of_api_Glyph_api_Glyph [a0] h = slices_Clone_of_api_Glyph_api_Glyph k call a0 h := by kernel_rfl
end
end Go.Sw
end
section
set_option maxRecDepth 100000
set_option linter.unusedVariables false
namespace Go.Sw
noncomputable section
end
end Go.Sw
end
section
namespace Go.Sw
open Go.RowKit
structure Gl where
  id : Int
  cl : Int
deriving DecidableEq
abbrev ptrV (c : Nat) : Value := .pointer (some ⟨c, 0, none⟩)
def setG (l : List Gl) (j id : Int) : List Gl := if 0 ≤ j ∧ j < l.length then l.modify j.toNat fun g => ⟨id, g.cl⟩ else l
@[simp] theorem setG_len (l : List Gl) (j id : Int) : (setG l j id).length = l.length := by unfold setG; split <;> simp
def newG (ids : List Int) : List Gl := ids.zipIdx.map fun x => ⟨x.1, (x.2 : Nat)⟩
@[simp] theorem newG_len (ids : List Int) : (newG ids).length = ids.length := by simp [newG]
end Go.Sw
end
section
set_option maxRecDepth 100000
set_option linter.unusedVariables false
namespace Go.Sw
noncomputable section
def state_Machine_States (k : Nat) (call : Caller) (a0 : Value) (h : Heap) : Res Value :=
  (nilR a0 h).bind fun v1 h2 =>
  (fieldAddrR Prog 265 v1 2 h2).bind fun v3 h4 =>
  (loadR Prog 263 v3 h4).bind fun v5 h6 =>
  (builtinV Prog .len [263] [v5] h6).bind fun v7 h8 =>
  .ok v7 h8
theorem state_Machine_States_R (k : Nat) (a0 : Value) (h : Heap) : R (T k) F.state_Machine_States [a0] h = nrm .gc h (state_Machine_States k (R (T k)) a0 h) :=
  (R_body (t := T k) (T_scott k) (by kernel_rfl) _ _).trans (by kernel_rfl)
def state_Machine_Classes (k : Nat) (call : Caller) (a0 : Value) (h : Heap) : Res Value :=
  (nilR a0 h).bind fun v1 h2 =>
  (fieldAddrR Prog 265 v1 0 h2).bind fun v3 h4 =>
  (loadR Prog 3 v3 h4).bind fun v5 h6 =>
  .ok v5 h6
theorem state_Machine_Classes_R (k : Nat) (a0 : Value) (h : Heap) : R (T k) F.state_Machine_Classes [a0] h = nrm .gc h (state_Machine_Classes k (R (T k)) a0 h) :=
  (R_body (t := T k) (T_scott k) (by kernel_rfl) _ _).trans (by kernel_rfl)
def state_Machine_Step (k : Nat) (call : Caller) (a0 a1 a2 : Value) (h : Heap) : Res Value :=
  (allocR Prog 150 h).bind fun v1 h2 =>
  (binR Prog .lss 3 a1 (.int .i64 0) h2).bind fun v3 h4 =>
  ((bif wantVal v3 false then Res.ok a1 h4 else Res.ok undef h4)).bind fun v5 h6 =>
  ((bif wantVal v3 false then Res.ok a0 h6 else Res.ok undef h6)).bind fun v7 h8 =>
  ((bif wantVal v3 false then nilR v7 h8 else Res.ok undef h8)).bind fun v9 h10 =>
  ((bif wantVal v3 false then fieldAddrR Prog 265 v9 2 h10 else Res.ok undef h10)).bind fun v11 h12 =>
  ((bif wantVal v3 false then loadR Prog 263 v11 h12 else Res.ok undef h12)).bind fun v13 h14 =>
  ((bif wantVal v3 false then builtinV Prog .len [263] [v13] h14 else Res.ok undef h14)).bind fun v15 h16 =>
  ((bif wantVal v3 false then binR Prog .geq 3 v5 v15 h16 else Res.ok undef h16)).bind fun v17 h18 =>
  (condV (some v3) (Res.ok (.bool true) h18) (Res.ok v17 h18)).bind fun v19 h20 =>
  ((bif wantVal v19 false then Res.ok a2 h20 else Res.ok undef h20)).bind fun v21 h22 =>
  ((bif wantVal v19 false then binR Prog .lss 3 v21 (.int .i64 0) h22 else Res.ok undef h22)).bind fun v23 h24 =>
  (condV (some v19) (Res.ok (.bool true) h24) (Res.ok v23 h24)).bind fun v25 h26 =>
  ((bif wantVal v25 false then Res.ok a2 h26 else Res.ok undef h26)).bind fun v27 h28 =>
  ((bif wantVal v25 false then Res.ok a0 h28 else Res.ok undef h28)).bind fun v29 h30 =>
  ((bif wantVal v25 false then nilR v29 h30 else Res.ok undef h30)).bind fun v31 h32 =>
  ((bif wantVal v25 false then fieldAddrR Prog 265 v31 0 h32 else Res.ok undef h32)).bind fun v33 h34 =>
  ((bif wantVal v25 false then loadR Prog 3 v33 h34 else Res.ok undef h34)).bind fun v35 h36 =>
  ((bif wantVal v25 false then binR Prog .geq 3 v27 v35 h36 else Res.ok undef h36)).bind fun v37 h38 =>
  (condV (some v25) (Res.ok (.bool true) h38) (Res.ok v37 h38)).bind fun v39 h40 =>
  condV (some v39) (
    (buildR Prog 150 [] h40).bind fun v41 h42 =>
    (storeR Prog 150 v1 v41 h42).bind fun _v43 h44 =>
    (loadR Prog 150 v1 h44).bind fun v45 h46 =>
    .ok (.tuple #[v45, (.bool false)]) h46)
  (
    (nilR a0 h40).bindN fun v47 h48 =>
    (fieldAddrR Prog 265 v47 3 h48).bindN fun v49 h50 =>
    (loadR Prog 144 v49 h50).bindN fun v51 h52 =>
    (nilR a0 h52).bindN fun v53 h54 =>
    (fieldAddrR Prog 265 v53 2 h54).bindN fun v55 h56 =>
    (loadR Prog 263 v55 h56).bindN fun v57 h58 =>
    (indexAddrR Prog 263 v57 a1 h58).bindN fun v59 h60 =>
    (loadR Prog 28 v59 h60).bindN fun v61 h62 =>
    (indexAddrR Prog 28 v61 a2 h62).bindN fun v63 h64 =>
    (loadR Prog 3 v63 h64).bindN fun v65 h66 =>
    (indexAddrR Prog 144 v51 v65 h66).bindN fun v67 h68 =>
    (loadR Prog 150 v67 h68).bindN fun v69 h70 =>
    (storeR Prog 150 v1 v69 h70).bindN fun _v71 h72 =>
    (loadR Prog 150 v1 h72).bind fun v73 h74 =>
    .ok (.tuple #[v73, (.bool true)]) h74)
theorem state_Machine_Step_R (k : Nat) (a0 a1 a2 : Value) (h : Heap) : R (T k) F.state_Machine_Step [a0, a1, a2] h = nrm .gc h (state_Machine_Step k (R (T k)) a0 a1 a2 h) :=
  (R_body (t := T k) (T_scott k) (by kernel_rfl) _ _).trans (by kernel_rfl)
def state_Machine_Entries (k : Nat) (call : Caller) (a0 : Value) (h : Heap) : Res Value :=
  (buildSliceR Prog 144 0 [] h).bind fun v1 h2 =>
  (nilR a0 h2).bind fun v3 h4 =>
  (fieldAddrR Prog 265 v3 3 h4).bind fun v5 h6 =>
  (loadR Prog 144 v5 h6).bind fun v7 h8 =>
  (builtinV Prog .append [144, 144] [v1, v7] h8).bind fun v9 h10 =>
  .ok v9 h10
theorem state_Machine_Entries_R (k : Nat) (a0 : Value) (h : Heap) : R (T k) F.state_Machine_Entries [a0] h = nrm (own k) h (state_Machine_Entries k (R (T k)) a0 h) :=
  (R_body (t := T k) (T_scott k) (by kernel_rfl) _ _).trans (by kernel_rfl)
def state_Take_l1 (k : Nat) (call : Caller) : Env → Heap → Res (AExit × Env) := loopB (C k) call F.state_Take [1, 1, 1, 1, 1, 1, 0, 0, 0]
def state_Take_l1k (k : Nat) (call : Caller) : Kont Value := kBlock 0 (kSeq (pieceK (C k) call F.state_Take [1, 1, 1, 1, 1, 1, 1]) (kDone Prog (resOf Prog F.state_Take)))
def state_Take_l2 (k : Nat) (call : Caller) : Env → Heap → Res (AExit × Env) := loopB (C k) call F.state_Take [1, 1, 1, 1, 1, 1, 0, 0, 0, 1, 0, 0, 0, 0]
def state_Take_l2k (k : Nat) (call : Caller) : Kont (AExit × Env) := kBlock 2 (kSeq (pieceK (C k) call F.state_Take [1, 1, 1, 1, 1, 1, 0, 0, 0, 1, 0, 1]) (kBlock 1 (kRound (ownOf (C k) F.state_Take [1, 1, 1, 1, 1, 1, 0, 0, 0]))))
def state_Take_l3 (k : Nat) (call : Caller) : Env → Heap → Res (AExit × Env) := loopB (C k) call F.state_Take [1, 1, 1, 1, 1, 1, 0, 0, 0, 1, 0, 1, 0, 0]
def state_Take_l3k (k : Nat) (call : Caller) : Kont (AExit × Env) := kBlock 4 (kBlock 1 (kRound (ownOf (C k) F.state_Take [1, 1, 1, 1, 1, 1, 0, 0, 0])))
def state_Take (k : Nat) (call : Caller) (a0 a1 a2 : Value) (h : Heap) : Res Value :=
  (boxR a0 h).bind fun v1 h2 =>
  (loadR Prog 83 v1 h2).bind fun v3 h4 =>
  (call F.view_View_U32 [v3, (.int .i64 0)] h4).bind fun v5 h6 =>
  (binR Prog .geq 3 v5 (.int .i64 4) h6).bind fun v7 h8 =>
  ((bif wantVal v7 true then Res.ok v5 h8 else Res.ok undef h8)).bind fun v9 h10 =>
  ((bif wantVal v7 true then binR Prog .leq 3 v9 (.int .i64 65535) h10 else Res.ok undef h10)).bind fun v11 h12 =>
  (condV (some v7) (Res.ok v11 h12) (Res.ok (.bool false) h12)).bind fun v13 h14 =>
  (call F.view_Need [v13] h14).bind fun v15 h16 =>
  (loadR Prog 83 v1 h16).bindN fun v17 h18 =>
  (loadR Prog 83 v1 h18).bindN fun v19 h20 =>
  (call F.view_View_U32 [v19, (.int .i64 4)] h20).bindT (fun p23 h24 => .panic p23 h24) fun v21 h22 =>
  (call F.view_View_Rest [v17, v21] h22).bindT (fun p27 h28 => chkR ((okVal (loadR Prog 83 v1 h22) v17 && true) && true) (.panic p27 h28)) fun v25 h26 =>
  (call F.lookup_Take [v25, a1, (.int .i64 2)] h26).bindT (fun p31 h32 => chkR ((okVal (loadR Prog 83 v1 h22) v17 && true) && true) (.panic p31 h32)) fun v29 h30 =>
  (buildR Prog 265 [(0, v5), (1, v29)] h30).bindN fun v33 h34 =>
  (boxR v33 h34).bindN fun v35 h36 =>
  chkR ((okVal (loadR Prog 83 v1 h22) v17 && true) && true) (
  (loadR Prog 83 v1 h36).bindN fun v37 h38 =>
  (loadR Prog 83 v1 h38).bindN fun v39 h40 =>
  (call F.view_View_U32 [v39, (.int .i64 8)] h40).bindT (fun p43 h44 => (loadR Prog 83 v1 h40).bindN fun v45 h46 => (loadR Prog 83 v1 h46).bindN fun v47 h48 => (allocR Prog 267 h48).bindN fun v49 h50 => chkR ((okVal (loadR Prog 83 v1 h36) v45 && true) && ((okVal (loadR Prog 83 v1 h36) v47 && true) && true)) (.panic p43 h44)) fun v41 h42 =>
  (call F.view_View_Rest [v37, v41] h42).bindT (fun p53 h54 => (loadR Prog 83 v1 h42).bindN fun v55 h56 => (loadR Prog 83 v1 h56).bindN fun v57 h58 => (allocR Prog 267 h58).bindN fun v59 h60 => chkR ((okVal (loadR Prog 83 v1 h42) v37 && true) && ((okVal (loadR Prog 83 v1 h36) v55 && (okVal (loadR Prog 83 v1 h42) v55 && true)) && ((okVal (loadR Prog 83 v1 h36) v57 && (okVal (loadR Prog 83 v1 h42) v57 && true)) && true))) (.panic p53 h54)) fun v51 h52 =>
  (loadR Prog 83 v1 h52).bindN fun v61 h62 =>
  (loadR Prog 83 v1 h62).bindN fun v63 h64 =>
  (call F.view_View_U32 [v63, (.int .i64 12)] h64).bindT (fun p67 h68 => (allocR Prog 267 h64).bindN fun v69 h70 => chkR ((okVal (loadR Prog 83 v1 h42) v37 && true) && ((okVal (loadR Prog 83 v1 h36) v61 && (okVal (loadR Prog 83 v1 h42) v61 && true)) && ((okVal (loadR Prog 83 v1 h36) v63 && (okVal (loadR Prog 83 v1 h42) v63 && true)) && true))) (.panic p67 h68)) fun v65 h66 =>
  (call F.view_View_Rest [v61, v65] h66).bindT (fun p73 h74 => (allocR Prog 267 h66).bindN fun v75 h76 => chkR ((okVal (loadR Prog 83 v1 h42) v37 && true) && ((okVal (loadR Prog 83 v1 h36) v61 && (okVal (loadR Prog 83 v1 h42) v61 && (okVal (loadR Prog 83 v1 h66) v61 && true))) && ((okVal (loadR Prog 83 v1 h36) v63 && (okVal (loadR Prog 83 v1 h42) v63 && true)) && true))) (.panic p73 h74)) fun v71 h72 =>
  (buildR Prog 267 [(0, v35), (1, v51), (2, v71), (3, a2)] h72).bindN fun v77 h78 =>
  (allocR Prog 267 h78).bindN fun v79 h80 =>
  (storeR Prog 267 v79 v77 h80).bindN fun _v81 h82 =>
  chkR ((okVal (loadR Prog 83 v1 h42) v37 && true) && ((okVal (loadR Prog 83 v1 h36) v61 && (okVal (loadR Prog 83 v1 h42) v61 && (okVal (loadR Prog 83 v1 h66) v61 && true))) && ((okVal (loadR Prog 83 v1 h36) v63 && (okVal (loadR Prog 83 v1 h42) v63 && true)) && true))) (
  (loopN (state_Take_l1 k call) loopFuel [(8, v35), (9, v79), (10, (.int .i64 2)), (11, (.int .i64 0))] h82).bind fun r83 h84 =>
  state_Take_l1k k call r83.1 r83.2 h84))
theorem state_Take_R (k : Nat) (a0 a1 a2 : Value) (h : Heap) : R (T k) F.state_Take [a0, a1, a2] h = nrm .fz h (state_Take k (R (T k)) a0 a1 a2 h) :=
  (R_body (t := T k) (T_scott k) (by kernel_rfl) _ _).trans (by kernel_rfl)
theorem state_Take_l1_eq (k : Nat) (call : Caller) (a8 a9 a10 a11 : Value) (h : Heap) : state_Take_l1 k call [(8, a8), (9, a9), (10, a10), (11, a11)] h =
  (nilR a8 h).bind fun v85 h86 =>
  (fieldAddrR Prog 265 v85 2 h86).bind fun v87 h88 =>
  (loadR Prog 263 v87 h88).bind fun v89 h90 =>
  (builtinV Prog .len [263] [v89] h90).bind fun v91 h92 =>
  (binR Prog .lss 3 v91 a10 h92).bind fun v93 h94 =>
  ((bif wantVal v93 false then Res.ok a8 h94 else Res.ok undef h94)).bind fun v95 h96 =>
  ((bif wantVal v93 false then nilR v95 h96 else Res.ok undef h96)).bind fun v97 h98 =>
  ((bif wantVal v93 false then fieldAddrR Prog 265 v97 3 h98 else Res.ok undef h98)).bind fun v99 h100 =>
  ((bif wantVal v93 false then loadR Prog 144 v99 h100 else Res.ok undef h100)).bind fun v101 h102 =>
  ((bif wantVal v93 false then builtinV Prog .len [144] [v101] h102 else Res.ok undef h102)).bind fun v103 h104 =>
  ((bif wantVal v93 false then Res.ok a11 h104 else Res.ok undef h104)).bind fun v105 h106 =>
  ((bif wantVal v93 false then binR Prog .lss 3 v103 v105 h106 else Res.ok undef h106)).bind fun v107 h108 =>
  (condV (some v93) (Res.ok (.bool true) h108) (Res.ok v107 h108)).bind fun v109 h110 =>
  condV (some v109) (
    (loopN (state_Take_l2 k call) loopFuel [(8, a8), (9, a9), (10, a10), (11, a11)] h110).bind fun r111 h112 =>
    state_Take_l2k k call r111.1 r111.2 h112)
  (
    .ok ((.exit 0), [(8, a8), (9, a9), (10, a10), (11, a11), (56, v109)]) h110) :=
  (loopB_eq _ _).trans (by kernel_rfl)
theorem state_Take_l2_eq (k : Nat) (call : Caller) (a8 a9 a10 a11 : Value) (h : Heap) : state_Take_l2 k call [(8, a8), (9, a9), (10, a10), (11, a11)] h =
  (nilR a8 h).bind fun v113 h114 =>
  (fieldAddrR Prog 265 v113 2 h114).bind fun v115 h116 =>
  (loadR Prog 263 v115 h116).bind fun v117 h118 =>
  (builtinV Prog .len [263] [v117] h118).bind fun v119 h120 =>
  (binR Prog .lss 3 v119 a10 h120).bind fun v121 h122 =>
  condV (some v121) (
    (loadR Prog 267 a9 h122).bind fun v123 h124 =>
    (call F.state_reader_row [v123] h124).bind fun v125 h126 =>
    (builtinV Prog .max [3, 3] [a11, v125] h126).bind fun v127 h128 =>
    .ok (.normal, [(8, a8), (9, a9), (10, a10), (11, v127)]) h128)
  (
    .ok ((.exit 2), [(8, a8), (9, a9), (10, a10), (11, a11), (63, v121)]) h122) :=
  (loopB_eq _ _).trans (by kernel_rfl)
theorem state_Take_l1k_x0 (k : Nat) (call : Caller) (a8 a9 a10 a11 a56 : Value) (h : Heap) : state_Take_l1k k call (.exit 0) [(8, a8), (9, a9), (10, a10), (11, a11), (56, a56)] h =
  .ok a8 h := by kernel_rfl
theorem state_Take_l2k_x2 (k : Nat) (call : Caller) (a8 a9 a10 a11 a63 : Value) (h : Heap) : state_Take_l2k k call (.exit 2) [(8, a8), (9, a9), (10, a10), (11, a11), (63, a63)] h =
  (loopN (state_Take_l3 k call) loopFuel [(8, a8), (9, a9), (10, a10), (11, a11)] h).bind fun r129 h130 =>
  state_Take_l3k k call r129.1 r129.2 h130 := by kernel_rfl
theorem state_Take_l3_eq (k : Nat) (call : Caller) (a8 a9 a10 a11 : Value) (h : Heap) : state_Take_l3 k call [(8, a8), (9, a9), (10, a10), (11, a11)] h =
  (nilR a8 h).bind fun v131 h132 =>
  (fieldAddrR Prog 265 v131 3 h132).bind fun v133 h134 =>
  (loadR Prog 144 v133 h134).bind fun v135 h136 =>
  (builtinV Prog .len [144] [v135] h136).bind fun v137 h138 =>
  (binR Prog .lss 3 v137 a11 h138).bind fun v139 h140 =>
  condV (some v139) (
    (loadR Prog 267 a9 h140).bind fun v141 h142 =>
    (call F.state_reader_entry [v141] h142).bind fun v143 h144 =>
    (builtinV Prog .max [3, 3] [a10, v143] h144).bind fun v145 h146 =>
    .ok (.normal, [(8, a8), (9, a9), (10, v145), (11, a11)]) h146)
  (
    .ok ((.exit 4), [(8, a8), (9, a9), (10, a10), (11, a11), (74, v139)]) h140) :=
  (loopB_eq _ _).trans (by kernel_rfl)
theorem state_Take_l3k_x4 (k : Nat) (call : Caller) (a8 a9 a10 a11 a74 : Value) (h : Heap) : state_Take_l3k k call (.exit 4) [(8, a8), (9, a9), (10, a10), (11, a11), (74, a74)] h =
  .ok (.normal, [(8, a8), (9, a9), (10, a10), (11, a11)]) h := by kernel_rfl
def state_reader_row_l1 (k : Nat) (call : Caller) : Env → Heap → Res (AExit × Env) := loopB (C k) call F.state_reader_row [1, 1, 1, 1, 1, 0, 1, 0, 0]
def state_reader_row_l1k (k : Nat) (call : Caller) : Kont Value := kBlock 0 (kSeq (pieceK (C k) call F.state_reader_row [1, 1, 1, 1, 1, 1]) (kDone Prog (resOf Prog F.state_reader_row)))
def state_reader_row (k : Nat) (call : Caller) (a0 : Value) (h : Heap) : Res Value :=
  (boxR a0 h).bind fun v1 h2 =>
  (fieldAddrR Prog 267 v1 0 h2).bind fun v3 h4 =>
  (loadR Prog 133 v3 h4).bind fun v5 h6 =>
  (nilR v5 h6).bind fun v7 h8 =>
  (fieldAddrR Prog 265 v7 0 h8).bind fun v9 h10 =>
  (loadR Prog 3 v9 h10).bind fun v11 h12 =>
  (fieldAddrR Prog 267 v1 1 h12).bindN fun v13 h14 =>
  (loadR Prog 83 v13 h14).bindN fun v15 h16 =>
  (binR Prog .mul 3 (.int .i64 2) v11 h16).bindN fun v17 h18 =>
  (fieldAddrR Prog 267 v1 0 h18).bindN fun v19 h20 =>
  (loadR Prog 133 v19 h20).bindN fun v21 h22 =>
  (nilR v21 h22).bindN fun v23 h24 =>
  (fieldAddrR Prog 265 v23 2 h24).bindN fun v25 h26 =>
  (loadR Prog 263 v25 h26).bindN fun v27 h28 =>
  (builtinV Prog .len [263] [v27] h28).bindN fun v29 h30 =>
  (binR Prog .mul 3 v17 v29 h30).bindN fun v31 h32 =>
  (call F.view_View_Rows [v15, v31, v11, (.int .i64 2)] h32).bindT (fun p35 h36 => (allocR Prog 83 h32).bindN fun v37 h38 => .panic p35 h36) fun v33 h34 =>
  (allocR Prog 83 h34).bindN fun v39 h40 =>
  (storeR Prog 83 v39 v33 h40).bindN fun _v41 h42 =>
  (makeSliceV Prog 28 v11 v11 h42).bind fun v43 h44 =>
  (builtinV Prog .len [28] [v43] h44).bind fun v45 h46 =>
  (loopN (state_reader_row_l1 k call) loopFuel [(1, v1), (4, v39), (5, v43), (6, (.int .i64 0)), (29, v45), (30, (.int .i64 0))] h46).bind fun r47 h48 =>
  state_reader_row_l1k k call r47.1 r47.2 h48
theorem state_reader_row_R (k : Nat) (a0 : Value) (h : Heap) : R (T k) F.state_reader_row [a0] h = nrm .no h (state_reader_row k (R (T k)) a0 h) :=
  (R_body (t := T k) (T_scott k) (by kernel_rfl) _ _).trans (by kernel_rfl)
theorem state_reader_row_l1_eq (k : Nat) (call : Caller) (a1 a4 a5 a6 a29 a30 : Value) (h : Heap) : state_reader_row_l1 k call [(1, a1), (4, a4), (5, a5), (6, a6), (29, a29), (30, a30)] h =
  (binR Prog .lss 3 a30 a29 h).bind fun v49 h50 =>
  condV (some v49) (
    (loadR Prog 83 a4 h50).bind fun v51 h52 =>
    (binR Prog .mul 3 (.int .i64 2) a30 h52).bind fun v53 h54 =>
    (call F.view_View_U16 [v51, v53] h54).bind fun v55 h56 =>
    (indexAddrR Prog 28 a5 a30 h56).bind fun v57 h58 =>
    (storeR Prog 3 v57 v55 h58).bind fun _v59 h60 =>
    (indexAddrR Prog 28 a5 a30 h60).bind fun v61 h62 =>
    (loadR Prog 3 v61 h62).bind fun v63 h64 =>
    (binR Prog .add 3 v63 (.int .i64 1) h64).bind fun v65 h66 =>
    (builtinV Prog .max [3, 3] [a6, v65] h66).bind fun v67 h68 =>
    (binR Prog .add 3 a30 (.int .i64 1) h68).bind fun v69 h70 =>
    .ok (.normal, [(1, a1), (4, a4), (5, a5), (6, v67), (29, a29), (30, v69)]) h70)
  (
    .ok ((.exit 0), [(1, a1), (4, a4), (5, a5), (6, a6), (29, a29), (30, a30), (31, v49)]) h50) :=
  (loopB_eq _ _).trans (by kernel_rfl)
theorem state_reader_row_l1k_x0 (k : Nat) (call : Caller) (a1 a4 a5 a6 a29 a30 a31 : Value) (h : Heap) : state_reader_row_l1k k call (.exit 0) [(1, a1), (4, a4), (5, a5), (6, a6), (29, a29), (30, a30), (31, a31)] h =
  (fieldAddrR Prog 267 a1 0 h).bindN fun v71 h72 =>
  (loadR Prog 133 v71 h72).bindN fun v73 h74 =>
  (fieldAddrR Prog 267 a1 0 h74).bindN fun v75 h76 =>
  (loadR Prog 133 v75 h76).bindN fun v77 h78 =>
  (nilR v77 h78).bindN fun v79 h80 =>
  (fieldAddrR Prog 265 v79 2 h80).bindN fun v81 h82 =>
  (loadR Prog 263 v81 h82).bindN fun v83 h84 =>
  (buildSliceR Prog 263 1 [(0, a5)] h84).bindN fun v85 h86 =>
  (builtinV Prog .append [263, 263] [v83, v85] h86).bindN fun v87 h88 =>
  (nilR v73 h88).bindN fun v89 h90 =>
  (fieldAddrR Prog 265 v89 2 h90).bindN fun v91 h92 =>
  (storeR Prog 263 v91 v87 h92).bindN fun _v93 h94 =>
  chkR ((okVal (loadR Prog 133 v71 h86) v73 && (okVal (loadR Prog 133 v71 h88) v73 && true)) && ((okVal (loadR Prog 133 v75 h86) v77 && true) && ((okVal (loadR Prog 263 v81 h86) v83 && true) && true))) (
  .ok a6 h94) := by kernel_rfl
def state_reader_entry_j1 (k : Nat) (call : Caller) (a1 a4 a5 : Value) (h : Heap) : Res Value :=
  kSeq (pieceK (C k) call F.state_reader_entry [1, 1, 1, 1, 1]) (kDone Prog (resOf Prog F.state_reader_entry)) .normal [(1, a1), (4, a4), (5, a5)] h
def state_reader_entry_j2 (k : Nat) (call : Caller) (a1 a4 a5 a29 : Value) (h : Heap) : Res Value :=
  kSeq (pieceK (C k) call F.state_reader_entry [1, 1, 1, 1, 1]) (kDone Prog (resOf Prog F.state_reader_entry)) .normal [(1, a1), (4, a4), (5, a5), (29, a29)] h
def state_reader_entry_j3 (k : Nat) (call : Caller) (a1 a5 : Value) (h : Heap) : Res Value :=
  kSeq (pieceK (C k) call F.state_reader_entry [1, 1, 1, 1, 1, 1]) (kDone Prog (resOf Prog F.state_reader_entry)) .normal [(1, a1), (5, a5)] h
def state_reader_entry_j4 (k : Nat) (call : Caller) (a1 a4 a5 a35 : Value) (h : Heap) : Res Value :=
  kSeq (pieceK (C k) call F.state_reader_entry [1, 1, 1, 1, 1, 1]) (kDone Prog (resOf Prog F.state_reader_entry)) .normal [(1, a1), (4, a4), (5, a5), (35, a35)] h
def state_reader_entry (k : Nat) (call : Caller) (a0 : Value) (h : Heap) : Res Value :=
  (boxR a0 h).bind fun v1 h2 =>
  (fieldAddrR Prog 267 v1 3 h2).bind fun v3 h4 =>
  (loadR Prog 3 v3 h4).bind fun v5 h6 =>
  (binR Prog .mul 3 (.int .i64 2) v5 h6).bind fun v7 h8 =>
  (binR Prog .add 3 (.int .i64 4) v7 h8).bind fun v9 h10 =>
  (fieldAddrR Prog 267 v1 2 h10).bindN fun v11 h12 =>
  (loadR Prog 83 v11 h12).bindN fun v13 h14 =>
  (fieldAddrR Prog 267 v1 0 h14).bindN fun v15 h16 =>
  (loadR Prog 133 v15 h16).bindN fun v17 h18 =>
  (nilR v17 h18).bindN fun v19 h20 =>
  (fieldAddrR Prog 265 v19 3 h20).bindN fun v21 h22 =>
  (loadR Prog 144 v21 h22).bindN fun v23 h24 =>
  (builtinV Prog .len [144] [v23] h24).bindN fun v25 h26 =>
  (binR Prog .mul 3 v9 v25 h26).bindN fun v27 h28 =>
  (call F.view_View_Cut [v13, v27, v9] h28).bindT (fun p31 h32 => (allocR Prog 83 h28).bindN fun v33 h34 => .panic p31 h32) fun v29 h30 =>
  (allocR Prog 83 h30).bindN fun v35 h36 =>
  (storeR Prog 83 v35 v29 h36).bindN fun _v37 h38 =>
  (loadR Prog 83 v35 h38).bindN fun v39 h40 =>
  (call F.view_View_U16 [v39, (.int .i64 0)] h40).bindT (fun p43 h44 => (loadR Prog 83 v35 h40).bindN fun v45 h46 => (allocR Prog 150 h46).bindN fun v47 h48 => chkR ((okVal (loadR Prog 83 v35 h38) v45 && true) && true) (.panic p43 h44)) fun v41 h42 =>
  (loadR Prog 83 v35 h42).bindN fun v49 h50 =>
  (call F.view_View_U16 [v49, (.int .i64 2)] h50).bindT (fun p53 h54 => (allocR Prog 150 h50).bindN fun v55 h56 => chkR ((okVal (loadR Prog 83 v35 h38) v49 && true) && true) (.panic p53 h54)) fun v51 h52 =>
  (buildR Prog 150 [(0, v41), (1, v51)] h52).bindN fun v57 h58 =>
  (allocR Prog 150 h58).bindN fun v59 h60 =>
  (storeR Prog 150 v59 v57 h60).bindN fun _v61 h62 =>
  chkR ((okVal (loadR Prog 83 v35 h38) v49 && true) && true) (
  (fieldAddrR Prog 267 v1 3 h62).bind fun v63 h64 =>
  (loadR Prog 3 v63 h64).bind fun v65 h66 =>
  (binR Prog .gtr 3 v65 (.int .i64 0) h66).bind fun v67 h68 =>
  condV (some v67) (
    (loadR Prog 83 v35 h68).bind fun v69 h70 =>
    (call F.view_View_U16 [v69, (.int .i64 4)] h70).bind fun v71 h72 =>
    (fieldAddrR Prog 150 v59 2 h72).bind fun v73 h74 =>
    (storeR Prog 3 v73 v71 h74).bind fun _v75 h76 =>
    state_reader_entry_j1 k call v1 v35 v59 h76)
  (
    state_reader_entry_j2 k call v1 v35 v59 v67 h68))
theorem state_reader_entry_R (k : Nat) (a0 : Value) (h : Heap) : R (T k) F.state_reader_entry [a0] h = nrm .no h (state_reader_entry k (R (T k)) a0 h) :=
  (R_body (t := T k) (T_scott k) (by kernel_rfl) _ _).trans (by kernel_rfl)
theorem state_reader_entry_j1_eq (k : Nat) (call : Caller) (a1 a4 a5 : Value) (h : Heap) : state_reader_entry_j1 k call a1 a4 a5 h =
  (fieldAddrR Prog 267 a1 3 h).bind fun v77 h78 =>
  (loadR Prog 3 v77 h78).bind fun v79 h80 =>
  (binR Prog .gtr 3 v79 (.int .i64 1) h80).bind fun v81 h82 =>
  condV (some v81) (
    (loadR Prog 83 a4 h82).bind fun v83 h84 =>
    (call F.view_View_U16 [v83, (.int .i64 6)] h84).bind fun v85 h86 =>
    (fieldAddrR Prog 150 a5 3 h86).bind fun v87 h88 =>
    (storeR Prog 3 v87 v85 h88).bind fun _v89 h90 =>
    state_reader_entry_j3 k call a1 a5 h90)
  (
    state_reader_entry_j4 k call a1 a4 a5 v81 h82) := by kernel_rfl
theorem state_reader_entry_j2_eq (k : Nat) (call : Caller) (a1 a4 a5 a29 : Value) (h : Heap) : state_reader_entry_j2 k call a1 a4 a5 a29 h =
  (fieldAddrR Prog 267 a1 3 h).bind fun v91 h92 =>
  (loadR Prog 3 v91 h92).bind fun v93 h94 =>
  (binR Prog .gtr 3 v93 (.int .i64 1) h94).bind fun v95 h96 =>
  condV (some v95) (
    (loadR Prog 83 a4 h96).bind fun v97 h98 =>
    (call F.view_View_U16 [v97, (.int .i64 6)] h98).bind fun v99 h100 =>
    (fieldAddrR Prog 150 a5 3 h100).bind fun v101 h102 =>
    (storeR Prog 3 v101 v99 h102).bind fun _v103 h104 =>
    state_reader_entry_j3 k call a1 a5 h104)
  (
    state_reader_entry_j4 k call a1 a4 a5 v95 h96) := by kernel_rfl
theorem state_reader_entry_j3_eq (k : Nat) (call : Caller) (a1 a5 : Value) (h : Heap) : state_reader_entry_j3 k call a1 a5 h =
  (fieldAddrR Prog 267 a1 0 h).bindN fun v105 h106 =>
  (loadR Prog 133 v105 h106).bindN fun v107 h108 =>
  (fieldAddrR Prog 267 a1 0 h108).bindN fun v109 h110 =>
  (loadR Prog 133 v109 h110).bindN fun v111 h112 =>
  (nilR v111 h112).bindN fun v113 h114 =>
  (fieldAddrR Prog 265 v113 3 h114).bindN fun v115 h116 =>
  (loadR Prog 144 v115 h116).bindN fun v117 h118 =>
  (loadR Prog 150 a5 h118).bindN fun v119 h120 =>
  (buildSliceR Prog 144 1 [(0, v119)] h120).bindN fun v121 h122 =>
  (builtinV Prog .append [144, 144] [v117, v121] h122).bindN fun v123 h124 =>
  (nilR v107 h124).bindN fun v125 h126 =>
  (fieldAddrR Prog 265 v125 3 h126).bindN fun v127 h128 =>
  (storeR Prog 144 v127 v123 h128).bindN fun _v129 h130 =>
  chkR ((okVal (loadR Prog 133 v105 h122) v107 && (okVal (loadR Prog 133 v105 h124) v107 && true)) && ((okVal (loadR Prog 133 v109 h122) v111 && true) && ((okVal (loadR Prog 144 v115 h122) v117 && true) && true))) (
  (fieldAddrR Prog 150 a5 0 h130).bind fun v131 h132 =>
  (loadR Prog 3 v131 h132).bind fun v133 h134 =>
  (binR Prog .add 3 v133 (.int .i64 1) h134).bind fun v135 h136 =>
  .ok v135 h136) := by kernel_rfl
theorem state_reader_entry_j4_eq (k : Nat) (call : Caller) (a1 a4 a5 a35 : Value) (h : Heap) : state_reader_entry_j4 k call a1 a4 a5 a35 h =
  (fieldAddrR Prog 267 a1 0 h).bindN fun v137 h138 =>
  (loadR Prog 133 v137 h138).bindN fun v139 h140 =>
  (fieldAddrR Prog 267 a1 0 h140).bindN fun v141 h142 =>
  (loadR Prog 133 v141 h142).bindN fun v143 h144 =>
  (nilR v143 h144).bindN fun v145 h146 =>
  (fieldAddrR Prog 265 v145 3 h146).bindN fun v147 h148 =>
  (loadR Prog 144 v147 h148).bindN fun v149 h150 =>
  (loadR Prog 150 a5 h150).bindN fun v151 h152 =>
  (buildSliceR Prog 144 1 [(0, v151)] h152).bindN fun v153 h154 =>
  (builtinV Prog .append [144, 144] [v149, v153] h154).bindN fun v155 h156 =>
  (nilR v139 h156).bindN fun v157 h158 =>
  (fieldAddrR Prog 265 v157 3 h158).bindN fun v159 h160 =>
  (storeR Prog 144 v159 v155 h160).bindN fun _v161 h162 =>
  chkR ((okVal (loadR Prog 133 v137 h154) v139 && (okVal (loadR Prog 133 v137 h156) v139 && true)) && ((okVal (loadR Prog 133 v141 h154) v143 && true) && ((okVal (loadR Prog 144 v147 h154) v149 && true) && true))) (
  (fieldAddrR Prog 150 a5 0 h162).bind fun v163 h164 =>
  (loadR Prog 3 v163 h164).bind fun v165 h166 =>
  (binR Prog .add 3 v165 (.int .i64 1) h166).bind fun v167 h168 =>
  .ok v167 h168) := by kernel_rfl
end
end Go.Sw
end
section
namespace Go.Sw
open Go.RowKit
theorem Star.memP {H0 H : Heap} {L : List It} (h : Star H0 H L) {x : It} (hx : x ∈ L) : x.P H := by
  obtain ⟨i, hi⟩ := List.getElem?_of_mem hx
  exact h.at i hi
theorem Star.memBlk {H0 H : Heap} {L : List It} (h : Star H0 H L) {c : Nat} {k : Blk} (hx : itBlk c k ∈ L) : H.get c = some k := h.memP hx
theorem Star.memOwn {α : Type} {enc : α → List Value} {H0 H : Heap} {L : List It} (h : Star H0 H L) {o : Option Nat} {m : Nat} {s : Value} {l : List α} (hx : itRow o m s enc l ∈ L) : Own H0 H m s enc l := by
  obtain ⟨i, hi⟩ := List.getElem?_of_mem hx
  exact h.own i hi
theorem Star.stCell {H0 H : Heap} {L : List It} (h : Star H0 H L) (i : Nat) {c : Nat} {cells : List Value} {e : Nat} (hi : L[i]? = some (itBlk c ⟨cells, e, false⟩)) (off : Nat) {v : Value} (hs : storable v = true) (hc : v.cells = #[v]) (ho : off < cells.length) :
    ∃ H', stR 1 (.pointer (some ⟨c, off, none⟩)) v H = .ok undef H' ∧ Star H0 H' (L.set i (itBlk c ⟨cells.set off v, e, false⟩)) ∧ H'.n = H.n := by
  have hg := h.get i hi
  have hsp : splice cells off [v] = cells.set off v := by
    unfold splice
    rw [List.set_eq_take_append_cons_drop, if_pos ho]
    rfl
  refine ⟨H.set c (some ⟨cells.set off v, e, false⟩), ?_, h.step i hi (by simp) (fun d _ hd => ?_) _ ?_ fun b hb => .inl hb, by simp⟩
  · simp [hs, hc, hg, hsp]
    rw [if_pos (show off + 1 ≤ cells.length by omega)]
    rfl
  · rw [get_set_ne]
    exact fun e => hd (show d ∈ [c] by simp [e])
  · exact get_set_eq _ _ _ (by rw [hg]; rfl)
theorem loop_decP {body : Env → Heap → Res (AExit × Env)} (Inv : Nat → Env → Heap → Prop) (Q : AExit → Env → Heap → Prop) (Qp : Value → Heap → Prop)
    (step : ∀ m e H, Inv m e H → (∃ m' e' H', body e H = .ok (.normal, e') H' ∧ m' < m ∧ Inv m' e' H') ∨ (∃ x e' H', body e H = .ok (x, e') H' ∧ x ≠ .normal ∧ Q x e' H') ∨ (∃ v H', body e H = .panic v H' ∧ Qp v H')) :
    ∀ (fuel m : Nat) (e : Env) (H : Heap), m < fuel → Inv m e H → (∃ x e' H', loopN body fuel e H = .ok (x, e') H' ∧ Q x e' H') ∨ (∃ v H', loopN body fuel e H = .panic v H' ∧ Qp v H')
  | 0, m, e, H, hm, _ => by omega
  | fuel + 1, m, e, H, hm, hi => by
    rcases step m e H hi with ⟨m', e', H', h1, h2, h3⟩ | ⟨x, e', H', h1, h2, h3⟩ | ⟨v, H', h1, h2⟩
    · simp only [loopN, h1, Res.bind]
      exact loop_decP Inv Q Qp step fuel m' e' H' (by omega) h3
    · refine .inl ⟨x, e', H', ?_, h3⟩
      cases x with
      | normal => exact absurd rfl h2
      | exit j => simp only [loopN, h1, Res.bind]
      | ret => simp only [loopN, h1, Res.bind]
    · exact .inr ⟨v, H', by simp only [loopN, h1, Res.bind], h2⟩
theorem loopDecP {body : Env → Heap → Res (AExit × Env)} (Inv : Nat → Env → Heap → Prop) (Q : AExit → Env → Heap → Prop) (Qp : Value → Heap → Prop) {e0 : Env} {H0 : Heap} (m : Nat) (h0 : Inv m e0 H0) (hm : m < 2 ^ 64)
    (step : ∀ m e H, Inv m e H → (∃ m' e' H', body e H = .ok (.normal, e') H' ∧ m' < m ∧ Inv m' e' H') ∨ (∃ x e' H', body e H = .ok (x, e') H' ∧ x ≠ .normal ∧ Q x e' H') ∨ (∃ v H', body e H = .panic v H' ∧ Qp v H')) :
    (∃ x e' H', loopN body loopFuel e0 H0 = .ok (x, e') H' ∧ Q x e' H') ∨ (∃ v H', loopN body loopFuel e0 H0 = .panic v H' ∧ Qp v H') := loop_decP Inv Q Qp step loopFuel m e0 H0 (fuel_big hm) h0
abbrev encEn (e : En) : List Value := [.int .i64 e.next, .int .i64 e.flags, .int .i64 e.a, .int .i64 e.b]
theorem encEn_len (e : En) : (encEn e).length = 4 := rfl
theorem encEn_still (l : List En) : ∀ p, p ∈ l → ∀ v, v ∈ encEn p → Still v := fun p _ v hv => by
  simp [encEn] at hv
  rcases hv with rfl | rfl | rfl | rfl <;> trivial
theorem Flat.ofEn (e : En) : Flat (.agg (encEn e).toArray) := .aggL (.cons (.int _ _) (.cons (.int _ _) (.cons (.int _ _) (.cons (.int _ _) .nil))))
theorem Flat.Ens (l : List En) : Flat (Go.Sw.lv encEn l) := .lv fun p _ => .cons (.int _ _) (.cons (.int _ _) (.cons (.int _ _) (.cons (.int _ _) .nil)))
abbrev encU (x : List Int × Value) : List Value := [x.2]
theorem encU_len (x : List Int × Value) : (encU x).length = 1 := rfl
abbrev encRow (r : List Int) : List Value := [lv encI r]
theorem encRow_len (r : List Int) : (encRow r).length = 1 := rfl
def MS (H0 H : Heap) (X : List It) (c : Nat) (n : Int) (tab : Value) (rs : List (List Int)) (es : List En) : Prop :=
  ∃ (l : List (List Int × Value)) (s1 : Value) (o1 : Option Nat) (s2 : Value) (o2 : Option Nat) (bs : List It), l.map Prod.fst = rs ∧
    Star H0 H (itBlk c ⟨[.int .i64 n, tab, s1, s2], 1, false⟩ :: itRow o1 1 s1 encU l :: itRow o2 4 s2 encEn es :: (X ++ bs)) ∧ ∀ x, x ∈ l → ∃ o, itRow o 1 x.2 encI x.1 ∈ bs
theorem MS.rest {H0 H H' : Heap} {X : List It} {c : Nat} {n : Int} {tab : Value} {rs : List (List Int)} {es : List En} (h : MS H0 H X c n tab rs es) (he : Ext H H') : MS H0 H' X c n tab rs es := by
  obtain ⟨l, s1, o1, s2, o2, bs, h1, h2, h3⟩ := h
  exact ⟨l, s1, o1, s2, o2, bs, h1, h2.rest he, h3⟩
theorem MS.ext {H0 H : Heap} {X : List It} {c : Nat} {n : Int} {tab : Value} {rs : List (List Int)} {es : List En} (h : MS H0 H X c n tab rs es) : Ext H0 H := by
  obtain ⟨l, s1, o1, s2, o2, bs, h1, h2, h3⟩ := h
  exact h2.ext
theorem MS.here {H0 H : Heap} {X : List It} {c : Nat} {n : Int} {tab : Value} {rs : List (List Int)} {es : List En} (h : MS H0 H X c n tab rs es) :
    ∃ s1 s2, H.get c = some ⟨[.int .i64 n, tab, s1, s2], 1, false⟩ ∧ (∀ H', lnS s1 H' = .ok (.int .i64 rs.length) H') ∧ ∀ H', lnS s2 H' = .ok (.int .i64 es.length) H' := by
  obtain ⟨l, s1, o1, s2, o2, bs, h1, h2, h3⟩ := h
  refine ⟨s1, s2, h2.get 0 rfl, fun H' => ?_, (h2.row 2 rfl).len⟩
  rw [(h2.row 1 rfl).len, ← h1, List.length_map]
theorem MS.memX {H0 H : Heap} {X : List It} {c : Nat} {n : Int} {tab : Value} {rs : List (List Int)} {es : List En} (h : MS H0 H X c n tab rs es) {b : Nat} {k : Blk} (hb : itBlk b k ∈ X) : H.get b = some k := by
  obtain ⟨l, s1, o1, s2, o2, bs, h1, h2, h3⟩ := h
  exact h2.memBlk (by simp [hb])
theorem row_take {rv : List Int} {n : Int} {k : Nat} {r : List Int} (h : rowsS rv (2 * n * k) n 2 = some r) (hn : 0 ≤ n) : r.length = n.toNat * 2 ∧ rowK rv n k = some ((cutRows r 2 n.toNat).map num) := by
  refine ⟨?_, by unfold rowK listS; rw [h]; rfl⟩
  have := pieceS_len (rowsS_piece h)
  omega
theorem row_run (k : Nat) {H0 H : Heap} {X : List It} {c : Nat} {n : Int} {tab : Value} {rs : List (List Int)} {es : List En} (h : MS H0 H X c n tab rs es) (hn : 0 ≤ n ∧ n ≤ 65535) (hrl : rs.length < 65536) {vR vE : Value} {rv : List Int} (w : Int) (hv : Sl H 1 vR encB rv) (hE : Go.Sw.veq vE vE = true) (hb : Byt rv) (hl : rv.length < 2 ^ 31) :
    match rowK rv n rs.length with
    | some r => ∃ H', R (T k) F.state_reader_row [.agg #[ptrV c, vR, vE, .int .i64 w]] H = .ok (.int .i64 (needL r)) H' ∧ MS H0 H' X c n tab (rs ++ [r]) es
    | none => R (T k) F.state_reader_row [.agg #[ptrV c, vR, vE, .int .i64 w]] H = .panic failV H := by
  obtain ⟨l, s1, o1, s2, o2, bs, h1, g, h3⟩ := h
  have hM := g.get 0 rfl
  have hlen1 := (g.row 1 rfl).len
  have hll : l.length = rs.length := by rw [← h1, List.length_map]
  rw [hll] at hlen1
  have hcn : ¬ c = H.n := by have := Heap.get_lt hM; omega
  have hx1 : Ext H (H.push ⟨[ptrV c, vR, vE, .int .i64 w], 1, false⟩) := (Ext.refl H).push _
  have hm0 : 0 ≤ 2 * n * (rs.length : Int) := Int.mul_nonneg (by omega) (by omega)
  have hm1 : 2 * n * (rs.length : Int) ≤ 131070 * 65536 := Int.mul_le_mul (by omega) (by omega) (by omega) (by omega)
  have hRows := Rows_run k (hv.up hx1) (2 * n * rs.length) n 2 (by omega)
  rw [state_reader_row_R]
  cases hr : rowsS rv (2 * n * rs.length) n 2 with
  | none =>
    have : rowK rv n rs.length = none := by unfold rowK listS; rw [hr]; rfl
    rw [this]
    rw [hr] at hRows
    refine nrm_throw ⟨_, ?_, hx1⟩ Flat.fail.alive
    simp -implicitDefEqProofs (disch := omega) [state_reader_row, hcn, hM, hlen1, hRows]
  | some r =>
    obtain ⟨hrlen, hK⟩ := row_take hr hn.1
    rw [hK]
    dsimp only
    rw [hr] at hRows
    have hs := pieceS_sl (hv.up hx1) (rowsS_piece hr)
    have hrb := (hb.piece (rowsS_piece hr)).1
    obtain ⟨n, rfl⟩ := Int.eq_ofNat_of_zero_le hn.1
    simp only [Int.toNat_natCast] at hrlen ⊢
    generalize subV 1 vR (2 * (n : Int) * rs.length).toNat ((n : Int) * 2).toNat = q at hs hRows
    obtain ⟨B1, hB1⟩ : ∃ B1 : Blk, B1 = ⟨[ptrV c, vR, vE, .int .i64 w], 1, false⟩ := ⟨_, rfl⟩
    obtain ⟨B2, hB2⟩ : ∃ B2 : Blk, B2 = ⟨[q], 1, false⟩ := ⟨_, rfl⟩
    rw [← hB1] at hs
    have g := (g.push B1).push B2
    have hx2 : Ext (H.push B1) ((H.push B1).push B2) := (Ext.refl _).push _
    obtain ⟨vals, hvals⟩ : ∃ vals, vals = (cutRows r 2 n).map num := ⟨_, rfl⟩
    rw [← hvals]
    have hvl : vals.length = n := by rw [hvals]; simp
    obtain ⟨x, e', H1, hr', rfl, rfl, ho, hx⟩ := loop_up (body := state_reader_row_l1 k (R (T k))) n
      (fun j e H' => e = [(1, ptrV H.n), (4, ptrV (H.n + 1)), (5, .slice (some ⟨H.n + 2, 0, none⟩) n n), (6, .int .i64 (needL (vals.take j))), (29, .int .i64 n), (30, .int .i64 j)] ∧
        Own ((H.push B1).push B2) H' 1 (.slice (some ⟨H.n + 2, 0, none⟩) n n) encI (vals.take j ++ List.replicate (n - j) 0) ∧ Ext ((H.push B1).push B2) H')
      (fun x e H' => x = .exit 0 ∧ e = [(1, ptrV H.n), (4, ptrV (H.n + 1)), (5, .slice (some ⟨H.n + 2, 0, none⟩) n n), (6, .int .i64 (needL vals)), (29, .int .i64 n), (30, .int .i64 n), (31, .bool false)] ∧
        Own ((H.push B1).push B2) H' 1 (.slice (some ⟨H.n + 2, 0, none⟩) n n) encI vals ∧ Ext ((H.push B1).push B2) H')
      (e0 := [(1, ptrV H.n), (4, ptrV (H.n + 1)), (5, .slice (some ⟨H.n + 2, 0, none⟩) n n), (6, .int .i64 0), (29, .int .i64 n), (30, .int .i64 0)]) (H0 := ((H.push B1).push B2).push ⟨repeatCells [Value.int .i64 0] n, 1, false⟩)
      ⟨rfl, .inr ⟨H.n + 2, by simp, by simp, by rw [get_push_eq _ _ _ (by simp), repeat_I]; simp⟩, (Ext.refl _).push _⟩ (by omega)
      (fun j e H' hj ⟨he, ho, hx⟩ => by
        subst he
        have hlt : (j : Int) < n := by omega
        have hg2 : H'.get (H.n + 1) = some ⟨[q], 1, false⟩ := hx.get (by rw [get_push_eq _ _ _ (by simp), hB2])
        have hu := U16_run k ((hs.up hx2).up hx) hrb (2 * (j : Int)) (by omega)
        have hcut : uS r (2 * (j : Int)) 2 = some (num ((r.drop (2 * j)).take 2)) := uS_cut (z := 2) hrlen hj
        have hy : vals[j]? = some (num ((r.drop (2 * j)).take 2)) := by rw [hvals, List.getElem?_map, cutRows_get _ _ _ _ hj]; rfl
        rw [hcut, orF_some] at hu
        have hyb := uS_two hrb hcut
        obtain ⟨b, H2, e1, h1, h2, h3, h4, h5, h6⟩ := ho.set encI_len j 0 1 0 (num ((r.drop (2 * j)).take 2)) (.int .i64 (num ((r.drop (2 * j)).take 2))) (fill_get _ _ hvl hj) rfl rfl (by decide) rfl
        rw [fill_step _ _ hvl hj _ hy] at h4
        have hnl : needL (vals.take (j + 1)) = max (needL (vals.take j)) (num ((r.drop (2 * j)).take 2) + 1) := by rw [take_snoc hy, needL_snoc]
        rw [hnl]
        have hn0 := needL_nonneg (vals.take j)
        generalize num ((r.drop (2 * j)).take 2) = y at *
        generalize needL (vals.take j) = m at *
        simp at e1
        obtain ⟨rfl, _⟩ := e1
        have hx' : Ext ((H.push B1).push B2) H2 := ⟨by rw [h6]; exact hx.n, fun d hd hs => by rw [h5 d (by intro e; rw [e] at hd; simp at hd)]; exact hx.2 d hd hs⟩
        have hgv : H2.get (H.n + 2) = some ⟨rows encI (vals.take (j + 1) ++ List.replicate (n - (j + 1)) 0), 1, false⟩ := by
          rcases h4 with ⟨h, _⟩ | ⟨b', h, _, h'⟩
          · have := congrArg List.length h; simp only [List.length_append, List.length_replicate, List.length_take, hvl, List.length_nil] at this; omega
          · simp at h; obtain ⟨rfl, _⟩ := h; exact h'
        have hld := ld1_row encI_len hgv (i := j) (c := 0) (x := y) (by rw [List.getElem?_append_left (by simp; omega), List.getElem?_take, if_pos (by omega), hy]) (by decide) rfl
        simp only [Nat.add_zero, Nat.mul_one] at h3 hld
        have hmax : (if y + 1 > m then y + 1 else m) = max m (y + 1) := by split <;> omega
        refine .inl ⟨_, H2, ?_, rfl, h4, hx'⟩
        rw [state_reader_row_l1_eq, ← hmax]
        simp -implicitDefEqProofs (disch := omega) [-stR_ptr, -ld1_ptr, hlt, ld1_ptr H.n.succ 0, hg2, hu, ixS_slice, h3, hld]
        )
      (fun e H' ⟨he, ho, hx⟩ => by
        subst he
        refine ⟨.exit 0, _, H', ?_, by simp, rfl, rfl, ?_, hx⟩
        · rw [state_reader_row_l1_eq, List.take_of_length_le (by omega)]
          simp -implicitDefEqProofs
        · rw [List.take_of_length_le (by omega)] at ho
          simpa using ho)
    obtain ⟨o3, g⟩ := g.more_own ho hx
    obtain ⟨sl, hsl⟩ : ∃ sl : Value, sl = .slice (some ⟨H.n + 2, 0, none⟩) n n := ⟨_, rfl⟩
    rw [← hsl] at g ho hr'
    obtain ⟨bs', hbs⟩ : ∃ bs', bs' = bs ++ [itBlk H.n B1, itBlk (H.n + 1) B2, itRow o3 1 sl encI vals] := ⟨_, rfl⟩
    have g : Star H0 H1 (itBlk c ⟨[.int .i64 n, tab, s1, s2], 1, false⟩ :: itRow o1 1 s1 encU l :: itRow o2 4 s2 encEn es :: (X ++ bs')) := by
      rw [hbs]
      simpa using g
    have hM1 := g.get 0 rfl
    have hB1g : H1.get H.n = some B1 := g.memBlk (by simp [hbs])
    have hn1 : ¬ H.n = H1.n := by have := Heap.get_lt hB1g; omega
    have hc1 : ¬ c = H1.n := by have := Heap.get_lt hM1; omega
    have hvq := (g.row 1 rfl).veq
    obtain ⟨s1', o1', H2, e2, g⟩ := g.append1 (bytes := 24) 1 encU_len rfl (vals, sl) (by rw [hll]; omega) (by decide)
    simp only [List.set_cons_zero, List.set_cons_succ] at g
    have hB1g2 : H2.get H.n = some B1 := g.memBlk (by simp [hbs])
    obtain ⟨H3, e3, g, _⟩ := g.stCell 0 rfl 2 (g.row 1 rfl).storable (g.row 1 rfl).cells (by simp)
    simp only [List.set_cons_zero, List.set_cons_succ] at g
    refine ⟨H3, nrm_of ?_, l ++ [(vals, sl)], s1', o1', s2, o2, bs', by simp [h1], g, fun x hx => ?_⟩
    · have hsls : storable sl = true := by rw [hsl]; rfl
      have hslc : sl.cells = #[sl] := by rw [hsl]; rfl
      have hsln : ∀ H', lnS sl H' = .ok (.int .i64 n) H' := fun H' => by rw [hsl]; rfl
      rw [hB1] at hB1g hB1g2 hr'
      rw [hB2] at hr'
      simp only [encU] at e2
      simp -implicitDefEqProofs (disch := omega) [-stR_ptr, state_reader_row, hcn, hM, hlen1, hRows, mkR_nat, stR_ptr 1 (H.n + 1) 0, ← hsl, hr', state_reader_row_l1k_x0, hB1g, hB1g2, hn1, hc1, hM1, hvq, hE, hsls, hslc, hsln, e2, e3]
    · rcases List.mem_append.1 hx with hx | hx
      · obtain ⟨o, ho⟩ := h3 x hx
        exact ⟨o, by rw [hbs]; simp [ho]⟩
      · simp at hx
        subst hx
        exact ⟨o3, by rw [hbs]; simp⟩
end Go.Sw
end
section
namespace Go.Sw
open Go.RowKit
theorem entry_run (k : Nat) {H0 H : Heap} {X : List It} {c : Nat} {n : Int} {tab : Value} {rs : List (List Int)} {es : List En} (h : MS H0 H X c n tab rs es) (hel : es.length < 65536) {vR vE : Value} {ev : List Int} (w : Int) (hw : w = 0 ∨ w = 1 ∨ w = 2) (hv : Sl H 1 vE encB ev) (hR : Go.Sw.veq vR vR = true) (hb : Byt ev) (hl : ev.length < 2 ^ 31) :
    match entK ev w es.length with
    | some e => ∃ H', R (T k) F.state_reader_entry [.agg #[ptrV c, vR, vE, .int .i64 w]] H = .ok (.int .i64 (e.next + 1)) H' ∧ MS H0 H' X c n tab rs (es ++ [e])
    | none => R (T k) F.state_reader_entry [.agg #[ptrV c, vR, vE, .int .i64 w]] H = .panic failV H := by
  obtain ⟨l, s1, o1, s2, o2, bs, h1, g, h3⟩ := h
  have hM := g.get 0 rfl
  have hlen2 := (g.row 2 rfl).len
  have hcn : ¬ c = H.n := by have := Heap.get_lt hM; omega
  have hx1 : Ext H (H.push ⟨[ptrV c, vR, vE, .int .i64 w], 1, false⟩) := (Ext.refl H).push _
  have hm0 : 0 ≤ (4 + 2 * w) * (es.length : Int) := Int.mul_nonneg (by omega) (by omega)
  have hm1 : (4 + 2 * w) * (es.length : Int) ≤ 8 * 65536 := Int.mul_le_mul (by omega) (by omega) (by omega) (by omega)
  have hCut := Cut_run k (hv.up hx1) ((4 + 2 * w) * es.length) (4 + 2 * w) (by omega)
  rw [state_reader_entry_R]
  cases hr : pieceS ev ((4 + 2 * w) * es.length) (4 + 2 * w) with
  | none =>
    have : entK ev w es.length = none := by unfold entK; rw [hr]; rfl
    rw [this]
    rw [hr] at hCut
    refine nrm_throw ⟨_, ?_, hx1⟩ Flat.fail.alive
    simp -implicitDefEqProofs (disch := omega) [state_reader_entry, hcn, hM, hlen2, hCut]
  | some r =>
    have hK : entK ev w es.length = some (entOf w r) := by unfold entK; rw [hr]; rfl
    rw [hK]
    dsimp only
    rw [hr] at hCut
    have hs := pieceS_sl (hv.up hx1) hr
    have hrb := (hb.piece hr).1
    have hrl := pieceS_len hr
    generalize subV 1 vE ((4 + 2 * w) * (es.length : Int)).toNat (4 + 2 * w).toNat = q at hs hCut
    have hq := rd_vw hs
    obtain ⟨B1, hB1⟩ : ∃ B1 : Blk, B1 = ⟨[ptrV c, vR, vE, .int .i64 w], 1, false⟩ := ⟨_, rfl⟩
    obtain ⟨B2, hB2⟩ : ∃ B2 : Blk, B2 = ⟨[q], 1, false⟩ := ⟨_, rfl⟩
    obtain ⟨e, he⟩ : ∃ e, e = entOf w r := ⟨_, rfl⟩
    rw [← he]
    have hu : ∀ i, 0 ≤ i → i + 2 ≤ 4 + 2 * w → ∀ H', Ext (H.push B1) H' → R (T k) F.view_View_U16 [.agg #[q], .int .i64 i] H' = .ok (.int .i64 (gU r i 2)) H' := fun i hi0 hi1 H' hx => by
      rw [← hB1] at hs
      have := U16_run k (hs.up hx) hrb i (by omega)
      rw [(piece_gU hb hr hi0 hi1).1, orF_some] at this
      exact this
    have hx2 : Ext (H.push B1) ((H.push B1).push B2) := (Ext.refl _).push _
    have u0 := hu 0 (by omega) (by omega) _ hx2
    have u2 := hu 2 (by omega) (by omega) _ hx2
    have g0 := (piece_gU hb hr (i := 0) (by omega) (by omega)).2
    have g2 := (piece_gU hb hr (i := 2) (by omega) (by omega)).2
    have hn : e.next = gU r 0 2 := by rw [he]; rfl
    have hf : e.flags = gU r 2 2 := by rw [he]; rfl
    have g := ((g.push B1).push B2).push ⟨encEn e, 1, false⟩
    obtain ⟨P, hP⟩ : ∃ P, P = ((H.push B1).push B2).push ⟨encEn e, 1, false⟩ := ⟨_, rfl⟩
    rw [← hP] at g
    obtain ⟨bs', hbs⟩ : ∃ bs', bs' = bs ++ [itBlk H.n B1, itBlk (H.n + 1) B2, itBlk (H.n + 2) ⟨encEn e, 1, false⟩] := ⟨_, rfl⟩
    have g : Star H0 P (itBlk c ⟨[.int .i64 n, tab, s1, s2], 1, false⟩ :: itRow o1 1 s1 encU l :: itRow o2 4 s2 encEn es :: (X ++ bs')) := by
      rw [hbs]
      simpa using g
    have hM1 := g.get 0 rfl
    have hB1g : P.get H.n = some B1 := g.memBlk (by simp [hbs])
    have hPn : P.n = H.n + 3 := by rw [hP]; simp
    have hn1 : ¬ H.n = P.n := by omega
    have hc1 : ¬ c = P.n := by have := Heap.get_lt hM1; omega
    have hvq := (g.row 2 rfl).veq
    obtain ⟨s2', o2', H2, e2, g⟩ := g.append1 (bytes := 32) 2 encEn_len rfl e (by omega) (by decide)
    simp only [List.set_cons_zero, List.set_cons_succ] at g
    have hB1g2 : H2.get H.n = some B1 := g.memBlk (by simp [hbs])
    obtain ⟨H3, e3, g, _⟩ := g.stCell 0 rfl 3 (g.row 2 rfl).storable (g.row 2 rfl).cells (by simp)
    simp only [List.set_cons_zero, List.set_cons_succ] at g
    have hB3g : H3.get (H.n + 2) = some ⟨encEn e, 1, false⟩ := g.memBlk (by simp [hbs])
    refine ⟨H3, nrm_of ?_, l, s1, o1, s2', o2', bs', h1, g, fun x hx => ?_⟩
    rotate_left
    · obtain ⟨o, ho⟩ := h3 x hx
      exact ⟨o, by rw [hbs]; simp [ho]⟩
    rw [hB1] at hB1g hB1g2
    have hPe := hP
    rw [hB1, hB2] at hPe
    have hP2 : P.get (H.n + 2) = some ⟨encEn e, 1, false⟩ := by rw [hP]; simp
    have hP1 : P.get (H.n + 1) = some B2 := by rw [hP]; simp
    rw [hB2] at hP1
    rw [hB1, hB2] at u0 u2
    have hq2 : Go.Sw.veq (.agg #[q]) (.agg #[q]) = true := veq_agg (l := [q]) fun u hu => by simp at hu; subst hu; exact hq
    have hn2 : ¬ H.n + 2 = P.n := by omega
    have e2' := e2
    unfold encEn at e2'
    have hj4 : state_reader_entry_j4 k (R (T k)) (ptrV H.n) (ptrV (H.n + 1)) (ptrV (H.n + 2)) (.bool false) P = .ok (.int .i64 (e.next + 1)) H3 := by
      rw [state_reader_entry_j4_eq]
      simp -implicitDefEqProofs (disch := omega) [-stR_ptr, hB1g, hM1, hP2, hn1, hc1, hB1g2, hvq, e2', e3, hB3g]
    have hj3 : state_reader_entry_j3 k (R (T k)) (ptrV H.n) (ptrV (H.n + 2)) P = .ok (.int .i64 (e.next + 1)) H3 := by
      rw [state_reader_entry_j3_eq]
      simp -implicitDefEqProofs (disch := omega) [-stR_ptr, hB1g, hM1, hP2, hn1, hc1, hB1g2, hvq, e2', e3, hB3g]
    rcases hw with rfl | rfl | rfl
    · have hall : encEn e = [.int .i64 (gU r 0 2), .int .i64 (gU r 2 2), .int .i64 0, .int .i64 0] := by rw [he]; rfl
      rw [hall] at hPe
      simp -implicitDefEqProofs (disch := omega) at hCut
      simp -implicitDefEqProofs (disch := omega) [state_reader_entry, hcn, hM, hlen2, hCut, u0, u2, hq2, ← hPe, state_reader_entry_j2_eq, hB1g, hj4]
    · have hall : encEn e = [.int .i64 (gU r 0 2), .int .i64 (gU r 2 2), .int .i64 (gU r 4 2), .int .i64 0] := by rw [he]; rfl
      rw [hall] at hPe
      have u4 := hu 4 (by omega) (by omega) _ (hx2.push ⟨[.int .i64 (gU r 0 2), .int .i64 (gU r 2 2), .int .i64 0, .int .i64 0], 1, false⟩)
      rw [hB1, hB2] at u4
      simp -implicitDefEqProofs (disch := omega) at hCut
      simp -implicitDefEqProofs (disch := omega) [state_reader_entry, hcn, hM, hlen2, hCut, u0, u2, u4, hq2, ← hPe, state_reader_entry_j1_eq, hB1g, hj4]
    · have hall : encEn e = [.int .i64 (gU r 0 2), .int .i64 (gU r 2 2), .int .i64 (gU r 4 2), .int .i64 (gU r 6 2)] := by rw [he]; rfl
      rw [hall] at hPe
      have u4 := hu 4 (by omega) (by omega) _ (hx2.push ⟨[.int .i64 (gU r 0 2), .int .i64 (gU r 2 2), .int .i64 0, .int .i64 0], 1, false⟩)
      have u6 := hu 6 (by omega) (by omega) _ (hx2.push ⟨[.int .i64 (gU r 0 2), .int .i64 (gU r 2 2), .int .i64 (gU r 4 2), .int .i64 0], 1, false⟩)
      rw [hB1, hB2] at u4 u6
      simp -implicitDefEqProofs (disch := omega) at hCut
      simp -implicitDefEqProofs (disch := omega) [state_reader_entry, hcn, hM, hlen2, hCut, u0, u2, u4, u6, hq2, ← hPe, state_reader_entry_j1_eq, hj3]
theorem needR_snoc (rs : List (List Int)) (r : List Int) : needR (rs ++ [r]) = max (needR rs) (needL r) := by
  unfold needR
  rw [List.flatten_append, needL_append]
  simp
theorem needR_nonneg (rs : List (List Int)) : 0 ≤ needR rs := needL_nonneg _
theorem rowK_lt {rv : List Int} (hb : Byt rv) {n : Int} {k : Nat} {r : List Int} (h : rowK rv n k = some r) : ∀ y, y ∈ r → 0 ≤ y ∧ y < 65536 := by
  unfold rowK listS at h
  obtain ⟨q, hq, rfl⟩ := Option.map_eq_some_iff.1 h
  have hqb := (hb.piece (rowsS_piece hq)).1
  intro y hy
  obtain ⟨c, hc, rfl⟩ := List.mem_map.1 hy
  obtain ⟨h5, h6⟩ := cutRows_byt hqb _ _ hc
  have := num_bound c h5
  have hp : (256 : Int) ^ c.length ≤ 256 ^ 2 := by
    have : c.length ≤ 2 := h6
    match hcl : c.length, this with
    | 0, _ => decide
    | 1, _ => decide
    | 2, _ => decide
  omega
theorem rowsTo_need {rv : List Int} (hb : Byt rv) {n : Int} {m : Nat} {rs : List (List Int)} (h : rowsTo rv n m = some rs) : needR rs ≤ 65536 := needL_lt (by omega) fun y hy => by
  obtain ⟨r, hrm, hy⟩ := List.mem_flatten.1 hy
  obtain ⟨i, hi⟩ := List.getElem?_of_mem hrm
  obtain ⟨k, _, hk⟩ := mapO_get h hi
  exact (rowK_lt hb hk y hy).2
theorem mapO_none_of {β : Type} {f : Nat → Option β} {n m : Nat} (h : n ≤ m) (hn : mapO f (List.range n) = none) : mapO f (List.range m) = none := by
  cases hm : mapO f (List.range m) with
  | none => rfl
  | some r => rw [mapO_prefix h hm] at hn; cases hn
section
variable (k : Nat) {H0 : Heap} {X : List It} {c r : Nat} {n : Int} {tab vR vE : Value} {rv ev : List Int} {w : Int}
  (hn : 0 ≤ n ∧ n ≤ 65535) (hw : w = 0 ∨ w = 1 ∨ w = 2) (hvR : Sl H0 1 vR encB rv) (hvE : Sl H0 1 vE encB ev) (hbR : Byt rv) (hbE : Byt ev) (hlR : rv.length < 2 ^ 31) (hlE : ev.length < 2 ^ 31)
  (hX : itBlk r ⟨[ptrV c, vR, vE, .int .i64 w], 1, false⟩ ∈ X)
include hn hvR hvE hbR hlR hX
theorem rows_loop {H : Heap} (s : Nat) (hs : s ≤ 65536) {rs : List (List Int)} {es : List En} (h : MS H0 H X c n tab rs es) (hrs : rs.length ≤ s) (ht : rowsTo rv n rs.length = some rs) :
    (∃ rs' H', loopN (state_Take_l2 k (R (T k))) loopFuel [(8, ptrV c), (9, ptrV r), (10, .int .i64 s), (11, .int .i64 (needR rs))] H = .ok (.exit 2, [(8, ptrV c), (9, ptrV r), (10, .int .i64 s), (11, .int .i64 (needR rs')), (63, .bool false)]) H' ∧ rowsTo rv n s = some rs' ∧ MS H0 H' X c n tab rs' es) ∨
    (∃ H', loopN (state_Take_l2 k (R (T k))) loopFuel [(8, ptrV c), (9, ptrV r), (10, .int .i64 s), (11, .int .i64 (needR rs))] H = .panic failV H' ∧ Ext H0 H' ∧ rowsTo rv n s = none) := by
  rcases loopDecP (body := state_Take_l2 k (R (T k)))
    (fun m e H' => ∃ rs, m = s - rs.length ∧ rs.length ≤ s ∧ e = [(8, ptrV c), (9, ptrV r), (10, .int .i64 s), (11, .int .i64 (needR rs))] ∧ rowsTo rv n rs.length = some rs ∧ MS H0 H' X c n tab rs es)
    (fun x e H' => ∃ rs', x = .exit 2 ∧ e = [(8, ptrV c), (9, ptrV r), (10, .int .i64 s), (11, .int .i64 (needR rs')), (63, .bool false)] ∧ rowsTo rv n s = some rs' ∧ MS H0 H' X c n tab rs' es)
    (fun v H' => v = failV ∧ Ext H0 H' ∧ rowsTo rv n s = none)
    (s - rs.length) (e0 := [(8, ptrV c), (9, ptrV r), (10, .int .i64 s), (11, .int .i64 (needR rs))]) (H0 := H) ⟨rs, rfl, hrs, rfl, ht, h⟩ (by omega)
    (fun m e H' ⟨rs, hm, hle, he, ht, h⟩ => by
      subst he
      obtain ⟨s1, s2, hM, hl1, hl2⟩ := h.here
      have hr := h.memX hX
      have h0 := needR_nonneg rs
      have h6 := rowsTo_need hbR ht
      by_cases hlt : rs.length < s
      · have hlt' : (rs.length : Int) < s := by omega
        have hrow := row_run k h hn (by omega) (vE := vE) w (hvR.up h.ext) (rd_vw hvE) hbR hlR
        cases hK : rowK rv n rs.length with
        | none =>
          rw [hK] at hrow
          refine .inr (.inr ⟨failV, H', ?_, rfl, h.ext, mapO_none_of (n := rs.length + 1) hlt ?_⟩)
          · rw [state_Take_l2_eq]
            simp -implicitDefEqProofs (disch := omega) [hM, hl1, hlt', hr, hrow]
          · rw [mapO_range, show mapO (rowK rv n) (List.range rs.length) = some rs from ht, Option.bind_some, hK]
            rfl
        | some row =>
          rw [hK] at hrow
          obtain ⟨H2, e2, h2⟩ := hrow
          have hmax : (if needL row > needR rs then needL row else needR rs) = needR (rs ++ [row]) := by rw [needR_snoc]; split <;> omega
          refine .inl ⟨s - (rs ++ [row]).length, _, H2, ?_, by simp; omega, rs ++ [row], rfl, by simp; omega, rfl, ?_, h2⟩
          · rw [state_Take_l2_eq, ← hmax]
            simp -implicitDefEqProofs (disch := omega) [hM, hl1, hlt', hr, e2]
          · rw [List.length_append, List.length_singleton]
            unfold rowsTo at ht ⊢
            rw [mapO_range, ht, Option.bind_some, hK]
            rfl
      · have hlt' : ¬ (rs.length : Int) < s := by omega
        refine .inr (.inl ⟨.exit 2, _, H', ?_, by simp, rs, rfl, rfl, by rw [show s = rs.length by omega]; exact ht, h⟩)
        rw [state_Take_l2_eq]
        simp -implicitDefEqProofs (disch := omega) [hM, hl1, hlt']) with ⟨x, e', H', h1, rs', rfl, rfl, h2, h3⟩ | ⟨v, H', h1, rfl, h2, h3⟩
  · exact .inl ⟨rs', H', h1, h2, h3⟩
  · exact .inr ⟨H', h1, h2, h3⟩
end
section
variable (k : Nat) {H0 : Heap} {X : List It} {c r : Nat} {n : Int} {tab vR vE : Value} {rv ev : List Int} {w : Int}
  (hn : 0 ≤ n ∧ n ≤ 65535) (hw : w = 0 ∨ w = 1 ∨ w = 2) (hvR : Sl H0 1 vR encB rv) (hvE : Sl H0 1 vE encB ev) (hbR : Byt rv) (hbE : Byt ev) (hlR : rv.length < 2 ^ 31) (hlE : ev.length < 2 ^ 31)
  (hX : itBlk r ⟨[ptrV c, vR, vE, .int .i64 w], 1, false⟩ ∈ X)
include hw hvR hvE hbE hlE hX
theorem ents_loop {H : Heap} (s : Int) (hs : 2 ≤ s ∧ s ≤ 65536) (N : Nat) (hN : N ≤ 65536) {rs : List (List Int)} {es : List En} (h : MS H0 H X c n tab rs es) (hes : es.length ≤ N) (ht : entsTo ev w es.length = some es) (hsn : needE es ≤ s) :
    (∃ es' H', loopN (state_Take_l3 k (R (T k))) loopFuel [(8, ptrV c), (9, ptrV r), (10, .int .i64 s), (11, .int .i64 N)] H = .ok (.exit 4, [(8, ptrV c), (9, ptrV r), (10, .int .i64 (max s (needE es'))), (11, .int .i64 N), (74, .bool false)]) H' ∧ entsTo ev w N = some es' ∧ MS H0 H' X c n tab rs es') ∨
    (∃ H', loopN (state_Take_l3 k (R (T k))) loopFuel [(8, ptrV c), (9, ptrV r), (10, .int .i64 s), (11, .int .i64 N)] H = .panic failV H' ∧ Ext H0 H' ∧ entsTo ev w N = none) := by
  rcases loopDecP (body := state_Take_l3 k (R (T k)))
    (fun m e H' => ∃ es, m = N - es.length ∧ es.length ≤ N ∧ e = [(8, ptrV c), (9, ptrV r), (10, .int .i64 (max s (needE es))), (11, .int .i64 N)] ∧ entsTo ev w es.length = some es ∧ MS H0 H' X c n tab rs es)
    (fun x e H' => ∃ es', x = .exit 4 ∧ e = [(8, ptrV c), (9, ptrV r), (10, .int .i64 (max s (needE es'))), (11, .int .i64 N), (74, .bool false)] ∧ entsTo ev w N = some es' ∧ MS H0 H' X c n tab rs es')
    (fun v H' => v = failV ∧ Ext H0 H' ∧ entsTo ev w N = none)
    (N - es.length) (e0 := [(8, ptrV c), (9, ptrV r), (10, .int .i64 s), (11, .int .i64 N)]) (H0 := H) ⟨es, rfl, hes, by rw [show max s (needE es) = s by omega], ht, h⟩ (by omega)
    (fun m e H' ⟨es, hm, hle, he, ht, h⟩ => by
      subst he
      obtain ⟨s1, s2, hM, hl1, hl2⟩ := h.here
      have hr := h.memX hX
      have h6 := needE_le hbE ht
      by_cases hlt : es.length < N
      · have hlt' : (es.length : Int) < N := by omega
        have hent := entry_run k h (by omega) (vR := vR) w hw (hvE.up h.ext) (rd_vw hvR) hbE hlE
        cases hK : entK ev w es.length with
        | none =>
          rw [hK] at hent
          refine .inr (.inr ⟨failV, H', ?_, rfl, h.ext, mapO_none_of (n := es.length + 1) hlt ?_⟩)
          · rw [state_Take_l3_eq]
            simp -implicitDefEqProofs (disch := omega) [hM, hl2, hlt', hr, hent]
          · rw [mapO_range, show mapO (entK ev w) (List.range es.length) = some es from ht, Option.bind_some, hK]
            rfl
        | some en =>
          rw [hK] at hent
          obtain ⟨H2, e2, h2⟩ := hent
          have hen : needE (es ++ [en]) = max (needE es) (en.next + 1) := by
            unfold needE
            rw [List.map_append, List.map_singleton, needL_snoc]
            omega
          have hmax : (if en.next + 1 > max s (needE es) then en.next + 1 else max s (needE es)) = max s (needE (es ++ [en])) := by rw [hen]; split <;> omega
          refine .inl ⟨N - (es ++ [en]).length, _, H2, ?_, by simp; omega, es ++ [en], rfl, by simp; omega, rfl, ?_, h2⟩
          · rw [state_Take_l3_eq, ← hmax]
            simp -implicitDefEqProofs (disch := omega) [hM, hl2, hlt', hr, e2]
          · rw [List.length_append, List.length_singleton]
            unfold entsTo at ht ⊢
            rw [mapO_range, ht, Option.bind_some, hK]
            rfl
      · have hlt' : ¬ (es.length : Int) < N := by omega
        refine .inr (.inl ⟨.exit 4, _, H', ?_, by simp, es, rfl, rfl, by rw [show N = es.length by omega]; exact ht, h⟩)
        rw [state_Take_l3_eq]
        simp -implicitDefEqProofs (disch := omega) [hM, hl2, hlt']) with ⟨x, e', H', h1, es', rfl, rfl, h2, h3⟩ | ⟨v, H', h1, rfl, h2, h3⟩
  · exact .inl ⟨es', H', h1, h2, h3⟩
  · exact .inr ⟨H', h1, h2, h3⟩
end
section
variable (k : Nat) {H0 : Heap} {X : List It} {c r : Nat} {n : Int} {tab vR vE : Value} {rv ev : List Int} {w : Int}
  (hn : 0 ≤ n ∧ n ≤ 65535) (hw : w = 0 ∨ w = 1 ∨ w = 2) (hvR : Sl H0 1 vR encB rv) (hvE : Sl H0 1 vE encB ev) (hbR : Byt rv) (hbE : Byt ev) (hlR : rv.length < 2 ^ 31) (hlE : ev.length < 2 ^ 31)
  (hX : itBlk r ⟨[ptrV c, vR, vE, .int .i64 w], 1, false⟩ ∈ X)
include hn hw hvR hvE hbR hbE hlR hlE hX
theorem all_loop {H : Heap} (h : MS H0 H X c n tab [] []) :
    Cp failV (Ext H0) (loopN (state_Take_l1 k (R (T k))) loopFuel [(8, ptrV c), (9, ptrV r), (10, .int .i64 2), (11, .int .i64 0)] H) (closeA rv ev n w 2)
      fun x xe H' => (∃ a b, xe = (.exit 0, [(8, ptrV c), (9, ptrV r), (10, a), (11, b), (56, .bool false)])) ∧ MS H0 H' X c n tab x.1 x.2 := by
  rcases loopDecP (body := state_Take_l1 k (R (T k)))
    (fun m e H' => ∃ (s : Nat) (rs : List (List Int)) (es : List En), m = 2 * (65537 - s) + (if rs.length < s then 1 else 0) ∧ e = [(8, ptrV c), (9, ptrV r), (10, .int .i64 s), (11, .int .i64 (needR rs))] ∧ 2 ≤ s ∧ s ≤ 65536 ∧ rs.length ≤ s ∧
      rowsTo rv n rs.length = some rs ∧ es.length = (needR rs).toNat ∧ entsTo ev w es.length = some es ∧ needE es ≤ s ∧ MS H0 H' X c n tab rs es ∧ closeA rv ev n w 2 = if rs.length < s then closeA rv ev n w s else some (rs, es))
    (fun x e H' => x = .exit 0 ∧ ∃ rs es a b, e = [(8, ptrV c), (9, ptrV r), (10, a), (11, b), (56, .bool false)] ∧ closeA rv ev n w 2 = some (rs, es) ∧ MS H0 H' X c n tab rs es)
    (fun v H' => v = failV ∧ Ext H0 H' ∧ closeA rv ev n w 2 = none)
    (2 * 65535 + 1) (e0 := [(8, ptrV c), (9, ptrV r), (10, .int .i64 2), (11, .int .i64 0)]) (H0 := H) ⟨2, [], [], rfl, rfl, by omega, by omega, by simp, rfl, rfl, rfl, (by decide), h, rfl⟩ (by omega)
    (fun m e H' ⟨s, rs, es, hm, he, hs2, hs6, hrs, ht, hel, hte, hne, h, hspec⟩ => by
      subst he
      obtain ⟨s1, s2, hM, hl1, hl2⟩ := h.here
      have h0 := needR_nonneg rs
      by_cases hlt : rs.length < s
      · have hlt' : (rs.length : Int) < s := by omega
        rw [if_pos hlt] at hspec
        have hce := closeA_eq (rv := rv) hbE (n := n) (w := w) hs6
        have hgo : ∀ x, (loopN (state_Take_l2 k (R (T k))) loopFuel [(8, ptrV c), (9, ptrV r), (10, .int .i64 s), (11, .int .i64 (needR rs))] H').bind (fun r111 h112 => state_Take_l2k k (R (T k)) r111.1 r111.2 h112) = x → state_Take_l1 k (R (T k)) [(8, ptrV c), (9, ptrV r), (10, .int .i64 s), (11, .int .i64 (needR rs))] H' = x := fun x hx => by
          rw [← hx, state_Take_l1_eq]
          simp -implicitDefEqProofs (disch := omega) [hM, hl1, hlt']
        rcases rows_loop k hn hvR hvE hbR hlR hX s hs6 h hrs ht with ⟨rs', H2, e2, ht2, h2⟩ | ⟨H2, e2, hx2, ht2⟩
        rotate_left
        · refine .inr (.inr ⟨failV, H2, hgo _ ?_, rfl, hx2, by rw [hspec, hce, ht2]; rfl⟩)
          rw [e2]; rfl
        have hrl : rs'.length = s := by have := mapO_len ht2; simpa using this
        have hn2 := needR_nonneg rs'
        have hn6 := rowsTo_need hbR ht2
        have hpre : rs = rs'.take rs.length := by
          have := mapO_prefix hrs ht2
          have ht' : mapO (rowK rv n) (List.range rs.length) = some rs := ht
          rw [ht'] at this
          injection this
        have hmono : needR rs ≤ needR rs' := by
          conv => lhs; rw [hpre]
          have := List.take_append_drop rs.length rs'
          conv => rhs; rw [← this]
          unfold needR
          rw [List.flatten_append, needL_append]
          omega
        have hNN : ((needR rs').toNat : Int) = needR rs' := by omega
        rw [hspec] at *
        rw [ht2, Option.bind_some] at hce
        have hgo2 : ∀ x, (loopN (state_Take_l3 k (R (T k))) loopFuel [(8, ptrV c), (9, ptrV r), (10, .int .i64 s), (11, .int .i64 (((needR rs').toNat : Nat) : Int))] H2).bind (fun r111 h112 => state_Take_l3k k (R (T k)) r111.1 r111.2 h112) = x → state_Take_l1 k (R (T k)) [(8, ptrV c), (9, ptrV r), (10, .int .i64 s), (11, .int .i64 (needR rs))] H' = x := fun x hx => by
          refine hgo x ?_
          rw [e2, ← hx, Res.bind_ok, state_Take_l2k_x2, hNN]
        rcases ents_loop k hw hvR hvE hbE hlE hX s (by omega) (needR rs').toNat (by omega) h2 (by omega) hte hne with ⟨es', H3, e3, ht3, h3⟩ | ⟨H3, e3, hx3, ht3⟩
        rotate_left
        · refine .inr (.inr ⟨failV, H3, hgo2 _ ?_, rfl, hx3, by rw [hce, ht3]; rfl⟩)
          rw [e3]; rfl
        have hE := needE_le hbE ht3
        have hel' : es'.length = (needR rs').toNat := by have := mapO_len ht3; simpa using this
        rw [ht3, Option.bind_some] at hce
        have hmx : ((max s (needE es').toNat : Nat) : Int) = max (s : Int) (needE es') := by omega
        refine .inl ⟨2 * (65537 - max s (needE es').toNat) + (if rs'.length < max s (needE es').toNat then 1 else 0), _, H3, hgo2 _ ?_, ?_, max s (needE es').toNat, rs', es', rfl, rfl, by omega, by omega, by omega, by rw [hrl]; exact ht2, hel', by rw [hel']; exact ht3, by omega, h3, ?_⟩
        · rw [e3, Res.bind_ok, state_Take_l3k_x4, hmx, hNN]
        · rw [hm, if_pos hlt, hrl]
          split <;> omega
        · rw [hce, hrl]
          by_cases hcl : (needE es').toNat ≤ s
          · rw [if_pos hcl, if_neg (by omega)]
          · rw [if_neg hcl, if_pos (by omega), show max s (needE es').toNat = (needE es').toNat by omega]
      · have hlt' : ¬ (rs.length : Int) < s := by omega
        have hlt2 : ¬ (es.length : Int) < needR rs := by omega
        rw [if_neg hlt] at hspec
        refine .inr (.inl ⟨.exit 0, [(8, ptrV c), (9, ptrV r), (10, .int .i64 s), (11, .int .i64 (needR rs)), (56, .bool false)], H', ?_, by simp, rfl, rs, es, _, _, rfl, hspec, h⟩)
        rw [state_Take_l1_eq]
        simp -implicitDefEqProofs (disch := omega) [hM, hl1, hl2, hlt', hlt2]) with ⟨x, e', H', h1, rfl, rs', es', a, b, rfl, h2, h3⟩ | ⟨v, H', h1, rfl, h2, h3⟩
  · rw [h2]
    exact ⟨_, H', h1, h3.ext, ⟨a, b, rfl⟩, h3⟩
  · rw [h3]
    exact ⟨H', h1, h2⟩
end
end Go.Sw
end
section
namespace Go.Sw
open Go.RowKit
abbrev machV (m : Mach) : Value := boxV #[.int .i64 m.classes, tabV m.tab, lv encRow m.rows, lv encEn m.ents]
theorem Flat.rowsL (l : List (List Int)) : Flat (Go.Sw.lv encRow l) := .lv fun p _ => .cons (Flat.I _) .nil
theorem Flat.mach (m : Mach) : Flat (machV m) := .boxV (l := [.int .i64 m.classes, tabV m.tab, Go.Sw.lv encRow m.rows, Go.Sw.lv encEn m.ents]) (.cons (.int _ _) (.cons (Flat.tab _) (.cons (Flat.rowsL _) (.cons (Flat.Ens _) .nil))))
theorem rows_fstR (l : List (List Int × Value)) : rows (fun x : List Int × Value => encRow x.1) l = rows encRow (l.map Prod.fst) := by
  induction l with
  | nil => rfl
  | cons x l ih => rw [List.map_cons, rows_cons, rows_cons, ih]
theorem MS.freeze {H0 H : Heap} {X : List It} {c : Nat} {n : Int} {t : Int × List Pt} {rs : List (List Int)} {es : List En} (h : MS H0 H X c n (tabV t) rs es) : ∃ L, fzV H0.n H fzDepth (ptrV c) = some (machV ⟨n, t, rs, es⟩, L) := by
  obtain ⟨l, s1, o1, s2, o2, bs, h1, g, h3⟩ := h
  have hc := (g.lt 0 rfl c (by simp [itBlk])).1
  obtain ⟨L1, f1⟩ := (g.own 1 rfl).freezeG (enc' := fun x : List Int × Value => encRow x.1) encU_len 5 fun x hx => by
    obtain ⟨o, ho⟩ := h3 x hx
    obtain ⟨L, hL⟩ := (g.memOwn (o := o) (m := 1) (s := x.2) (enc := encI) (l := x.1) (by simp [ho])).freeze encI_len (encI_still _) 4
    exact ⟨_, mapF_one hL⟩
  obtain ⟨L2, f2⟩ := (g.own 2 rfl).freeze encEn_len (encEn_still _) 5
  have e1 : lv (fun x : List Int × Value => encRow x.1) l = lv encRow rs := by
    unfold lv
    rw [rows_fstR, h1, ← h1, List.length_map]
  rw [e1] at f1
  exact ⟨_, fz_box hc (g.get 0 rfl) (mapF_cons (v := .int .i64 n) (u := .int .i64 n) (L1 := []) rfl (mapF_cons (v := tabV t) (u := tabV t) (L1 := []) rfl (mapF_cons f1 (mapF_one f2))))⟩
theorem restS_sl {H : Heap} {v : Value} {b r : List Int} (hv : Sl H 1 v encB b) {i : Int} (hl : b.length < 2 ^ 62) (hi : i ≤ 9223372036854775807) (h : restS b i = some r) : Sl H 1 (subV 1 v i.toNat (behind b i).toNat) encB r :=
  pieceS_sl hv (by rw [behind_piece b i hl hi]; exact h)
theorem restS_len {b r : List Int} {i : Int} (h : restS b i = some r) : r.length ≤ b.length := by
  unfold restS at h
  split at h
  · injection h with h
    subst h
    simp
  · cases h
theorem stateTake_run (k : Nat) {H : Heap} {v : Value} {b : List Int} (hv : Sl H 1 v encB b) (hb : Byt b) (g w : Int) (hg1 : 1 ≤ g) (hg2 : g ≤ 65535) (hw : w = 0 ∨ w = 1 ∨ w = 2) (hl : b.length < 2 ^ 31) :
    R (T k) F.state_Take [.agg #[v], .int .i64 g, .int .i64 w] H = orF (machS b g w) machV H := by
  rw [state_Take_R]
  have hx : Ext H (H.push ⟨[v], 1, false⟩) := (Ext.refl H).push _
  have hq := rd_vw hv
  have hqa : veq (.agg #[v]) (.agg #[v]) = true := veq_agg (l := [v]) fun u hu => by simp at hu; subst hu; exact hq
  refine fz_orF ?_ fun _ _ => (Flat.mach _).alive
  simp -implicitDefEqProofs [state_Take]
  unfold machS
  refine Cp.call (U32_run k (hv.up hx) hb 0 (by omega)) hx fun n hn => ?_
  have hn := uS_four hb hn
  by_cases h4 : 4 ≤ n
  rotate_left
  · have h4' : ¬ n ≥ 4 := by omega
    rw [if_neg (fun h => h4 h.1)]
    simp -implicitDefEqProofs (disch := omega) [h4']
    exact .throw hx
  have h4' : n ≥ 4 := h4
  by_cases h5 : n ≤ 65535
  rotate_left
  · rw [if_neg (fun h => h5 h.2)]
    simp -implicitDefEqProofs (disch := omega) [h4', h5]
    exact .throw hx
  rw [if_pos ⟨h4, h5⟩]
  simp -implicitDefEqProofs (disch := omega) [h4', h5]
  refine Cp.callT (U32_run k (hv.up hx) hb 4 (by omega)) (fun _ => ⟨_, rfl, hx⟩) fun i hi => ?_
  have hi := uS_four hb hi
  refine Cp.callT (Rest_run k (hv.up hx) i (by omega) (by omega)) (fun _ => ⟨_, by simp -implicitDefEqProofs (disch := omega) [hqa], hx⟩) fun tb htb => ?_
  refine Cp.callT (lookTake_run k (restS_sl (hv.up hx) (by omega) (by omega) htb) (hb.rest htb) g 2 hg1 hg2 (.inl rfl) (by have := restS_len htb; omega)) (fun _ => ⟨_, by simp -implicitDefEqProofs (disch := omega) [hqa], hx⟩) fun tab htab => ?_
  have hx2 : Ext H ((H.push ⟨[v], 1, false⟩).push ⟨[.int .i64 n, tabV tab, .slice none 0 0, .slice none 0 0], 1, false⟩) := hx.push _
  simp -implicitDefEqProofs (disch := omega) [hqa]
  refine Cp.callT (U32_run k (hv.up hx2) hb 8 (by omega)) (fun _ => ⟨_, by simp -implicitDefEqProofs (disch := omega) [hqa], hx2⟩) fun j hj => ?_
  have hj := uS_four hb hj
  refine Cp.callT (Rest_run k (hv.up hx2) j (by omega) (by omega)) (fun _ => ⟨_, by simp -implicitDefEqProofs (disch := omega) [hqa], hx2⟩) fun rv hrv => ?_
  simp -implicitDefEqProofs (disch := omega) [hqa]
  refine Cp.callT (U32_run k (hv.up hx2) hb 12 (by omega)) (fun _ => ⟨_, by simp -implicitDefEqProofs (disch := omega) [hqa], hx2⟩) fun q hq => ?_
  have hq := uS_four hb hq
  refine Cp.callT (Rest_run k (hv.up hx2) q (by omega) (by omega)) (fun _ => ⟨_, by simp -implicitDefEqProofs (disch := omega) [hqa], hx2⟩) fun ev hev => ?_
  have sR := restS_sl hv (by omega) (by omega) hrv
  have sE := restS_sl hv (by omega) (by omega) hev
  have lR := restS_len hrv
  have lE := restS_len hev
  generalize subV 1 v j.toNat (behind b j).toNat = vR at sR
  generalize subV 1 v q.toNat (behind b q).toNat = vE at sE
  have qR := rd_vw sR
  have qE := rd_vw sE
  have qaR : veq (.agg #[vR]) (.agg #[vR]) = true := veq_agg (l := [vR]) fun u hu => by simp at hu; subst hu; exact qR
  have qaE : veq (.agg #[vE]) (.agg #[vE]) = true := veq_agg (l := [vE]) fun u hu => by simp at hu; subst hu; exact qE
  have stR := sR.storable
  have stE := sE.storable
  have ceR := sR.cells
  have ceE := sE.cells
  have hms : MS H (((H.push ⟨[v], 1, false⟩).push ⟨[.int .i64 n, tabV tab, .slice none 0 0, .slice none 0 0], 1, false⟩).push ⟨[ptrV (H.n + 1), vR, vE, .int .i64 w], 1, false⟩) [itBlk (H.n + 2) ⟨[ptrV (H.n + 1), vR, vE, .int .i64 w], 1, false⟩] (H.n + 1) n (tabV tab) [] [] := by
    have g := ((Star.nil H).rest hx).push ⟨[.int .i64 n, tabV tab, .slice none 0 0, .slice none 0 0], 1, false⟩
    have g := g.more_row (Ext.refl _) (OwnO.nil encU _ 1) (fun b hb => by cases hb)
    have g := g.more_row (Ext.refl _) (OwnO.nil encEn _ 4) (fun b hb => by cases hb)
    have g := g.push ⟨[ptrV (H.n + 1), vR, vE, .int .i64 w], 1, false⟩
    exact ⟨[], _, none, _, none, [], rfl, by simpa using g, fun x hx => by cases hx⟩
  simp -implicitDefEqProofs (disch := omega) [hqa, qaR, qaE, stR, stE, ceR, ceE]
  refine Cp.bindM (all_loop k (X := [itBlk (H.n + 2) ⟨[ptrV (H.n + 1), vR, vE, .int .i64 w], 1, false⟩]) (by omega) hw sR sE (hb.rest hrv) (hb.rest hev) (by omega) (by omega) (by simp) hms) ?_
  rintro ⟨rs, es⟩ ⟨x, e⟩ H' _ hx' ⟨⟨a, b, he⟩, hm⟩
  injection he with e1 e2
  subst e1 e2
  simp only [state_Take_l1k_x0]
  exact .ok hx' hm.freeze
end Go.Sw
end
section
set_option maxRecDepth 100000
set_option linter.unusedVariables false
namespace Go.Sw
noncomputable section
def swashref05_Rows_l1 (k : Nat) (call : Caller) : Env → Heap → Res (AExit × Env) := loopB (C k) call F.swashref05_Rows [1, 1, 1, 1, 0, 1, 0, 0]
def swashref05_Rows_l1k (k : Nat) (call : Caller) : Kont Value := kBlock 0 (kSeq (pieceK (C k) call F.swashref05_Rows [1, 1, 1, 1, 1]) (kDone Prog (resOf Prog F.swashref05_Rows)))
def swashref05_Rows_j1 (k : Nat) (call : Caller) (a0 a3 a11 a12 a13 a60 : Value) (h : Heap) : Res Value :=
  kSeq (pieceK (C k) call F.swashref05_Rows [1, 1, 1, 1, 1, 1]) (kDone Prog (resOf Prog F.swashref05_Rows)) .normal [(0, a0), (3, a3), (11, a11), (12, a12), (13, a13), (60, a60)] h
def swashref05_Rows_l2 (k : Nat) (call : Caller) : Env → Heap → Res (AExit × Env) := loopB (C k) call F.swashref05_Rows [1, 1, 1, 1, 1, 0, 1, 0, 1, 0, 1, 0, 0]
def swashref05_Rows_l2k (k : Nat) (call : Caller) : Kont Value := kBlock 2 (kSeq (pieceK (C k) call F.swashref05_Rows [1, 1, 1, 1, 1, 0, 1, 0, 1, 1]) (kSeq (pieceK (C k) call F.swashref05_Rows [1, 1, 1, 1, 1, 1]) (kDone Prog (resOf Prog F.swashref05_Rows))))
def swashref05_Rows_j2 (k : Nat) (call : Caller) (a11 a13 : Value) (h : Heap) : Res Value :=
  kSeq (pieceK (C k) call F.swashref05_Rows [1, 1, 1, 1, 1, 1]) (kDone Prog (resOf Prog F.swashref05_Rows)) .normal [(11, a11), (13, a13)] h
def swashref05_Rows_j3 (k : Nat) (call : Caller) (a11 a12 a13 a80 : Value) (h : Heap) : Res Value :=
  kSeq (pieceK (C k) call F.swashref05_Rows [1, 1, 1, 1, 1, 1]) (kDone Prog (resOf Prog F.swashref05_Rows)) .normal [(11, a11), (12, a12), (13, a13), (80, a80)] h
def swashref05_Rows (k : Nat) (call : Caller) (a0 a1 a2 a3 : Value) (h : Heap) : Res Value :=
  (call F.swashref01_U [a0, a1, (.int .i64 2)] h).bind fun v1 h2 =>
  (binR Prog .add 3 a1 (.int .i64 2) h2).bind fun v3 h4 =>
  (call F.swashref01_U [a0, v3, (.int .i64 2)] h4).bind fun v5 h6 =>
  (builtinV Prog .len [65] [a0] h6).bind fun v7 h8 =>
  (call F.swashref01_In [v7, a1, (.int .i64 10)] h8).bind fun v9 h10 =>
  (unR .not v9 h10).bind fun v11 h12 =>
  ((bif wantVal v11 false then Res.ok v1 h12 else Res.ok undef h12)).bind fun v13 h14 =>
  ((bif wantVal v11 false then Res.ok a2 h14 else Res.ok undef h14)).bind fun v15 h16 =>
  ((bif wantVal v11 false then binR Prog .lss 3 v13 v15 h16 else Res.ok undef h16)).bind fun v17 h18 =>
  (condV (some v11) (Res.ok (.bool true) h18) (Res.ok v17 h18)).bind fun v19 h20 =>
  ((bif wantVal v19 false then Res.ok a0 h20 else Res.ok undef h20)).bind fun v21 h22 =>
  ((bif wantVal v19 false then builtinV Prog .len [65] [v21] h22 else Res.ok undef h22)).bind fun v23 h24 =>
  ((bif wantVal v19 false then Res.ok a1 h24 else Res.ok undef h24)).bind fun v25 h26 =>
  ((bif wantVal v19 false then binR Prog .add 3 v25 (.int .i64 10) h26 else Res.ok undef h26)).bind fun v27 h28 =>
  ((bif wantVal v19 false then Res.ok v5 h28 else Res.ok undef h28)).bind fun v29 h30 =>
  ((bif wantVal v19 false then Res.ok v1 h30 else Res.ok undef h30)).bind fun v31 h32 =>
  ((bif wantVal v19 false then call F.swashref01_Rows [v23, v27, v29, v31] h32 else Res.ok undef h32)).bind fun v33 h34 =>
  ((bif wantVal v19 false then unR .not v33 h34 else Res.ok undef h34)).bind fun v35 h36 =>
  (condV (some v19) (Res.ok (.bool true) h36) (Res.ok v35 h36)).bind fun v37 h38 =>
  condV (some v37) (
    .ok (.tuple #[(.slice none 0 0), (.int .i64 0), (.bool false)]) h38)
  (
    (buildSliceR Prog 28 0 [] h38).bind fun v39 h40 =>
    (loopN (swashref05_Rows_l1 k call) loopFuel [(0, a0), (1, a1), (3, a3), (11, v1), (12, v5), (13, v39), (14, (.int .i64 0))] h40).bind fun r41 h42 =>
    swashref05_Rows_l1k k call r41.1 r41.2 h42)
theorem swashref05_Rows_R (k : Nat) (a0 a1 a2 a3 : Value) (h : Heap) : R (T k) F.swashref05_Rows [a0, a1, a2, a3] h = nrm .fz h (swashref05_Rows k (R (T k)) a0 a1 a2 a3 h) :=
  (R_body (t := T k) (T_scott k) (by kernel_rfl) _ _).trans (by kernel_rfl)
theorem swashref05_Rows_l1_eq (k : Nat) (call : Caller) (a0 a1 a3 a11 a12 a13 a14 : Value) (h : Heap) : swashref05_Rows_l1 k call [(0, a0), (1, a1), (3, a3), (11, a11), (12, a12), (13, a13), (14, a14)] h =
  (binR Prog .lss 3 a14 a12 h).bind fun v43 h44 =>
  condV (some v43) (
    (binR Prog .add 3 a1 (.int .i64 10) h44).bind fun v45 h46 =>
    (binR Prog .mul 3 a14 a11 h46).bind fun v47 h48 =>
    (binR Prog .add 3 v45 v47 h48).bind fun v49 h50 =>
    (buildSliceR Prog 28 1 [(0, v49)] h50).bind fun v51 h52 =>
    (builtinV Prog .append [28, 28] [a13, v51] h52).bind fun v53 h54 =>
    (binR Prog .add 3 a14 (.int .i64 1) h54).bind fun v55 h56 =>
    .ok (.normal, [(0, a0), (1, a1), (3, a3), (11, a11), (12, a12), (13, v53), (14, v55)]) h56)
  (
    .ok ((.exit 0), [(0, a0), (1, a1), (3, a3), (11, a11), (12, a12), (13, a13), (14, a14), (47, v43)]) h44) :=
  (loopB_eq _ _).trans (by kernel_rfl)
theorem swashref05_Rows_l1k_x0 (k : Nat) (call : Caller) (a0 a1 a3 a11 a12 a13 a14 a47 : Value) (h : Heap) : swashref05_Rows_l1k k call (.exit 0) [(0, a0), (1, a1), (3, a3), (11, a11), (12, a12), (13, a13), (14, a14), (47, a47)] h =
  (binR Prog .gtr 3 a12 (.int .i64 0) h).bind fun v57 h58 =>
  condV (some v57) (
    (loopN (swashref05_Rows_l2 k call) loopFuel [(0, a0), (3, a3), (11, a11), (12, a12), (13, a13), (15, (.bool true)), (16, (.int .i64 0))] h58).bind fun r59 h60 =>
    swashref05_Rows_l2k k call r59.1 r59.2 h60)
  (
    swashref05_Rows_j1 k call a0 a3 a11 a12 a13 v57 h58) := by kernel_rfl
theorem swashref05_Rows_j1_eq (k : Nat) (call : Caller) (a0 a3 a11 a12 a13 a60 : Value) (h : Heap) : swashref05_Rows_j1 k call a0 a3 a11 a12 a13 a60 h =
  .ok (.tuple #[a13, a11, (.bool true)]) h := by kernel_rfl
theorem swashref05_Rows_l2_eq (k : Nat) (call : Caller) (a0 a3 a11 a12 a13 a15 a16 : Value) (h : Heap) : swashref05_Rows_l2 k call [(0, a0), (3, a3), (11, a11), (12, a12), (13, a13), (15, a15), (16, a16)] h =
  (binR Prog .lss 3 a16 a3 h).bind fun v61 h62 =>
  condV (some v61) (
    ((bif wantVal a15 true then Res.ok a0 h62 else Res.ok undef h62)).bind fun v63 h64 =>
    ((bif wantVal a15 true then Res.ok a13 h64 else Res.ok undef h64)).bind fun v65 h66 =>
    ((bif wantVal a15 true then Res.ok a12 h66 else Res.ok undef h66)).bind fun v67 h68 =>
    ((bif wantVal a15 true then binR Prog .sub 3 v67 (.int .i64 1) h68 else Res.ok undef h68)).bind fun v69 h70 =>
    ((bif wantVal a15 true then indexAddrR Prog 28 v65 v69 h70 else Res.ok undef h70)).bind fun v71 h72 =>
    ((bif wantVal a15 true then loadR Prog 3 v71 h72 else Res.ok undef h72)).bind fun v73 h74 =>
    ((bif wantVal a15 true then Res.ok a16 h74 else Res.ok undef h74)).bind fun v75 h76 =>
    ((bif wantVal a15 true then binR Prog .mul 3 (.int .i64 2) v75 h76 else Res.ok undef h76)).bind fun v77 h78 =>
    ((bif wantVal a15 true then binR Prog .add 3 v73 v77 h78 else Res.ok undef h78)).bind fun v79 h80 =>
    ((bif wantVal a15 true then call F.swashref01_U [v63, v79, (.int .i64 2)] h80 else Res.ok undef h80)).bind fun v81 h82 =>
    ((bif wantVal a15 true then binR Prog .eql 3 v81 (.int .i64 65535) h82 else Res.ok undef h82)).bind fun v83 h84 =>
    (condV (some a15) (Res.ok v83 h84) (Res.ok (.bool false) h84)).bind fun v85 h86 =>
    (binR Prog .add 3 a16 (.int .i64 1) h86).bind fun v87 h88 =>
    .ok (.normal, [(0, a0), (3, a3), (11, a11), (12, a12), (13, a13), (15, v85), (16, v87)]) h88)
  (
    .ok ((.exit 2), [(0, a0), (3, a3), (11, a11), (12, a12), (13, a13), (15, a15), (16, a16), (63, v61)]) h62) :=
  (loopB_eq _ _).trans (by kernel_rfl)
theorem swashref05_Rows_l2k_x2 (k : Nat) (call : Caller) (a0 a3 a11 a12 a13 a15 a16 a63 : Value) (h : Heap) : swashref05_Rows_l2k k call (.exit 2) [(0, a0), (3, a3), (11, a11), (12, a12), (13, a13), (15, a15), (16, a16), (63, a63)] h =
  condV (some a15) (
    (binR Prog .sub 3 a12 (.int .i64 1) h).bind fun v89 h90 =>
    (sliceR Prog 28 a13 none (some v89) none h90).bind fun v91 h92 =>
    swashref05_Rows_j2 k call a11 v91 h92)
  (
    swashref05_Rows_j3 k call a11 a12 a13 a15 h) := by kernel_rfl
theorem swashref05_Rows_j2_eq (k : Nat) (call : Caller) (a11 a13 : Value) (h : Heap) : swashref05_Rows_j2 k call a11 a13 h =
  .ok (.tuple #[a13, a11, (.bool true)]) h := by kernel_rfl
theorem swashref05_Rows_j3_eq (k : Nat) (call : Caller) (a11 a12 a13 a80 : Value) (h : Heap) : swashref05_Rows_j3 k call a11 a12 a13 a80 h =
  .ok (.tuple #[a13, a11, (.bool true)]) h := by kernel_rfl
end
end Go.Sw
end
section
namespace Go.Sw
open Go.RowKit
def rowsO (b : List Int) (i need : Int) (keys : Nat) : Value := match takeS b i need keys with
  | some rows => .tuple #[lv encI (posS i (gU b i 2) rows.length), .int .i64 (gU b i 2), .bool true]
  | none => .tuple #[lv encI [], .int .i64 0, .bool false]
theorem rowsO_flat (b : List Int) (i need : Int) (keys : Nat) : Flat (rowsO b i need keys) := by
  unfold rowsO
  split
  · exact .tupleL (.cons (Flat.I _) (.cons (.int _ _) (.cons (.bool _) .nil)))
  · exact .tupleL (.cons (Flat.I _) (.cons (.int _ _) (.cons (.bool _) .nil)))
theorem inS_piece {b : List Int} {i n : Int} : (pieceS b i n).isSome = inS b.length i n := by
  unfold pieceS inS
  split
  · rename_i h; rw [decide_eq_true h]; rfl
  · rename_i h; rw [decide_eq_false h]; rfl
theorem uS_of_in {b : List Int} {i n : Int} (h : inS b.length i n = true) : ∃ x, uS b i n = some x := by
  rw [← inS_piece, Option.isSome_iff_exists] at h
  obtain ⟨r, hr⟩ := h
  exact ⟨num r, by unfold uS; rw [hr]; rfl⟩
theorem posS_take (i z : Int) (n j : Nat) (h : j ≤ n) : (posS i z n).take j = posS i z j := by
  unfold posS
  rw [← List.map_take, List.take_range, Nat.min_eq_left h]
theorem posS_snoc (i z : Int) (n : Nat) : posS i z (n + 1) = posS i z n ++ [i + 10 + z * (n : Nat)] := by simp [posS, List.range_succ]
theorem rows05_run (k : Nat) (b : List Int) (hb : Byt b) (i need : Int) (keys : Nat) (hl : b.length < 2 ^ 31) (hi0 : 0 ≤ i) (hi : i < 65536) (hneed : 0 < need) (hk : 2 * (keys : Int) ≤ need) (H : Heap) :
    R (T k) F.swashref05_Rows [lv encB b, .int .i64 i, .int .i64 need, .int .i64 keys] H = .ok (rowsO b i need keys) H := by
  rw [swashref05_Rows_R]
  have hU := fun j H' => refU_run k (H := H') (Sl.lv H' 1 b) hb j 2 (by omega) (by omega)
  have hIn := fun H' => refIn_run k b.length i 10 (by omega) (by omega) H'
  have hnil : ∃ L, fzV H.n H fzDepth (.tuple #[.slice none 0 0, .int .i64 0, .bool false]) = some (.tuple #[lv encI [], .int .i64 0, .bool false], L) := ⟨_, rfl⟩
  obtain ⟨L0, hnil⟩ := hnil
  have hno : takeS b i need keys = none → swashref05_Rows k (R (T k)) (lv encB b) (.int .i64 i) (.int .i64 need) (.int .i64 keys) H = .ok (.tuple #[.slice none 0 0, .int .i64 0, .bool false]) H → nrm .fz H (swashref05_Rows k (R (T k)) (lv encB b) (.int .i64 i) (.int .i64 need) (.int .i64 keys) H) = .ok (rowsO b i need keys) H := fun h1 h2 => by
    have fl := rowsO_flat b i need keys
    unfold rowsO at fl ⊢
    rw [h1] at fl ⊢
    exact nrm_fz h2 hnil (Ext.refl H) fl.alive
  cases hin : inS b.length i 10 with
  | false =>
    have hp : pieceS b i 10 = none := by
      have := inS_piece (b := b) (i := i) (n := 10)
      rw [hin] at this
      simpa using this
    refine hno (by unfold takeS; rw [hp]; split <;> simp) ?_
    rw [hin] at hIn
    have hg1 : -1 ≤ (uS b i 2).getD (-1) ∧ (uS b i 2).getD (-1) < 65536 := gU_two hb i
    have hg2 : -1 ≤ (uS b (i + 2) 2).getD (-1) ∧ (uS b (i + 2) 2).getD (-1) < 65536 := gU_two hb (i + 2)
    simp -implicitDefEqProofs (disch := omega) [swashref05_Rows, hU, hIn]
  | true =>
    rw [hin] at hIn
    have hin' : 0 ≤ i ∧ 0 ≤ (10 : Int) ∧ i ≤ b.length ∧ 10 ≤ b.length - i := of_decide_eq_true hin
    obtain ⟨z, hz⟩ := uS_of_in (b := b) (i := i) (n := 2) (by unfold inS; exact decide_eq_true (by omega))
    obtain ⟨n, hn⟩ := uS_of_in (b := b) (i := i + 2) (n := 2) (by unfold inS; exact decide_eq_true (by omega))
    have hz2 := uS_two hb hz
    have hn2 := uS_two hb hn
    have hu1 := fun H' => hU i H'
    have hu2 := fun H' => hU (i + 2) H'
    rw [hz] at hu1
    rw [hn] at hu2
    simp only [Option.getD_some] at hu1 hu2
    have hpc : (pieceS b i 10).isSome = true := by rw [inS_piece]; exact hin
    by_cases hnz : need ≤ z
    rotate_left
    · refine hno (by unfold takeS; rw [hz, hn]; simp [hnz]) ?_
      have : z < need := by omega
      simp -implicitDefEqProofs (disch := omega) [swashref05_Rows, hu1, hu2, hIn, this]
    have hnz' : ¬ z < need := by omega
    have hRows := fun H' => refRows_run k b.length (i + 10) n z (by omega) (by omega) H'
    cases hrb : rowsB b.length (i + 10) n z with
    | false =>
      have hrs : rowsS b (i + 10) n z = none := by
        cases h : rowsS b (i + 10) n z with
        | none => rfl
        | some r =>
          have := (rowsB_iff (by omega)).2 ((rowsS_iff (by omega)).1 h).1
          rw [hrb] at this; cases this
      rw [hrb] at hRows
      refine hno (by unfold takeS; rw [hz, hn]; simp [hrs]) ?_
      simp -implicitDefEqProofs (disch := omega) [swashref05_Rows, hu1, hu2, hIn, hnz', hRows]
    | true =>
      rw [hrb] at hRows
      have hrs := (rowsS_iff (r := (b.drop (i + 10).toNat).take (n * z).toNat) (by omega)).2 ⟨(rowsB_iff (by omega)).1 hrb, rfl⟩
      obtain ⟨r, hr⟩ : ∃ r, r = (b.drop (i + 10).toNat).take (n * z).toNat := ⟨_, rfl⟩
      rw [← hr] at hrs
      have htake : takeS b i need keys = some (endRows r z.toNat n.toNat keys) := by unfold takeS; rw [hz, hn]; simp [hpc, hnz, hrs]
      obtain ⟨n, rfl⟩ := Int.eq_ofNat_of_zero_le hn2.1
      have hzn : (z.toNat : Int) = z := by omega
      -- the rows' places
      obtain ⟨x, e', H1, hr1, rfl, ⟨a, s, rfl, ho⟩, hx⟩ := loop_up (body := swashref05_Rows_l1 k (R (T k))) n
        (fun j e H' => (∃ s, e = [(0, lv encB b), (1, .int .i64 i), (3, .int .i64 keys), (11, .int .i64 z), (12, .int .i64 n), (13, s), (14, .int .i64 j)] ∧ Own H H' 1 s encI (posS i z j)) ∧ Ext H H')
        (fun x e H' => x = .exit 0 ∧ (∃ a s, e = [(0, lv encB b), (1, .int .i64 i), (3, .int .i64 keys), (11, .int .i64 z), (12, .int .i64 n), (13, s), (14, .int .i64 n), (47, a)] ∧ Own H H' 1 s encI (posS i z n)) ∧ Ext H H')
        (e0 := [(0, lv encB b), (1, .int .i64 i), (3, .int .i64 keys), (11, .int .i64 z), (12, .int .i64 n), (13, bareV), (14, .int .i64 0)]) (H0 := H) ⟨⟨_, rfl, Own.bare _ _ _⟩, Ext.refl H⟩ (by omega)
        (fun j e H' hj ⟨⟨s, he, ho⟩, hx⟩ => by
          subst he
          have hlt : (j : Int) < n := by omega
          have hjz : (j : Int) * z ≤ 65536 * 65536 := Int.mul_le_mul (by omega) (by omega) (by omega) (by omega)
          have hjz0 : 0 ≤ (j : Int) * z := Int.mul_nonneg (by omega) (by omega)
          obtain ⟨s2, H2, e2, o2, x2⟩ := ap1_own (bytes := 8) encI_len ho hx (i + 10 + z * (j : Nat)) (by simp; omega) (by decide)
          rw [← posS_snoc] at o2
          rw [Int.mul_comm z] at e2
          refine .inl ⟨_, H2, ?_, ⟨s2, rfl, o2⟩, x2⟩
          rw [swashref05_Rows_l1_eq]
          simp -implicitDefEqProofs (disch := omega) [hlt, e2])
        (fun e H' ⟨⟨s, he, ho⟩, hx⟩ => by
          subst he
          refine ⟨.exit 0, _, H', ?_, by simp, rfl, ⟨.bool false, s, rfl, ho⟩, hx⟩
          rw [swashref05_Rows_l1_eq]
          simp -implicitDefEqProofs)
      have hgu : gU b i 2 = z := gU_some hz
      have fl := rowsO_flat b i need keys
      unfold rowsO at fl ⊢
      rw [htake, hgu] at fl ⊢
      dsimp only at fl ⊢
      by_cases hn0 : n = 0
      · subst hn0
        obtain ⟨L, hf⟩ := ho.freeze encI_len (encI_still _) 5
        have e2 : (endRows r z.toNat (Int.toNat ((0 : Nat) : Int)) keys).length = 0 := by simp [endRows]
        rw [e2] at fl ⊢
        refine nrm_fz (v := .tuple #[s, .int .i64 z, .bool true]) (H' := H1) ?_ (fz_tuple (l := [s, .int .i64 z, .bool true]) (mapF_cons hf (mapF_cons (L1 := []) rfl (mapF_one (L := []) rfl)))) hx fl.alive
        simp at hr1 hRows
        simp -implicitDefEqProofs (disch := omega) [swashref05_Rows, hu1, hu2, hIn, hnz', hRows, hr1, swashref05_Rows_l1k_x0, swashref05_Rows_j1_eq]
      · have hgt : 0 < n := by omega
        obtain ⟨z, rfl⟩ := Int.eq_ofNat_of_zero_le hz2.1
        simp only [Int.toNat_natCast] at *
        have hrow := rowsS_row hrs (j := n - 1) (by omega)
        obtain ⟨row, hrowd⟩ : ∃ row, row = (r.drop (z * (n - 1))).take z := ⟨_, rfl⟩
        rw [← hrowd] at hrow
        have hlast := posS_get i z n (n - 1) (by omega)
        obtain ⟨bk, hsk, hbk, hgk, _⟩ := ixS_own ho .i64 (n - 1) (by simp; omega) H1
        rw [posS_len] at hsk
        have hixk : ∀ H'', ixS 1 s (.int .i64 ((n : Int) - 1)) H'' = .ok (.pointer (some ⟨bk, (n - 1) * 1, none⟩)) H'' := fun H'' => by
          rw [hsk, show ((n : Int) - 1) = ((n - 1 : Nat) : Int) by omega]
          have := ixS_slice 1 bk 0 n n .i64 (n - 1) H'' (by omega)
          simpa using this
        have hld := ld1_row encI_len hgk (c := 0) hlast (by decide) rfl
        simp only [Nat.add_zero, Nat.mul_one] at hld hixk
        have hp0 : 0 ≤ i + 10 + (z : Int) * ((n - 1 : Nat) : Int) ∧ i + 10 + (z : Int) * ((n - 1 : Nat) : Int) < 2 ^ 34 := by
          have := Int.mul_nonneg (show (0 : Int) ≤ z by omega) (show (0 : Int) ≤ ((n - 1 : Nat) : Int) by omega)
          have : (z : Int) * ((n - 1 : Nat) : Int) ≤ 65536 * 65536 := Int.mul_le_mul (by omega) (by omega) (by omega) (by omega)
          omega
        generalize i + 10 + (z : Int) * ((n - 1 : Nat) : Int) = p at hrow hld hp0
        obtain ⟨x, e', H2, hr2, rfl, rfl, a2, rfl⟩ := loop_up (body := swashref05_Rows_l2 k (R (T k))) keys
          (fun j e H' => H' = H1 ∧ e = [(0, lv encB b), (3, .int .i64 keys), (11, .int .i64 z), (12, .int .i64 n), (13, s), (15, .bool ((List.range j).all fun q => uS row (2 * q) 2 == some 65535)), (16, .int .i64 j)])
          (fun x e H' => H' = H1 ∧ x = .exit 2 ∧ ∃ a, e = [(0, lv encB b), (3, .int .i64 keys), (11, .int .i64 z), (12, .int .i64 n), (13, s), (15, .bool (noneS row keys)), (16, .int .i64 keys), (63, a)])
          (e0 := [(0, lv encB b), (3, .int .i64 keys), (11, .int .i64 z), (12, .int .i64 n), (13, s), (15, .bool true), (16, .int .i64 0)]) (H0 := H1) ⟨rfl, rfl⟩ (by omega)
          (fun j e H' hj ⟨hH, he⟩ => by
            subst he hH
            have hlt : (j : Int) < keys := by omega
            refine .inl ⟨_, _, ?_, rfl, rfl⟩
            rw [swashref05_Rows_l2_eq, List.range_succ, List.all_append]
            cases hall : (List.range j).all fun q => uS row (2 * q) 2 == some 65535 with
            | false => simp -implicitDefEqProofs (disch := omega) [hlt]
            | true =>
              have hsub := uS_sub hrow (x := 2 * j) (y := 2) (by omega) (by omega) (by omega)
              have hu := hU (p + 2 * j)
              rw [← hsub] at hu
              obtain ⟨y, hy⟩ : ∃ y, uS row (2 * j) 2 = some y := by
                obtain ⟨y, hy⟩ := (row_two hrow (x := 2 * j) (y := 2) (by omega) (by omega) (by omega)).2
                exact ⟨y, by rw [hsub, hy]⟩
              rw [hy] at hu
              simp -implicitDefEqProofs (disch := omega) [hlt]
              rw [hixk]
              simp -implicitDefEqProofs (disch := omega) [hlt, hld, hu, hy])
          (fun e H' ⟨hH, he⟩ => by
            subst he hH
            refine ⟨.exit 2, _, _, ?_, by simp, rfl, rfl, .bool false, rfl⟩
            rw [swashref05_Rows_l2_eq]
            simp -implicitDefEqProofs [noneS])
        obtain ⟨bf, L, hsf, hf⟩ := ho.freeze_take encI_len (encI_still _) 5 (endRows r z n keys).length (by unfold endRows; split <;> simp) (by simp; omega)
        rw [posS_len] at hsf
        have hbf : bk = bf := by rw [hsk] at hsf; simpa using hsf
        subst hbf
        rw [posS_take _ _ _ _ (by unfold endRows; split <;> simp)] at hf
        cases hno : noneS row keys with
        | false =>
          rw [hno] at hr2
          have e2 : (endRows r z n keys).length = n := by unfold endRows; rw [← hrowd, hno]; simp
          rw [e2] at hf fl ⊢
          refine nrm_fz (v := .tuple #[s, .int .i64 z, .bool true]) (H' := H2) ?_ (fz_tuple (l := [s, .int .i64 z, .bool true]) (mapF_cons (by rw [hsk]; exact hf n) (mapF_cons (L1 := []) rfl (mapF_one (L := []) rfl)))) hx fl.alive
          simp -implicitDefEqProofs (disch := omega) [swashref05_Rows, hu1, hu2, hIn, hnz', hRows, hr1, swashref05_Rows_l1k_x0, hgt, hr2, swashref05_Rows_l2k_x2, swashref05_Rows_j3_eq]
        | true =>
          rw [hno] at hr2
          have e2 : (endRows r z n keys).length = n - 1 := by unfold endRows; rw [← hrowd, hno, if_pos ⟨by omega, rfl⟩]; simp
          rw [e2] at hf fl ⊢
          have hsl := slS_own hgk .i64 (n - 1) (by simp)
          rw [posS_len, show (((n - 1 : Nat)) : Int) = (n : Int) - 1 by omega] at hsl
          refine nrm_fz (v := .tuple #[.slice (some ⟨bk, 0, none⟩) (n - 1) n, .int .i64 z, .bool true]) (H' := H2) ?_ (fz_tuple (l := [.slice (some ⟨bk, 0, none⟩) (n - 1) n, .int .i64 z, .bool true]) (mapF_cons (hf n) (mapF_cons (L1 := []) rfl (mapF_one (L := []) rfl)))) hx fl.alive
          subst hsk
          simp -implicitDefEqProofs (disch := omega) [swashref05_Rows, hu1, hu2, hIn, hnz', hRows, hr1, swashref05_Rows_l1k_x0, hgt, hr2, swashref05_Rows_l2k_x2, hsl, swashref05_Rows_j2_eq]
end Go.Sw
end
section
set_option maxRecDepth 100000
set_option linter.unusedVariables false
namespace Go.Sw
noncomputable section
def swashref06_Read_l1 (k : Nat) (call : Caller) : Env → Heap → Res (AExit × Env) := loopB (C k) call F.swashref06_Read [1, 1, 0, 1, 0, 0]
def swashref06_Read_l1k (k : Nat) (call : Caller) : Kont Value := kBlock 0 (kSeq (pieceK (C k) call F.swashref06_Read [1, 1, 1]) (kDone Prog (resOf Prog F.swashref06_Read)))
def swashref06_Read_j1 (k : Nat) (call : Caller) (a0 a6 a8 a9 a10 : Value) (h : Heap) : Res (AExit × Env) :=
  kSeq (pieceK (C k) call F.swashref06_Read [1, 1, 0, 1, 0, 0, 1, 1]) (kRound (ownOf (C k) F.swashref06_Read [1, 1, 0, 1, 0, 0])) .normal [(0, a0), (6, a6), (8, a8), (9, a9), (10, a10)] h
def swashref06_Read_j2 (k : Nat) (call : Caller) (a0 a6 a8 a9 a10 a52 : Value) (h : Heap) : Res (AExit × Env) :=
  kSeq (pieceK (C k) call F.swashref06_Read [1, 1, 0, 1, 0, 0, 1, 1]) (kRound (ownOf (C k) F.swashref06_Read [1, 1, 0, 1, 0, 0])) .normal [(0, a0), (6, a6), (8, a8), (9, a9), (10, a10), (52, a52)] h
def swashref06_Read (k : Nat) (call : Caller) (a0 a1 a2 : Value) (h : Heap) : Res Value :=
  (allocR Prog 88 h).bind fun v1 h2 =>
  (call F.swashref06_parts [a0, a1, a2] h2).bind fun v3 h4 =>
  (extractR v3 0 h4).bind fun v5 h6 =>
  (extractR v3 1 h6).bind fun v7 h8 =>
  (loopN (swashref06_Read_l1 k call) loopFuel [(0, a0), (6, v1), (8, v5), (9, v7), (10, (.int .i64 0))] h8).bind fun r9 h10 =>
  swashref06_Read_l1k k call r9.1 r9.2 h10
theorem swashref06_Read_R (k : Nat) (a0 a1 a2 : Value) (h : Heap) : R (T k) F.swashref06_Read [a0, a1, a2] h = nrm .fz h (swashref06_Read k (R (T k)) a0 a1 a2 h) :=
  (R_body (t := T k) (T_scott k) (by kernel_rfl) _ _).trans (by kernel_rfl)
theorem swashref06_Read_l1_eq (k : Nat) (call : Caller) (a0 a6 a8 a9 a10 : Value) (h : Heap) : swashref06_Read_l1 k call [(0, a0), (6, a6), (8, a8), (9, a9), (10, a10)] h =
  (builtinV Prog .len [86] [a8] h).bind fun v11 h12 =>
  (binR Prog .lss 3 a10 v11 h12).bind fun v13 h14 =>
  condV (some v13) (
    (indexAddrR Prog 86 a8 a10 h14).bindN fun v15 h16 =>
    (fieldAddrR Prog 244 v15 0 h16).bindN fun v17 h18 =>
    (loadR Prog 3 v17 h18).bindN fun v19 h20 =>
    (indexAddrR Prog 86 a8 a10 h20).bindN fun v21 h22 =>
    (fieldAddrR Prog 244 v21 1 h22).bindN fun v23 h24 =>
    (loadR Prog 3 v23 h24).bindN fun v25 h26 =>
    (binR Prog .gtr 3 v19 v25 h26).bindN fun v27 h28 =>
    ((bif wantVal v27 false then Res.ok a10 h28 else Res.ok undef h28)).bindN fun v29 h30 =>
    ((bif wantVal v27 false then binR Prog .gtr 3 v29 (.int .i64 0) h30 else Res.ok undef h30)).bindN fun v31 h32 =>
    ((bif wantVal v27 false then Res.ok v31 h32 else Res.ok undef h32)).bindN fun v33 h34 =>
    ((bif wantVal v33 true then Res.ok a8 h34 else Res.ok undef h34)).bindN fun v35 h36 =>
    ((bif wantVal v33 true then Res.ok a10 h36 else Res.ok undef h36)).bindN fun v37 h38 =>
    ((bif wantVal v33 true then binR Prog .sub 3 v37 (.int .i64 1) h38 else Res.ok undef h38)).bindN fun v39 h40 =>
    ((bif wantVal v33 true then indexAddrR Prog 86 v35 v39 h40 else Res.ok undef h40)).bindN fun v41 h42 =>
    ((bif wantVal v33 true then fieldAddrR Prog 244 v41 1 h42 else Res.ok undef h42)).bindN fun v43 h44 =>
    ((bif wantVal v33 true then loadR Prog 3 v43 h44 else Res.ok undef h44)).bindN fun v45 h46 =>
    ((bif wantVal v33 true then Res.ok a8 h46 else Res.ok undef h46)).bindN fun v47 h48 =>
    ((bif wantVal v33 true then Res.ok a10 h48 else Res.ok undef h48)).bindN fun v49 h50 =>
    ((bif wantVal v33 true then indexAddrR Prog 86 v47 v49 h50 else Res.ok undef h50)).bindN fun v51 h52 =>
    ((bif wantVal v33 true then fieldAddrR Prog 244 v51 0 h52 else Res.ok undef h52)).bindN fun v53 h54 =>
    ((bif wantVal v33 true then loadR Prog 3 v53 h54 else Res.ok undef h54)).bindN fun v55 h56 =>
    ((bif wantVal v33 true then binR Prog .geq 3 v45 v55 h56 else Res.ok undef h56)).bindN fun v57 h58 =>
    ((bif wantVal v27 false then condV (some v33) (Res.ok v57 h58) (Res.ok (.bool false) h58) else Res.ok undef h58)).bindN fun v59 h60 =>
    (condV (some v27) (Res.ok (.bool true) h60) (Res.ok v59 h60)).bindN fun v61 h62 =>
    condV (some v61) (
      swashref06_Read_j1 k call a0 a6 a8 (.bool false) a10 h62)
    (
      swashref06_Read_j2 k call a0 a6 a8 a9 a10 v61 h62))
  (
    .ok ((.exit 0), [(0, a0), (6, a6), (8, a8), (9, a9), (10, a10), (21, v13)]) h14) :=
  (loopB_eq _ _).trans (by kernel_rfl)
theorem swashref06_Read_j1_eq (k : Nat) (call : Caller) (a0 a6 a8 a9 a10 : Value) (h : Heap) : swashref06_Read_j1 k call a0 a6 a8 a9 a10 h =
  (binR Prog .add 3 a10 (.int .i64 1) h).bind fun v63 h64 =>
  .ok (.normal, [(0, a0), (6, a6), (8, a8), (9, a9), (10, v63)]) h64 := by kernel_rfl
theorem swashref06_Read_j2_eq (k : Nat) (call : Caller) (a0 a6 a8 a9 a10 a52 : Value) (h : Heap) : swashref06_Read_j2 k call a0 a6 a8 a9 a10 a52 h =
  (binR Prog .add 3 a10 (.int .i64 1) h).bind fun v65 h66 =>
  .ok (.normal, [(0, a0), (6, a6), (8, a8), (9, a9), (10, v65)]) h66 := by kernel_rfl
theorem swashref06_Read_l1k_x0 (k : Nat) (call : Caller) (a0 a6 a8 a9 a10 a21 : Value) (h : Heap) : swashref06_Read_l1k k call (.exit 0) [(0, a0), (6, a6), (8, a8), (9, a9), (10, a10), (21, a21)] h =
  (unR .not a9 h).bind fun v67 h68 =>
  condV (some v67) (
    (buildR Prog 88 [] h68).bind fun v69 h70 =>
    (storeR Prog 88 a6 v69 h70).bind fun _v71 h72 =>
    (loadR Prog 88 a6 h72).bind fun v73 h74 =>
    .ok (.tuple #[v73, (.bool false)]) h74)
  (
    (buildR Prog 88 [(0, a0), (1, a8)] h68).bind fun v75 h76 =>
    (storeR Prog 88 a6 v75 h76).bind fun _v77 h78 =>
    (loadR Prog 88 a6 h78).bind fun v79 h80 =>
    .ok (.tuple #[v79, (.bool true)]) h80) := by kernel_rfl
def swashref06_parts_l1 (k : Nat) (call : Caller) : Env → Heap → Res (AExit × Env) := loopB (C k) call F.swashref06_parts [1, 0, 1, 0, 1, 1, 1, 1, 1, 1, 1, 0, 1, 1, 0, 1, 0, 0]
def swashref06_parts_l1k (k : Nat) (call : Caller) : Kont Value := kBlock 1 (kSeq (pieceK (C k) call F.swashref06_parts [1, 0, 1, 0, 1, 1, 1, 1, 1, 1, 1, 0, 1, 1, 1]) (kBlock 0 (kSeq (pieceK (C k) call F.swashref06_parts [1, 1]) (kDone Prog (resOf Prog F.swashref06_parts)))))
def swashref06_parts (k : Nat) (call : Caller) (a0 a1 a2 : Value) (h : Heap) : Res Value :=
  (call F.swashref01_U [a0, (.int .i64 0), (.int .i64 2)] h).bind fun v1 h2 =>
  (binR Prog .eql 3 v1 (.int .i64 0) h2).bind fun v3 h4 =>
  condV (some v3) (
    (binR Prog .sub 3 a1 (.int .i64 1) h4).bind fun v5 h6 =>
    (buildR Prog 244 [(0, (.int .i64 0)), (1, v5), (2, (.int .i64 2)), (3, a2), (4, a2)] h6).bind fun v7 h8 =>
    (buildSliceR Prog 86 1 [(0, v7)] h8).bind fun v9 h10 =>
    (builtinV Prog .len [65] [a0] h10).bind fun v11 h12 =>
    (call F.swashref01_Rows [v11, (.int .i64 2), a1, a2] h12).bind fun v13 h14 =>
    .ok (.tuple #[v9, v13]) h14)
  (
    (binR Prog .eql 3 v1 (.int .i64 2) h4).bind fun v15 h16 =>
    condV (some v15) (
      (call F.swashref06_segments [a0, a2, (.bool false)] h16).bind fun v17 h18 =>
      (extractR v17 0 h18).bind fun v19 h20 =>
      (extractR v17 1 h20).bind fun v21 h22 =>
      .ok (.tuple #[v19, v21]) h22)
    (
      (binR Prog .eql 3 v1 (.int .i64 4) h16).bind fun v23 h24 =>
      condV (some v23) (
        (call F.swashref06_segments [a0, a2, (.bool true)] h24).bind fun v25 h26 =>
        (extractR v25 0 h26).bind fun v27 h28 =>
        (extractR v25 1 h28).bind fun v29 h30 =>
        .ok (.tuple #[v27, v29]) h30)
      (
        (binR Prog .eql 3 v1 (.int .i64 6) h24).bind fun v31 h32 =>
        condV (some v31) (
          (binR Prog .add 3 (.int .i64 2) a2 h32).bind fun v33 h34 =>
          (call F.swashref05_Rows [a0, (.int .i64 2), v33, (.int .i64 1)] h34).bind fun v35 h36 =>
          (extractR v35 0 h36).bind fun v37 h38 =>
          (extractR v35 1 h38).bind fun v39 h40 =>
          (extractR v35 2 h40).bind fun v41 h42 =>
          (buildSliceR Prog 86 0 [] h42).bind fun v43 h44 =>
          (loopN (swashref06_parts_l1 k call) loopFuel [(0, a0), (2, a2), (8, v37), (10, v41), (11, v43), (12, (.int .i64 0))] h44).bind fun r45 h46 =>
          swashref06_parts_l1k k call r45.1 r45.2 h46)
        (
          (binR Prog .eql 3 v1 (.int .i64 8) h32).bind fun v47 h48 =>
          condV (some v47) (
            (call F.swashref06_trimmed [a0, (.int .i64 2), a2] h48).bind fun v49 h50 =>
            (extractR v49 0 h50).bind fun v51 h52 =>
            (extractR v49 1 h52).bind fun v53 h54 =>
            .ok (.tuple #[v51, v53]) h54)
          (
            (binR Prog .eql 3 v1 (.int .i64 10) h48).bind fun v55 h56 =>
            condV (some v55) (
              (call F.swashref01_U [a0, (.int .i64 2), (.int .i64 2)] h56).bind fun v57 h58 =>
              (binR Prog .neq 3 v57 (.int .i64 1) h58).bind fun v59 h60 =>
              ((bif wantVal v59 true then Res.ok v57 h60 else Res.ok undef h60)).bind fun v61 h62 =>
              ((bif wantVal v59 true then binR Prog .neq 3 v61 (.int .i64 2) h62 else Res.ok undef h62)).bind fun v63 h64 =>
              (condV (some v59) (Res.ok v63 h64) (Res.ok (.bool false) h64)).bind fun v65 h66 =>
              ((bif wantVal v65 true then Res.ok v57 h66 else Res.ok undef h66)).bind fun v67 h68 =>
              ((bif wantVal v65 true then binR Prog .neq 3 v67 (.int .i64 4) h68 else Res.ok undef h68)).bind fun v69 h70 =>
              (condV (some v65) (Res.ok v69 h70) (Res.ok (.bool false) h70)).bind fun v71 h72 =>
              condV (some v71) (
                .ok (.tuple #[(.slice none 0 0), (.bool false)]) h72)
              (
                (call F.swashref06_trimmed [a0, (.int .i64 4), v57] h72).bind fun v73 h74 =>
                (extractR v73 0 h74).bind fun v75 h76 =>
                (extractR v73 1 h76).bind fun v77 h78 =>
                .ok (.tuple #[v75, v77]) h78))
            (
              .ok (.tuple #[(.slice none 0 0), (.bool false)]) h56))))))
theorem swashref06_parts_R (k : Nat) (a0 a1 a2 : Value) (h : Heap) : R (T k) F.swashref06_parts [a0, a1, a2] h = nrm .fz h (swashref06_parts k (R (T k)) a0 a1 a2 h) :=
  (R_body (t := T k) (T_scott k) (by kernel_rfl) _ _).trans (by kernel_rfl)
theorem swashref06_parts_l1_eq (k : Nat) (call : Caller) (a0 a2 a8 a10 a11 a12 : Value) (h : Heap) : swashref06_parts_l1 k call [(0, a0), (2, a2), (8, a8), (10, a10), (11, a11), (12, a12)] h =
  (builtinV Prog .len [28] [a8] h).bind fun v79 h80 =>
  (binR Prog .lss 3 a12 v79 h80).bind fun v81 h82 =>
  condV (some v81) (
    (indexAddrR Prog 28 a8 a12 h82).bind fun v83 h84 =>
    (loadR Prog 3 v83 h84).bind fun v85 h86 =>
    (call F.swashref01_U [a0, v85, (.int .i64 2)] h86).bind fun v87 h88 =>
    (indexAddrR Prog 28 a8 a12 h88).bind fun v89 h90 =>
    (loadR Prog 3 v89 h90).bind fun v91 h92 =>
    (binR Prog .add 3 v91 (.int .i64 2) h92).bind fun v93 h94 =>
    (buildR Prog 244 [(0, v87), (1, v87), (2, v93), (3, a2)] h94).bind fun v95 h96 =>
    (buildSliceR Prog 86 1 [(0, v95)] h96).bind fun v97 h98 =>
    (builtinV Prog .append [86, 86] [a11, v97] h98).bind fun v99 h100 =>
    (binR Prog .add 3 a12 (.int .i64 1) h100).bind fun v101 h102 =>
    .ok (.normal, [(0, a0), (2, a2), (8, a8), (10, a10), (11, v99), (12, v101)]) h102)
  (
    .ok ((.exit 1), [(0, a0), (2, a2), (8, a8), (10, a10), (11, a11), (12, a12), (58, v81)]) h82) :=
  (loopB_eq _ _).trans (by kernel_rfl)
theorem swashref06_parts_l1k_x1 (k : Nat) (call : Caller) (a0 a2 a8 a10 a11 a12 a58 : Value) (h : Heap) : swashref06_parts_l1k k call (.exit 1) [(0, a0), (2, a2), (8, a8), (10, a10), (11, a11), (12, a12), (58, a58)] h =
  .ok (.tuple #[a11, a10]) h := by kernel_rfl
def swashref06_segments_j1 (k : Nat) (call : Caller) (a0 a1 a2 a8 : Value) (h : Heap) : Res Value :=
  kSeq (pieceK (C k) call F.swashref06_segments [1, 1, 1]) (kDone Prog (resOf Prog F.swashref06_segments)) .normal [(0, a0), (1, a1), (2, a2), (8, a8)] h
def swashref06_segments_j2 (k : Nat) (call : Caller) (a0 a1 a2 a8 a17 : Value) (h : Heap) : Res Value :=
  kSeq (pieceK (C k) call F.swashref06_segments [1, 1, 1]) (kDone Prog (resOf Prog F.swashref06_segments)) .normal [(0, a0), (1, a1), (2, a2), (8, a8), (17, a17)] h
def swashref06_segments_l1 (k : Nat) (call : Caller) : Env → Heap → Res (AExit × Env) := loopB (C k) call F.swashref06_segments [1, 1, 1, 1, 1, 0, 1, 0, 0]
def swashref06_segments_l1k (k : Nat) (call : Caller) : Kont Value := kBlock 0 (kSeq (pieceK (C k) call F.swashref06_segments [1, 1, 1, 1, 1, 1]) (kDone Prog (resOf Prog F.swashref06_segments)))
def swashref06_segments_j3 (k : Nat) (call : Caller) (a0 a1 a2 a9 a11 a12 a13 a14 : Value) (h : Heap) : Res (AExit × Env) :=
  kSeq (pieceK (C k) call F.swashref06_segments [1, 1, 1, 1, 1, 0, 1, 0, 0, 1, 0, 0, 1, 1]) (kBlock 1 (kSeq (pieceK (C k) call F.swashref06_segments [1, 1, 1, 1, 1, 0, 1, 0, 0, 1, 1]) (kRound (ownOf (C k) F.swashref06_segments [1, 1, 1, 1, 1, 0, 1, 0, 0])))) .normal [(0, a0), (1, a1), (2, a2), (9, a9), (11, a11), (12, a12), (13, a13), (14, a14)] h
def swashref06_segments_j4 (k : Nat) (call : Caller) (a0 a1 a2 a9 a11 a12 a13 a14 a55 : Value) (h : Heap) : Res (AExit × Env) :=
  kSeq (pieceK (C k) call F.swashref06_segments [1, 1, 1, 1, 1, 0, 1, 0, 0, 1, 0, 0, 1, 1]) (kBlock 1 (kSeq (pieceK (C k) call F.swashref06_segments [1, 1, 1, 1, 1, 0, 1, 0, 0, 1, 1]) (kRound (ownOf (C k) F.swashref06_segments [1, 1, 1, 1, 1, 0, 1, 0, 0])))) .normal [(0, a0), (1, a1), (2, a2), (9, a9), (11, a11), (12, a12), (13, a13), (14, a14), (55, a55)] h
def swashref06_segments (k : Nat) (call : Caller) (a0 a1 a2 : Value) (h : Heap) : Res Value :=
  (binR Prog .add 3 (.int .i64 4) a1 h).bind fun v1 h2 =>
  condV (some a2) (
    swashref06_segments_j1 k call a0 a1 a2 (.int .i64 6) h2)
  (
    swashref06_segments_j2 k call a0 a1 a2 v1 a2 h2)
theorem swashref06_segments_R (k : Nat) (a0 a1 a2 : Value) (h : Heap) : R (T k) F.swashref06_segments [a0, a1, a2] h = nrm .fz h (swashref06_segments k (R (T k)) a0 a1 a2 h) :=
  (R_body (t := T k) (T_scott k) (by kernel_rfl) _ _).trans (by kernel_rfl)
theorem swashref06_segments_j1_eq (k : Nat) (call : Caller) (a0 a1 a2 a8 : Value) (h : Heap) : swashref06_segments_j1 k call a0 a1 a2 a8 h =
  (call F.swashref05_Rows [a0, (.int .i64 2), a8, (.int .i64 2)] h).bind fun v3 h4 =>
  (extractR v3 0 h4).bind fun v5 h6 =>
  (extractR v3 1 h6).bind fun v7 h8 =>
  (extractR v3 2 h8).bind fun v9 h10 =>
  (buildSliceR Prog 86 0 [] h10).bind fun v11 h12 =>
  (loopN (swashref06_segments_l1 k call) loopFuel [(0, a0), (1, a1), (2, a2), (9, v5), (11, v9), (12, v11), (13, (.int .i64 0))] h12).bind fun r13 h14 =>
  swashref06_segments_l1k k call r13.1 r13.2 h14 := by kernel_rfl
theorem swashref06_segments_j2_eq (k : Nat) (call : Caller) (a0 a1 a2 a8 a17 : Value) (h : Heap) : swashref06_segments_j2 k call a0 a1 a2 a8 a17 h =
  (call F.swashref05_Rows [a0, (.int .i64 2), a8, (.int .i64 2)] h).bind fun v15 h16 =>
  (extractR v15 0 h16).bind fun v17 h18 =>
  (extractR v15 1 h18).bind fun v19 h20 =>
  (extractR v15 2 h20).bind fun v21 h22 =>
  (buildSliceR Prog 86 0 [] h22).bind fun v23 h24 =>
  (loopN (swashref06_segments_l1 k call) loopFuel [(0, a0), (1, a1), (2, a2), (9, v17), (11, v21), (12, v23), (13, (.int .i64 0))] h24).bind fun r25 h26 =>
  swashref06_segments_l1k k call r25.1 r25.2 h26 := by kernel_rfl
theorem swashref06_segments_l1_eq (k : Nat) (call : Caller) (a0 a1 a2 a9 a11 a12 a13 : Value) (h : Heap) : swashref06_segments_l1 k call [(0, a0), (1, a1), (2, a2), (9, a9), (11, a11), (12, a12), (13, a13)] h =
  (builtinV Prog .len [28] [a9] h).bind fun v27 h28 =>
  (binR Prog .lss 3 a13 v27 h28).bind fun v29 h30 =>
  ((bif wantVal v29 true then Res.ok a11 h30 else Res.ok undef h30)).bind fun v31 h32 =>
  (condV (some v29) (Res.ok v31 h32) (Res.ok (.bool false) h32)).bind fun v33 h34 =>
  condV (some v33) (
    (indexAddrR Prog 28 a9 a13 h34).bindN fun v35 h36 =>
    (loadR Prog 3 v35 h36).bindN fun v37 h38 =>
    (binR Prog .add 3 v37 (.int .i64 2) h38).bindN fun v39 h40 =>
    (call F.swashref01_U [a0, v39, (.int .i64 2)] h40).bindT (fun p43 h44 => (indexAddrR Prog 28 a9 a13 h40).bindN fun v45 h46 => (loadR Prog 3 v45 h46).bindN fun v47 h48 => (indexAddrR Prog 28 a9 a13 h48).bindN fun v49 h50 => (loadR Prog 3 v49 h50).bindN fun v51 h52 => (binR Prog .add 3 v51 (.int .i64 4) h52).bindN fun v53 h54 => (allocR Prog 244 h54).bindN fun v55 h56 => chkR ((okVal (loadR Prog 3 v45 h34) v47 && true) && ((okVal (loadR Prog 3 v49 h34) v51 && (okVal (loadR Prog 3 v49 h56) v51 && true)) && true)) (.panic p43 h44)) fun v41 h42 =>
    (indexAddrR Prog 28 a9 a13 h42).bindN fun v57 h58 =>
    (loadR Prog 3 v57 h58).bindN fun v59 h60 =>
    (call F.swashref01_U [a0, v59, (.int .i64 2)] h60).bindT (fun p63 h64 => (indexAddrR Prog 28 a9 a13 h60).bindN fun v65 h66 => (loadR Prog 3 v65 h66).bindN fun v67 h68 => (binR Prog .add 3 v67 (.int .i64 4) h68).bindN fun v69 h70 => (allocR Prog 244 h70).bindN fun v71 h72 => chkR ((okVal (loadR Prog 3 v57 h34) v59 && true) && ((okVal (loadR Prog 3 v65 h34) v67 && (okVal (loadR Prog 3 v65 h42) v67 && (okVal (loadR Prog 3 v65 h72) v67 && true))) && true)) (.panic p63 h64)) fun v61 h62 =>
    (indexAddrR Prog 28 a9 a13 h62).bindN fun v73 h74 =>
    (loadR Prog 3 v73 h74).bindN fun v75 h76 =>
    (binR Prog .add 3 v75 (.int .i64 4) h76).bindN fun v77 h78 =>
    (buildR Prog 244 [(0, v41), (1, v61), (2, v77), (3, a1)] h78).bindN fun v79 h80 =>
    (allocR Prog 244 h80).bindN fun v81 h82 =>
    (storeR Prog 244 v81 v79 h82).bindN fun _v83 h84 =>
    chkR ((okVal (loadR Prog 3 v57 h34) v59 && true) && ((okVal (loadR Prog 3 v73 h34) v75 && (okVal (loadR Prog 3 v73 h42) v75 && (okVal (loadR Prog 3 v73 h82) v75 && true))) && true)) (
    condV (some a2) (
      (indexAddrR Prog 28 a9 a13 h84).bind fun v85 h86 =>
      (loadR Prog 3 v85 h86).bind fun v87 h88 =>
      (binR Prog .add 3 v87 (.int .i64 4) h88).bind fun v89 h90 =>
      (call F.swashref01_U [a0, v89, (.int .i64 2)] h90).bind fun v91 h92 =>
      (fieldAddrR Prog 244 v81 2 h92).bind fun v93 h94 =>
      (storeR Prog 3 v93 v91 h94).bind fun _v95 h96 =>
      (fieldAddrR Prog 244 v81 4 h96).bind fun v97 h98 =>
      (storeR Prog 3 v97 a1 h98).bind fun _v99 h100 =>
      (builtinV Prog .len [65] [a0] h100).bind fun v101 h102 =>
      (fieldAddrR Prog 244 v81 2 h102).bind fun v103 h104 =>
      (loadR Prog 3 v103 h104).bind fun v105 h106 =>
      (fieldAddrR Prog 244 v81 1 h106).bind fun v107 h108 =>
      (loadR Prog 3 v107 h108).bind fun v109 h110 =>
      (fieldAddrR Prog 244 v81 0 h110).bind fun v111 h112 =>
      (loadR Prog 3 v111 h112).bind fun v113 h114 =>
      (binR Prog .sub 3 v109 v113 h114).bind fun v115 h116 =>
      (binR Prog .add 3 v115 (.int .i64 1) h116).bind fun v117 h118 =>
      (call F.swashref01_Rows [v101, v105, v117, a1] h118).bind fun v119 h120 =>
      swashref06_segments_j3 k call a0 a1 a2 a9 v119 a12 a13 v81 h120)
    (
      swashref06_segments_j4 k call a0 a1 a2 a9 a11 a12 a13 v81 a2 h84)))
  (
    .ok ((.exit 0), [(0, a0), (1, a1), (2, a2), (9, a9), (11, a11), (12, a12), (13, a13), (32, v33)]) h34) :=
  (loopB_eq _ _).trans (by kernel_rfl)
theorem swashref06_segments_j3_eq (k : Nat) (call : Caller) (a0 a1 a2 a9 a11 a12 a13 a14 : Value) (h : Heap) : swashref06_segments_j3 k call a0 a1 a2 a9 a11 a12 a13 a14 h =
  (loadR Prog 244 a14 h).bind fun v121 h122 =>
  (buildSliceR Prog 86 1 [(0, v121)] h122).bind fun v123 h124 =>
  (builtinV Prog .append [86, 86] [a12, v123] h124).bind fun v125 h126 =>
  (binR Prog .add 3 a13 (.int .i64 1) h126).bind fun v127 h128 =>
  .ok (.normal, [(0, a0), (1, a1), (2, a2), (9, a9), (11, a11), (12, v125), (13, v127)]) h128 := by kernel_rfl
theorem swashref06_segments_j4_eq (k : Nat) (call : Caller) (a0 a1 a2 a9 a11 a12 a13 a14 a55 : Value) (h : Heap) : swashref06_segments_j4 k call a0 a1 a2 a9 a11 a12 a13 a14 a55 h =
  (loadR Prog 244 a14 h).bind fun v129 h130 =>
  (buildSliceR Prog 86 1 [(0, v129)] h130).bind fun v131 h132 =>
  (builtinV Prog .append [86, 86] [a12, v131] h132).bind fun v133 h134 =>
  (binR Prog .add 3 a13 (.int .i64 1) h134).bind fun v135 h136 =>
  .ok (.normal, [(0, a0), (1, a1), (2, a2), (9, a9), (11, a11), (12, v133), (13, v135)]) h136 := by kernel_rfl
theorem swashref06_segments_l1k_x0 (k : Nat) (call : Caller) (a0 a1 a2 a9 a11 a12 a13 a32 : Value) (h : Heap) : swashref06_segments_l1k k call (.exit 0) [(0, a0), (1, a1), (2, a2), (9, a9), (11, a11), (12, a12), (13, a13), (32, a32)] h =
  .ok (.tuple #[a12, a11]) h := by kernel_rfl
def swashref06_trimmed (k : Nat) (call : Caller) (a0 a1 a2 : Value) (h : Heap) : Res Value :=
  (call F.swashref01_U [a0, a1, (.int .i64 2)] h).bind fun v1 h2 =>
  (binR Prog .add 3 a1 (.int .i64 2) h2).bind fun v3 h4 =>
  (call F.swashref01_U [a0, v3, (.int .i64 2)] h4).bind fun v5 h6 =>
  (binR Prog .lss 3 v1 (.int .i64 0) h6).bind fun v7 h8 =>
  ((bif wantVal v7 false then Res.ok v5 h8 else Res.ok undef h8)).bind fun v9 h10 =>
  ((bif wantVal v7 false then binR Prog .lss 3 v9 (.int .i64 0) h10 else Res.ok undef h10)).bind fun v11 h12 =>
  (condV (some v7) (Res.ok (.bool true) h12) (Res.ok v11 h12)).bind fun v13 h14 =>
  ((bif wantVal v13 false then Res.ok v1 h14 else Res.ok undef h14)).bind fun v15 h16 =>
  ((bif wantVal v13 false then Res.ok v5 h16 else Res.ok undef h16)).bind fun v17 h18 =>
  ((bif wantVal v13 false then binR Prog .add 3 v15 v17 h18 else Res.ok undef h18)).bind fun v19 h20 =>
  ((bif wantVal v13 false then binR Prog .gtr 3 v19 (.int .i64 65536) h20 else Res.ok undef h20)).bind fun v21 h22 =>
  (condV (some v13) (Res.ok (.bool true) h22) (Res.ok v21 h22)).bind fun v23 h24 =>
  ((bif wantVal v23 false then Res.ok a0 h24 else Res.ok undef h24)).bind fun v25 h26 =>
  ((bif wantVal v23 false then builtinV Prog .len [65] [v25] h26 else Res.ok undef h26)).bind fun v27 h28 =>
  ((bif wantVal v23 false then Res.ok a1 h28 else Res.ok undef h28)).bind fun v29 h30 =>
  ((bif wantVal v23 false then binR Prog .add 3 v29 (.int .i64 4) h30 else Res.ok undef h30)).bind fun v31 h32 =>
  ((bif wantVal v23 false then Res.ok v5 h32 else Res.ok undef h32)).bind fun v33 h34 =>
  ((bif wantVal v23 false then Res.ok a2 h34 else Res.ok undef h34)).bind fun v35 h36 =>
  ((bif wantVal v23 false then call F.swashref01_Rows [v27, v31, v33, v35] h36 else Res.ok undef h36)).bind fun v37 h38 =>
  ((bif wantVal v23 false then unR .not v37 h38 else Res.ok undef h38)).bind fun v39 h40 =>
  (condV (some v23) (Res.ok (.bool true) h40) (Res.ok v39 h40)).bind fun v41 h42 =>
  condV (some v41) (
    .ok (.tuple #[(.slice none 0 0), (.bool false)]) h42)
  (
    (binR Prog .eql 3 v5 (.int .i64 0) h42).bind fun v43 h44 =>
    condV (some v43) (
      (buildSliceR Prog 86 0 [] h44).bind fun v45 h46 =>
      .ok (.tuple #[v45, (.bool true)]) h46)
    (
      (binR Prog .add 3 v1 v5 h44).bind fun v47 h48 =>
      (binR Prog .sub 3 v47 (.int .i64 1) h48).bind fun v49 h50 =>
      (binR Prog .add 3 a1 (.int .i64 4) h50).bind fun v51 h52 =>
      (buildR Prog 244 [(0, v1), (1, v49), (2, v51), (3, a2), (4, a2)] h52).bind fun v53 h54 =>
      (buildSliceR Prog 86 1 [(0, v53)] h54).bind fun v55 h56 =>
      .ok (.tuple #[v55, (.bool true)]) h56))
theorem swashref06_trimmed_R (k : Nat) (a0 a1 a2 : Value) (h : Heap) : R (T k) F.swashref06_trimmed [a0, a1, a2] h = nrm .fz h (swashref06_trimmed k (R (T k)) a0 a1 a2 h) :=
  (R_body (t := T k) (T_scott k) (by kernel_rfl) _ _).trans (by kernel_rfl)
end
end Go.Sw
end
section
namespace Go.Sw
open Go.RowKit
abbrev encRP (r : RP) : List Value := [.int .i64 r.first, .int .i64 r.last, .int .i64 r.pos, .int .i64 r.size, .int .i64 r.step]
theorem encRP_len (r : RP) : (encRP r).length = 5 := rfl
theorem encRP_still (l : List RP) : ∀ p, p ∈ l → ∀ v, v ∈ encRP p → Still v := fun p _ v hv => by
  simp [encRP] at hv
  rcases hv with rfl | rfl | rfl | rfl | rfl <;> trivial
theorem Flat.RPs (l : List RP) : Flat (Go.Sw.lv encRP l) := .lv fun p _ => .cons (.int _ _) (.cons (.int _ _) (.cons (.int _ _) (.cons (.int _ _) (.cons (.int _ _) .nil))))
def PartsAre (o : Option (List RP)) (v : Value) : Prop := ∃ l, v = .tuple #[lv encRP l, .bool o.isSome] ∧ (∀ x, o = some x → l = x) ∧ l.length ≤ 65536
theorem parts_flat (l : List RP) (x : Bool) : Flat (.tuple #[lv encRP l, .bool x]) := .tupleL (.cons (Flat.RPs _) (.cons (.bool _) .nil))
def segE (b : List Int) (z : Int) (each : Bool) (p : Int) : RP := if each then ⟨gU b (p + 2) 2, gU b p 2, gU b (p + 4) 2, z, z⟩ else ⟨gU b (p + 2) 2, gU b p 2, p + 4, z, 0⟩
def segB (b : List Int) (z : Int) (each : Bool) (p : Int) : Bool := if each then rowsB b.length (gU b (p + 4) 2) (gU b p 2 - gU b (p + 2) 2 + 1) z else true
theorem segR_eq (b : List Int) (z : Int) (each : Bool) (p : Int) : segR b z each p = if segB b z each p then some (segE b z each p) else none := by
  unfold segR segB segE
  cases each <;> simp
theorem mapO_take {β : Type} {f : Int → Option β} {l : List Int} {j : Nat} {p : Int} (hp : l[j]? = some p) : mapO f (l.take (j + 1)) = (mapO f (l.take j)).bind fun r => (f p).map fun y => r ++ [y] := by
  have h : ∀ (a : List Int), mapO f (a ++ [p]) = (mapO f a).bind fun r => (f p).map fun y => r ++ [y] := by
    intro a
    induction a with
    | nil => simp [mapO]; cases f p <;> rfl
    | cons x a ih =>
      simp only [List.cons_append, mapO, ih]
      cases f x with
      | none => rfl
      | some y =>
        simp only [Option.bind_some]
        cases mapO f a with
        | none => rfl
        | some r => simp only [Option.bind_some, Option.map_some]; cases f p <;> rfl
  rw [take_snoc hp, h]
theorem mapO_none_take {β : Type} {f : Int → Option β} {l : List Int} {j : Nat} (h : mapO f (l.take j) = none) : mapO f l = none := by
  have : ∀ (a b : List Int), mapO f a = none → mapO f (a ++ b) = none := by
    intro a
    induction a with
    | nil => intro b h; cases h
    | cons x a ih =>
      intro b h
      simp only [List.cons_append, mapO] at h ⊢
      cases hx : f x with
      | none => rfl
      | some y =>
        rw [hx] at h
        simp only [Option.bind_some, Option.map_eq_none_iff] at h ⊢
        exact ih b h
  rw [← List.take_append_drop j l]
  exact this _ _ h
theorem segs06_run (k : Nat) (b : List Int) (hb : Byt b) (z : Int) (hz : z = 2 ∨ z = 4) (each : Bool) (hl : b.length < 2 ^ 31) (H : Heap) :
    ∃ v, R (T k) F.swashref06_segments [lv encB b, .int .i64 z, .bool each] H = .ok v H ∧ PartsAre (refSegS b z each) v := by
  have hU := fun j H' => refU_run k (H := H') (Sl.lv H' 1 b) hb j 2 (by omega) (by omega)
  have hRows := fun i n H' => refRows_run k b.length i n z (by omega) (by omega) H'
  obtain ⟨need, hneed⟩ : ∃ need : Int, need = if each then 6 else 4 + z := ⟨_, rfl⟩
  have hr5 : ∀ H', R (T k) F.swashref05_Rows [lv encB b, .int .i64 2, .int .i64 need, .int .i64 2] H' = .ok (rowsO b 2 need 2) H' := fun H' => rows05_run k b hb 2 need 2 hl (by omega) (by omega) (by subst hneed; split <;> omega) (by subst hneed; split <;> omega) H'
  -- the rows
  obtain ⟨ps, ok, zz, hrow, hps, hok⟩ : ∃ (ps : List Int) (ok : Bool) (zz : Int), rowsO b 2 need 2 = .tuple #[lv encI ps, .int .i64 zz, .bool ok] ∧ (∀ p, p ∈ ps → 0 ≤ p ∧ p < 2 ^ 34) ∧
      ps.length < 65536 ∧ refSegS b z each = (if ok then mapO (segR b z each) ps else none) ∧ (ok = false → ps = []) := by
    unfold rowsO refSegS
    rw [← hneed]
    cases ht : takeS b 2 need 2 with
    | none => exact ⟨[], false, 0, rfl, (fun p h => by cases h), by simp, rfl, fun _ => rfl⟩
    | some rows =>
      obtain ⟨s, n, h1, h2, h3, h4, h5, h6⟩ := takeS_get ht
      have hs := uS_two hb h1
      have hn := uS_two hb h2
      rw [gU_some h1]
      refine ⟨posS 2 s rows.length, true, s, rfl, fun p hp => ?_, by simp; omega, rfl, fun h => by cases h⟩
      obtain ⟨i, hi⟩ := List.getElem?_of_mem hp
      have hlt := (List.getElem?_eq_some_iff.1 hi).1
      simp at hlt
      rw [posS_get _ _ _ _ hlt] at hi
      injection hi with hi
      have := Int.mul_nonneg hs.1 (show (0 : Int) ≤ (i : Nat) by omega)
      have : s * (i : Nat) ≤ 65536 * 65536 := Int.mul_le_mul (by omega) (by omega) (by omega) (by omega)
      omega
  obtain ⟨hplen, href, hoknil⟩ := hok
  rw [href]
  obtain ⟨x, e', H1, hr, rfl, hx, a, s, out, fl, rfl, ho, hq⟩ := loop_up (body := swashref06_segments_l1 k (R (T k))) ps.length
    (fun j e H' => Ext H H' ∧ ∃ s out fl, e = [(0, lv encB b), (1, .int .i64 z), (2, .bool each), (9, lv encI ps), (11, .bool fl), (12, s), (13, .int .i64 j)] ∧ Own H H' 5 s encRP out ∧
      out.length ≤ j ∧ ((ok = true ∧ fl = true ∧ mapO (segR b z each) (ps.take j) = some out) ∨ (fl = false ∧ (ok = false ∨ mapO (segR b z each) ps = none))))
    (fun x e H' => x = .exit 0 ∧ Ext H H' ∧ ∃ a s out fl, e = [(0, lv encB b), (1, .int .i64 z), (2, .bool each), (9, lv encI ps), (11, .bool fl), (12, s), (13, a), (32, .bool false)] ∧ Own H H' 5 s encRP out ∧
      out.length ≤ ps.length ∧ ((ok = true ∧ fl = true ∧ mapO (segR b z each) ps = some out) ∨ (fl = false ∧ (ok = false ∨ mapO (segR b z each) ps = none))))
    (e0 := [(0, lv encB b), (1, .int .i64 z), (2, .bool each), (9, lv encI ps), (11, .bool ok), (12, bareV), (13, .int .i64 0)]) (H0 := H)
    ⟨Ext.refl H, bareV, [], ok, rfl, Own.bare _ _ _, by simp, by cases ok; exact .inr ⟨rfl, .inl rfl⟩; exact .inl ⟨rfl, rfl, rfl⟩⟩ (by omega)
    (fun j e H' hj ⟨hx, s, out, fl, he, ho, hol, hq⟩ => by
      subst he
      have hlt : (j : Int) < ps.length := by omega
      rcases hq with ⟨hok, rfl, hm⟩ | ⟨rfl, hn⟩
      rotate_left
      · refine .inr ⟨.exit 0, _, H', ?_, by simp, rfl, hx, .int .i64 j, s, out, false, rfl, ho, by omega, .inr ⟨rfl, hn⟩⟩
        rw [swashref06_segments_l1_eq]
        simp -implicitDefEqProofs (disch := omega) [hlt]
      · obtain ⟨p, hp⟩ : ∃ p, ps[j]? = some p := ⟨_, List.getElem?_eq_getElem hj⟩
        have hpb := hps p (List.mem_of_getElem? hp)
        have i1 := fun H' => ixS_lvN encI_len ps .i64 j p hp H'
        have u0 := fun H' => hU p H'
        have u2 := fun H' => hU (p + 2) H'
        have u4 := fun H' => hU (p + 4) H'
        have g0 := gU_two hb p
        have g2 := gU_two hb (p + 2)
        have g4 := gU_two hb (p + 4)
        obtain ⟨f, hf⟩ : ∃ f, gU b (p + 2) 2 = f := ⟨_, rfl⟩
        obtain ⟨l, hll⟩ : ∃ l, gU b p 2 = l := ⟨_, rfl⟩
        obtain ⟨q, hqq⟩ : ∃ q, gU b (p + 4) 2 = q := ⟨_, rfl⟩
        rw [hf] at g2
        rw [hll] at g0
        rw [hqq] at g4
        have u0 : ∀ H', R (T k) F.swashref01_U [lv encB b, .int .i64 p, .int .i64 2] H' = .ok (.int .i64 l) H' := fun H' => by rw [u0]; unfold gU at hll; rw [hll]
        have u2 : ∀ H', R (T k) F.swashref01_U [lv encB b, .int .i64 (p + 2), .int .i64 2] H' = .ok (.int .i64 f) H' := fun H' => by rw [u2]; unfold gU at hf; rw [hf]
        have u4 : ∀ H', R (T k) F.swashref01_U [lv encB b, .int .i64 (p + 4), .int .i64 2] H' = .ok (.int .i64 q) H' := fun H' => by rw [u4]; unfold gU at hqq; rw [hqq]
        have hE : segE b z each p = if each then ⟨f, l, q, z, z⟩ else ⟨f, l, p + 4, z, 0⟩ := by unfold segE; rw [hf, hll, hqq]
        have hB : segB b z each p = if each then rowsB b.length q (l - f + 1) z else true := by unfold segB; rw [hf, hll, hqq]
        have hx1 : Ext H' (H'.push ⟨encRP (segE b z each p), 1, false⟩) := (Ext.refl H').push _
        obtain ⟨s2, H2, e2, o2, x2⟩ := ap1_own (bytes := 40) encRP_len (ho.up hx1) (hx.trans hx1) (segE b z each p) (by omega) (by decide)
        refine .inl ⟨_, H2, ?_, x2, s2, out ++ [segE b z each p], segB b z each p, rfl, o2, by simp; omega, ?_⟩
        · rw [swashref06_segments_l1_eq]
          rw [hE] at e2
          rw [hB]
          cases each with
          | false =>
            simp only [Bool.false_eq_true, if_false, hn_push, encRP] at e2 ⊢
            simp -implicitDefEqProofs (disch := omega) [hlt, i1, u0, u2, swashref06_segments_j4_eq, e2]
          | true =>
            simp only [if_true, hn_push, encRP] at e2 ⊢
            simp -implicitDefEqProofs (disch := omega) [hlt, i1, u0, u2, u4, hRows, swashref06_segments_j3_eq, e2]
        · cases hsb : segB b z each p with
          | true =>
            refine .inl ⟨hok, rfl, ?_⟩
            rw [mapO_take hp, hm, segR_eq, hsb]
            rfl
          | false =>
            refine .inr ⟨rfl, .inr (mapO_none_take (j := j + 1) ?_)⟩
            rw [mapO_take hp, hm, segR_eq, hsb]
            rfl)
    (fun e H' ⟨hx, s, out, fl, he, ho, hol, hq⟩ => by
      subst he
      refine ⟨.exit 0, _, H', ?_, by simp, rfl, hx, .int .i64 ps.length, s, out, fl, rfl, ho, hol, by rw [List.take_length] at hq; exact hq⟩
      rw [swashref06_segments_l1_eq]
      simp -implicitDefEqProofs)
  obtain ⟨L, hf⟩ := ho.freeze encRP_len (encRP_still _) 5
  have hall : swashref06_segments k (R (T k)) (lv encB b) (.int .i64 z) (.bool each) H = .ok (.tuple #[s, .bool fl]) H1 := by
    cases each with
    | false =>
      simp only [Bool.false_eq_true, if_false] at hneed
      subst hneed
      have hr5' := hr5
      rw [hrow] at hr5'
      rcases hz with rfl | rfl <;> simp only [show (4 : Int) + 2 = 6 from rfl, show (4 : Int) + 4 = 8 from rfl] at hr5' <;> simp -implicitDefEqProofs (disch := omega) [swashref06_segments, swashref06_segments_j2_eq, hr5', hr, swashref06_segments_l1k_x0]
    | true =>
      simp only [if_true] at hneed
      subst hneed
      have hr5' := hr5
      rw [hrow] at hr5'
      rcases hz with rfl | rfl <;> simp -implicitDefEqProofs (disch := omega) [swashref06_segments, swashref06_segments_j1_eq, hr5', hr, swashref06_segments_l1k_x0]
  refine ⟨.tuple #[lv encRP out, .bool fl], ?_, ?_⟩
  · rw [swashref06_segments_R]
    exact nrm_fz hall (fz_tuple (l := [s, .bool fl]) (mapF_cons hf (mapF_one (L := []) rfl))) hx (parts_flat _ _).alive
  · rcases hq with ⟨hol, ⟨rfl, rfl, hm⟩ | ⟨rfl, hn⟩⟩
    · exact ⟨out, by simp [hm], fun x h => (by simp [hm] at h; exact h), by omega⟩
    · have : (if ok = true then mapO (segR b z each) ps else none) = none := by
        rcases hn with rfl | hn
        · rfl
        · rw [hn]; split <;> rfl
      rw [this]
      exact ⟨out, rfl, fun x h => (by cases h), by omega⟩
end Go.Sw
end
section
namespace Go.Sw
open Go.RowKit
theorem refNo {H : Heap} {r : Res Value} (h : r = .ok (.tuple #[.slice none 0 0, .bool false]) H) : nrm .fz H r = .ok (.tuple #[lv encRP [], .bool false]) H :=
  nrm_fz (L := []) h rfl (Ext.refl H) (parts_flat [] false).alive
theorem PartsAre.no : PartsAre none (.tuple #[lv encRP [], .bool false]) := ⟨[], rfl, fun x h => (by cases h), by simp⟩
theorem trim06_run (k : Nat) (b : List Int) (hb : Byt b) (i z : Int) (hz : z = 1 ∨ z = 2 ∨ z = 4) (hi : 0 ≤ i ∧ i ≤ 4) (hl : b.length < 2 ^ 31) (H : Heap) :
    ∃ v, R (T k) F.swashref06_trimmed [lv encB b, .int .i64 i, .int .i64 z] H = .ok v H ∧ PartsAre (refTrimS b i z) v := by
  have hU := fun j H' => refU_run k (H := H') (Sl.lv H' 1 b) hb j 2 (by omega) (by omega)
  have hR := fun n H' => refRows_run k b.length (i + 4) n z (by omega) (by omega) H'
  rw [swashref06_trimmed_R]
  unfold refTrimS
  cases h1 : uS b i 2 with
  | none =>
    refine ⟨_, refNo ?_, .no⟩
    have u1 := fun H' => hU i H'
    rw [h1] at u1
    have g2 := gU_two hb (i + 2)
    unfold gU at g2
    simp -implicitDefEqProofs (disch := omega) [swashref06_trimmed, u1, hU]
  | some f =>
    have u1 := fun H' => hU i H'
    rw [h1] at u1
    have hf := uS_two hb h1
    have hf' : ¬ f < 0 := by omega
    cases h2 : uS b (i + 2) 2 with
    | none =>
      refine ⟨_, refNo ?_, .no⟩
      have u2 := fun H' => hU (i + 2) H'
      rw [h2] at u2
      simp -implicitDefEqProofs (disch := omega) [swashref06_trimmed, u1, u2, hf']
    | some n =>
      have u2 := fun H' => hU (i + 2) H'
      rw [h2] at u2
      have hn := uS_two hb h2
      have hn' : ¬ n < 0 := by omega
      simp only [Option.bind_some, Option.getD_some] at u1 u2 ⊢
      by_cases h3 : f + n ≤ 65536
      · have h3' : ¬ f + n > 65536 := by omega
        cases h4 : rowsB b.length (i + 4) n z with
        | false =>
          rw [if_neg (by simp)]
          refine ⟨_, refNo ?_, .no⟩
          have hR4 := hR n
          rw [h4] at hR4
          simp -implicitDefEqProofs (disch := omega) [swashref06_trimmed, u1, u2, hf', hn', h3', hR4]
        | true =>
          rw [if_pos ⟨h3, rfl⟩]
          have hR4 := hR n
          rw [h4] at hR4
          by_cases h0 : n = 0
          · subst h0
            rw [if_pos rfl]
            have h3'' : ¬ 65536 < f := by omega
            refine ⟨.tuple #[lv encRP [], .bool true], nrm_fz (v := .tuple #[bareV, .bool true]) (H' := H) (L := []) ?_ rfl (Ext.refl H) (parts_flat [] true).alive, [], rfl, fun x h => (by injection h), by simp⟩
            simp -implicitDefEqProofs (disch := omega) [swashref06_trimmed, u1, u2, hf', h3'', hR4]
          · rw [if_neg h0]
            have h0' : (n == 0) = false := by simpa using h0
            obtain ⟨r, hr⟩ : ∃ r : RP, r = ⟨f, f + n - 1, i + 4, z, z⟩ := ⟨_, rfl⟩
            rw [← hr]
            have ho : Own H (H.push ⟨encRP r, 5, false⟩) 5 (.slice (some ⟨H.n, 0, none⟩) 1 1) encRP [r] := .inr ⟨H.n, rfl, by omega, get_push_eq _ _ _ rfl⟩
            obtain ⟨L, hfz⟩ := ho.freeze encRP_len (encRP_still _) 5
            refine ⟨.tuple #[lv encRP [r], .bool true], nrm_fz (v := .tuple #[.slice (some ⟨H.n, 0, none⟩) 1 1, .bool true]) (H' := H.push ⟨encRP r, 5, false⟩) ?_ (fz_tuple (l := [.slice (some ⟨H.n, 0, none⟩) 1 1, .bool true]) (mapF_cons hfz (mapF_one (L := []) rfl))) ((Ext.refl H).push _) (parts_flat [r] true).alive, [r], rfl, fun x h => (by injection h), by simp⟩
            subst hr
            simp -implicitDefEqProofs (disch := omega) [swashref06_trimmed, u1, u2, hf', hn', h3', hR4, h0']
      · rw [if_neg (fun h => h3 h.1)]
        have h3' : f + n > 65536 := by omega
        refine ⟨_, refNo ?_, .no⟩
        simp -implicitDefEqProofs (disch := omega) [swashref06_trimmed, u1, u2, hf', hn', h3']
theorem PartsAre.val {o : Option (List RP)} {v : Value} (h : PartsAre o v) : ∃ l ok, v = .tuple #[lv encRP l, .bool ok] ∧ o = (if ok then some l else none) ∧ l.length ≤ 65536 := by
  obtain ⟨l, rfl, h1, h2⟩ := h
  cases o with
  | none => exact ⟨l, false, rfl, rfl, h2⟩
  | some x => exact ⟨l, true, rfl, by simp [h1 x rfl], h2⟩
theorem PartsAre.pass {o : Option (List RP)} {l : List RP} {ok : Bool} (h : o = (if ok then some l else none)) (hl : l.length ≤ 65536) : PartsAre o (.tuple #[lv encRP l, .bool ok]) := by
  subst h
  cases ok with
  | true => exact ⟨l, rfl, fun x h => (by injection h), hl⟩
  | false => exact ⟨l, rfl, fun x h => (by cases h), hl⟩
theorem nrm_parts {H : Heap} {r : Res Value} {l : List RP} {ok : Bool} (h : r = .ok (.tuple #[lv encRP l, .bool ok]) H) : nrm .fz H r = .ok (.tuple #[lv encRP l, .bool ok]) H :=
  nrm_fz (L := []) h rfl (Ext.refl H) (parts_flat l ok).alive
theorem parts06_run (k : Nat) (b : List Int) (hb : Byt b) (g z : Int) (hg : 1 ≤ g ∧ g ≤ 65535) (hz : z = 2 ∨ z = 4) (hl : b.length < 2 ^ 31) (H : Heap) :
    ∃ v, R (T k) F.swashref06_parts [lv encB b, .int .i64 g, .int .i64 z] H = .ok v H ∧ PartsAre (refPartsS b g z (gU b 0 2)) v := by
  have hU := fun j H' => refU_run k (H := H') (Sl.lv H' 1 b) hb j 2 (by omega) (by omega)
  have hR := fun H' => refRows_run k b.length 2 g z (by omega) (by omega) H'
  rw [swashref06_parts_R]
  have hu0 : ∀ H', R (T k) F.swashref01_U [lv encB b, .int .i64 0, .int .i64 2] H' = .ok (.int .i64 (gU b 0 2)) H' := fun H' => hU 0 H'
  have hu2 : ∀ H', R (T k) F.swashref01_U [lv encB b, .int .i64 2, .int .i64 2] H' = .ok (.int .i64 (gU b 2 2)) H' := fun H' => hU 2 H'
  generalize gU b 0 2 = fmt at hu0 ⊢
  unfold refPartsS
  by_cases h0 : fmt = 0
  · subst h0
    rw [if_pos rfl]
    obtain ⟨r, hr⟩ : ∃ r : RP, r = ⟨0, g - 1, 2, z, z⟩ := ⟨_, rfl⟩
    rw [← hr]
    have ho : Own H (H.push ⟨encRP r, 5, false⟩) 5 (.slice (some ⟨H.n, 0, none⟩) 1 1) encRP [r] := .inr ⟨H.n, rfl, by omega, get_push_eq _ _ _ rfl⟩
    obtain ⟨L, hfz⟩ := ho.freeze encRP_len (encRP_still _) 5
    refine ⟨.tuple #[lv encRP [r], .bool (rowsB b.length 2 g z)], nrm_fz (v := .tuple #[.slice (some ⟨H.n, 0, none⟩) 1 1, .bool (rowsB b.length 2 g z)]) (H' := H.push ⟨encRP r, 5, false⟩) ?_ (fz_tuple (l := [.slice (some ⟨H.n, 0, none⟩) 1 1, .bool (rowsB b.length 2 g z)]) (mapF_cons hfz (mapF_one (L := []) rfl))) ((Ext.refl H).push _) (parts_flat [r] _).alive, .pass rfl (by simp)⟩
    subst hr
    simp -implicitDefEqProofs (disch := omega) [swashref06_parts, hu0, hR]
  rw [if_neg h0]
  have h0' : (fmt == 0) = false := by simpa using h0
  by_cases h2 : fmt = 2
  · subst h2
    rw [if_pos rfl]
    obtain ⟨v, e, hp⟩ := segs06_run k b hb z hz false hl H
    obtain ⟨l, ok, rfl, ho, hll⟩ := hp.val
    refine ⟨_, nrm_parts (l := l) (ok := ok) ?_, .pass ho hll⟩
    simp -implicitDefEqProofs (disch := omega) [swashref06_parts, hu0, e]
  rw [if_neg h2]
  have h2' : (fmt == 2) = false := by simpa using h2
  by_cases h4 : fmt = 4
  · subst h4
    rw [if_pos rfl]
    obtain ⟨v, e, hp⟩ := segs06_run k b hb z hz true hl H
    obtain ⟨l, ok, rfl, ho, hll⟩ := hp.val
    refine ⟨_, nrm_parts (l := l) (ok := ok) ?_, .pass ho hll⟩
    simp -implicitDefEqProofs (disch := omega) [swashref06_parts, hu0, e]
  rw [if_neg h4]
  have h4' : (fmt == 4) = false := by simpa using h4
  by_cases h6 : fmt = 6
  · subst h6
    rw [if_pos rfl]
    have hr5 := fun H' => rows05_run k b hb 2 (2 + z) 1 hl (by omega) (by omega) (by omega) (by omega) H'
    obtain ⟨ps, ok, zz, hrow, hps, hpl, hok⟩ : ∃ (ps : List Int) (ok : Bool) (zz : Int), rowsO b 2 (2 + z) 1 = .tuple #[lv encI ps, .int .i64 zz, .bool ok] ∧ (∀ p, p ∈ ps → 0 ≤ p ∧ p < 2 ^ 34) ∧
        ps.length < 65536 ∧ refOneS b z = (if ok then some (ps.map (oneR b z)) else none) := by
      unfold rowsO refOneS
      cases ht : takeS b 2 (2 + z) 1 with
      | none => exact ⟨[], false, 0, rfl, (fun p h => by cases h), by simp, rfl⟩
      | some rows =>
        obtain ⟨s, n, h1, h2, h3, h4, h5, h6⟩ := takeS_get ht
        have hs := uS_two hb h1
        have hn := uS_two hb h2
        rw [gU_some h1]
        refine ⟨posS 2 s rows.length, true, s, rfl, fun p hp => ?_, by simp; omega, by rw [Option.map_some]; rfl⟩
        obtain ⟨j, hj⟩ := List.getElem?_of_mem hp
        have hjl := (List.getElem?_eq_some_iff.1 hj).1
        rw [posS_len] at hjl
        rw [posS_get _ _ _ _ hjl] at hj
        injection hj with hj
        have h7 := Int.mul_nonneg hs.1 (show (0 : Int) ≤ (j : Int) by omega)
        have h8 : s * (j : Int) ≤ 65536 * 65536 := Int.mul_le_mul (by omega) (by omega) (by omega) (by omega)
        omega
    rw [hrow] at hr5
    rw [hok]
    obtain ⟨x, e', H1, hr, rfl, hx, a, s, rfl, ho⟩ := loop_up (body := swashref06_parts_l1 k (R (T k))) ps.length
      (fun j e H' => Ext H H' ∧ ∃ s, e = [(0, lv encB b), (2, .int .i64 z), (8, lv encI ps), (10, .bool ok), (11, s), (12, .int .i64 j)] ∧ Own H H' 5 s encRP ((ps.take j).map (oneR b z)))
      (fun x e H' => x = .exit 1 ∧ Ext H H' ∧ ∃ a s, e = [(0, lv encB b), (2, .int .i64 z), (8, lv encI ps), (10, .bool ok), (11, s), (12, a), (58, .bool false)] ∧ Own H H' 5 s encRP (ps.map (oneR b z)))
      (e0 := [(0, lv encB b), (2, .int .i64 z), (8, lv encI ps), (10, .bool ok), (11, bareV), (12, .int .i64 0)]) (H0 := H) ⟨Ext.refl H, _, rfl, Own.bare _ _ _⟩ (by omega)
      (fun j e H' hj ⟨hx, s, he, ho⟩ => by
        subst he
        have hlt : (j : Int) < ps.length := by omega
        obtain ⟨p, hp⟩ : ∃ p, ps[j]? = some p := ⟨_, List.getElem?_eq_getElem hj⟩
        have hpb := hps p (List.mem_of_getElem? hp)
        have i1 := fun H' => ixS_lvN encI_len ps .i64 j p hp H'
        have u0 : ∀ H', R (T k) F.swashref01_U [lv encB b, .int .i64 p, .int .i64 2] H' = .ok (.int .i64 (gU b p 2)) H' := fun H' => hU p H'
        obtain ⟨s2, H2, e2, o2, x2⟩ := ap1_own (bytes := 40) encRP_len ho hx (oneR b z p) (by simp; omega) (by decide)
        refine .inl ⟨_, H2, ?_, x2, s2, rfl, by rw [take_snoc hp, List.map_append]; exact o2⟩
        rw [swashref06_parts_l1_eq]
        unfold encRP oneR at e2
        simp -implicitDefEqProofs (disch := omega) [hlt, i1, u0, e2])
      (fun e H' ⟨hx, s, he, ho⟩ => by
        subst he
        refine ⟨.exit 1, _, H', ?_, by simp, rfl, hx, .int .i64 ps.length, s, rfl, by rw [List.take_length] at ho; exact ho⟩
        rw [swashref06_parts_l1_eq]
        simp -implicitDefEqProofs)
    obtain ⟨L, hf⟩ := ho.freeze encRP_len (encRP_still _) 5
    refine ⟨.tuple #[lv encRP (ps.map (oneR b z)), .bool ok], nrm_fz (v := .tuple #[s, .bool ok]) (H' := H1) ?_ (fz_tuple (l := [s, .bool ok]) (mapF_cons hf (mapF_one (L := []) rfl))) hx (parts_flat _ _).alive, .pass rfl (by simp; omega)⟩
    rcases hz with rfl | rfl <;> simp -implicitDefEqProofs (disch := omega) at hr5 <;> simp -implicitDefEqProofs (disch := omega) [swashref06_parts, hu0, hr5, hr, swashref06_parts_l1k_x1]
  rw [if_neg h6]
  have h6' : (fmt == 6) = false := by simpa using h6
  by_cases h8 : fmt = 8
  · subst h8
    rw [if_pos rfl]
    obtain ⟨v, e, hp⟩ := trim06_run k b hb 2 z (by omega) (by omega) hl H
    obtain ⟨l, ok, rfl, ho, hll⟩ := hp.val
    refine ⟨_, nrm_parts (l := l) (ok := ok) ?_, .pass ho hll⟩
    simp -implicitDefEqProofs (disch := omega) [swashref06_parts, hu0, e]
  rw [if_neg h8]
  have h8' : (fmt == 8) = false := by simpa using h8
  by_cases h10 : fmt = 10
  · subst h10
    rw [if_pos rfl]
    have hno : ¬ (gU b 2 2 = 1 ∨ gU b 2 2 = 2 ∨ gU b 2 2 = 4) → swashref06_parts k (R (T k)) (lv encB b) (.int .i64 g) (.int .i64 z) H = .ok (.tuple #[.slice none 0 0, .bool false]) H := fun hu => by
      have u1 : (gU b 2 2 == 1) = false := by simpa using fun h => hu (.inl h)
      have u2 : (gU b 2 2 == 2) = false := by simpa using fun h => hu (.inr (.inl h))
      have u4 : (gU b 2 2 == 4) = false := by simpa using fun h => hu (.inr (.inr h))
      simp -implicitDefEqProofs (disch := omega) [swashref06_parts, hu0, hu2, bne, u1, u2, u4]
    cases h : uS b 2 2 with
    | none =>
      have hg2 : gU b 2 2 = -1 := by unfold gU; rw [h]; rfl
      exact ⟨_, refNo (hno (by rw [hg2]; decide)), .no⟩
    | some u =>
      have hg2 := gU_some h
      rw [hg2] at hu2 hno
      simp only [Option.bind_some]
      by_cases hu : u = 1 ∨ u = 2 ∨ u = 4
      · rw [if_pos hu]
        obtain ⟨v, e, hp⟩ := trim06_run k b hb 4 u hu (by omega) hl H
        obtain ⟨l, ok, rfl, ho, hll⟩ := hp.val
        refine ⟨_, nrm_parts (l := l) (ok := ok) ?_, .pass ho hll⟩
        rcases hu with rfl | rfl | rfl <;> simp -implicitDefEqProofs (disch := omega) [swashref06_parts, hu0, hu2, bne, e]
      · rw [if_neg hu]
        exact ⟨_, refNo (hno hu), .no⟩
  rw [if_neg h10]
  have h10' : (fmt == 10) = false := by simpa using h10
  refine ⟨_, refNo ?_, .no⟩
  simp -implicitDefEqProofs (disch := omega) [swashref06_parts, hu0, h0', h2', h4', h6', h8', h10']
end Go.Sw
end
section
namespace Go.Sw
open Go.RowKit
theorem goodR_snoc (r : RP) : ∀ a : List RP, goodR (a ++ [r]) = (goodR a && decide (r.first ≤ r.last) && match a.getLast? with | some q => decide (q.last < r.first) | none => true)
  | [] => by simp [goodR]
  | [x] => by
    simp only [List.singleton_append, goodR, List.getLast?_singleton]
    cases decide (x.first ≤ x.last) <;> cases decide (x.last < r.first) <;> cases decide (r.first ≤ r.last) <;> rfl
  | x :: y :: t => by
    have ih := goodR_snoc r (y :: t)
    simp only [List.cons_append] at ih ⊢
    simp only [goodR, ih, List.getLast?_cons_cons]
    simp only [Bool.and_assoc]
abbrev tabRV (b : List Int) (rs : List RP) : Value := .agg #[lv encB b, lv encRP rs]
def tabRO (b : List Int) (o : Option (List RP)) : Value := match o with | some rs => tabRV b rs | none => tabRV [] []
theorem Flat.tabRV (b : List Int) (rs : List RP) : Flat (tabRV b rs) := .aggL (.cons (Flat.B _) (.cons (Flat.RPs _) .nil))
theorem tabRO_flat (b : List Int) (o : Option (List RP)) : Flat (tabRO b o) := by
  unfold tabRO
  split
  · exact Flat.tabRV _ _
  · exact Flat.tabRV _ _
theorem read06_run (k : Nat) (b : List Int) (hb : Byt b) (g z : Int) (hg : 1 ≤ g ∧ g ≤ 65535) (hz : z = 2 ∨ z = 4) (hl : b.length < 2 ^ 31) (H : Heap) :
    R (T k) F.swashref06_Read [lv encB b, .int .i64 g, .int .i64 z] H = .ok (.tuple #[tabRO b (refReadS b g z), .bool (refReadS b g z).isSome]) H := by
  have hx0 : Ext H (H.push ⟨[.slice none 0 0, .slice none 0 0], 1, false⟩) := (Ext.refl H).push _
  obtain ⟨v, e, hp⟩ := parts06_run k b hb g z hg hz hl (H.push ⟨[.slice none 0 0, .slice none 0 0], 1, false⟩)
  obtain ⟨l, ok, rfl, ho, hll⟩ := hp.val
  rw [swashref06_Read_R]
  obtain ⟨x, e', H1, hr, rfl, rfl, rfl⟩ := loop_up (body := swashref06_Read_l1 k (R (T k))) l.length
    (fun j e H' => H' = H.push ⟨[.slice none 0 0, .slice none 0 0], 1, false⟩ ∧ e = [(0, lv encB b), (6, .pointer (some ⟨H.n, 0, none⟩)), (8, lv encRP l), (9, .bool (ok && goodR (l.take j))), (10, .int .i64 j)])
    (fun x e H' => H' = H.push ⟨[.slice none 0 0, .slice none 0 0], 1, false⟩ ∧ x = .exit 0 ∧ e = [(0, lv encB b), (6, .pointer (some ⟨H.n, 0, none⟩)), (8, lv encRP l), (9, .bool (ok && goodR l)), (10, .int .i64 l.length), (21, .bool false)])
    (e0 := [(0, lv encB b), (6, .pointer (some ⟨H.n, 0, none⟩)), (8, lv encRP l), (9, .bool ok), (10, .int .i64 0)]) (H0 := H.push ⟨[.slice none 0 0, .slice none 0 0], 1, false⟩) ⟨rfl, by simp [goodR]⟩ (by omega)
    (fun j e H' hj ⟨hH, he⟩ => by
      subst he hH
      have hlt : (j : Int) < l.length := by omega
      obtain ⟨r, hr⟩ : ∃ r, l[j]? = some r := ⟨_, List.getElem?_eq_getElem hj⟩
      have i1 := fun H' => ixS_lvN encRP_len l .i64 j r hr H'
      refine .inl ⟨_, _, ?_, rfl, rfl⟩
      rw [swashref06_Read_l1_eq, take_snoc hr, goodR_snoc]
      by_cases h1 : r.last < r.first
      · have h1' : ¬ r.first ≤ r.last := by omega
        simp -implicitDefEqProofs (disch := omega) [hlt, i1, h1, h1', swashref06_Read_j1_eq]
      · have h1' : r.first ≤ r.last := by omega
        cases j with
        | zero =>
          simp -implicitDefEqProofs (disch := omega) at i1 hlt
          simp -implicitDefEqProofs (disch := omega) [hlt, i1, h1, h1', swashref06_Read_j2_eq, goodR]
        | succ j =>
          obtain ⟨q, hq⟩ : ∃ q, l[j]? = some q := ⟨_, List.getElem?_eq_getElem (by omega)⟩
          have i2 := fun H' => ixS_lvN encRP_len l .i64 j q hq H'
          have hlast : (l.take (j + 1)).getLast? = some q := by rw [take_snoc hq]; simp
          rw [hlast]
          have hj0 : (0 : Int) < (j : Int) + 1 := by omega
          simp -implicitDefEqProofs (disch := omega) at i1 hlt
          by_cases h2 : r.first ≤ q.last
          · have h2' : ¬ q.last < r.first := by omega
            simp -implicitDefEqProofs (disch := omega) [hlt, i1, i2, h1, h1', h2, h2', hj0, swashref06_Read_j1_eq]
          · have h2' : q.last < r.first := by omega
            simp -implicitDefEqProofs (disch := omega) [hlt, i1, i2, h1, h1', h2, h2', hj0, swashref06_Read_j2_eq])
    (fun e H' ⟨hH, he⟩ => by
      subst he hH
      refine ⟨.exit 0, _, _, ?_, by simp, rfl, rfl, rfl⟩
      rw [swashref06_Read_l1_eq, List.take_length]
      simp -implicitDefEqProofs)
  have hread : refReadS b g z = if (ok && goodR l) = true then some l else none := by
    unfold refReadS
    rw [ho]
    cases ok <;> simp
  rw [hread]
  cases hgood : (ok && goodR l) with
  | false =>
    rw [hgood] at hr
    refine nrm_fz (v := .tuple #[.agg #[.slice none 0 0, .slice none 0 0], .bool false]) (L := []) (H' := H.push ⟨[.slice none 0 0, .slice none 0 0], 1, false⟩) ?_ rfl hx0 (Flat.tupleL (.cons (tabRO_flat b none) (.cons (.bool _) .nil))).alive
    simp -implicitDefEqProofs [swashref06_Read, e, hr, swashref06_Read_l1k_x0]
  | true =>
    rw [hgood] at hr
    refine nrm_fz (v := .tuple #[tabRV b l, .bool true]) (L := []) (H' := H.push ⟨[lv encB b, lv encRP l], 1, false⟩) ?_ rfl ((Ext.refl H).push _) (Flat.tupleL (.cons (Flat.tabRV b l) (.cons (.bool _) .nil))).alive
    simp -implicitDefEqProofs [swashref06_Read, e, hr, swashref06_Read_l1k_x0]
def RP.ok (r : RP) : Prop := -1 ≤ r.first ∧ r.first ≤ 65536 ∧ -1 ≤ r.last ∧ r.last ≤ 65536 ∧ -1 ≤ r.pos ∧ r.pos < 2 ^ 35 ∧ 0 ≤ r.step ∧ r.step ≤ 4 ∧ 0 ≤ r.size ∧ r.size ≤ 4
end Go.Sw
end
section
namespace Go.Sw
open Go.RowKit
theorem restS_iff {b rv : List Int} {j : Int} : restS b j = some rv ↔ (0 ≤ j ∧ j ≤ b.length) ∧ rv = b.drop j.toNat := by
  unfold restS
  split
  · rename_i h
    exact ⟨fun e => by injection e with e; exact ⟨h, e.symm⟩, fun e => by rw [e.2]⟩
  · rename_i h
    exact ⟨fun e => (by cases e), fun e => absurd e.1 h⟩
theorem restS_length {b rv : List Int} {j : Int} (h : restS b j = some rv) : (rv.length : Int) = b.length - j := by
  obtain ⟨h1, rfl⟩ := restS_iff.1 h
  simp
  omega
theorem uS_rest {b rv : List Int} {j : Int} (h : restS b j = some rv) {x : Int} (hx : 0 ≤ x) (z : Int) : uS rv x z = uS b (j + x) z := by
  have hl := restS_length h
  obtain ⟨h1, rfl⟩ := restS_iff.1 h
  unfold uS pieceS
  by_cases hc : 0 ≤ z ∧ x ≤ b.length - j ∧ z ≤ b.length - j - x
  · rw [if_pos (by omega), if_pos (by omega), List.drop_drop, show j.toNat + x.toNat = (j + x).toNat by omega]
  · rw [if_neg (by omega), if_neg (by omega)]
def needsS (b : List Int) (i step : Int) (n : Nat) : Int := needL ((List.range n).map fun j => gU b (i + (j : Nat) * step) 2)
theorem rowK_iff {rv : List Int} {n : Int} (hn : 0 < n) {k : Nat} : (rowK rv n k).isSome = true ↔ 2 * n * (k + 1) ≤ rv.length := by
  unfold rowK
  rw [listS_isSome (by omega), rowsB_iff (by omega)]
  have h0 : 0 ≤ 2 * n * (k : Int) := Int.mul_nonneg (by omega) (by omega)
  have h1 : 2 * n * ((k : Int) + 1) = 2 * n * k + 2 * n := by rw [Int.mul_add]; omega
  constructor
  · rintro ⟨_, _, _, h⟩; omega
  · intro h; exact ⟨h0, by omega, by omega, by omega⟩
theorem row_at {b rv : List Int} {j : Int} (h : restS b j = some rv) {n : Int} {k : Nat} {r : List Int} (hn : 0 < n) (hr : rowK rv n k = some r) : r = (List.range n.toNat).map fun i => gU b (j + (n * k + (i : Nat)) * 2) 2 := by
  have hs := (rowK_iff (rv := rv) (k := k) hn).1 (by rw [hr]; rfl)
  have hr' := hr
  unfold rowK listS at hr'
  obtain ⟨q, hq, hqr⟩ := Option.map_eq_some_iff.1 hr'
  have hlen : r.length = n.toNat := by rw [← hqr]; simp
  have hk0 : 0 ≤ n * (k : Int) := Int.mul_nonneg (by omega) (by omega)
  apply List.ext_getElem?
  intro i
  by_cases hi : i < n.toNat
  · rw [listS_get (by omega) hr i (by omega), List.getElem?_map, List.getElem?_range hi, uS_rest h (by rw [Int.mul_assoc]; omega)]
    have e : j + (2 * n * (k : Int) + (i : Int) * 2) = j + (n * k + (i : Nat)) * 2 := by rw [Int.mul_assoc, Int.add_mul]; omega
    rw [e]
    have hlen := restS_length h
    have hj := (restS_iff.1 h).1
    have h1 : 2 * n * ((k : Int) + 1) = 2 * (n * k) + 2 * n := by rw [Int.mul_add, Int.mul_assoc]; omega
    obtain ⟨x, hx⟩ : ∃ x, uS b (j + (n * k + (i : Nat)) * 2) 2 = some x := uS_of_in (by unfold inS; exact decide_eq_true (by rw [Int.add_mul]; omega))
    rw [hx, Option.map_some, gU_some hx]
  · rw [List.getElem?_eq_none (by omega), List.getElem?_eq_none (by simp; omega)]
theorem rows_flat_at {b rv : List Int} {j : Int} (h : restS b j = some rv) {n : Int} (hn : 0 < n) : ∀ {s : Nat} {rs : List (List Int)}, rowsTo rv n s = some rs → rs.flatten = (List.range (s * n.toNat)).map fun (i : Nat) => gU b (j + (i : Int) * 2) 2
  | 0, rs, hr => by injection hr with hr; subst hr; simp
  | s + 1, rs, hr => by
    unfold rowsTo at hr
    rw [mapO_range] at hr
    obtain ⟨rs', h1, hr⟩ := Option.bind_eq_some_iff.1 hr
    obtain ⟨r, h2, rfl⟩ := Option.map_eq_some_iff.1 hr
    rw [List.flatten_append, rows_flat_at h hn h1, Nat.succ_mul, List.range_add, List.map_append]
    congr 1
    simp only [List.flatten_cons, List.flatten_nil, List.append_nil, row_at h hn h2, List.map_map]
    apply List.map_congr_left
    intro i _
    simp only [Function.comp]
    congr 2
    have : ((s * n.toNat + i : Nat) : Int) = n * s + i := by
      obtain ⟨m, rfl⟩ := Int.eq_ofNat_of_zero_le (Int.le_of_lt hn)
      simp [Int.mul_comm]
    rw [this]
theorem rows_needs {b rv : List Int} {j : Int} (h : restS b j = some rv) {n : Int} (hn : 0 < n) {s : Nat} {rs : List (List Int)} (hr : rowsTo rv n s = some rs) : needsS b j 2 (s * n.toNat) = needR rs := by
  unfold needsS needR
  rw [rows_flat_at h hn hr]
theorem rows_there {b rv : List Int} {j : Int} (h : restS b j = some rv) {n : Int} (hn : 0 < n) {s : Nat} (hs : 0 < s) : (rowsTo rv n s).isSome = rowsB b.length j s (2 * n) := by
  have hl := restS_length h
  have hj := (restS_iff.1 h).1
  rw [Bool.eq_iff_iff, rowsB_iff (by omega)]
  have e : (s : Int) * (2 * n) = 2 * n * s := Int.mul_comm _ _
  constructor
  · intro hsome
    obtain ⟨rs, hrs⟩ := Option.isSome_iff_exists.1 hsome
    obtain ⟨y, hy, _⟩ := mapO_at hrs (i := s - 1) (by omega)
    have := (rowK_iff (rv := rv) (k := s - 1) hn).1 (by rw [hy]; rfl)
    rw [show (((s - 1 : Nat) : Int) + 1) = s by omega] at this
    exact ⟨hj.1, by omega, hj.2, by omega⟩
  · rintro ⟨_, _, _, h4⟩
    obtain ⟨r, hr⟩ := mapO_all_some (f := rowK rv n) (n := s) fun i hi => by
      rw [rowK_iff hn]
      have : 2 * n * ((i : Int) + 1) ≤ 2 * n * s := Int.mul_le_mul_of_nonneg_left (by omega) (by omega)
      omega
    exact Option.isSome_iff_exists.2 ⟨r, hr⟩
theorem entK_iff {ev : List Int} {w : Int} (hw : 0 ≤ w) {k : Nat} : (entK ev w k).isSome = true ↔ (4 + 2 * w) * (k + 1) ≤ ev.length := by
  unfold entK
  rw [Option.isSome_map, inS_piece]
  unfold inS
  rw [decide_eq_true_eq]
  have h0 : 0 ≤ (4 + 2 * w) * (k : Int) := Int.mul_nonneg (by omega) (by omega)
  have h1 : (4 + 2 * w) * ((k : Int) + 1) = (4 + 2 * w) * k + (4 + 2 * w) := by rw [Int.mul_add]; omega
  omega
theorem ents_there {b ev : List Int} {q : Int} (h : restS b q = some ev) {w : Int} (hw : 0 ≤ w) (s : Nat) : (entsTo ev w s).isSome = rowsB b.length q s (4 + 2 * w) := by
  have hl := restS_length h
  have hj := (restS_iff.1 h).1
  rw [Bool.eq_iff_iff, rowsB_iff (by omega)]
  have e : (s : Int) * (4 + 2 * w) = (4 + 2 * w) * s := Int.mul_comm _ _
  constructor
  · intro hsome
    obtain ⟨rs, hrs⟩ := Option.isSome_iff_exists.1 hsome
    refine ⟨hj.1, by omega, hj.2, ?_⟩
    by_cases h0 : s = 0
    · subst h0; simp; omega
    · obtain ⟨y, hy, _⟩ := mapO_at hrs (i := s - 1) (by omega)
      have := (entK_iff (ev := ev) (k := s - 1) hw).1 (by rw [hy]; rfl)
      rw [show (((s - 1 : Nat) : Int) + 1) = s by omega] at this
      omega
  · rintro ⟨_, _, _, h4⟩
    obtain ⟨r, hr⟩ := mapO_all_some (f := entK ev w) (n := s) fun i hi => by
      rw [entK_iff hw]
      have : (4 + 2 * w) * ((i : Int) + 1) ≤ (4 + 2 * w) * s := Int.mul_le_mul_of_nonneg_left (by omega) (by omega)
      omega
    exact Option.isSome_iff_exists.2 ⟨r, hr⟩
theorem ent_at {b ev : List Int} {q : Int} (h : restS b q = some ev) {w : Int} (hw : 0 ≤ w ∧ w ≤ 2) {k : Nat} {e : En} (he : entK ev w k = some e) :
    e = ⟨gU b (q + (k : Int) * (4 + 2 * w)) 2, gU b (q + (k : Int) * (4 + 2 * w) + 2) 2, if 0 < w then gU b (q + (k : Int) * (4 + 2 * w) + 4) 2 else 0, if 1 < w then gU b (q + (k : Int) * (4 + 2 * w) + 6) 2 else 0⟩ := by
  unfold entK at he
  obtain ⟨r, hr, rfl⟩ := Option.map_eq_some_iff.1 he
  have h0 : 0 ≤ (4 + 2 * w) * (k : Int) := Int.mul_nonneg (by omega) (by omega)
  have sub : ∀ x, 0 ≤ x → x + 2 ≤ 4 + 2 * w → gU r x 2 = gU b (q + (k : Int) * (4 + 2 * w) + x) 2 := fun x hx hx2 => by
    unfold gU
    rw [uS_sub hr hx (by omega) hx2, uS_rest h (by omega), Int.mul_comm (k : Int), Int.add_assoc]
  have s0 := sub 0 (by omega) (by omega)
  rw [Int.add_zero] at s0
  unfold entOf
  rw [s0, sub 2 (by omega) (by omega)]
  congr 1
  · by_cases h1 : 0 < w
    · rw [if_pos h1, if_pos h1, sub 4 (by omega) (by omega)]
    · rw [if_neg h1, if_neg h1]
  · by_cases h1 : 1 < w
    · rw [if_pos h1, if_pos h1, sub 6 (by omega) (by omega)]
    · rw [if_neg h1, if_neg h1]
theorem ents_needs {b ev : List Int} {q : Int} (h : restS b q = some ev) {w : Int} (hw : 0 ≤ w ∧ w ≤ 2) {s : Nat} {es : List En} (hr : entsTo ev w s = some es) : needsS b q (4 + 2 * w) s = needL (es.map En.next) := by
  unfold needsS
  congr 1
  apply List.ext_getElem?
  intro i
  have hl := mapO_len hr
  rw [List.length_range] at hl
  by_cases hi : i < s
  · obtain ⟨y, h1, h2⟩ := mapO_at hr hi
    rw [List.getElem?_map, List.getElem?_map, List.getElem?_range hi, h2, Option.map_some, Option.map_some, ent_at h hw h1]
  · rw [List.getElem?_eq_none (by simp; omega), List.getElem?_eq_none (by simp; omega)]
theorem needR_mono {rv : List Int} {n : Int} {s t : Nat} (hst : s ≤ t) {rs rt : List (List Int)} (h1 : rowsTo rv n s = some rs) (h2 : rowsTo rv n t = some rt) : needR rs ≤ needR rt := by
  have h3 := mapO_prefix hst h2
  have h4 : mapO (rowK rv n) (List.range s) = some rs := h1
  rw [h4] at h3
  injection h3 with h3
  rw [h3]
  have := List.take_append_drop s rt
  conv => rhs; rw [← this]
  unfold needR
  rw [List.flatten_append, needL_append]
  omega
structure RMach where
  b : List Int
  cl : Int
  rowsAt : Int
  entsAt : Int
  states : Int
  n : Int
  words : Int
  tb : List Int
  parts : List RP
def rmOf (b : List Int) (g w : Int) (m : Mach) : RMach :=
  ⟨b, m.classes, gU b 8 4, gU b 12 4, m.rows.length, m.ents.length, w, b.drop (gU b 4 4).toNat, (refReadS (b.drop (gU b 4 4).toNat) g 2).getD []⟩
def refMachS (b : List Int) (g w : Int) : Option RMach := (machS b g w).map (rmOf b g w)
theorem machS_parts {b : List Int} {g w : Int} {m : Mach} (h : machS b g w = some m) : ∃ i j q tb rv ev x, uS b 0 4 = some m.classes ∧ 4 ≤ m.classes ∧ m.classes ≤ 65535 ∧ uS b 4 4 = some i ∧ restS b i = some tb ∧ lookS tb g 2 = some m.tab ∧
    uS b 8 4 = some j ∧ restS b j = some rv ∧ uS b 12 4 = some q ∧ restS b q = some ev ∧ closeA rv ev m.classes w 2 = some x ∧ m.rows = x.1 ∧ m.ents = x.2 := by
  unfold machS at h
  obtain ⟨n, h0, h⟩ := Option.bind_eq_some_iff.1 h
  split at h
  rotate_left
  · cases h
  rename_i hn
  obtain ⟨i, h1, h⟩ := Option.bind_eq_some_iff.1 h
  obtain ⟨tb, h2, h⟩ := Option.bind_eq_some_iff.1 h
  obtain ⟨tab, h3, h⟩ := Option.bind_eq_some_iff.1 h
  obtain ⟨j, h4, h⟩ := Option.bind_eq_some_iff.1 h
  obtain ⟨rv, h5, h⟩ := Option.bind_eq_some_iff.1 h
  obtain ⟨k, h6, h⟩ := Option.bind_eq_some_iff.1 h
  obtain ⟨ev, h7, h⟩ := Option.bind_eq_some_iff.1 h
  obtain ⟨x, h8, rfl⟩ := Option.map_eq_some_iff.1 h
  exact ⟨i, j, k, tb, rv, ev, x, h0, hn.1, hn.2, h1, h2, h3, h4, h5, h6, h7, h8, rfl, rfl⟩
end Go.Sw
end
section
namespace Go.Sw
open Go.RowKit
theorem Classes_run (k : Nat) (m : Mach) (H : Heap) : R (T k) F.state_Machine_Classes [machV m] H = .ok (.int .i64 m.classes) H := by
  rw [state_Machine_Classes_R]
  refine nrm_gc (Pure.of ?_) (.int _ _)
  simp -implicitDefEqProofs (disch := omega) [state_Machine_Classes]
theorem States_run (k : Nat) (m : Mach) (H : Heap) : R (T k) F.state_Machine_States [machV m] H = .ok (.int .i64 m.rows.length) H := by
  rw [state_Machine_States_R]
  refine nrm_gc (Pure.of ?_) (.int _ _)
  simp -implicitDefEqProofs (disch := omega) [state_Machine_States]
def encEA (o : Option En) : Value := .agg (encEn (o.getD ⟨0, 0, 0, 0⟩)).toArray
theorem encEA_flat (o : Option En) : Flat (encEA o) := Flat.ofEn _
theorem stepS_some {m : Mach} (hm : m.ok) {s c : Int} (h : 0 ≤ s ∧ s < m.rows.length ∧ 0 ≤ c ∧ c < m.classes) :
    ∃ r x e, m.rows[s.toNat]? = some r ∧ r[c.toNat]? = some x ∧ 0 ≤ x ∧ m.ents[x.toNat]? = some e ∧ stepS m s c = some e := by
  obtain ⟨r, hr⟩ : ∃ r, m.rows[s.toNat]? = some r := ⟨_, List.getElem?_eq_getElem (by omega)⟩
  have hrm := hm.row r (List.mem_of_getElem? hr)
  obtain ⟨x, hx⟩ : ∃ x, r[c.toNat]? = some x := ⟨_, List.getElem?_eq_getElem (by omega)⟩
  have hxm := hrm.2 x (List.mem_of_getElem? hx)
  obtain ⟨e, he⟩ : ∃ e, m.ents[x.toNat]? = some e := ⟨_, List.getElem?_eq_getElem (by omega)⟩
  refine ⟨r, x, e, hr, hx, hxm.1, he, ?_⟩
  unfold stepS
  rw [if_pos h, hr, Option.bind_some, hx, Option.bind_some, he]
theorem Step_run (k : Nat) (m : Mach) (hm : m.ok) (s c : Int) (H : Heap) : R (T k) F.state_Machine_Step [machV m, .int .i64 s, .int .i64 c] H = .ok (.tuple #[encEA (stepS m s c), .bool (stepS m s c).isSome]) H := by
  rw [state_Machine_Step_R]
  have fl : Flat (.tuple #[encEA (stepS m s c), .bool (stepS m s c).isSome]) := .tupleL (.cons (encEA_flat _) (.cons (.bool _) .nil))
  have no : ¬ (0 ≤ s ∧ s < m.rows.length ∧ 0 ≤ c ∧ c < m.classes) → stepS m s c = none := fun h => by unfold stepS; rw [if_neg h]
  have hx : Ext H (H.push ⟨[.int .i64 0, .int .i64 0, .int .i64 0, .int .i64 0], 1, false⟩) := (Ext.refl H).push _
  by_cases h1 : s < 0
  · rw [no (by omega)] at fl ⊢
    refine nrm_gc ⟨_, ?_, hx⟩ fl.alive
    simp -implicitDefEqProofs (disch := omega) [state_Machine_Step, h1, encEA]
  by_cases h2 : s ≥ m.rows.length
  · rw [no (by omega)] at fl ⊢
    refine nrm_gc ⟨_, ?_, hx⟩ fl.alive
    simp -implicitDefEqProofs (disch := omega) [state_Machine_Step, h1, h2, encEA]
  by_cases h3 : c < 0
  · rw [no (by omega)] at fl ⊢
    refine nrm_gc ⟨_, ?_, hx⟩ fl.alive
    simp -implicitDefEqProofs (disch := omega) [state_Machine_Step, h1, h2, h3, encEA]
  by_cases h4 : c ≥ m.classes
  · rw [no (by omega)] at fl ⊢
    refine nrm_gc ⟨_, ?_, hx⟩ fl.alive
    simp -implicitDefEqProofs (disch := omega) [state_Machine_Step, h1, h2, h3, h4, encEA]
  obtain ⟨r, x, e, hr, hxx, hx0, he, hs⟩ := stepS_some hm (s := s) (c := c) (by omega)
  rw [hs] at fl ⊢
  have i1 := fun H' => ixS_lv encRow_len m.rows .i64 s r (by omega) hr H'
  have i2 := fun H' => ixS_lv encI_len r .i64 c x (by omega) hxx H'
  have i3 := fun H' => ixS_lv encEn_len m.ents .i64 x e hx0 he H'
  refine nrm_gc ⟨H.push ⟨encEn e, 1, false⟩, ?_, (Ext.refl H).push _⟩ fl.alive
  simp -implicitDefEqProofs (disch := omega) [state_Machine_Step, h1, h2, h3, h4, i1, i2, i3, encEA]
theorem Entries_run (k : Nat) (hk : k < 1000000) (m : Mach) (hl : m.ents.length ≤ 65536) (H : Heap) : R (T k) F.state_Machine_Entries [machV m] H = .ok (lv encEn m.ents) H := by
  have ho : own k = .fz := by unfold own; rw [show Nat.blt k 1000000 = true from Nat.ble_eq_true_of_le hk]; rfl
  rw [state_Machine_Entries_R, ho]
  have g := (Star.nil H).more_row (Ext.refl _) (OwnO.bare encEn _ 4) (fun b hb => by cases hb)
  obtain ⟨s, o, H1, e1, g⟩ := g.append (bytes := 32) 0 encEn_len rfl (b := lv encEn m.ents) (l2 := m.ents) rfl (lv_first encEn_len m.ents H) (by simp; omega) (by decide)
  simp only [List.nil_append, List.set_cons_zero] at g
  obtain ⟨L, hf⟩ := (g.own 0 rfl).freeze encEn_len (encEn_still _) 6
  refine nrm_fz (v := s) (H' := H1) ?_ hf g.ext (Flat.Ens _).alive
  simp -implicitDefEqProofs (disch := omega) [state_Machine_Entries, e1]
theorem Entries_own (k : Nat) (hk : 1000000 ≤ k) (m : Mach) (hl : m.ents.length ≤ 65536) {H0 H : Heap} {L : List It} (h : Star H0 H L) : ∃ s o H', R (T k) F.state_Machine_Entries [machV m] H = .ok s H' ∧ Star H0 H' (L ++ [itRow o 4 s encEn m.ents]) := by
  have ho : own k = .no := by
    unfold own
    rw [show Nat.blt k 1000000 = false from by
      cases hb : Nat.blt k 1000000 with
      | false => rfl
      | true => exact absurd (Nat.le_of_ble_eq_true hb) (by omega)]
    rfl
  rw [state_Machine_Entries_R, ho]
  have g := h.more_row (Ext.refl _) (OwnO.bare encEn _ 4) (fun b hb => by cases hb)
  obtain ⟨s, o, H1, e1, g⟩ := g.append (bytes := 32) L.length encEn_len (list_at_end _) (b := lv encEn m.ents) (l2 := m.ents) rfl (lv_first encEn_len m.ents H) (by simp; omega) (by decide)
  refine ⟨s, o, H1, nrm_of ?_, by simpa using g⟩
  simp -implicitDefEqProofs (disch := omega) [state_Machine_Entries, e1]
end Go.Sw
end
