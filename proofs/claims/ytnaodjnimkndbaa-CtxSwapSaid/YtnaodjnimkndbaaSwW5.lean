/-
  Functions' forms, and what is proved of them, part 5.
-/
import Derived.Test.YtnaodjnimkndbaaSwW4
import Derived.Test.YtnaodjnimkndbaaSwCfg
import Derived.Test.YtnaodjnimkndbaaSwW3
set_option linter.unusedSimpArgs false
set_option linter.unusedVariables false
set_option linter.unusedSectionVars false
section
namespace Go.Sw
open Go.RowKit
abbrev machV (m : Mach) : Value := boxV #[.int .i64 m.classes, tabV m.tab, lv encRow m.rows, lv encEn m.ents]
theorem Flat.rowsL (l : List (List Int)) : Flat (Go.Sw.lv encRow l) := .lv fun p _ => .cons (Flat.I _) .nil
theorem Flat.mach (m : Mach) : Flat (machV m) := .boxV (l := [.int .i64 m.classes, tabV m.tab, Go.Sw.lv encRow m.rows, Go.Sw.lv encEn m.ents]) (.cons (.int _ _) (.cons (Flat.tab _) (.cons (Flat.rowsL _) (.cons (Flat.Ens _) .nil))))
theorem rows_fstR (l : List (List Int × Value)) : rows (fun x : List Int × Value => encRow x.1) l = rows encRow (l.map Prod.fst) := by
 induction l with
 | nil => rfl
 | cons x l ih => rw [List.map_cons, rows_cons, rows_cons, ih]
theorem MS.freeze {H0 H : Heap} {X : List It} {c : Nat} {n : Int} {t : Int × List Pt} {rs : List (List Int)} {es : List En} (h : MS H0 H X c n (tabV t) rs es) : ∃ L, fzV H0.n H fzDepth (ptrV c) = some (machV ⟨n, t, rs, es⟩, L) := by
 obtain ⟨l, s1, o1, s2, o2, bs, h1, g, h3⟩ := h
 have hc := (g.lt 0 rfl c (by simp [itBlk])).1
 obtain ⟨L1, f1⟩ := (g.own 1 rfl).freezeG (enc' := fun x : List Int × Value => encRow x.1) encU_len 5 fun x hx => by
  obtain ⟨o, ho⟩ := h3 x hx
  obtain ⟨L, hL⟩ := (g.memOwn (o := o) (m := 1) (s := x.2) (enc := encI) (l := x.1) (by simp [ho])).freeze encI_len (encI_still _) 4
  exact ⟨_, mapF_one hL⟩
 obtain ⟨L2, f2⟩ := (g.own 2 rfl).freeze encEn_len (encEn_still _) 5
 have e1 : lv (fun x : List Int × Value => encRow x.1) l = lv encRow rs := by
  unfold lv
  rw [rows_fstR, h1, ← h1, List.length_map]
 rw [e1] at f1
 exact ⟨_, fz_box hc (g.get 0 rfl) (mapF_cons (v := .int .i64 n) (u := .int .i64 n) (L1 := []) rfl (mapF_cons (v := tabV t) (u := tabV t) (L1 := []) rfl (mapF_cons f1 (mapF_one f2))))⟩
theorem restS_sl {H : Heap} {v : Value} {b r : List Int} (hv : Sl H 1 v encB b) {i : Int} (hl : b.length < 2 ^ 62) (hi : i ≤ 9223372036854775807) (h : restS b i = some r) : Sl H 1 (subV 1 v i.toNat (behind b i).toNat) encB r :=
 pieceS_sl hv (by rw [behind_piece b i hl hi]; exact h)
theorem restS_len {b r : List Int} {i : Int} (h : restS b i = some r) : r.length ≤ b.length := by
 unfold restS at h
 split at h
 ·injection h with h
  subst h
  simp
 ·cases h
theorem stateTake_run (k : Nat) {H : Heap} {v : Value} {b : List Int} (hv : Sl H 1 v encB b) (hb : Byt b) (g w : Int) (hg1 : 1 ≤ g) (hg2 : g ≤ 65535) (hw : w = 0 ∨ w = 1 ∨ w = 2) (hl : b.length < 2 ^ 31) :
  R (T k) F.state_Take [.agg #[v], .int .i64 g, .int .i64 w] H = orF (machS b g w) machV H := by
 rw [state_Take_R]
 have hx : Ext H (H.push ⟨[v], 1, false⟩) := (Ext.refl H).push _
 have hq := rd_vw hv
 have hqa : veq (.agg #[v]) (.agg #[v]) = true := veq_agg (l := [v]) fun u hu => by simp at hu; subst hu; exact hq
 refine fz_orF ?_ fun _ _ => (Flat.mach _).alive
 simp -implicitDefEqProofs [state_Take]
 unfold machS
 refine Cp.call (U32_run k (hv.up hx) hb 0 (by omega)) hx fun n hn => ?_
 have hn := uS_four hb hn
 by_cases h4 : 4 ≤ n
 rotate_left
 ·have h4' : ¬ n ≥ 4 := by omega
  rw [if_neg (fun h => h4 h.1)]
  simp -implicitDefEqProofs (disch := omega) [h4']
  exact .throw hx
 have h4' : n ≥ 4 := h4
 by_cases h5 : n ≤ 65535
 rotate_left
 ·rw [if_neg (fun h => h5 h.2)]
  simp -implicitDefEqProofs (disch := omega) [h4', h5]
  exact .throw hx
 rw [if_pos ⟨h4, h5⟩]
 simp -implicitDefEqProofs (disch := omega) [h4', h5]
 refine Cp.callT (U32_run k (hv.up hx) hb 4 (by omega)) (fun _ => ⟨_, rfl, hx⟩) fun i hi => ?_
 have hi := uS_four hb hi
 refine Cp.callT (Rest_run k (hv.up hx) i (by omega) (by omega)) (fun _ => ⟨_, by simp -implicitDefEqProofs (disch := omega) [hqa], hx⟩) fun tb htb => ?_
 refine Cp.callT (lookTake_run k (restS_sl (hv.up hx) (by omega) (by omega) htb) (hb.rest htb) g 2 hg1 hg2 (.inl rfl) (by have := restS_len htb; omega)) (fun _ => ⟨_, by simp -implicitDefEqProofs (disch := omega) [hqa], hx⟩) fun tab htab => ?_
 have hx2 : Ext H ((H.push ⟨[v], 1, false⟩).push ⟨[.int .i64 n, tabV tab, .slice none 0 0, .slice none 0 0], 1, false⟩) := hx.push _
 simp -implicitDefEqProofs (disch := omega) [hqa]
 refine Cp.callT (U32_run k (hv.up hx2) hb 8 (by omega)) (fun _ => ⟨_, by simp -implicitDefEqProofs (disch := omega) [hqa], hx2⟩) fun j hj => ?_
 have hj := uS_four hb hj
 refine Cp.callT (Rest_run k (hv.up hx2) j (by omega) (by omega)) (fun _ => ⟨_, by simp -implicitDefEqProofs (disch := omega) [hqa], hx2⟩) fun rv hrv => ?_
 simp -implicitDefEqProofs (disch := omega) [hqa]
 refine Cp.callT (U32_run k (hv.up hx2) hb 12 (by omega)) (fun _ => ⟨_, by simp -implicitDefEqProofs (disch := omega) [hqa], hx2⟩) fun q hq => ?_
 have hq := uS_four hb hq
 refine Cp.callT (Rest_run k (hv.up hx2) q (by omega) (by omega)) (fun _ => ⟨_, by simp -implicitDefEqProofs (disch := omega) [hqa], hx2⟩) fun ev hev => ?_
 have sR := restS_sl hv (by omega) (by omega) hrv
 have sE := restS_sl hv (by omega) (by omega) hev
 have lR := restS_len hrv
 have lE := restS_len hev
 generalize subV 1 v j.toNat (behind b j).toNat = vR at sR
 generalize subV 1 v q.toNat (behind b q).toNat = vE at sE
 have qR := rd_vw sR
 have qE := rd_vw sE
 have qaR : veq (.agg #[vR]) (.agg #[vR]) = true := veq_agg (l := [vR]) fun u hu => by simp at hu; subst hu; exact qR
 have qaE : veq (.agg #[vE]) (.agg #[vE]) = true := veq_agg (l := [vE]) fun u hu => by simp at hu; subst hu; exact qE
 have stR := sR.storable
 have stE := sE.storable
 have ceR := sR.cells
 have ceE := sE.cells
 have hms : MS H (((H.push ⟨[v], 1, false⟩).push ⟨[.int .i64 n, tabV tab, .slice none 0 0, .slice none 0 0], 1, false⟩).push ⟨[ptrV (H.n + 1), vR, vE, .int .i64 w], 1, false⟩) [itBlk (H.n + 2) ⟨[ptrV (H.n + 1), vR, vE, .int .i64 w], 1, false⟩] (H.n + 1) n (tabV tab) [] [] := by
  have g := ((Star.nil H).rest hx).push ⟨[.int .i64 n, tabV tab, .slice none 0 0, .slice none 0 0], 1, false⟩
  have g := g.more_row (Ext.refl _) (OwnO.nil encU _ 1) (fun b hb => by cases hb)
  have g := g.more_row (Ext.refl _) (OwnO.nil encEn _ 4) (fun b hb => by cases hb)
  have g := g.push ⟨[ptrV (H.n + 1), vR, vE, .int .i64 w], 1, false⟩
  exact ⟨[], _, none, _, none, [], rfl, by simpa using g, fun x hx => by cases hx⟩
 simp -implicitDefEqProofs (disch := omega) [hqa, qaR, qaE, stR, stE, ceR, ceE]
 refine Cp.bindM (all_loop k (X := [itBlk (H.n + 2) ⟨[ptrV (H.n + 1), vR, vE, .int .i64 w], 1, false⟩]) (by omega) hw sR sE (hb.rest hrv) (hb.rest hev) (by omega) (by omega) (by simp) hms) ?_
 rintro ⟨rs, es⟩ ⟨x, e⟩ H' _ hx' ⟨⟨a, b, he⟩, hm⟩
 injection he with e1 e2
 subst e1 e2
 simp only [state_Take_l1k_x0]
 exact .ok hx' hm.freeze
end Go.Sw
end
section
set_option maxRecDepth 100000
set_option linter.unusedVariables false
namespace Go.Sw
noncomputable section
end
end Go.Sw
end
section
namespace Go.Sw
open Go.RowKit
theorem subV_lv (b : List Int) (a n : Nat) (h : a + n ≤ b.length) : subV 1 (lv encB b) a n = lv encB ((b.drop a).take n) := by
 have h2 := ((Sl.lv Heap.empty 1 b).sub encB_len .i64 .i64 .i64 a n h).1 Heap.empty (Ext.refl _)
 rw [slS_lv encB_len b _ _ _ a (a + n) (a + n) (by simp [boundOf]) (by unfold boundOf; dsimp only; rw [if_pos (by omega), Int.toNat_natCast]) (by unfold boundOf; dsimp only; rw [if_pos (by omega), Int.toNat_natCast]) (fun _ => rfl) (by omega) (Nat.le_refl _) h] at h2
 injection h2 with h2
 rw [← h2, List.drop_take, show a + n - a = n by omega]
theorem piece_lv {b r : List Int} {i n : Int} (h : pieceS b i n = some r) : subV 1 (lv encB b) i.toNat n.toNat = lv encB r := by
 obtain ⟨h1, rfl⟩ := pieceS_iff.1 h
 exact subV_lv b _ _ (by omega)
theorem orF_congr {α : Type} {o : Option α} {f g : α → Value} (h : ∀ a, o = some a → f a = g a) (H : Heap) : orF o f H = orF o g H := by
 cases o with
 | none => rfl
 | some a => show Res.ok (f a) H = Res.ok (g a) H; rw [h a rfl]
abbrev vwB (b : List Int) : Value := .agg #[lv encB b]
theorem Rest_lv (k : Nat) (b : List Int) (i : Int) (hl : b.length < 2 ^ 62) (hi : i ≤ 9223372036854775807) (H : Heap) : R (T k) F.view_View_Rest [vwB b, .int .i64 i] H = orF (restS b i) vwB H :=
 (Rest_run k (Sl.lv H 1 b) i hl hi).trans (orF_congr (fun r hr => by rw [piece_lv (by rw [behind_piece b i hl hi]; exact hr)]) H)
theorem Of_lv (k : Nat) (b : List Int) (H : Heap) : R (T k) F.view_Of [lv encB b] H = .ok (vwB b) H := Of_run k (Sl.lv H 1 b)
theorem veq_Pt (l : List Pt) : veq (lv encPt l) (lv encPt l) = true := veq_lv fun p _ v hv => by
 simp [encPt] at hv
 rcases hv with rfl | rfl | rfl <;> simp
theorem veq_tab (x : Int × List Pt) : veq (boxV #[.int .i64 x.1, lv encPt x.2]) (boxV #[.int .i64 x.1, lv encPt x.2]) = true := veq_boxV (l := [.int .i64 x.1, lv encPt x.2]) fun v hv => by
 simp at hv
 rcases hv with rfl | rfl
 ·simp
 ·exact veq_Pt _
theorem orF_some' {α : Type} (a : α) (f : α → Value) (H : Heap) : orF (some a) f H = .ok (f a) H := rfl
end Go.Sw
end
section
namespace Go.Sw
open Go.RowKit
theorem Class_run (k : Nat) (m : Mach) (hm : m.ok) (id : Int) (H : Heap) : R (T k) F.state_Machine_Class [machV m, .int .i64 id] H = .ok (.int .i64 (classS m id)) H := by
 rw [state_Machine_Class_R]
 refine nrm_gc (Pure.of ?_) (.int _ _)
 have hget := fun H => Get_run k m.tab hm.pts hm.rise id hm.plen H
 unfold classS
 by_cases h : id = 65535
 ·subst h
  simp -implicitDefEqProofs (disch := omega) [state_Machine_Class]
 ·have h' : (id == 65535) = false := by simpa using h
  rw [if_neg h]
  cases hg : getS m.tab.2 id with
  | none =>
   rw [hg] at hget
   simp -implicitDefEqProofs (disch := omega) [state_Machine_Class, h', hget]
  | some x =>
   rw [hg] at hget
   dsimp only
   by_cases hx : x < m.classes
   ·simp -implicitDefEqProofs (disch := omega) [state_Machine_Class, h', hget, hx]
   ·simp -implicitDefEqProofs (disch := omega) [state_Machine_Class, h', hget, hx]
def encEA (o : Option En) : Value := .agg (encEn (o.getD ⟨0, 0, 0, 0⟩)).toArray
theorem encEA_flat (o : Option En) : Flat (encEA o) := Flat.ofEn _
theorem stepS_some {m : Mach} (hm : m.ok) {s c : Int} (h : 0 ≤ s ∧ s < m.rows.length ∧ 0 ≤ c ∧ c < m.classes) :
  ∃ r x e, m.rows[s.toNat]? = some r ∧ r[c.toNat]? = some x ∧ 0 ≤ x ∧ m.ents[x.toNat]? = some e ∧ stepS m s c = some e := by
 obtain ⟨r, hr⟩ : ∃ r, m.rows[s.toNat]? = some r := ⟨_, List.getElem?_eq_getElem (by omega)⟩
 have hrm := hm.row r (List.mem_of_getElem? hr)
 obtain ⟨x, hx⟩ : ∃ x, r[c.toNat]? = some x := ⟨_, List.getElem?_eq_getElem (by omega)⟩
 have hxm := hrm.2 x (List.mem_of_getElem? hx)
 obtain ⟨e, he⟩ : ∃ e, m.ents[x.toNat]? = some e := ⟨_, List.getElem?_eq_getElem (by omega)⟩
 refine ⟨r, x, e, hr, hx, hxm.1, he, ?_⟩
 unfold stepS
 rw [if_pos h, hr, Option.bind_some, hx, Option.bind_some, he]
theorem Step_run (k : Nat) (m : Mach) (hm : m.ok) (s c : Int) (H : Heap) : R (T k) F.state_Machine_Step [machV m, .int .i64 s, .int .i64 c] H = .ok (.tuple #[encEA (stepS m s c), .bool (stepS m s c).isSome]) H := by
 rw [state_Machine_Step_R]
 have fl : Flat (.tuple #[encEA (stepS m s c), .bool (stepS m s c).isSome]) := .tupleL (.cons (encEA_flat _) (.cons (.bool _) .nil))
 have no : ¬ (0 ≤ s ∧ s < m.rows.length ∧ 0 ≤ c ∧ c < m.classes) → stepS m s c = none := fun h => by unfold stepS; rw [if_neg h]
 have hx : Ext H (H.push ⟨[.int .i64 0, .int .i64 0, .int .i64 0, .int .i64 0], 1, false⟩) := (Ext.refl H).push _
 by_cases h1 : s < 0
 ·rw [no (by omega)] at fl ⊢
  refine nrm_gc ⟨_, ?_, hx⟩ fl.alive
  simp -implicitDefEqProofs (disch := omega) [state_Machine_Step, h1, encEA]
 by_cases h2 : s ≥ m.rows.length
 ·rw [no (by omega)] at fl ⊢
  refine nrm_gc ⟨_, ?_, hx⟩ fl.alive
  simp -implicitDefEqProofs (disch := omega) [state_Machine_Step, h1, h2, encEA]
 by_cases h3 : c < 0
 ·rw [no (by omega)] at fl ⊢
  refine nrm_gc ⟨_, ?_, hx⟩ fl.alive
  simp -implicitDefEqProofs (disch := omega) [state_Machine_Step, h1, h2, h3, encEA]
 by_cases h4 : c ≥ m.classes
 ·rw [no (by omega)] at fl ⊢
  refine nrm_gc ⟨_, ?_, hx⟩ fl.alive
  simp -implicitDefEqProofs (disch := omega) [state_Machine_Step, h1, h2, h3, h4, encEA]
 obtain ⟨r, x, e, hr, hxx, hx0, he, hs⟩ := stepS_some hm (s := s) (c := c) (by omega)
 rw [hs] at fl ⊢
 have i1 := fun H' => ixS_lv encRow_len m.rows .i64 s r (by omega) hr H'
 have i2 := fun H' => ixS_lv encI_len r .i64 c x (by omega) hxx H'
 have i3 := fun H' => ixS_lv encEn_len m.ents .i64 x e hx0 he H'
 refine nrm_gc ⟨H.push ⟨encEn e, 1, false⟩, ?_, (Ext.refl H).push _⟩ fl.alive
 simp -implicitDefEqProofs (disch := omega) [state_Machine_Step, h1, h2, h3, h4, i1, i2, i3, encEA]
theorem Entries_run (k : Nat) (hk : k < 1000000) (m : Mach) (hl : m.ents.length ≤ 65536) (H : Heap) : R (T k) F.state_Machine_Entries [machV m] H = .ok (lv encEn m.ents) H := by
 have ho : own k = .fz := by unfold own; rw [show Nat.blt k 1000000 = true from Nat.ble_eq_true_of_le hk]; rfl
 rw [state_Machine_Entries_R, ho]
 have g := (Star.nil H).more_row (Ext.refl _) (OwnO.bare encEn _ 4) (fun b hb => by cases hb)
 obtain ⟨s, o, H1, e1, g⟩ := g.append (bytes := 32) 0 encEn_len rfl (b := lv encEn m.ents) (l2 := m.ents) rfl (lv_first encEn_len m.ents H) (by simp; omega) (by decide)
 simp only [List.nil_append, List.set_cons_zero] at g
 obtain ⟨L, hf⟩ := (g.own 0 rfl).freeze encEn_len (encEn_still _) 6
 refine nrm_fz (v := s) (H' := H1) ?_ hf g.ext (Flat.Ens _).alive
 simp -implicitDefEqProofs (disch := omega) [state_Machine_Entries, e1]
end Go.Sw
end
section
set_option maxRecDepth 100000
set_option linter.unusedVariables false
namespace Go.Sw
noncomputable section
def ctx_Read (k : Nat) (call : Caller) (a0 a1 : Value) (h : Heap) : Res Value :=
 (boxR a0 h).bind fun v1 h2 =>
 (boxR a1 h2).bind fun v3 h4 =>
 (allocR Prog 193 h4).bind fun v5 h6 =>
 (loadR Prog 3 v3 h6).bind fun v7 h8 =>
 (binR Prog .lss 3 v7 (.int .i64 1) h8).bind fun v9 h10 =>
 ((bif wantVal v9 false then loadR Prog 3 v3 h10 else Res.ok undef h10)).bind fun v11 h12 =>
 ((bif wantVal v9 false then binR Prog .gtr 3 v11 (.int .i64 65535) h12 else Res.ok undef h12)).bind fun v13 h14 =>
 (condV (some v9) (Res.ok (.bool true) h14) (Res.ok v13 h14)).bind fun v15 h16 =>
 condV (some v15) (
 (storeR Prog 193 v5 (.pointer none) h16).bind fun _v17 h18 =>
 (loadR Prog 193 v5 h18).bind fun v19 h20 =>
 .ok (.tuple #[v19, (.int .i64 1)]) h20)
 (
 (call F.view_Try [(.func (.func F.ctx_Read_in1) #[] #[v1, v3, v5])] h16).bind fun v21 h22 =>
 (unR .not v21 h22).bind fun v23 h24 =>
 condV (some v23) (
 (storeR Prog 193 v5 (.pointer none) h24).bind fun _v25 h26 =>
 (loadR Prog 193 v5 h26).bind fun v27 h28 =>
 .ok (.tuple #[v27, (.int .i64 2)]) h28)
 (
 (loadR Prog 193 v5 h24).bind fun v29 h30 =>
 (storeR Prog 193 v5 v29 h30).bind fun _v31 h32 =>
 (loadR Prog 193 v5 h32).bind fun v33 h34 =>
 .ok (.tuple #[v33, (.int .i64 0)]) h34))
theorem ctx_Read_R (k : Nat) (a0 a1 : Value) (h : Heap) : R (T k) F.ctx_Read [a0, a1] h = nrm .fz h (ctx_Read k (R (T k)) a0 a1 h) :=
 (R_body (t := T k) (T_scott k) (by kernel_rfl) (by kernel_rfl) _ _).trans (by kernel_rfl)
def ctx_Table_Run (k : Nat) (call : Caller) (a0 a1 : Value) (h : Heap) : Res Value :=
 (boxR a0 h).bind fun v1 h2 =>
 (boxR a1 h2).bind fun v3 h4 =>
 (allocR Prog 3 h4).bind fun v5 h6 =>
 (storeR Prog 3 v5 (.int .i64 (-1)) h6).bind fun _v7 h8 =>
 (loadR Prog 193 v1 h8).bindN fun v9 h10 =>
 (nilR v9 h10).bindN fun v11 h12 =>
 (fieldAddrR Prog 285 v11 0 h12).bindN fun v13 h14 =>
 (loadR Prog 133 v13 h14).bindN fun v15 h16 =>
 (loadR Prog 51 v3 h16).bindN fun v17 h18 =>
 (call F.drive_Plain [(.func (.func F.ctx_Table_Run_in1) #[] #[v1, v3, v5])] h18).bindT (fun p21 h22 => .panic p21 h22) fun v19 h20 =>
 (call F.drive_Run [v15, v17, v19] h20).bindT (fun p25 h26 => chkR ((okVal (loadR Prog 193 v1 h20) v9 && true) && ((okVal (loadR Prog 133 v13 h20) v15 && true) && ((okVal (loadR Prog 51 v3 h20) v17 && true) && true))) (.panic p25 h26)) fun v23 h24 =>
 (extractR v23 0 h24).bindN fun v27 h28 =>
 (extractR v23 1 h28).bindN fun v29 h30 =>
 chkR ((okVal (loadR Prog 193 v1 h20) v9 && true) && ((okVal (loadR Prog 133 v13 h20) v15 && true) && ((okVal (loadR Prog 51 v3 h20) v17 && true) && true))) (
 .ok v29 h30)
theorem ctx_Table_Run_R (k : Nat) (a0 a1 : Value) (h : Heap) : R (T k) F.ctx_Table_Run [a0, a1] h = nrm .no h (ctx_Table_Run k (R (T k)) a0 a1 h) :=
 (R_body (t := T k) (T_scott k) (by kernel_rfl) (by kernel_rfl) _ _).trans (by kernel_rfl)
def ctx_Take_l1 (k : Nat) (call : Caller) : Env → Heap → Res (AExit × Env) := loopB (C k) call F.ctx_Take [1, 1, 1, 1, 0, 1, 0, 0]
def ctx_Take_l1k (k : Nat) (call : Caller) : Kont Value := kBlock 0 (kSeq (pieceK (C k) call F.ctx_Take [1, 1, 1, 1, 1]) (kDone Prog (resOf Prog F.ctx_Take)))
def ctx_Take_l2 (k : Nat) (call : Caller) : Env → Heap → Res (AExit × Env) := loopB (C k) call F.ctx_Take [1, 1, 1, 1, 0, 1, 0, 0, 1, 1, 0, 0, 1, 1, 0, 0]
def ctx_Take_l2k (k : Nat) (call : Caller) : Kont (AExit × Env) := kBlock 2 (kBlock 1 (kSeq (pieceK (C k) call F.ctx_Take [1, 1, 1, 1, 0, 1, 0, 0, 1, 1, 1]) (kRound (ownOf (C k) F.ctx_Take [1, 1, 1, 1, 0, 1, 0, 0]))))
def ctx_Take_j1 (k : Nat) (call : Caller) (a1 a5 a6 a7 a26 a27 a28 a36 a37 a38 : Value) (h : Heap) : Res (AExit × Env) :=
 kSeq (pieceK (C k) call F.ctx_Take [1, 1, 1, 1, 0, 1, 0, 0, 1, 1, 0, 0, 1, 1, 0, 0, 1, 1, 1]) (kRound (ownOf (C k) F.ctx_Take [1, 1, 1, 1, 0, 1, 0, 0, 1, 1, 0, 0, 1, 1, 0, 0])) .normal [(1, a1), (5, a5), (6, a6), (7, a7), (26, a26), (27, a27), (28, a28), (36, a36), (37, a37), (38, a38)] h
def ctx_Take_j2 (k : Nat) (call : Caller) (a1 a5 a6 a7 a11 a26 a27 a28 a36 a37 a38 a43 : Value) (h : Heap) : Res (AExit × Env) :=
 kSeq (pieceK (C k) call F.ctx_Take [1, 1, 1, 1, 0, 1, 0, 0, 1, 1, 0, 0, 1, 1, 0, 0, 1, 1, 1]) (kRound (ownOf (C k) F.ctx_Take [1, 1, 1, 1, 0, 1, 0, 0, 1, 1, 0, 0, 1, 1, 0, 0])) .normal [(1, a1), (5, a5), (6, a6), (7, a7), (11, a11), (26, a26), (27, a27), (28, a28), (36, a36), (37, a37), (38, a38), (43, a43)] h
def ctx_Take_l3 (k : Nat) (call : Caller) : Env → Heap → Res (AExit × Env) := loopB (C k) call F.ctx_Take [1, 1, 1, 1, 1, 0, 1, 0, 0]
def ctx_Take_l3k (k : Nat) (call : Caller) : Kont Value := kBlock 4 (kSeq (pieceK (C k) call F.ctx_Take [1, 1, 1, 1, 1, 1]) (kDone Prog (resOf Prog F.ctx_Take)))
def ctx_Take (k : Nat) (call : Caller) (a0 a1 : Value) (h : Heap) : Res Value :=
 (boxR a0 h).bind fun v1 h2 =>
 (loadR Prog 83 v1 h2).bind fun v3 h4 =>
 (call F.state_Take [v3, a1, (.int .i64 2)] h4).bind fun v5 h6 =>
 (buildR Prog 285 [(0, v5)] h6).bind fun v7 h8 =>
 (boxR v7 h8).bind fun v9 h10 =>
 (loadR Prog 83 v1 h10).bindN fun v11 h12 =>
 (loadR Prog 83 v1 h12).bindN fun v13 h14 =>
 (call F.view_View_U32 [v13, (.int .i64 16)] h14).bindT (fun p17 h18 => (allocR Prog 83 h14).bindN fun v19 h20 => .panic p17 h18) fun v15 h16 =>
 (call F.view_View_Rest [v11, v15] h16).bindT (fun p23 h24 => (allocR Prog 83 h16).bindN fun v25 h26 => chkR ((okVal (loadR Prog 83 v1 h16) v11 && true) && true) (.panic p23 h24)) fun v21 h22 =>
 (allocR Prog 83 h22).bindN fun v27 h28 =>
 (storeR Prog 83 v27 v21 h28).bindN fun _v29 h30 =>
 chkR ((okVal (loadR Prog 83 v1 h16) v11 && true) && true) (
 (nilR v9 h30).bind fun v31 h32 =>
 (fieldAddrR Prog 285 v31 0 h32).bind fun v33 h34 =>
 (loadR Prog 133 v33 h34).bind fun v35 h36 =>
 (call F.state_Machine_Entries [v35] h36).bind fun v37 h38 =>
 (builtinV Prog .len [144] [v37] h38).bind fun v39 h40 =>
 (loopN (ctx_Take_l1 k call) loopFuel [(1, a1), (5, v9), (6, v27), (7, (.int .i64 0)), (26, v37), (27, v39), (28, (.int .i64 0))] h40).bind fun r41 h42 =>
 ctx_Take_l1k k call r41.1 r41.2 h42)
theorem ctx_Take_R (k : Nat) (a0 a1 : Value) (h : Heap) : R (T k) F.ctx_Take [a0, a1] h = nrm .fz h (ctx_Take k (R (T k)) a0 a1 h) :=
 (R_body (t := T k) (T_scott k) (by kernel_rfl) (by kernel_rfl) _ _).trans (by kernel_rfl)
theorem ctx_Take_l1_eq (k : Nat) (call : Caller) (a1 a5 a6 a7 a26 a27 a28 : Value) (h : Heap) : ctx_Take_l1 k call [(1, a1), (5, a5), (6, a6), (7, a7), (26, a26), (27, a27), (28, a28)] h =
 (binR Prog .lss 3 a28 a27 h).bind fun v43 h44 =>
 condV (some v43) (
 (indexAddrR Prog 144 a26 a28 h44).bind fun v45 h46 =>
 (loadR Prog 150 v45 h46).bind fun v47 h48 =>
 (allocR Prog 150 h48).bind fun v49 h50 =>
 (storeR Prog 150 v49 v47 h50).bind fun _v51 h52 =>
 (fieldAddrR Prog 150 v49 2 h52).bind fun v53 h54 =>
 (loadR Prog 3 v53 h54).bind fun v55 h56 =>
 (fieldAddrR Prog 150 v49 3 h56).bind fun v57 h58 =>
 (loadR Prog 3 v57 h58).bind fun v59 h60 =>
 (buildSliceR Prog 28 2 [(0, v55), (1, v59)] h60).bind fun v61 h62 =>
 (builtinV Prog .len [28] [v61] h62).bind fun v63 h64 =>
 (loopN (ctx_Take_l2 k call) loopFuel [(1, a1), (5, a5), (6, a6), (7, a7), (26, a26), (27, a27), (28, a28), (36, v61), (37, v63), (38, (.int .i64 0))] h64).bind fun r65 h66 =>
 ctx_Take_l2k k call r65.1 r65.2 h66)
 (
 .ok ((.exit 0), [(1, a1), (5, a5), (6, a6), (7, a7), (26, a26), (27, a27), (28, a28), (29, v43)]) h44) :=
 (loopB_eq _ _).trans (by kernel_rfl)
theorem ctx_Take_l2_eq (k : Nat) (call : Caller) (a1 a5 a6 a7 a26 a27 a28 a36 a37 a38 : Value) (h : Heap) : ctx_Take_l2 k call [(1, a1), (5, a5), (6, a6), (7, a7), (26, a26), (27, a27), (28, a28), (36, a36), (37, a37), (38, a38)] h =
 (binR Prog .lss 3 a38 a37 h).bind fun v67 h68 =>
 condV (some v67) (
 (indexAddrR Prog 28 a36 a38 h68).bind fun v69 h70 =>
 (loadR Prog 3 v69 h70).bind fun v71 h72 =>
 (binR Prog .neq 3 v71 (.int .i64 65535) h72).bind fun v73 h74 =>
 condV (some v73) (
 (binR Prog .add 3 v71 (.int .i64 1) h74).bind fun v75 h76 =>
 (builtinV Prog .max [3, 3] [a7, v75] h76).bind fun v77 h78 =>
 ctx_Take_j1 k call a1 a5 a6 v77 a26 a27 a28 a36 a37 a38 h78)
 (
 ctx_Take_j2 k call a1 a5 a6 a7 v71 a26 a27 a28 a36 a37 a38 v73 h74))
 (
 .ok ((.exit 2), [(1, a1), (5, a5), (6, a6), (7, a7), (26, a26), (27, a27), (28, a28), (36, a36), (37, a37), (38, a38), (39, v67)]) h68) :=
 (loopB_eq _ _).trans (by kernel_rfl)
theorem ctx_Take_j1_eq (k : Nat) (call : Caller) (a1 a5 a6 a7 a26 a27 a28 a36 a37 a38 : Value) (h : Heap) : ctx_Take_j1 k call a1 a5 a6 a7 a26 a27 a28 a36 a37 a38 h =
 (binR Prog .add 3 a38 (.int .i64 1) h).bind fun v79 h80 =>
 .ok (.normal, [(1, a1), (5, a5), (6, a6), (7, a7), (26, a26), (27, a27), (28, a28), (36, a36), (37, a37), (38, v79)]) h80 := by kernel_rfl
theorem ctx_Take_j2_eq (k : Nat) (call : Caller) (a1 a5 a6 a7 a11 a26 a27 a28 a36 a37 a38 a43 : Value) (h : Heap) : ctx_Take_j2 k call a1 a5 a6 a7 a11 a26 a27 a28 a36 a37 a38 a43 h =
 (binR Prog .add 3 a38 (.int .i64 1) h).bind fun v81 h82 =>
 .ok (.normal, [(1, a1), (5, a5), (6, a6), (7, a7), (26, a26), (27, a27), (28, a28), (36, a36), (37, a37), (38, v81)]) h82 := by kernel_rfl
theorem ctx_Take_l1k_x0 (k : Nat) (call : Caller) (a1 a5 a6 a7 a26 a27 a28 a29 : Value) (h : Heap) : ctx_Take_l1k k call (.exit 0) [(1, a1), (5, a5), (6, a6), (7, a7), (26, a26), (27, a27), (28, a28), (29, a29)] h =
 (loopN (ctx_Take_l3 k call) loopFuel [(1, a1), (5, a5), (6, a6), (50, a7), (51, (.int .i64 0))] h).bind fun r83 h84 =>
 ctx_Take_l3k k call r83.1 r83.2 h84 := by kernel_rfl
theorem ctx_Take_l3_eq (k : Nat) (call : Caller) (a1 a5 a6 a50 a51 : Value) (h : Heap) : ctx_Take_l3 k call [(1, a1), (5, a5), (6, a6), (50, a50), (51, a51)] h =
 (binR Prog .lss 3 a51 a50 h).bind fun v85 h86 =>
 condV (some v85) (
 (nilR a5 h86).bindN fun v87 h88 =>
 (fieldAddrR Prog 285 v87 1 h88).bindN fun v89 h90 =>
 (loadR Prog 283 v89 h90).bindN fun v91 h92 =>
 (loadR Prog 83 a6 h92).bindN fun v93 h94 =>
 (loadR Prog 83 a6 h94).bindN fun v95 h96 =>
 (binR Prog .mul 3 (.int .i64 4) a51 h96).bindN fun v97 h98 =>
 (call F.view_View_U32 [v95, v97] h98).bindT (fun p101 h102 => .panic p101 h102) fun v99 h100 =>
 (call F.view_View_Rest [v93, v99] h100).bindT (fun p105 h106 => chkR ((okVal (loadR Prog 283 v89 h100) v91 && true) && ((okVal (loadR Prog 83 a6 h100) v93 && true) && true)) (.panic p105 h106)) fun v103 h104 =>
 (call F.lookup_Take [v103, a1, (.int .i64 2)] h104).bindT (fun p109 h110 => chkR ((okVal (loadR Prog 283 v89 h100) v91 && (okVal (loadR Prog 283 v89 h104) v91 && true)) && ((okVal (loadR Prog 83 a6 h100) v93 && true) && true)) (.panic p109 h110)) fun v107 h108 =>
 (buildSliceR Prog 283 1 [(0, v107)] h108).bindN fun v111 h112 =>
 (builtinV Prog .append [283, 283] [v91, v111] h112).bindN fun v113 h114 =>
 (nilR a5 h114).bindN fun v115 h116 =>
 (fieldAddrR Prog 285 v115 1 h116).bindN fun v117 h118 =>
 (storeR Prog 283 v117 v113 h118).bindN fun _v119 h120 =>
 chkR ((okVal (loadR Prog 283 v89 h100) v91 && (okVal (loadR Prog 283 v89 h104) v91 && (okVal (loadR Prog 283 v89 h108) v91 && (okVal (loadR Prog 283 v89 h112) v91 && true)))) && ((okVal (loadR Prog 83 a6 h100) v93 && true) && true)) (
 (binR Prog .add 3 a51 (.int .i64 1) h120).bind fun v121 h122 =>
 .ok (.normal, [(1, a1), (5, a5), (6, a6), (50, a50), (51, v121)]) h122))
 (
 .ok ((.exit 4), [(1, a1), (5, a5), (6, a6), (50, a50), (51, a51), (52, v85)]) h86) :=
 (loopB_eq _ _).trans (by kernel_rfl)
theorem ctx_Take_l2k_x2 (k : Nat) (call : Caller) (a1 a5 a6 a7 a26 a27 a28 a36 a37 a38 a39 : Value) (h : Heap) : ctx_Take_l2k k call (.exit 2) [(1, a1), (5, a5), (6, a6), (7, a7), (26, a26), (27, a27), (28, a28), (36, a36), (37, a37), (38, a38), (39, a39)] h =
 (binR Prog .add 3 a28 (.int .i64 1) h).bind fun v123 h124 =>
 .ok (.normal, [(1, a1), (5, a5), (6, a6), (7, a7), (26, a26), (27, a27), (28, v123)]) h124 := by kernel_rfl
theorem ctx_Take_l3k_x4 (k : Nat) (call : Caller) (a1 a5 a6 a50 a51 a52 : Value) (h : Heap) : ctx_Take_l3k k call (.exit 4) [(1, a1), (5, a5), (6, a6), (50, a50), (51, a51), (52, a52)] h =
 .ok a5 h := by kernel_rfl
def ctx_Read_in1 (k : Nat) (call : Caller) (a0 a1 a2 : Value) (h : Heap) : Res Value :=
 (loadR Prog 65 a0 h).bindN fun v1 h2 =>
 (call F.view_Of [v1] h2).bindT (fun p5 h6 => (loadR Prog 3 a1 h2).bindN fun v7 h8 => chkR ((okVal (loadR Prog 3 a1 h) v7 && true) && true) (.panic p5 h6)) fun v3 h4 =>
 (loadR Prog 3 a1 h4).bindN fun v9 h10 =>
 (call F.ctx_Take [v3, v9] h10).bindT (fun p13 h14 => chkR ((okVal (loadR Prog 3 a1 h) v9 && true) && true) (.panic p13 h14)) fun v11 h12 =>
 (storeR Prog 193 a2 v11 h12).bindN fun _v15 h16 =>
 chkR ((okVal (loadR Prog 3 a1 h) v9 && true) && true) (
 .ok (.tuple #[]) h16)
theorem ctx_Read_in1_R (k : Nat) (a0 a1 a2 : Value) (h : Heap) : R (T k) F.ctx_Read_in1 [a0, a1, a2] h = nrm .no h (ctx_Read_in1 k (R (T k)) a0 a1 a2 h) :=
 (R_body (t := T k) (T_scott k) (by kernel_rfl) (by kernel_rfl) _ _).trans (by kernel_rfl)
def ctx_Table_Run_in1 (k : Nat) (call : Caller) (a0 a1 a2 a3 a4 : Value) (h : Heap) : Res Value :=
 (boxR a1 h).bind fun v1 h2 =>
 (loadR Prog 193 a2 h2).bind fun v3 h4 =>
 (loadR Prog 51 a3 h4).bind fun v5 h6 =>
 (loadR Prog 3 a4 h6).bind fun v7 h8 =>
 (fieldAddrR Prog 150 v1 2 h8).bind fun v9 h10 =>
 (loadR Prog 3 v9 h10).bind fun v11 h12 =>
 (call F.ctx_Table_swap [v3, v5, v7, v11] h12).bind fun v13 h14 =>
 (loadR Prog 193 a2 h14).bind fun v15 h16 =>
 (loadR Prog 51 a3 h16).bind fun v17 h18 =>
 (fieldAddrR Prog 150 v1 3 h18).bind fun v19 h20 =>
 (loadR Prog 3 v19 h20).bind fun v21 h22 =>
 (call F.ctx_Table_swap [v15, v17, a0, v21] h22).bind fun v23 h24 =>
 (fieldAddrR Prog 150 v1 1 h24).bind fun v25 h26 =>
 (loadR Prog 3 v25 h26).bind fun v27 h28 =>
 (binR Prog .and 3 v27 (.int .i64 32768) h28).bind fun v29 h30 =>
 (binR Prog .neq 3 v29 (.int .i64 0) h30).bind fun v31 h32 =>
 ((bif wantVal v31 true then Res.ok a0 h32 else Res.ok undef h32)).bind fun v33 h34 =>
 ((bif wantVal v31 true then loadR Prog 51 a3 h34 else Res.ok undef h34)).bind fun v35 h36 =>
 ((bif wantVal v31 true then call F.line_Line_Len [v35] h36 else Res.ok undef h36)).bind fun v37 h38 =>
 ((bif wantVal v31 true then binR Prog .lss 3 v33 v37 h38 else Res.ok undef h38)).bind fun v39 h40 =>
 (condV (some v31) (Res.ok v39 h40) (Res.ok (.bool false) h40)).bind fun v41 h42 =>
 condV (some v41) (
 (storeR Prog 3 a4 a0 h42).bind fun _v43 h44 =>
 .ok (.tuple #[]) h44)
 (
 .ok (.tuple #[]) h42)
theorem ctx_Table_Run_in1_R (k : Nat) (a0 a1 a2 a3 a4 : Value) (h : Heap) : R (T k) F.ctx_Table_Run_in1 [a0, a1, a2, a3, a4] h = nrm .no h (ctx_Table_Run_in1 k (R (T k)) a0 a1 a2 a3 a4 h) :=
 (R_body (t := T k) (T_scott k) (by kernel_rfl) (by kernel_rfl) _ _).trans (by kernel_rfl)
def ctx_Table_swap (k : Nat) (call : Caller) (a0 a1 a2 a3 : Value) (h : Heap) : Res Value :=
 (call F.line_Line_At [a1, a2] h).bind fun v1 h2 =>
 (extractR v1 0 h2).bind fun v3 h4 =>
 (extractR v1 1 h4).bind fun v5 h6 =>
 (allocR Prog 55 h6).bind fun v7 h8 =>
 (storeR Prog 55 v7 v3 h8).bind fun _v9 h10 =>
 (binR Prog .eql 3 a3 (.int .i64 65535) h10).bind fun v11 h12 =>
 ((bif wantVal v11 false then Res.ok v5 h12 else Res.ok undef h12)).bind fun v13 h14 =>
 ((bif wantVal v11 false then unR .not v13 h14 else Res.ok undef h14)).bind fun v15 h16 =>
 (condV (some v11) (Res.ok (.bool true) h16) (Res.ok v15 h16)).bind fun v17 h18 =>
 condV (some v17) (
 .ok (.tuple #[]) h18)
 (
 (nilR a0 h18).bindN fun v19 h20 =>
 (fieldAddrR Prog 285 v19 1 h20).bindN fun v21 h22 =>
 (loadR Prog 283 v21 h22).bindN fun v23 h24 =>
 (indexAddrR Prog 283 v23 a3 h24).bindN fun v25 h26 =>
 (loadR Prog 68 v25 h26).bindN fun v27 h28 =>
 (fieldAddrR Prog 55 v7 0 h28).bindN fun v29 h30 =>
 (loadR Prog 3 v29 h30).bindN fun v31 h32 =>
 (call F.lookup_Table_Get [v27, v31] h32).bindT (fun p35 h36 => .panic p35 h36) fun v33 h34 =>
 (extractR v33 0 h34).bindN fun v37 h38 =>
 (extractR v33 1 h38).bindN fun v39 h40 =>
 condV (some v39) (
 (call F.line_Line_Set [a1, a2, v37] h40).bind fun v41 h42 =>
 .ok (.tuple #[]) h42)
 (
 .ok (.tuple #[]) h40))
theorem ctx_Table_swap_R (k : Nat) (a0 a1 a2 a3 : Value) (h : Heap) : R (T k) F.ctx_Table_swap [a0, a1, a2, a3] h = nrm .no h (ctx_Table_swap k (R (T k)) a0 a1 a2 a3 h) :=
 (R_body (t := T k) (T_scott k) (by kernel_rfl) (by kernel_rfl) _ _).trans (by kernel_rfl)
end
end Go.Sw
end
section
namespace Go.Sw
open Go.RowKit
def manyE (c : Int) (e : En) : Int := let c1 := if e.a = 65535 then c else max c (e.a + 1); if e.b = 65535 then c1 else max c1 (e.b + 1)
def manyS (es : List En) : Int := es.foldl manyE 0
theorem manyS_snoc (es : List En) (e : En) : manyS (es ++ [e]) = manyE (manyS es) e := by simp [manyS]
theorem manyE_bound {c : Int} (h : 0 ≤ c ∧ c ≤ 65536) {e : En} (he : 0 ≤ e.a ∧ e.a < 65536 ∧ 0 ≤ e.b ∧ e.b < 65536) : 0 ≤ manyE c e ∧ manyE c e ≤ 65536 := by
 unfold manyE
 dsimp only
 split <;> split <;> omega
theorem many_fold : ∀ (es : List En) (c : Int), 0 ≤ c → c ≤ 65536 → (∀ e, e ∈ es → 0 ≤ e.a ∧ e.a < 65536 ∧ 0 ≤ e.b ∧ e.b < 65536) → 0 ≤ es.foldl manyE c ∧ es.foldl manyE c ≤ 65536
 | [], c, h0, h1, _ => ⟨h0, h1⟩
 | e :: es, c, h0, h1, h => by
  have := manyE_bound ⟨h0, h1⟩ (h e (by simp))
  exact many_fold es _ this.1 this.2 fun x hx => h x (by simp [hx])
theorem manyS_bound {es : List En} (h : ∀ e, e ∈ es → 0 ≤ e.a ∧ e.a < 65536 ∧ 0 ≤ e.b ∧ e.b < 65536) : 0 ≤ manyS es ∧ manyS es ≤ 65536 := many_fold es 0 (by omega) (by omega) h
abbrev encT (x : Int × List Pt) : List Value := [tabV x]
theorem encT_len (x : Int × List Pt) : (encT x).length = 1 := rfl
theorem Flat.tabT (x : Int × List Pt) : Flat (tabV x) := .boxV (.cons (.int _ _) (.cons (.lv fun p _ => .cons (.int _ _) (.cons (.int _ _) (.cons (Flat.I _) .nil))) .nil))
theorem Flat.Ts (l : List (Int × List Pt)) : Flat (Go.Sw.lv encT l) := .lv fun p _ => .cons (Flat.tabT p) .nil
structure CTab where
 m : Mach
 subs : List (Int × List Pt)
abbrev ctxC (t : CTab) : List Value := [machV t.m, lv encT t.subs]
abbrev ctxV (t : CTab) : Value := boxV (ctxC t).toArray
theorem Flat.ctx (t : CTab) : Flat (ctxV t) := .boxV (.cons (Flat.mach _) (.cons (Flat.Ts _) .nil))
def subS (sb : List Int) (g : Int) (i : Nat) : Option (Int × List Pt) := (uS sb (4 * (i : Int)) 4).bind fun p => (restS sb p).bind fun tb => lookS tb g 2
def subsS (sb : List Int) (g : Int) (n : Nat) : Option (List (Int × List Pt)) := mapO (subS sb g) (List.range n)
def ctxS (b : List Int) (g : Int) : Option CTab := (machS b g 2).bind fun m => (uS b 16 4).bind fun p => (restS b p).bind fun sb => (subsS sb g (manyS m.ents).toNat).map fun subs => ⟨m, subs⟩
theorem ctx_l1 (k : Nat) (es : List En) (hes : ∀ e, e ∈ es → 0 ≤ e.a ∧ e.a < 65536 ∧ 0 ≤ e.b ∧ e.b < 65536) (hl : es.length ≤ 65536) (a1 a5 a6 : Value) (H : Heap) :
  ∃ z H', loopN (ctx_Take_l1 k (R (T k))) loopFuel [(1, a1), (5, a5), (6, a6), (7, .int .i64 0), (26, lv encEn es), (27, .int .i64 es.length), (28, .int .i64 0)] H =
   .ok (.exit 0, [(1, a1), (5, a5), (6, a6), (7, .int .i64 (manyS es)), (26, lv encEn es), (27, .int .i64 es.length), (28, z), (29, .bool false)]) H' ∧ Ext H H' := by
 obtain ⟨x, e', H1, hr1, rfl, z, rfl, hx⟩ := loop_up (body := ctx_Take_l1 k (R (T k))) es.length
  (fun j e H' => e = [(1, a1), (5, a5), (6, a6), (7, .int .i64 (manyS (es.take j))), (26, lv encEn es), (27, .int .i64 es.length), (28, .int .i64 j)] ∧ Ext H H')
  (fun x e H' => x = .exit 0 ∧ ∃ z, e = [(1, a1), (5, a5), (6, a6), (7, .int .i64 (manyS es)), (26, lv encEn es), (27, .int .i64 es.length), (28, z), (29, .bool false)] ∧ Ext H H')
  (e0 := [(1, a1), (5, a5), (6, a6), (7, .int .i64 0), (26, lv encEn es), (27, .int .i64 es.length), (28, .int .i64 0)]) (H0 := H) ⟨rfl, Ext.refl _⟩ (by omega)
  (fun j e H' hj ⟨he, hx⟩ => by
   subst he
   have hlt : (j : Int) < es.length := by omega
   obtain ⟨en, hen⟩ : ∃ en, es[j]? = some en := ⟨_, List.getElem?_eq_getElem hj⟩
   have i1 := fun H' => ixS_lvN encEn_len es .i64 j en hen H'
   have heb := hes en (List.mem_of_getElem? hen)
   have hm := manyS_bound (es := es.take j) fun e he => hes e (List.mem_of_mem_take he)
   rw [take_snoc hen, manyS_snoc]
   generalize manyS (es.take j) = c at hm ⊢
   obtain ⟨P, hP⟩ : ∃ P, P = (H'.push ⟨encEn en, 1, false⟩).push ⟨[.int .i64 en.a, .int .i64 en.b], 1, false⟩ := ⟨_, rfl⟩
   have hPg : P.get (H'.n + 1) = some ⟨[.int .i64 en.a, .int .i64 en.b], 1, false⟩ := by rw [hP]; simp
   have ix := fun (j : Nat) hj H'' => ixS_slice 1 (H'.n + 1) 0 2 2 .i64 j H'' hj
   have ix0 := ix 0 (by omega)
   have ix1 := ix 1 (by omega)
   have m1 : (if en.a + 1 > c then en.a + 1 else c) = max c (en.a + 1) := by split <;> omega
   have inner : ∃ z, loopN (ctx_Take_l2 k (R (T k))) loopFuel [(1, a1), (5, a5), (6, a6), (7, .int .i64 c), (26, lv encEn es), (27, .int .i64 es.length), (28, .int .i64 j), (36, .slice (some ⟨H'.n + 1, 0, none⟩) 2 2), (37, .int .i64 2), (38, .int .i64 0)] P =
     .ok (.exit 2, [(1, a1), (5, a5), (6, a6), (7, .int .i64 (manyE c en)), (26, lv encEn es), (27, .int .i64 es.length), (28, .int .i64 j), (36, .slice (some ⟨H'.n + 1, 0, none⟩) 2 2), (37, .int .i64 2), (38, z), (39, .bool false)]) P := by
    obtain ⟨x, e', H1, hr1, rfl, ⟨z, rfl⟩, rfl⟩ := loop_up (body := ctx_Take_l2 k (R (T k))) 2
     (fun i e H'' => e = [(1, a1), (5, a5), (6, a6), (7, .int .i64 (if i = 0 then c else if i = 1 then (if en.a = 65535 then c else max c (en.a + 1)) else manyE c en)), (26, lv encEn es), (27, .int .i64 es.length), (28, .int .i64 j), (36, .slice (some ⟨H'.n + 1, 0, none⟩) 2 2), (37, .int .i64 2), (38, .int .i64 i)] ∧ H'' = P)
     (fun x e H'' => x = .exit 2 ∧ (∃ z, e = [(1, a1), (5, a5), (6, a6), (7, .int .i64 (manyE c en)), (26, lv encEn es), (27, .int .i64 es.length), (28, .int .i64 j), (36, .slice (some ⟨H'.n + 1, 0, none⟩) 2 2), (37, .int .i64 2), (38, z), (39, .bool false)]) ∧ H'' = P)
     (e0 := [(1, a1), (5, a5), (6, a6), (7, .int .i64 c), (26, lv encEn es), (27, .int .i64 es.length), (28, .int .i64 j), (36, .slice (some ⟨H'.n + 1, 0, none⟩) 2 2), (37, .int .i64 2), (38, .int .i64 0)]) (H0 := P) ⟨rfl, rfl⟩ (by omega)
     (fun i e H'' hi ⟨he, hH⟩ => by
      subst he hH
      refine .inl ⟨_, _, ?_, rfl, rfl⟩
      rw [ctx_Take_l2_eq]
      have hi2 : i = 0 ∨ i = 1 := by omega
      rcases hi2 with rfl | rfl
      ·simp at ix0
       by_cases ha : en.a = 65535
       ·simp -implicitDefEqProofs (disch := omega) [ix0, hPg, ha, bne, ctx_Take_j2_eq]
       ·have ha' : (en.a == 65535) = false := by simpa using ha
        simp -implicitDefEqProofs (disch := omega) [ix0, hPg, ha, ha', bne, m1, ctx_Take_j1_eq]
      ·simp at ix1
       generalize hc1 : (if en.a = 65535 then c else max c (en.a + 1)) = c1
       have m2 : (if en.b + 1 > c1 then en.b + 1 else c1) = max c1 (en.b + 1) := by split <;> omega
       have hmE : manyE c en = if en.b = 65535 then c1 else max c1 (en.b + 1) := by unfold manyE; rw [hc1]
       by_cases hb : en.b = 65535
       ·simp -implicitDefEqProofs (disch := omega) [ix1, hPg, hb, bne, hmE, ctx_Take_j2_eq]
       ·have hb' : (en.b == 65535) = false := by simpa using hb
        simp -implicitDefEqProofs (disch := omega) [ix1, hPg, hb, hb', bne, m2, hmE, ctx_Take_j1_eq])
     (fun e H'' ⟨he, hH⟩ => by
      subst he hH
      refine ⟨.exit 2, _, _, ?_, by simp, rfl, ⟨.int .i64 ((2 : Nat) : Int), rfl⟩, rfl⟩
      rw [ctx_Take_l2_eq]
      simp -implicitDefEqProofs)
    exact ⟨z, hr1⟩
   obtain ⟨z, hz⟩ := inner
   rw [hP] at hz
   refine .inl ⟨_, P, ?_, rfl, by rw [hP]; exact (hx.push _).push _⟩
   rw [ctx_Take_l1_eq, hP]
   simp -implicitDefEqProofs (disch := omega) [hlt, i1, hz, ctx_Take_l2k_x2])
  (fun e H' ⟨he, hx⟩ => by
   subst he
   rw [List.take_length]
   refine ⟨.exit 0, _, H', ?_, by simp, rfl, .int .i64 es.length, rfl, hx⟩
   rw [ctx_Take_l1_eq]
   simp -implicitDefEqProofs)
 exact ⟨z, H1, hr1, hx⟩
end Go.Sw
end
section
set_option maxRecDepth 100000
set_option linter.unusedVariables false
namespace Go.Sw
noncomputable section
def swashlaw07_Write_l1 (k : Nat) (call : Caller) : Env → Heap → Res (AExit × Env) := loopB (C k) call F.swashlaw07_Write [1, 1, 1, 1, 0, 1, 0, 0]
def swashlaw07_Write_l1k (k : Nat) (call : Caller) : Kont Value := kBlock 0 (kSeq (pieceK (C k) call F.swashlaw07_Write [1, 1, 1, 1, 1]) (kDone Prog (resOf Prog F.swashlaw07_Write)))
def swashlaw07_Write_l2 (k : Nat) (call : Caller) : Env → Heap → Res (AExit × Env) := loopB (C k) call F.swashlaw07_Write [1, 1, 1, 1, 1, 1, 0, 1, 0, 0]
def swashlaw07_Write_l2k (k : Nat) (call : Caller) : Kont Value := kBlock 2 (kSeq (pieceK (C k) call F.swashlaw07_Write [1, 1, 1, 1, 1, 1, 1]) (kDone Prog (resOf Prog F.swashlaw07_Write)))
def swashlaw07_Write_l3 (k : Nat) (call : Caller) : Env → Heap → Res (AExit × Env) := loopB (C k) call F.swashlaw07_Write [1, 1, 1, 1, 1, 1, 0, 1, 0, 0, 1, 1, 0, 0, 1, 1, 0, 0]
def swashlaw07_Write_l3k (k : Nat) (call : Caller) : Kont (AExit × Env) := kBlock 4 (kBlock 3 (kSeq (pieceK (C k) call F.swashlaw07_Write [1, 1, 1, 1, 1, 1, 0, 1, 0, 0, 1, 1, 1]) (kRound (ownOf (C k) F.swashlaw07_Write [1, 1, 1, 1, 1, 1, 0, 1, 0, 0]))))
def swashlaw07_Write_j1 (k : Nat) (call : Caller) (a1 a2 a3 a7 a8 a9 a12 a13 a15 a17 a47 a48 a49 a53 a54 : Value) (h : Heap) : Res (AExit × Env) :=
 kSeq (pieceK (C k) call F.swashlaw07_Write [1, 1, 1, 1, 1, 1, 0, 1, 0, 0, 1, 1, 0, 0, 1, 1, 0, 0, 1, 1, 0, 0, 1, 1, 1]) (kBlock 5 (kSeq (pieceK (C k) call F.swashlaw07_Write [1, 1, 1, 1, 1, 1, 0, 1, 0, 0, 1, 1, 0, 0, 1, 1, 0, 0, 1, 1, 1]) (kRound (ownOf (C k) F.swashlaw07_Write [1, 1, 1, 1, 1, 1, 0, 1, 0, 0, 1, 1, 0, 0, 1, 1, 0, 0])))) .normal [(1, a1), (2, a2), (3, a3), (7, a7), (8, a8), (9, a9), (12, a12), (13, a13), (15, a15), (17, a17), (47, a47), (48, a48), (49, a49), (53, a53), (54, a54)] h
def swashlaw07_Write_j2 (k : Nat) (call : Caller) (a1 a2 a3 a7 a8 a9 a12 a13 a15 a16 a17 a47 a48 a49 a53 a54 a60 : Value) (h : Heap) : Res (AExit × Env) :=
 kSeq (pieceK (C k) call F.swashlaw07_Write [1, 1, 1, 1, 1, 1, 0, 1, 0, 0, 1, 1, 0, 0, 1, 1, 0, 0, 1, 1, 0, 0, 1, 1, 1]) (kBlock 5 (kSeq (pieceK (C k) call F.swashlaw07_Write [1, 1, 1, 1, 1, 1, 0, 1, 0, 0, 1, 1, 0, 0, 1, 1, 0, 0, 1, 1, 1]) (kRound (ownOf (C k) F.swashlaw07_Write [1, 1, 1, 1, 1, 1, 0, 1, 0, 0, 1, 1, 0, 0, 1, 1, 0, 0])))) .normal [(1, a1), (2, a2), (3, a3), (7, a7), (8, a8), (9, a9), (12, a12), (13, a13), (15, a15), (16, a16), (17, a17), (47, a47), (48, a48), (49, a49), (53, a53), (54, a54), (60, a60)] h
def swashlaw07_Write_l4 (k : Nat) (call : Caller) : Env → Heap → Res (AExit × Env) := loopB (C k) call F.swashlaw07_Write [1, 1, 1, 1, 1, 1, 1, 0, 1, 0, 0]
def swashlaw07_Write_l4k (k : Nat) (call : Caller) : Kont Value := kBlock 6 (kSeq (pieceK (C k) call F.swashlaw07_Write [1, 1, 1, 1, 1, 1, 1, 1]) (kDone Prog (resOf Prog F.swashlaw07_Write)))
def swashlaw07_Write_j3 (k : Nat) (call : Caller) (a1 a2 a7 a8 a9 a12 a13 a19 a72 a73 a74 : Value) (h : Heap) : Res (AExit × Env) :=
 kSeq (pieceK (C k) call F.swashlaw07_Write [1, 1, 1, 1, 1, 1, 1, 0, 1, 0, 0, 1, 1, 0, 0, 1, 1, 1]) (kBlock 7 (kSeq (pieceK (C k) call F.swashlaw07_Write [1, 1, 1, 1, 1, 1, 1, 0, 1, 0, 0, 1, 1, 1]) (kRound (ownOf (C k) F.swashlaw07_Write [1, 1, 1, 1, 1, 1, 1, 0, 1, 0, 0])))) .normal [(1, a1), (2, a2), (7, a7), (8, a8), (9, a9), (12, a12), (13, a13), (19, a19), (72, a72), (73, a73), (74, a74)] h
def swashlaw07_Write_j4 (k : Nat) (call : Caller) (a1 a2 a7 a8 a9 a12 a13 a19 a72 a73 a74 a88 : Value) (h : Heap) : Res (AExit × Env) :=
 kSeq (pieceK (C k) call F.swashlaw07_Write [1, 1, 1, 1, 1, 1, 1, 0, 1, 0, 0, 1, 1, 0, 0, 1, 1, 1]) (kBlock 7 (kSeq (pieceK (C k) call F.swashlaw07_Write [1, 1, 1, 1, 1, 1, 1, 0, 1, 0, 0, 1, 1, 1]) (kRound (ownOf (C k) F.swashlaw07_Write [1, 1, 1, 1, 1, 1, 1, 0, 1, 0, 0])))) .normal [(1, a1), (2, a2), (7, a7), (8, a8), (9, a9), (12, a12), (13, a13), (19, a19), (72, a72), (73, a73), (74, a74), (88, a88)] h
def swashlaw07_Write_j5 (k : Nat) (call : Caller) (a1 a2 a7 a8 a9 a12 a13 a72 a73 a74 : Value) (h : Heap) : Res (AExit × Env) :=
 kSeq (pieceK (C k) call F.swashlaw07_Write [1, 1, 1, 1, 1, 1, 1, 0, 1, 0, 0, 1, 1, 1]) (kRound (ownOf (C k) F.swashlaw07_Write [1, 1, 1, 1, 1, 1, 1, 0, 1, 0, 0])) .normal [(1, a1), (2, a2), (7, a7), (8, a8), (9, a9), (12, a12), (13, a13), (72, a72), (73, a73), (74, a74)] h
def swashlaw07_Write_j6 (k : Nat) (call : Caller) (a1 a2 a7 a8 a9 a12 a13 a19 a72 a73 a74 a95 : Value) (h : Heap) : Res (AExit × Env) :=
 kSeq (pieceK (C k) call F.swashlaw07_Write [1, 1, 1, 1, 1, 1, 1, 0, 1, 0, 0, 1, 1, 1]) (kRound (ownOf (C k) F.swashlaw07_Write [1, 1, 1, 1, 1, 1, 1, 0, 1, 0, 0])) .normal [(1, a1), (2, a2), (7, a7), (8, a8), (9, a9), (12, a12), (13, a13), (19, a19), (72, a72), (73, a73), (74, a74), (95, a95)] h
def swashlaw07_Write (k : Nat) (call : Caller) (a0 a1 a2 : Value) (h : Heap) : Res Value :=
 (boxR a0 h).bind fun v1 h2 =>
 (fieldAddrR Prog 146 v1 3 h2).bind fun v3 h4 =>
 (loadR Prog 5 v3 h4).bind fun v5 h6 =>
 (convR Prog 5 3 v5 h6).bind fun v7 h8 =>
 (binR Prog .rem 3 v7 (.int .i64 8) h8).bind fun v9 h10 =>
 (binR Prog .add 3 (.int .i64 4) v9 h10).bind fun v11 h12 =>
 (binR Prog .add 3 (.int .i64 16) a2 h12).bind fun v13 h14 =>
 (call F.swashref02_Put [(.slice none 0 0), (.int .i64 8), (.int .i64 2)] h14).bindT (fun p17 h18 => (fieldAddrR Prog 146 v1 0 h14).bindN fun v19 h20 => (loadR Prog 65 v19 h20).bindN fun v21 h22 => (builtinV Prog .len [65] [v21] h22).bindN fun v23 h24 => chkR ((okVal (loadR Prog 65 v19 h14) v21 && true) && true) (.panic p17 h18)) fun v15 h16 =>
 (call F.swashref02_Put [v15, (.int .i64 0), (.int .i64 2)] h16).bindT (fun p27 h28 => (fieldAddrR Prog 146 v1 0 h16).bindN fun v29 h30 => (loadR Prog 65 v29 h30).bindN fun v31 h32 => (builtinV Prog .len [65] [v31] h32).bindN fun v33 h34 => chkR ((okVal (loadR Prog 65 v29 h14) v31 && (okVal (loadR Prog 65 v29 h16) v31 && true)) && true) (.panic p27 h28)) fun v25 h26 =>
 (fieldAddrR Prog 146 v1 0 h26).bindN fun v35 h36 =>
 (loadR Prog 65 v35 h36).bindN fun v37 h38 =>
 (builtinV Prog .len [65] [v37] h38).bindN fun v39 h40 =>
 (call F.swashref02_Put [v25, v39, (.int .i64 2)] h40).bindT (fun p43 h44 => chkR ((okVal (loadR Prog 65 v35 h14) v37 && (okVal (loadR Prog 65 v35 h16) v37 && true)) && true) (.panic p43 h44)) fun v41 h42 =>
 chkR ((okVal (loadR Prog 65 v35 h14) v37 && (okVal (loadR Prog 65 v35 h16) v37 && true)) && true) (
 (fieldAddrR Prog 146 v1 0 h42).bind fun v45 h46 =>
 (loadR Prog 65 v45 h46).bind fun v47 h48 =>
 (builtinV Prog .len [65] [v47] h48).bind fun v49 h50 =>
 (loopN (swashlaw07_Write_l1 k call) loopFuel [(1, a1), (2, a2), (3, v1), (7, v11), (8, v13), (9, v41), (35, v47), (36, v49), (37, (.int .i64 0))] h50).bind fun r51 h52 =>
 swashlaw07_Write_l1k k call r51.1 r51.2 h52)
theorem swashlaw07_Write_R (k : Nat) (a0 a1 a2 : Value) (h : Heap) : R (T k) F.swashlaw07_Write [a0, a1, a2] h = nrm (ownW k) h (swashlaw07_Write k (R (T k)) a0 a1 a2 h) :=
 (R_body (t := T k) (T_scott k) (by kernel_rfl) (by kernel_rfl) _ _).trans (by kernel_rfl)
theorem swashlaw07_Write_l1_eq (k : Nat) (call : Caller) (a1 a2 a3 a7 a8 a9 a35 a36 a37 : Value) (h : Heap) : swashlaw07_Write_l1 k call [(1, a1), (2, a2), (3, a3), (7, a7), (8, a8), (9, a9), (35, a35), (36, a36), (37, a37)] h =
 (binR Prog .lss 3 a37 a36 h).bind fun v53 h54 =>
 condV (some v53) (
 (indexAddrR Prog 65 a35 a37 h54).bind fun v55 h56 =>
 (loadR Prog 5 v55 h56).bind fun v57 h58 =>
 (convR Prog 5 3 v57 h58).bind fun v59 h60 =>
 (call F.swashref02_Put [a9, v59, (.int .i64 2)] h60).bind fun v61 h62 =>
 (binR Prog .add 3 a37 (.int .i64 1) h62).bind fun v63 h64 =>
 .ok (.normal, [(1, a1), (2, a2), (3, a3), (7, a7), (8, a8), (9, v61), (35, a35), (36, a36), (37, v63)]) h64)
 (
 .ok ((.exit 0), [(1, a1), (2, a2), (3, a3), (7, a7), (8, a8), (9, a9), (35, a35), (36, a36), (37, a37), (38, v53)]) h54) :=
 (loopB_eq _ _).trans (by kernel_rfl)
theorem swashlaw07_Write_l1k_x0 (k : Nat) (call : Caller) (a1 a2 a3 a7 a8 a9 a35 a36 a37 a38 : Value) (h : Heap) : swashlaw07_Write_l1k k call (.exit 0) [(1, a1), (2, a2), (3, a3), (7, a7), (8, a8), (9, a9), (35, a35), (36, a36), (37, a37), (38, a38)] h =
 (fieldAddrR Prog 146 a3 1 h).bind fun v65 h66 =>
 (loadR Prog 143 v65 h66).bind fun v67 h68 =>
 (builtinV Prog .len [143] [v67] h68).bind fun v69 h70 =>
 (loopN (swashlaw07_Write_l2 k call) loopFuel [(1, a1), (2, a2), (3, a3), (7, a7), (8, a8), (9, a9), (12, (.slice none 0 0)), (13, (.slice none 0 0)), (47, v67), (48, v69), (49, (.int .i64 0))] h70).bind fun r71 h72 =>
 swashlaw07_Write_l2k k call r71.1 r71.2 h72 := by kernel_rfl
theorem swashlaw07_Write_l2_eq (k : Nat) (call : Caller) (a1 a2 a3 a7 a8 a9 a12 a13 a47 a48 a49 : Value) (h : Heap) : swashlaw07_Write_l2 k call [(1, a1), (2, a2), (3, a3), (7, a7), (8, a8), (9, a9), (12, a12), (13, a13), (47, a47), (48, a48), (49, a49)] h =
 (binR Prog .lss 3 a49 a48 h).bind fun v73 h74 =>
 condV (some v73) (
 (indexAddrR Prog 143 a47 a49 h74).bind fun v75 h76 =>
 (loadR Prog 65 v75 h76).bind fun v77 h78 =>
 (loopN (swashlaw07_Write_l3 k call) loopFuel [(1, a1), (2, a2), (3, a3), (7, a7), (8, a8), (9, a9), (12, a12), (13, a13), (15, v77), (47, a47), (48, a48), (49, a49), (53, a7), (54, (.int .i64 0))] h78).bind fun r79 h80 =>
 swashlaw07_Write_l3k k call r79.1 r79.2 h80)
 (
 .ok ((.exit 2), [(1, a1), (2, a2), (3, a3), (7, a7), (8, a8), (9, a9), (12, a12), (13, a13), (47, a47), (48, a48), (49, a49), (50, v73)]) h74) :=
 (loopB_eq _ _).trans (by kernel_rfl)
theorem swashlaw07_Write_l3_eq (k : Nat) (call : Caller) (a1 a2 a3 a7 a8 a9 a12 a13 a15 a47 a48 a49 a53 a54 : Value) (h : Heap) : swashlaw07_Write_l3 k call [(1, a1), (2, a2), (3, a3), (7, a7), (8, a8), (9, a9), (12, a12), (13, a13), (15, a15), (47, a47), (48, a48), (49, a49), (53, a53), (54, a54)] h =
 (binR Prog .lss 3 a54 a53 h).bind fun v81 h82 =>
 condV (some v81) (
 (builtinV Prog .len [65] [a15] h82).bind fun v83 h84 =>
 (binR Prog .lss 3 a54 v83 h84).bind fun v85 h86 =>
 condV (some v85) (
 (indexAddrR Prog 65 a15 a54 h86).bind fun v87 h88 =>
 (loadR Prog 5 v87 h88).bind fun v89 h90 =>
 (convR Prog 5 3 v89 h90).bind fun v91 h92 =>
 swashlaw07_Write_j1 k call a1 a2 a3 a7 a8 a9 a12 a13 a15 v91 a47 a48 a49 a53 a54 h92)
 (
 swashlaw07_Write_j2 k call a1 a2 a3 a7 a8 a9 a12 a13 a15 a54 (.int .i64 0) a47 a48 a49 a53 a54 v85 h86))
 (
 .ok ((.exit 4), [(1, a1), (2, a2), (3, a3), (7, a7), (8, a8), (9, a9), (12, a12), (13, a13), (15, a15), (47, a47), (48, a48), (49, a49), (53, a53), (54, a54), (55, v81)]) h82) :=
 (loopB_eq _ _).trans (by kernel_rfl)
theorem swashlaw07_Write_j1_eq (k : Nat) (call : Caller) (a1 a2 a3 a7 a8 a9 a12 a13 a15 a17 a47 a48 a49 a53 a54 : Value) (h : Heap) : swashlaw07_Write_j1 k call a1 a2 a3 a7 a8 a9 a12 a13 a15 a17 a47 a48 a49 a53 a54 h =
 (call F.swashref02_Put [a12, a17, (.int .i64 2)] h).bind fun v93 h94 =>
 (binR Prog .add 3 a54 (.int .i64 1) h94).bind fun v95 h96 =>
 .ok (.normal, [(1, a1), (2, a2), (3, a3), (7, a7), (8, a8), (9, a9), (12, v93), (13, a13), (15, a15), (47, a47), (48, a48), (49, a49), (53, a53), (54, v95)]) h96 := by kernel_rfl
theorem swashlaw07_Write_j2_eq (k : Nat) (call : Caller) (a1 a2 a3 a7 a8 a9 a12 a13 a15 a16 a17 a47 a48 a49 a53 a54 a60 : Value) (h : Heap) : swashlaw07_Write_j2 k call a1 a2 a3 a7 a8 a9 a12 a13 a15 a16 a17 a47 a48 a49 a53 a54 a60 h =
 (call F.swashref02_Put [a12, a17, (.int .i64 2)] h).bind fun v97 h98 =>
 (binR Prog .add 3 a54 (.int .i64 1) h98).bind fun v99 h100 =>
 .ok (.normal, [(1, a1), (2, a2), (3, a3), (7, a7), (8, a8), (9, a9), (12, v97), (13, a13), (15, a15), (47, a47), (48, a48), (49, a49), (53, a53), (54, v99)]) h100 := by kernel_rfl
theorem swashlaw07_Write_l2k_x2 (k : Nat) (call : Caller) (a1 a2 a3 a7 a8 a9 a12 a13 a47 a48 a49 a50 : Value) (h : Heap) : swashlaw07_Write_l2k k call (.exit 2) [(1, a1), (2, a2), (3, a3), (7, a7), (8, a8), (9, a9), (12, a12), (13, a13), (47, a47), (48, a48), (49, a49), (50, a50)] h =
 (fieldAddrR Prog 146 a3 2 h).bind fun v101 h102 =>
 (loadR Prog 144 v101 h102).bind fun v103 h104 =>
 (builtinV Prog .len [144] [v103] h104).bind fun v105 h106 =>
 (loopN (swashlaw07_Write_l4 k call) loopFuel [(1, a1), (2, a2), (7, a7), (8, a8), (9, a9), (12, a12), (13, a13), (72, v103), (73, v105), (74, (.int .i64 0))] h106).bind fun r107 h108 =>
 swashlaw07_Write_l4k k call r107.1 r107.2 h108 := by kernel_rfl
theorem swashlaw07_Write_l4_eq (k : Nat) (call : Caller) (a1 a2 a7 a8 a9 a12 a13 a72 a73 a74 : Value) (h : Heap) : swashlaw07_Write_l4 k call [(1, a1), (2, a2), (7, a7), (8, a8), (9, a9), (12, a12), (13, a13), (72, a72), (73, a73), (74, a74)] h =
 (binR Prog .lss 3 a74 a73 h).bind fun v109 h110 =>
 condV (some v109) (
 (indexAddrR Prog 144 a72 a74 h110).bind fun v111 h112 =>
 (loadR Prog 150 v111 h112).bind fun v113 h114 =>
 (allocR Prog 150 h114).bind fun v115 h116 =>
 (storeR Prog 150 v115 v113 h116).bind fun _v117 h118 =>
 (fieldAddrR Prog 150 v115 0 h118).bindN fun v119 h120 =>
 (loadR Prog 3 v119 h120).bindN fun v121 h122 =>
 (binR Prog .and 3 v121 (.int .i64 65535) h122).bindN fun v123 h124 =>
 (call F.swashref02_Put [a13, v123, (.int .i64 2)] h124).bindT (fun p127 h128 => (fieldAddrR Prog 150 v115 1 h124).bindN fun v129 h130 => (loadR Prog 3 v129 h130).bindN fun v131 h132 => (binR Prog .and 3 v131 (.int .i64 65535) h132).bindN fun v133 h134 => chkR ((okVal (loadR Prog 3 v129 h118) v131 && true) && true) (.panic p127 h128)) fun v125 h126 =>
 (fieldAddrR Prog 150 v115 1 h126).bindN fun v135 h136 =>
 (loadR Prog 3 v135 h136).bindN fun v137 h138 =>
 (binR Prog .and 3 v137 (.int .i64 65535) h138).bindN fun v139 h140 =>
 (call F.swashref02_Put [v125, v139, (.int .i64 2)] h140).bindT (fun p143 h144 => chkR ((okVal (loadR Prog 3 v135 h118) v137 && true) && true) (.panic p143 h144)) fun v141 h142 =>
 chkR ((okVal (loadR Prog 3 v135 h118) v137 && true) && true) (
 (binR Prog .gtr 3 a1 (.int .i64 0) h142).bind fun v145 h146 =>
 condV (some v145) (
 (fieldAddrR Prog 150 v115 2 h146).bind fun v147 h148 =>
 (loadR Prog 3 v147 h148).bind fun v149 h150 =>
 (binR Prog .and 3 v149 (.int .i64 65535) h150).bind fun v151 h152 =>
 (call F.swashref02_Put [v141, v151, (.int .i64 2)] h152).bind fun v153 h154 =>
 swashlaw07_Write_j3 k call a1 a2 a7 a8 a9 a12 v153 v115 a72 a73 a74 h154)
 (
 swashlaw07_Write_j4 k call a1 a2 a7 a8 a9 a12 v141 v115 a72 a73 a74 v145 h146)))
 (
 .ok ((.exit 6), [(1, a1), (2, a2), (7, a7), (8, a8), (9, a9), (12, a12), (13, a13), (72, a72), (73, a73), (74, a74), (75, v109)]) h110) :=
 (loopB_eq _ _).trans (by kernel_rfl)
theorem swashlaw07_Write_j3_eq (k : Nat) (call : Caller) (a1 a2 a7 a8 a9 a12 a13 a19 a72 a73 a74 : Value) (h : Heap) : swashlaw07_Write_j3 k call a1 a2 a7 a8 a9 a12 a13 a19 a72 a73 a74 h =
 (binR Prog .gtr 3 a1 (.int .i64 1) h).bind fun v155 h156 =>
 condV (some v155) (
 (fieldAddrR Prog 150 a19 3 h156).bind fun v157 h158 =>
 (loadR Prog 3 v157 h158).bind fun v159 h160 =>
 (binR Prog .and 3 v159 (.int .i64 65535) h160).bind fun v161 h162 =>
 (call F.swashref02_Put [a13, v161, (.int .i64 2)] h162).bind fun v163 h164 =>
 swashlaw07_Write_j5 k call a1 a2 a7 a8 a9 a12 v163 a72 a73 a74 h164)
 (
 swashlaw07_Write_j6 k call a1 a2 a7 a8 a9 a12 a13 a19 a72 a73 a74 v155 h156) := by kernel_rfl
theorem swashlaw07_Write_j4_eq (k : Nat) (call : Caller) (a1 a2 a7 a8 a9 a12 a13 a19 a72 a73 a74 a88 : Value) (h : Heap) : swashlaw07_Write_j4 k call a1 a2 a7 a8 a9 a12 a13 a19 a72 a73 a74 a88 h =
 (binR Prog .gtr 3 a1 (.int .i64 1) h).bind fun v165 h166 =>
 condV (some v165) (
 (fieldAddrR Prog 150 a19 3 h166).bind fun v167 h168 =>
 (loadR Prog 3 v167 h168).bind fun v169 h170 =>
 (binR Prog .and 3 v169 (.int .i64 65535) h170).bind fun v171 h172 =>
 (call F.swashref02_Put [a13, v171, (.int .i64 2)] h172).bind fun v173 h174 =>
 swashlaw07_Write_j5 k call a1 a2 a7 a8 a9 a12 v173 a72 a73 a74 h174)
 (
 swashlaw07_Write_j6 k call a1 a2 a7 a8 a9 a12 a13 a19 a72 a73 a74 v165 h166) := by kernel_rfl
theorem swashlaw07_Write_j5_eq (k : Nat) (call : Caller) (a1 a2 a7 a8 a9 a12 a13 a72 a73 a74 : Value) (h : Heap) : swashlaw07_Write_j5 k call a1 a2 a7 a8 a9 a12 a13 a72 a73 a74 h =
 (binR Prog .add 3 a74 (.int .i64 1) h).bind fun v175 h176 =>
 .ok (.normal, [(1, a1), (2, a2), (7, a7), (8, a8), (9, a9), (12, a12), (13, a13), (72, a72), (73, a73), (74, v175)]) h176 := by kernel_rfl
theorem swashlaw07_Write_j6_eq (k : Nat) (call : Caller) (a1 a2 a7 a8 a9 a12 a13 a19 a72 a73 a74 a95 : Value) (h : Heap) : swashlaw07_Write_j6 k call a1 a2 a7 a8 a9 a12 a13 a19 a72 a73 a74 a95 h =
 (binR Prog .add 3 a74 (.int .i64 1) h).bind fun v177 h178 =>
 .ok (.normal, [(1, a1), (2, a2), (7, a7), (8, a8), (9, a9), (12, a12), (13, a13), (72, a72), (73, a73), (74, v177)]) h178 := by kernel_rfl
theorem swashlaw07_Write_l3k_x4 (k : Nat) (call : Caller) (a1 a2 a3 a7 a8 a9 a12 a13 a15 a47 a48 a49 a53 a54 a55 : Value) (h : Heap) : swashlaw07_Write_l3k k call (.exit 4) [(1, a1), (2, a2), (3, a3), (7, a7), (8, a8), (9, a9), (12, a12), (13, a13), (15, a15), (47, a47), (48, a48), (49, a49), (53, a53), (54, a54), (55, a55)] h =
 (binR Prog .add 3 a49 (.int .i64 1) h).bind fun v179 h180 =>
 .ok (.normal, [(1, a1), (2, a2), (3, a3), (7, a7), (8, a8), (9, a9), (12, a12), (13, a13), (47, a47), (48, a48), (49, v179)]) h180 := by kernel_rfl
theorem swashlaw07_Write_l4k_x6 (k : Nat) (call : Caller) (a1 a2 a7 a8 a9 a12 a13 a72 a73 a74 a75 : Value) (h : Heap) : swashlaw07_Write_l4k k call (.exit 6) [(1, a1), (2, a2), (7, a7), (8, a8), (9, a9), (12, a12), (13, a13), (72, a72), (73, a73), (74, a74), (75, a75)] h =
 (call F.swashref02_Put [(.slice none 0 0), a7, (.int .i64 4)] h).bind fun v181 h182 =>
 (call F.swashref02_Put [v181, a8, (.int .i64 4)] h182).bind fun v183 h184 =>
 (builtinV Prog .len [65] [a9] h184).bind fun v185 h186 =>
 (binR Prog .add 3 a8 v185 h186).bind fun v187 h188 =>
 (call F.swashref02_Put [v183, v187, (.int .i64 4)] h188).bind fun v189 h190 =>
 (builtinV Prog .len [65] [a9] h190).bind fun v191 h192 =>
 (binR Prog .add 3 a8 v191 h192).bind fun v193 h194 =>
 (builtinV Prog .len [65] [a12] h194).bind fun v195 h196 =>
 (binR Prog .add 3 v193 v195 h196).bind fun v197 h198 =>
 (call F.swashref02_Put [v189, v197, (.int .i64 4)] h198).bind fun v199 h200 =>
 (builtinV Prog .append [65, 3] [v199, a2] h200).bind fun v201 h202 =>
 (builtinV Prog .append [65, 65] [v201, a9] h202).bind fun v203 h204 =>
 (builtinV Prog .append [65, 65] [v203, a12] h204).bind fun v205 h206 =>
 (builtinV Prog .append [65, 65] [v205, a13] h206).bind fun v207 h208 =>
 .ok v207 h208 := by kernel_rfl
end
end Go.Sw
end
