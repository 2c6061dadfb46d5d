/-
  Functions' forms, and what is proved of them, part 4.
-/
import Derived.Test.YtnaodjnimkndbaaSwW3
import Derived.Test.YtnaodjnimkndbaaSwCfg
import Derived.Test.YtnaodjnimkndbaaSwW2
set_option linter.unusedSimpArgs false
set_option linter.unusedVariables false
set_option linter.unusedSectionVars false
section
namespace Go.Sw
open Go.RowKit
theorem subV_lv (b : List Int) (a n : Nat) (h : a + n ≤ b.length) : subV 1 (lv encB b) a n = lv encB ((b.drop a).take n) := by
 have h2 := ((Sl.lv Heap.empty 1 b).sub encB_len .i64 .i64 .i64 a n h).1 Heap.empty (Ext.refl _)
 rw [slS_lv encB_len b _ _ _ a (a + n) (a + n) (by simp [boundOf]) (by unfold boundOf; dsimp only; rw [if_pos (by omega), Int.toNat_natCast]) (by unfold boundOf; dsimp only; rw [if_pos (by omega), Int.toNat_natCast]) (fun _ => rfl) (by omega) (Nat.le_refl _) h] at h2
 injection h2 with h2
 rw [← h2, List.drop_take, show a + n - a = n by omega]
theorem piece_lv {b r : List Int} {i n : Int} (h : pieceS b i n = some r) : subV 1 (lv encB b) i.toNat n.toNat = lv encB r := by
 obtain ⟨h1, rfl⟩ := pieceS_iff.1 h
 exact subV_lv b _ _ (by omega)
theorem orF_congr {α : Type} {o : Option α} {f g : α → Value} (h : ∀ a, o = some a → f a = g a) (H : Heap) : orF o f H = orF o g H := by
 cases o with
 | none => rfl
 | some a => show Res.ok (f a) H = Res.ok (g a) H; rw [h a rfl]
abbrev vwB (b : List Int) : Value := .agg #[lv encB b]
theorem Cut_lv (k : Nat) (b : List Int) (i n : Int) (hl : b.length < 2 ^ 62) (H : Heap) : R (T k) F.view_View_Cut [vwB b, .int .i64 i, .int .i64 n] H = orF (pieceS b i n) vwB H :=
 (Cut_run k (Sl.lv H 1 b) i n hl).trans (orF_congr (fun r hr => by rw [piece_lv hr]) H)
theorem Rest_lv (k : Nat) (b : List Int) (i : Int) (hl : b.length < 2 ^ 62) (hi : i ≤ 9223372036854775807) (H : Heap) : R (T k) F.view_View_Rest [vwB b, .int .i64 i] H = orF (restS b i) vwB H :=
 (Rest_run k (Sl.lv H 1 b) i hl hi).trans (orF_congr (fun r hr => by rw [piece_lv (by rw [behind_piece b i hl hi]; exact hr)]) H)
theorem Rows_lv (k : Nat) (b : List Int) (i n s : Int) (hl : b.length < 2 ^ 62) (H : Heap) : R (T k) F.view_View_Rows [vwB b, .int .i64 i, .int .i64 n, .int .i64 s] H = orF (rowsS b i n s) vwB H :=
 (Rows_run k (Sl.lv H 1 b) i n s hl).trans (orF_congr (fun r hr => by rw [piece_lv (rowsS_piece hr)]) H)
theorem Of_lv (k : Nat) (b : List Int) (H : Heap) : R (T k) F.view_Of [lv encB b] H = .ok (vwB b) H := Of_run k (Sl.lv H 1 b)
theorem Bytes_run (k : Nat) {H : Heap} {v : Value} {b : List Int} (hv : Sl H 1 v encB b) (hl : b.length ≤ 2 ^ 30) : R (T k) F.view_View_Bytes [.agg #[v]] H = .ok (lv encB b) H := by
 rw [view_View_Bytes_R]
 have g := (Star.nil H).push ⟨[v], 1, false⟩
 have g := g.more_row (Ext.refl _) (OwnO.bare encB _ 1) (fun b hb => by cases hb)
 obtain ⟨s, o, H1, e1, g⟩ := g.append (bytes := 1) 1 encB_len rfl (b := v) (l2 := b) (lenL_lenV hv.lenL) ((hv.up g.ext).first encB_len) (by simp; omega) (by decide)
 simp only [List.nil_append, List.cons_append, List.set_cons_zero, List.set_cons_succ] at g
 obtain ⟨L, hf⟩ := (g.own 1 rfl).freeze encB_len (fun n _ v hv => by simp at hv; subst hv; trivial) 6
 refine nrm_fz (v := s) (H' := H1) ?_ hf g.ext (Flat.B b).alive
 simp -implicitDefEqProofs [view_View_Bytes, e1]
structure PTab where
 pairs : List Int
 vb : List Int
 rows : Option (Int × List Pt)
 cols : Option (Int × List Pt)
 step : Int
 size : Int
abbrev ptabC (t : PTab) : List Value := [lv encI t.pairs, lv encB t.vb, lookV t.rows, lookV t.cols, .int .i64 t.step, .int .i64 t.size]
abbrev ptabV (t : PTab) : Value := boxV (ptabC t).toArray
theorem Flat.ptab (t : PTab) : Flat (ptabV t) := .boxV (.cons (Flat.I _) (.cons (Flat.B _) (.cons (lookV_flat _) (.cons (lookV_flat _) (.cons (.int _ _) (.cons (.int _ _) .nil))))))
def upS : List Int → Bool
 | [] => true
 | [_] => true
 | a :: b :: l => decide (a < b) && upS (b :: l)
theorem upS_snoc (x : Int) : ∀ l : List Int, upS (l ++ [x]) = (upS l && match l.getLast? with | some y => decide (y < x) | none => true)
 | [] => rfl
 | [a] => by simp [upS]
 | a :: b :: l => by
  have ih := upS_snoc x (b :: l)
  simp only [List.cons_append] at ih ⊢
  simp only [upS, ih, List.getLast?_cons_cons, Bool.and_assoc]
def keysS (r : List Int) (n : Int) : List Int := (cutRows r 6 n.toNat).map fun q => num (q.take 4)
def pListS (b : List Int) : Option PTab :=
 (uS b 0 4).bind fun n => (pieceS b 0 16).bind fun _ => (rowsS b 16 n 6).bind fun r => if upS (keysS r n) then some ⟨keysS r n, r, none, none, 0, 2⟩ else none
def pTabS (b : List Int) (i g z step : Int) : Option PTab :=
 (uS b i 4).bind fun p => (restS b p).bind fun rb => (lookS rb g z).bind fun rows => (uS b (i + 4) 4).bind fun q => (restS b q).bind fun cb => (lookS cb g z).bind fun cols =>
 (uS b (i + 8) 4).bind fun o => (restS b o).bind fun vb => (pieceS vb (step * (max (mostS rows.2) 0 + max (mostS cols.2) 0)) z).map fun _ => ⟨[], vb, some rows, some cols, step, z⟩
def pTakeS (kind : Int) (b : List Int) (g : Int) : Option PTab :=
 if kind = 0 then pListS b else if kind = 2 then pTabS b 4 g 2 1 else if kind = 6 then (uS b 0 4).bind fun f => if f % 2 = 1 then pTabS b 8 g 4 4 else pTabS b 8 g 2 2 else none
theorem mostS_bound {ps : List Pt} (hok : ∀ p, p ∈ ps → p.ok) : -1 ≤ mostS ps ∧ mostS ps < 4294967296 := by
 have inner : ∀ (l : List Int) (m : Int), -1 ≤ m → m < 4294967296 → (∀ x, x ∈ l → 0 ≤ x ∧ x < 4294967296) → -1 ≤ l.foldl max m ∧ l.foldl max m < 4294967296 := by
  intro l
  induction l with
  | nil => intro m h0 h1 _; exact ⟨h0, h1⟩
  | cons x l ih => intro m h0 h1 h; have := h x (by simp); exact ih (max m x) (by omega) (by omega) fun y hy => h y (by simp [hy])
 have : ∀ (ps : List Pt) (m : Int), -1 ≤ m → m < 4294967296 → (∀ p, p ∈ ps → p.ok) → -1 ≤ ps.foldl (fun m p => p.vals.foldl max m) m ∧ ps.foldl (fun m p => p.vals.foldl max m) m < 4294967296 := by
  intro ps
  induction ps with
  | nil => intro m h0 h1 _; exact ⟨h0, h1⟩
  | cons p ps ih =>
   intro m h0 h1 h
   have := inner p.vals m h0 h1 (h p (by simp)).2.2.2.2.2
   exact ih _ this.1 this.2 fun q hq => h q (by simp [hq])
 exact this ps (-1) (by omega) (by omega) hok
theorem getS_most {ps : List Pt} {id x : Int} (h : getS ps id = some x) : x ≤ mostS ps := by
 have inner : ∀ (l : List Int) (m : Int), m ≤ l.foldl max m ∧ ∀ y, y ∈ l → y ≤ l.foldl max m := by
  intro l
  induction l with
  | nil => intro m; exact ⟨Int.le_refl _, fun y hy => by cases hy⟩
  | cons a l ih =>
   intro m
   have := ih (max m a)
   refine ⟨by simp only [List.foldl_cons]; omega, fun y hy => ?_⟩
   rcases List.mem_cons.1 hy with rfl | hy
   ·simp only [List.foldl_cons]; omega
   ·exact this.2 y hy
 have outer : ∀ (ps : List Pt) (m : Int), m ≤ ps.foldl (fun m p => p.vals.foldl max m) m ∧ ∀ p, p ∈ ps → ∀ y, y ∈ p.vals → y ≤ ps.foldl (fun m p => p.vals.foldl max m) m := by
  intro ps
  induction ps with
  | nil => intro m; exact ⟨Int.le_refl _, fun y hy => by cases hy⟩
  | cons p ps ih =>
   intro m
   have h1 := inner p.vals m
   have h2 := ih (p.vals.foldl max m)
   refine ⟨Int.le_trans h1.1 h2.1, fun q hq y hy => ?_⟩
   rcases List.mem_cons.1 hq with rfl | hq
   ·exact Int.le_trans (h1.2 y hy) h2.1
   ·exact h2.2 q hq y hy
 unfold getS at h
 obtain ⟨p, hp, h⟩ := Option.bind_eq_some_iff.1 h
 split at h
 ·exact (outer ps (-1)).2 p (List.mem_of_find?_eq_some hp) x (List.mem_of_getElem? h)
 ·cases h
theorem getS_nonneg {ps : List Pt} (hok : ∀ p, p ∈ ps → p.ok) {id x : Int} (h : getS ps id = some x) : 0 ≤ x := by
 unfold getS at h
 obtain ⟨p, hp, h⟩ := Option.bind_eq_some_iff.1 h
 split at h
 ·exact ((hok p (List.mem_of_find?_eq_some hp)).2.2.2.2.2 x (List.mem_of_getElem? h)).1
 ·cases h
theorem and1 (P : Program) (t : TypeId) (H : Heap) {a : Int} (h0 : 0 ≤ a) (h1 : a < 4294967296) : binR P .and t (.int .i64 a) (.int .i64 1) H = .ok (.int .i64 (a % 2)) H := by
 have e : (BitVec.ofInt 64 a &&& BitVec.ofInt 64 1).toNat = (a % 2).toNat := by
  rw [BitVec.toNat_and, BitVec.toNat_ofInt, BitVec.toNat_ofInt]
  rw [show ((1 : Int) % ((2 ^ 64 : Nat) : Int)).toNat = 2 ^ 1 - 1 from by decide, Nat.and_two_pow_sub_one_eq_mod]
  omega
 have e1 : binV P .and t (.int .i64 a) (.int .i64 1) = some (.int .i64 (IntKind.i64.wrap (BitVec.ofInt 64 a &&& BitVec.ofInt 64 1).toNat)) := rfl
 unfold binR
 rw [e1, e, show (((a % 2).toNat : Nat) : Int) = a % 2 by omega, wrap_i64 (by omega) (by omega)]
 rfl
theorem veq_Pt (l : List Pt) : veq (lv encPt l) (lv encPt l) = true := veq_lv fun p _ v hv => by
 simp [encPt] at hv
 rcases hv with rfl | rfl | rfl <;> simp
theorem veq_tab (x : Int × List Pt) : veq (boxV #[.int .i64 x.1, lv encPt x.2]) (boxV #[.int .i64 x.1, lv encPt x.2]) = true := veq_boxV (l := [.int .i64 x.1, lv encPt x.2]) fun v hv => by
 simp at hv
 rcases hv with rfl | rfl
 ·simp
 ·exact veq_Pt _
theorem orF_some' {α : Type} (a : α) (f : α → Value) (H : Heap) : orF (some a) f H = .ok (f a) H := rfl
theorem ptable_run (k : Nat) (b : List Int) (hb : Byt b) (i g z step : Int) (hi : i = 4 ∨ i = 8) (hg : 1 ≤ g ∧ g ≤ 65535) (hz : z = 2 ∨ z = 4) (hst : step = 1 ∨ step = 2 ∨ step = 4) (hl : b.length < 2 ^ 31) (H : Heap) :
  R (T k) F.pair_table [vwB b, .int .i64 i, .int .i64 g, .int .i64 z, .int .i64 step] H = orF (pTabS b i g z step) ptabV H := by
 rw [pair_table_R]
 have hx : Ext H ((H.push ⟨[lv encB b], 1, false⟩).push ⟨[.slice none 0 0, .slice none 0 0, .pointer none, .pointer none, .int .i64 step, .int .i64 z], 1, false⟩) := ((Ext.refl H).push _).push _
 have hU := fun j H' => U32_run k (Sl.lv H' 1 b) hb j (by omega)
 have hR := fun j hj H' => Rest_lv k b j (by omega) hj H'
 have hT := fun tb htb hl H' => lookTake_run k (Sl.lv H' 1 tb) htb g z hg.1 hg.2 hz hl
 refine fz_orF ?_ fun _ _ => (Flat.ptab _).alive
 simp -implicitDefEqProofs (disch := omega) [pair_table]
 unfold pTabS
 refine Cp.callT (hU i _) (fun _ => ⟨_, rfl, hx⟩) fun p hp => ?_
 have hp := uS_four hb hp
 refine Cp.callT (hR p (by omega) _) (fun _ => ⟨_, by simp -implicitDefEqProofs (disch := omega), hx⟩) fun rb hrb => ?_
 have lrb := restS_len hrb
 refine Cp.callT (hT rb (hb.rest hrb) (by omega) _) (fun _ => ⟨_, by simp -implicitDefEqProofs (disch := omega), hx⟩) fun rows hrows => ?_
 have ok1 := lookS_ok (hb.rest hrb) hg.1 hg.2 hz hrows
 have len1 := lookS_len (hb.rest hrb) hrows
 have hx2 : Ext H ((H.push ⟨[lv encB b], 1, false⟩).push ⟨[.slice none 0 0, .slice none 0 0, tabV rows, .pointer none, .int .i64 step, .int .i64 z], 1, false⟩) := ((Ext.refl H).push _).push _
 simp -implicitDefEqProofs (disch := omega)
 refine Cp.callT (hU (i + 4) _) (fun _ => ⟨_, rfl, hx2⟩) fun q hq => ?_
 have hq := uS_four hb hq
 refine Cp.callT (hR q (by omega) _) (fun _ => ⟨_, by simp -implicitDefEqProofs (disch := omega), hx2⟩) fun cb hcb => ?_
 have lcb := restS_len hcb
 refine Cp.callT (hT cb (hb.rest hcb) (by omega) _) (fun _ => ⟨_, by simp -implicitDefEqProofs (disch := omega), hx2⟩) fun cols hcols => ?_
 have ok2 := lookS_ok (hb.rest hcb) hg.1 hg.2 hz hcols
 have len2 := lookS_len (hb.rest hcb) hcols
 have hx3 : Ext H ((H.push ⟨[lv encB b], 1, false⟩).push ⟨[.slice none 0 0, .slice none 0 0, tabV rows, tabV cols, .int .i64 step, .int .i64 z], 1, false⟩) := ((Ext.refl H).push _).push _
 simp -implicitDefEqProofs (disch := omega)
 refine Cp.callT (hU (i + 8) _) (fun _ => ⟨_, rfl, hx3⟩) fun o ho => ?_
 have ho := uS_four hb ho
 refine Cp.callT (hR o (by omega) _) (fun _ => ⟨_, by simp -implicitDefEqProofs (disch := omega), hx3⟩) fun vb hvb => ?_
 have lvb := restS_len hvb
 have hx4 : Ext H ((H.push ⟨[lv encB b], 1, false⟩).push ⟨[.slice none 0 0, lv encB vb, tabV rows, tabV cols, .int .i64 step, .int .i64 z], 1, false⟩) := ((Ext.refl H).push _).push _
 have m1 := fun H' => Most_run k rows ok1.2.1 len1 H'
 have m2 := fun H' => Most_run k cols ok2.2.1 len2 H'
 have b1 := mostS_bound ok1.2.1
 have b2 := mostS_bound ok2.2.1
 obtain ⟨y1, hy1⟩ : ∃ y1, y1 = max (mostS rows.2) 0 := ⟨_, rfl⟩
 obtain ⟨y2, hy2⟩ : ∃ y2, y2 = max (mostS cols.2) 0 := ⟨_, rfl⟩
 have e1 : (if 0 > mostS rows.2 then 0 else mostS rows.2) = y1 := by rw [hy1]; split <;> omega
 have e2 : (if 0 > mostS cols.2 then 0 else mostS cols.2) = y2 := by rw [hy2]; split <;> omega
 rw [← hy1, ← hy2]
 have s0 : 0 ≤ step * (y1 + y2) := Int.mul_nonneg (by omega) (by omega)
 have s1 : step * (y1 + y2) ≤ 4 * 8589934592 := Int.mul_le_mul (by omega) (by omega) (by omega) (by omega)
 simp -implicitDefEqProofs (disch := omega)
 simp -implicitDefEqProofs (disch := omega) [m1, m2, e1, e2]
 have t2 := veq_tab cols
 simp -implicitDefEqProofs (disch := omega) [t2]
 refine Cp.callM (Cut_lv k vb (step * (y1 + y2)) z (by omega) _) hx4 fun r hr => ?_
 exact .ok hx4 ⟨_, fz_box (by omega) (get_push_eq _ _ _ (by simp)) (mapF_cons (v := .slice none 0 0) (u := lv encI []) (L1 := []) rfl (mapF_still (fun v hv => by
  simp at hv
  rcases hv with rfl | rfl | rfl | rfl | rfl <;> trivial)))⟩
theorem upS_take : ∀ (l : List Int) (m : Nat), upS l = true → upS (l.take m) = true
 | [], m, _ => by simp [upS]
 | [a], 0, _ => rfl
 | [a], m + 1, _ => by simp [upS]
 | a :: b :: l, 0, _ => rfl
 | a :: b :: l, 1, _ => rfl
 | a :: b :: l, m + 2, h => by
  simp only [upS, Bool.and_eq_true] at h
  have := upS_take (b :: l) (m + 1) h.2
  simp only [List.take_succ_cons] at this ⊢
  simp only [upS, h.1, this, Bool.and_self]
theorem keys_at {r : List Int} {n j : Nat} (hr : r.length = n * 6) (hj : j < n) : uS r (6 * (j : Int)) 4 = some (num ((((r.drop (6 * j)).take 6)).take 4)) := by
 have : 6 * j + 6 ≤ r.length := by omega
 unfold uS
 rw [pieceS, if_pos (by omega), show (6 * (j : Int)).toNat = 6 * j by omega, List.take_take]
 rfl
theorem plist_run (k : Nat) (b : List Int) (hb : Byt b) (hl : b.length < 2 ^ 31) (H : Heap) : R (T k) F.pair_list [vwB b] H = orF (pListS b) ptabV H := by
 rw [pair_list_R]
 have hx : Ext H (H.push ⟨[lv encB b], 1, false⟩) := (Ext.refl H).push _
 refine fz_orF ?_ fun _ _ => (Flat.ptab _).alive
 simp -implicitDefEqProofs (disch := omega) [pair_list]
 unfold pListS
 refine Cp.call (U32_run k (Sl.lv _ 1 b) hb 0 (by omega)) hx fun n hn => ?_
 simp -implicitDefEqProofs (disch := omega)
 refine Cp.call (Cut_lv k b 0 16 (by omega) _) hx fun c hc => ?_
 simp -implicitDefEqProofs (disch := omega)
 refine Cp.call (Rows_lv k b 16 n 6 (by omega) _) hx fun r hr => ?_
 have hn := rowsS_n hr
 have hrb := (hb.piece (rowsS_piece hr)).1
 have hrl := pieceS_len (rowsS_piece hr)
 obtain ⟨n, rfl⟩ := Int.eq_ofNat_of_zero_le hn.1
 have hrl : r.length = n * 6 := by exact_mod_cast hrl
 unfold keysS
 simp only [Int.toNat_natCast]
 obtain ⟨ks, hks⟩ : ∃ ks, ks = (cutRows r 6 n).map fun q => num (q.take 4) := ⟨_, rfl⟩
 rw [← hks]
 have hkl : ks.length = n := by rw [hks]; simp
 simp -implicitDefEqProofs (disch := omega)
 have g := (Star.nil H).rest hx
 have g := g.push ⟨[.slice none 0 0, lv encB r, .pointer none, .pointer none, .int .i64 0, .int .i64 2], 1, false⟩
 have g := g.more_row (Ext.refl _) (OwnO.nil encI _ 1) (fun b hb => by cases hb)
 simp only [List.cons_append, List.nil_append, hn_push] at g
 have hU := fun (j : Nat) (hj : j < n) H' => U32_run k (Sl.lv H' 1 r) hrb (6 * (j : Int)) (by omega)
 have hlp : Cp failV (Ext H) (loopN (pair_list_l1 k (R (T k))) loopFuel [(4, ptrV (H.n + 1)), (15, .int .i64 n), (16, .int .i64 0)] ((H.push ⟨[lv encB b], 1, false⟩).push ⟨[.slice none 0 0, lv encB r, .pointer none, .pointer none, .int .i64 0, .int .i64 2], 1, false⟩))
   (if upS ks = true then some () else none) fun _ xe H' => xe = (.exit 0, [(4, ptrV (H.n + 1)), (15, .int .i64 n), (16, .int .i64 n), (17, .bool false)]) ∧ ∃ s o, Star H H' [itBlk (H.n + 1) ⟨[s, lv encB r, .pointer none, .pointer none, .int .i64 0, .int .i64 2], 1, false⟩, itRow o 1 s encI ks] := by
  rcases loop_upP (body := pair_list_l1 k (R (T k))) n
   (fun j e H' => e = [(4, ptrV (H.n + 1)), (15, .int .i64 n), (16, .int .i64 j)] ∧ upS (ks.take j) = true ∧ ∃ s o, Star H H' [itBlk (H.n + 1) ⟨[s, lv encB r, .pointer none, .pointer none, .int .i64 0, .int .i64 2], 1, false⟩, itRow o 1 s encI (ks.take j)])
   (fun x e H' => x = .exit 0 ∧ e = [(4, ptrV (H.n + 1)), (15, .int .i64 n), (16, .int .i64 n), (17, .bool false)] ∧ upS ks = true ∧ ∃ s o, Star H H' [itBlk (H.n + 1) ⟨[s, lv encB r, .pointer none, .pointer none, .int .i64 0, .int .i64 2], 1, false⟩, itRow o 1 s encI ks])
   (fun v H' => v = failV ∧ Ext H H' ∧ upS ks = false)
   (fun j e H' hj ⟨he, hup, s, o, g⟩ => by
    subst he
    have hlt : (j : Int) < n := by omega
    have hM := g.get 0 rfl
    have hu := hU j hj
    simp only [keys_at hrl hj, orF_some'] at hu
    have hy : ks[j]? = some (num ((((r.drop (6 * j)).take 6)).take 4)) := by rw [hks, List.getElem?_map, cutRows_get _ _ _ _ hj]; rfl
    obtain ⟨y, hyd⟩ : ∃ y, y = num ((((r.drop (6 * j)).take 6)).take 4) := ⟨_, rfl⟩
    rw [← hyd] at hy hu
    have hvq := (g.row 1 rfl).veq
    have hne : ¬ H.n + 1 = H'.n := by have := Heap.get_lt hM; omega
    obtain ⟨s', o', H2, e2, g⟩ := g.append1 (bytes := 8) 1 encI_len rfl y (by simp; omega) (by decide)
    simp only [List.set_cons_zero, List.set_cons_succ] at g
    obtain ⟨H3, e3, g, _⟩ := g.stCell 0 rfl 0 (g.row 1 rfl).storable (g.row 1 rfl).cells (by simp)
    simp only [List.set_cons_zero, List.set_cons_succ] at g
    rw [← take_snoc hy] at g
    have hM3 := g.get 0 rfl
    simp only [encI] at e2
    have hups : upS (ks.take (j + 1)) = (upS (ks.take j) && match (ks.take j).getLast? with | some z => decide (z < y) | none => true) := by rw [take_snoc hy, upS_snoc]
    rw [hup, Bool.true_and] at hups
    cases j with
    | zero =>
     refine .inl ⟨_, H3, ?_, rfl, by simpa using hups, s', o', g⟩
     rw [pair_list_l1_eq]
     simp -implicitDefEqProofs (disch := omega) at hu hlt
     simp -implicitDefEqProofs (disch := omega) [-stR_ptr, hlt, hM, hu, hne, hvq, e2, e3]
    | succ i =>
     obtain ⟨x, hxi⟩ : ∃ x, ks[i]? = some x := ⟨_, List.getElem?_eq_getElem (by omega)⟩
     have hlast : (ks.take (i + 1)).getLast? = some x := by rw [take_snoc hxi]; simp
     rw [hlast] at hups
     dsimp only at hups
     obtain ⟨c, hc, hgc, i1⟩ := g.ix 1 rfl .i64 i (by simp; omega)
     obtain ⟨c2, hc2, hgc2, i2⟩ := g.ix 1 rfl .i64 (i + 1) (by simp; omega)
     have l1 := ld1_row encI_len hgc (i := i) (c := 0) (x := x) (by rw [List.getElem?_take, if_pos (by omega), hxi]) (by decide) rfl
     have l2 := ld1_row encI_len hgc2 (i := i + 1) (c := 0) (x := y) (by rw [List.getElem?_take, if_pos (by omega), hy]) (by decide) rfl
     simp -implicitDefEqProofs [-ld1_ptr] at i1 i2 l1 l2
     simp -implicitDefEqProofs (disch := omega) at hu hlt
     have hj0 : ((i : Int) + 1 == 0) = false := by simp; omega
     by_cases hxy : x < y
     ·refine .inl ⟨_, H3, ?_, rfl, by rw [hups]; simpa using hxy, s', o', g⟩
      rw [pair_list_l1_eq]
      simp -implicitDefEqProofs (disch := omega) [-stR_ptr, -ld1_ptr, ld1_ptr (H.n + 1), hlt, hM, hM3, hu, hne, hvq, e2, e3, hj0, i1, i2, l1, l2, hxy]
     ·refine .inr (.inr ⟨failV, H3, ?_, rfl, g.ext, ?_⟩)
      ·rw [pair_list_l1_eq]
       simp -implicitDefEqProofs (disch := omega) [-stR_ptr, -ld1_ptr, ld1_ptr (H.n + 1), hlt, hM, hM3, hu, hne, hvq, e2, e3, hj0, i1, i2, l1, l2, hxy]
      ·cases hall : upS ks with
       | false => rfl
       | true =>
        have := upS_take ks (i + 1 + 1) hall
        rw [hups] at this
        exact absurd (by simpa using this) hxy)
   (fun e H' ⟨he, hup, s, o, g⟩ => by
    subst he
    rw [List.take_of_length_le (by omega)] at hup g
    refine .inl ⟨.exit 0, _, H', ?_, by simp, rfl, rfl, hup, s, o, g⟩
    rw [pair_list_l1_eq]
    simp -implicitDefEqProofs) loopFuel 0 _ _ (Nat.zero_le _) (fuel_big (by omega)) ⟨rfl, rfl, .slice none 0 0, none, by simpa using g⟩ with ⟨x, e', H', h1, rfl, rfl, h2, s, o, g⟩ | ⟨v, H', h1, rfl, h2, h3⟩
  ·rw [if_pos h2]
   exact ⟨_, H', h1, g.ext, rfl, s, o, g⟩
  ·rw [if_neg (by simp [h3])]
   exact ⟨H', h1, h2⟩
 have e0 : (if upS ks = true then some (⟨ks, r, none, none, 0, 2⟩ : PTab) else none) = (if upS ks = true then some () else none).map fun _ => ⟨ks, r, none, none, 0, 2⟩ := by split <;> rfl
 rw [e0]
 refine Cp.bindM hlp ?_
 rintro ⟨⟩ ⟨x, e⟩ H' _ hx' ⟨he, s, o, g⟩
 obtain ⟨rfl, rfl⟩ := Prod.mk.inj he
 simp only [pair_list_l1k_x0]
 obtain ⟨L, hf⟩ := (g.own 1 rfl).freeze encI_len (encI_still _) 5
 exact .ok hx' ⟨_, fz_box (by omega) (g.get 0 rfl) (mapF_cons hf (mapF_still (fun v hv => by
  simp at hv
  rcases hv with rfl | rfl | rfl | rfl | rfl <;> trivial)))⟩
theorem pTake_run (k : Nat) (kind : Int) (b : List Int) (hb : Byt b) (g : Int) (hg : 1 ≤ g ∧ g ≤ 65535) (hl : b.length < 2 ^ 31) (H : Heap) : R (T k) F.pair_Take [.int .i64 kind, vwB b, .int .i64 g] H = orF (pTakeS kind b g) ptabV H := by
 rw [pair_Take_R]
 have hx : Ext H (H.push ⟨[lv encB b], 1, false⟩) := (Ext.refl H).push _
 have fzp : ∀ (t : PTab) (H' : Heap), ∃ L, fzV H.n H' fzDepth (ptabV t) = some (ptabV t, L) := fun t H' => ⟨[], rfl⟩
 refine fz_orF ?_ fun _ _ => (Flat.ptab _).alive
 unfold pTakeS
 by_cases h0 : kind = 0
 ·subst h0
  rw [if_pos rfl]
  simp -implicitDefEqProofs (disch := omega) [pair_Take]
  exact Cp.callL (plist_run k b hb hl _) hx fun t _ => .ok hx (fzp t _)
 rw [if_neg h0]
 have h0' : (kind == 0) = false := by simpa using h0
 by_cases h2 : kind = 2
 ·subst h2
  rw [if_pos rfl]
  simp -implicitDefEqProofs (disch := omega) [pair_Take]
  exact Cp.callL (ptable_run k b hb 4 g 2 1 (by omega) hg (by omega) (by omega) hl _) hx fun t _ => .ok hx (fzp t _)
 rw [if_neg h2]
 have h2' : (kind == 2) = false := by simpa using h2
 by_cases h6 : kind = 6
 ·subst h6
  rw [if_pos rfl]
  simp -implicitDefEqProofs (disch := omega) [pair_Take]
  refine Cp.call (U32_run k (Sl.lv _ 1 b) hb 0 (by omega)) hx fun f hf => ?_
  have hf := uS_four hb hf
  rw [and1 Prog 3 _ hf.1 hf.2]
  by_cases hodd : f % 2 = 1
  ·rw [if_pos hodd]
   simp -implicitDefEqProofs (disch := omega) [hodd]
   exact Cp.callL (ptable_run k b hb 8 g 4 4 (by omega) hg (by omega) (by omega) hl _) hx fun t _ => .ok hx (fzp t _)
  ·rw [if_neg hodd]
   have hodd' : (f % 2 == 1) = false := by simpa using hodd
   simp -implicitDefEqProofs (disch := omega) [hodd']
   exact Cp.callL (ptable_run k b hb 8 g 2 2 (by omega) hg (by omega) (by omega) hl _) hx fun t _ => .ok hx (fzp t _)
 rw [if_neg h6]
 have h6' : (kind == 6) = false := by simpa using h6
 simp -implicitDefEqProofs (disch := omega) [pair_Take, h0', h2', h6']
 exact .throw hx
def pV (o : Option PTab) : Value := match o with | some t => ptabV t | none => .pointer none
theorem pV_flat (o : Option PTab) : Flat (pV o) := by
 cases o with
 | none => exact .nilPtr
 | some t => exact Flat.ptab t
theorem pair_in1_run (k : Nat) {H : Heap} (kind : Int) (b : List Int) (hb : Byt b) (g : Int) (hg : 1 ≤ g ∧ g ≤ 65535) (hl : b.length < 2 ^ 31) (p1 p2 p3 p4 : Nat) (old : Value)
  (h1 : H.get p1 = some ⟨[.int .i64 kind], 1, false⟩) (h2 : H.get p2 = some ⟨[lv encB b], 1, false⟩) (h3 : H.get p3 = some ⟨[.int .i64 g], 1, false⟩) (h4 : H.get p4 = some ⟨[old], 1, false⟩) :
  R (T k) F.pair_Read_in1 [ptrV p1, ptrV p2, ptrV p3, ptrV p4] H = match pTakeS kind b g with
   | some t => .ok (.tuple #[]) (H.set p4 (some ⟨[ptabV t], 1, false⟩))
   | none => .panic failV H := by
 rw [pair_Read_in1_R]
 have ht := pTake_run k kind b hb g hg hl H
 cases h : pTakeS kind b g with
 | none =>
  rw [h] at ht
  refine nrm_throw ⟨H, ?_, Ext.refl H⟩ Flat.fail.alive
  simp -implicitDefEqProofs (disch := omega) [pair_Read_in1, h1, h2, h3, ht]
 | some x =>
  rw [h] at ht
  simp -implicitDefEqProofs (disch := omega) [pair_Read_in1, h1, h2, h3, h4, ht]
def badP (kind g : Int) : Bool := decide (g < 1) || decide (g > 65535) || (kind != 0 && kind != 2 && kind != 6)
def pairO (kind : Int) (b : List Int) (g : Int) : Option PTab := if badP kind g then none else pTakeS kind b g
def pairN (kind : Int) (b : List Int) (g : Int) : Int := if badP kind g then 1 else if (pTakeS kind b g).isSome then 0 else 2
theorem pRead_run (k : Nat) (kind : Int) {H : Heap} {v : Value} {b : List Int} (hv : Sl H 1 v encB b) (hb : Byt b) (g : Int) (hl : b.length ≤ 2 ^ 30) :
  R (T k) F.pair_Read [.int .i64 kind, v, .int .i64 g] H = .ok (.tuple #[pV (pairO kind b g), .int .i64 (pairN kind b g)]) H := by
 rw [pair_Read_R]
 have hx2 := ((Ext.refl H).push ⟨[.int .i64 kind], 1, false⟩).push ⟨[.int .i64 g], 1, false⟩
 have al : ∀ o n, Alive H (.tuple #[pV o, .int .i64 n]) := fun o n => (Flat.tupleL (l := [pV o, .int .i64 n]) (.cons (pV_flat o) (.cons (.int _ _) .nil))).alive
 have fz : ∀ H' o n, fzV H.n H' fzDepth (.tuple #[pV o, .int .i64 n]) = some (.tuple #[pV o, .int .i64 n], []) := fun H' o n => by
  cases o <;> rfl
 cases hbad : badP kind g with
 | true =>
  refine nrm_fz (H' := ((H.push ⟨[.int .i64 kind], 1, false⟩).push ⟨[.int .i64 g], 1, false⟩).push ⟨[.pointer none], 1, false⟩) (v := .tuple #[pV none, .int .i64 1]) ?_ (by unfold pairO pairN; rw [hbad]; exact fz _ _ _) (hx2.push _) (al _ _)
  unfold badP at hbad
  by_cases c1 : g < 1
  ·simp -implicitDefEqProofs (disch := omega) [pair_Read, c1, pV]
  ·by_cases c2 : g > 65535
   ·simp -implicitDefEqProofs (disch := omega) [pair_Read, c1, c2, pV]
   ·have c3 : (kind == 0) = false ∧ (kind == 2) = false ∧ (kind == 6) = false := by simp [c1, c2] at hbad; simp; omega
    simp -implicitDefEqProofs (disch := omega) [pair_Read, c1, c2, bne, c3.1, c3.2.1, c3.2.2, pV]
 | false =>
  have hgg : (1 ≤ g ∧ g ≤ 65535) ∧ (kind = 0 ∨ kind = 2 ∨ kind = 6) := by unfold badP at hbad; simp at hbad; omega
  have c1 : ¬ g < 1 := by omega
  have c2 : ¬ g > 65535 := by omega
  have hx3 := hx2.push ⟨[.pointer none], 1, false⟩
  have hof := fun H' (hx : Ext H H') => Of_run k (hv.up hx)
  have o3 := hof _ hx3
  have by3 := Bytes_run k (hv.up hx3) hl
  have o4 := fun H => Of_lv k b H
  have hin := pair_in1_run k (H := (((H.push ⟨[.int .i64 kind], 1, false⟩).push ⟨[.int .i64 g], 1, false⟩).push ⟨[.pointer none], 1, false⟩).push ⟨[lv encB b], 1, false⟩) kind b hb g hgg.1 (by omega) H.n (H.n + 3) (H.n + 1) (H.n + 2) (.pointer none) (by simp) (by simp) (by simp) (by simp)
  cases hlk : pTakeS kind b g with
  | none =>
   rw [hlk] at hin
   have ht := Try_no k F.pair_Read_in1 #[ptrV H.n, ptrV (H.n + 3), ptrV (H.n + 1), ptrV (H.n + 2)] hin
   refine nrm_fz (H' := (((H.push ⟨[.int .i64 kind], 1, false⟩).push ⟨[.int .i64 g], 1, false⟩).push ⟨[.pointer none], 1, false⟩).push ⟨[lv encB b], 1, false⟩) (v := .tuple #[pV none, .int .i64 2]) ?_ (by unfold pairO pairN; rw [hbad, hlk]; exact fz _ _ _) (hx3.push _) (al _ _)
   rcases hgg.2 with rfl | rfl | rfl <;> simp -implicitDefEqProofs (disch := omega) [pair_Read, c1, c2, bne, o3, by3, o4, ht, pV]
  | some x =>
   rw [hlk] at hin
   have ht := Try_ok k F.pair_Read_in1 #[ptrV H.n, ptrV (H.n + 3), ptrV (H.n + 1), ptrV (H.n + 2)] hin
   refine nrm_fz (H' := (((H.push ⟨[.int .i64 kind], 1, false⟩).push ⟨[.int .i64 g], 1, false⟩).push ⟨[ptabV x], 1, false⟩).push ⟨[lv encB b], 1, false⟩) (v := .tuple #[pV (some x), .int .i64 0]) ?_ (by unfold pairO pairN; rw [hbad, hlk]; exact fz _ _ _) ((hx2.push _).push _) (al _ _)
   simp at ht
   rcases hgg.2 with rfl | rfl | rfl <;> simp -implicitDefEqProofs (disch := omega) [pair_Read, c1, c2, bne, o3, by3, o4, ht, pV]
end Go.Sw
end
section
set_option maxRecDepth 100000
set_option linter.unusedVariables false
namespace Go.Sw
noncomputable section
def swashref05_Rows_l1 (k : Nat) (call : Caller) : Env → Heap → Res (AExit × Env) := loopB (C k) call F.swashref05_Rows [1, 1, 1, 1, 0, 1, 0, 0]
def swashref05_Rows_l1k (k : Nat) (call : Caller) : Kont Value := kBlock 0 (kSeq (pieceK (C k) call F.swashref05_Rows [1, 1, 1, 1, 1]) (kDone Prog (resOf Prog F.swashref05_Rows)))
def swashref05_Rows_j1 (k : Nat) (call : Caller) (a0 a3 a11 a12 a13 a60 : Value) (h : Heap) : Res Value :=
 kSeq (pieceK (C k) call F.swashref05_Rows [1, 1, 1, 1, 1, 1]) (kDone Prog (resOf Prog F.swashref05_Rows)) .normal [(0, a0), (3, a3), (11, a11), (12, a12), (13, a13), (60, a60)] h
def swashref05_Rows_l2 (k : Nat) (call : Caller) : Env → Heap → Res (AExit × Env) := loopB (C k) call F.swashref05_Rows [1, 1, 1, 1, 1, 0, 1, 0, 1, 0, 1, 0, 0]
def swashref05_Rows_l2k (k : Nat) (call : Caller) : Kont Value := kBlock 2 (kSeq (pieceK (C k) call F.swashref05_Rows [1, 1, 1, 1, 1, 0, 1, 0, 1, 1]) (kSeq (pieceK (C k) call F.swashref05_Rows [1, 1, 1, 1, 1, 1]) (kDone Prog (resOf Prog F.swashref05_Rows))))
def swashref05_Rows_j2 (k : Nat) (call : Caller) (a11 a13 : Value) (h : Heap) : Res Value :=
 kSeq (pieceK (C k) call F.swashref05_Rows [1, 1, 1, 1, 1, 1]) (kDone Prog (resOf Prog F.swashref05_Rows)) .normal [(11, a11), (13, a13)] h
def swashref05_Rows_j3 (k : Nat) (call : Caller) (a11 a12 a13 a80 : Value) (h : Heap) : Res Value :=
 kSeq (pieceK (C k) call F.swashref05_Rows [1, 1, 1, 1, 1, 1]) (kDone Prog (resOf Prog F.swashref05_Rows)) .normal [(11, a11), (12, a12), (13, a13), (80, a80)] h
def swashref05_Rows (k : Nat) (call : Caller) (a0 a1 a2 a3 : Value) (h : Heap) : Res Value :=
 (call F.swashref01_U [a0, a1, (.int .i64 2)] h).bind fun v1 h2 =>
 (binR Prog .add 3 a1 (.int .i64 2) h2).bind fun v3 h4 =>
 (call F.swashref01_U [a0, v3, (.int .i64 2)] h4).bind fun v5 h6 =>
 (builtinV Prog .len [65] [a0] h6).bind fun v7 h8 =>
 (call F.swashref01_In [v7, a1, (.int .i64 10)] h8).bind fun v9 h10 =>
 (unR .not v9 h10).bind fun v11 h12 =>
 ((bif wantVal v11 false then Res.ok v1 h12 else Res.ok undef h12)).bind fun v13 h14 =>
 ((bif wantVal v11 false then Res.ok a2 h14 else Res.ok undef h14)).bind fun v15 h16 =>
 ((bif wantVal v11 false then binR Prog .lss 3 v13 v15 h16 else Res.ok undef h16)).bind fun v17 h18 =>
 (condV (some v11) (Res.ok (.bool true) h18) (Res.ok v17 h18)).bind fun v19 h20 =>
 ((bif wantVal v19 false then Res.ok a0 h20 else Res.ok undef h20)).bind fun v21 h22 =>
 ((bif wantVal v19 false then builtinV Prog .len [65] [v21] h22 else Res.ok undef h22)).bind fun v23 h24 =>
 ((bif wantVal v19 false then Res.ok a1 h24 else Res.ok undef h24)).bind fun v25 h26 =>
 ((bif wantVal v19 false then binR Prog .add 3 v25 (.int .i64 10) h26 else Res.ok undef h26)).bind fun v27 h28 =>
 ((bif wantVal v19 false then Res.ok v5 h28 else Res.ok undef h28)).bind fun v29 h30 =>
 ((bif wantVal v19 false then Res.ok v1 h30 else Res.ok undef h30)).bind fun v31 h32 =>
 ((bif wantVal v19 false then call F.swashref01_Rows [v23, v27, v29, v31] h32 else Res.ok undef h32)).bind fun v33 h34 =>
 ((bif wantVal v19 false then unR .not v33 h34 else Res.ok undef h34)).bind fun v35 h36 =>
 (condV (some v19) (Res.ok (.bool true) h36) (Res.ok v35 h36)).bind fun v37 h38 =>
 condV (some v37) (
 .ok (.tuple #[(.slice none 0 0), (.int .i64 0), (.bool false)]) h38)
 (
 (buildSliceR Prog 28 0 [] h38).bind fun v39 h40 =>
 (loopN (swashref05_Rows_l1 k call) loopFuel [(0, a0), (1, a1), (3, a3), (11, v1), (12, v5), (13, v39), (14, (.int .i64 0))] h40).bind fun r41 h42 =>
 swashref05_Rows_l1k k call r41.1 r41.2 h42)
theorem swashref05_Rows_R (k : Nat) (a0 a1 a2 a3 : Value) (h : Heap) : R (T k) F.swashref05_Rows [a0, a1, a2, a3] h = nrm .fz h (swashref05_Rows k (R (T k)) a0 a1 a2 a3 h) :=
 (R_body (t := T k) (T_scott k) (by kernel_rfl) (by kernel_rfl) _ _).trans (by kernel_rfl)
theorem swashref05_Rows_l1_eq (k : Nat) (call : Caller) (a0 a1 a3 a11 a12 a13 a14 : Value) (h : Heap) : swashref05_Rows_l1 k call [(0, a0), (1, a1), (3, a3), (11, a11), (12, a12), (13, a13), (14, a14)] h =
 (binR Prog .lss 3 a14 a12 h).bind fun v43 h44 =>
 condV (some v43) (
 (binR Prog .add 3 a1 (.int .i64 10) h44).bind fun v45 h46 =>
 (binR Prog .mul 3 a14 a11 h46).bind fun v47 h48 =>
 (binR Prog .add 3 v45 v47 h48).bind fun v49 h50 =>
 (buildSliceR Prog 28 1 [(0, v49)] h50).bind fun v51 h52 =>
 (builtinV Prog .append [28, 28] [a13, v51] h52).bind fun v53 h54 =>
 (binR Prog .add 3 a14 (.int .i64 1) h54).bind fun v55 h56 =>
 .ok (.normal, [(0, a0), (1, a1), (3, a3), (11, a11), (12, a12), (13, v53), (14, v55)]) h56)
 (
 .ok ((.exit 0), [(0, a0), (1, a1), (3, a3), (11, a11), (12, a12), (13, a13), (14, a14), (47, v43)]) h44) :=
 (loopB_eq _ _).trans (by kernel_rfl)
theorem swashref05_Rows_l1k_x0 (k : Nat) (call : Caller) (a0 a1 a3 a11 a12 a13 a14 a47 : Value) (h : Heap) : swashref05_Rows_l1k k call (.exit 0) [(0, a0), (1, a1), (3, a3), (11, a11), (12, a12), (13, a13), (14, a14), (47, a47)] h =
 (binR Prog .gtr 3 a12 (.int .i64 0) h).bind fun v57 h58 =>
 condV (some v57) (
 (loopN (swashref05_Rows_l2 k call) loopFuel [(0, a0), (3, a3), (11, a11), (12, a12), (13, a13), (15, (.bool true)), (16, (.int .i64 0))] h58).bind fun r59 h60 =>
 swashref05_Rows_l2k k call r59.1 r59.2 h60)
 (
 swashref05_Rows_j1 k call a0 a3 a11 a12 a13 v57 h58) := by kernel_rfl
theorem swashref05_Rows_j1_eq (k : Nat) (call : Caller) (a0 a3 a11 a12 a13 a60 : Value) (h : Heap) : swashref05_Rows_j1 k call a0 a3 a11 a12 a13 a60 h =
 .ok (.tuple #[a13, a11, (.bool true)]) h := by kernel_rfl
theorem swashref05_Rows_l2_eq (k : Nat) (call : Caller) (a0 a3 a11 a12 a13 a15 a16 : Value) (h : Heap) : swashref05_Rows_l2 k call [(0, a0), (3, a3), (11, a11), (12, a12), (13, a13), (15, a15), (16, a16)] h =
 (binR Prog .lss 3 a16 a3 h).bind fun v61 h62 =>
 condV (some v61) (
 ((bif wantVal a15 true then Res.ok a0 h62 else Res.ok undef h62)).bind fun v63 h64 =>
 ((bif wantVal a15 true then Res.ok a13 h64 else Res.ok undef h64)).bind fun v65 h66 =>
 ((bif wantVal a15 true then Res.ok a12 h66 else Res.ok undef h66)).bind fun v67 h68 =>
 ((bif wantVal a15 true then binR Prog .sub 3 v67 (.int .i64 1) h68 else Res.ok undef h68)).bind fun v69 h70 =>
 ((bif wantVal a15 true then indexAddrR Prog 28 v65 v69 h70 else Res.ok undef h70)).bind fun v71 h72 =>
 ((bif wantVal a15 true then loadR Prog 3 v71 h72 else Res.ok undef h72)).bind fun v73 h74 =>
 ((bif wantVal a15 true then Res.ok a16 h74 else Res.ok undef h74)).bind fun v75 h76 =>
 ((bif wantVal a15 true then binR Prog .mul 3 (.int .i64 2) v75 h76 else Res.ok undef h76)).bind fun v77 h78 =>
 ((bif wantVal a15 true then binR Prog .add 3 v73 v77 h78 else Res.ok undef h78)).bind fun v79 h80 =>
 ((bif wantVal a15 true then call F.swashref01_U [v63, v79, (.int .i64 2)] h80 else Res.ok undef h80)).bind fun v81 h82 =>
 ((bif wantVal a15 true then binR Prog .eql 3 v81 (.int .i64 65535) h82 else Res.ok undef h82)).bind fun v83 h84 =>
 (condV (some a15) (Res.ok v83 h84) (Res.ok (.bool false) h84)).bind fun v85 h86 =>
 (binR Prog .add 3 a16 (.int .i64 1) h86).bind fun v87 h88 =>
 .ok (.normal, [(0, a0), (3, a3), (11, a11), (12, a12), (13, a13), (15, v85), (16, v87)]) h88)
 (
 .ok ((.exit 2), [(0, a0), (3, a3), (11, a11), (12, a12), (13, a13), (15, a15), (16, a16), (63, v61)]) h62) :=
 (loopB_eq _ _).trans (by kernel_rfl)
theorem swashref05_Rows_l2k_x2 (k : Nat) (call : Caller) (a0 a3 a11 a12 a13 a15 a16 a63 : Value) (h : Heap) : swashref05_Rows_l2k k call (.exit 2) [(0, a0), (3, a3), (11, a11), (12, a12), (13, a13), (15, a15), (16, a16), (63, a63)] h =
 condV (some a15) (
 (binR Prog .sub 3 a12 (.int .i64 1) h).bind fun v89 h90 =>
 (sliceR Prog 28 a13 none (some v89) none h90).bind fun v91 h92 =>
 swashref05_Rows_j2 k call a11 v91 h92)
 (
 swashref05_Rows_j3 k call a11 a12 a13 a15 h) := by kernel_rfl
theorem swashref05_Rows_j2_eq (k : Nat) (call : Caller) (a11 a13 : Value) (h : Heap) : swashref05_Rows_j2 k call a11 a13 h =
 .ok (.tuple #[a13, a11, (.bool true)]) h := by kernel_rfl
theorem swashref05_Rows_j3_eq (k : Nat) (call : Caller) (a11 a12 a13 a80 : Value) (h : Heap) : swashref05_Rows_j3 k call a11 a12 a13 a80 h =
 .ok (.tuple #[a13, a11, (.bool true)]) h := by kernel_rfl
end
end Go.Sw
end
section
namespace Go.Sw
open Go.RowKit
def rowsO (b : List Int) (i need : Int) (keys : Nat) : Value := match takeS b i need keys with
 | some rows => .tuple #[lv encI (posS i (gU b i 2) rows.length), .int .i64 (gU b i 2), .bool true]
 | none => .tuple #[lv encI [], .int .i64 0, .bool false]
theorem rowsO_flat (b : List Int) (i need : Int) (keys : Nat) : Flat (rowsO b i need keys) := by
 unfold rowsO
 split
 ·exact .tupleL (.cons (Flat.I _) (.cons (.int _ _) (.cons (.bool _) .nil)))
 ·exact .tupleL (.cons (Flat.I _) (.cons (.int _ _) (.cons (.bool _) .nil)))
theorem inS_piece {b : List Int} {i n : Int} : (pieceS b i n).isSome = inS b.length i n := by
 unfold pieceS inS
 split
 ·rename_i h; rw [decide_eq_true h]; rfl
 ·rename_i h; rw [decide_eq_false h]; rfl
theorem uS_of_in {b : List Int} {i n : Int} (h : inS b.length i n = true) : ∃ x, uS b i n = some x := by
 rw [← inS_piece, Option.isSome_iff_exists] at h
 obtain ⟨r, hr⟩ := h
 exact ⟨num r, by unfold uS; rw [hr]; rfl⟩
theorem posS_take (i z : Int) (n j : Nat) (h : j ≤ n) : (posS i z n).take j = posS i z j := by
 unfold posS
 rw [← List.map_take, List.take_range, Nat.min_eq_left h]
theorem posS_snoc (i z : Int) (n : Nat) : posS i z (n + 1) = posS i z n ++ [i + 10 + z * (n : Nat)] := by simp [posS, List.range_succ]
theorem rows05_run (k : Nat) (b : List Int) (hb : Byt b) (i need : Int) (keys : Nat) (hl : b.length < 2 ^ 31) (hi0 : 0 ≤ i) (hi : i < 65536) (hneed : 0 < need) (hk : 2 * (keys : Int) ≤ need) (H : Heap) :
  R (T k) F.swashref05_Rows [lv encB b, .int .i64 i, .int .i64 need, .int .i64 keys] H = .ok (rowsO b i need keys) H := by
 rw [swashref05_Rows_R]
 have hU := fun j H' => refU_run k (H := H') (Sl.lv H' 1 b) hb j 2 (by omega) (by omega)
 have hIn := fun H' => refIn_run k b.length i 10 (by omega) (by omega) H'
 have hnil : ∃ L, fzV H.n H fzDepth (.tuple #[.slice none 0 0, .int .i64 0, .bool false]) = some (.tuple #[lv encI [], .int .i64 0, .bool false], L) := ⟨_, rfl⟩
 obtain ⟨L0, hnil⟩ := hnil
 have hno : takeS b i need keys = none → swashref05_Rows k (R (T k)) (lv encB b) (.int .i64 i) (.int .i64 need) (.int .i64 keys) H = .ok (.tuple #[.slice none 0 0, .int .i64 0, .bool false]) H → nrm .fz H (swashref05_Rows k (R (T k)) (lv encB b) (.int .i64 i) (.int .i64 need) (.int .i64 keys) H) = .ok (rowsO b i need keys) H := fun h1 h2 => by
  have fl := rowsO_flat b i need keys
  unfold rowsO at fl ⊢
  rw [h1] at fl ⊢
  exact nrm_fz h2 hnil (Ext.refl H) fl.alive
 cases hin : inS b.length i 10 with
 | false =>
  have hp : pieceS b i 10 = none := by
   have := inS_piece (b := b) (i := i) (n := 10)
   rw [hin] at this
   simpa using this
  refine hno (by unfold takeS; rw [hp]; split <;> simp) ?_
  rw [hin] at hIn
  have hg1 : -1 ≤ (uS b i 2).getD (-1) ∧ (uS b i 2).getD (-1) < 65536 := gU_two hb i
  have hg2 : -1 ≤ (uS b (i + 2) 2).getD (-1) ∧ (uS b (i + 2) 2).getD (-1) < 65536 := gU_two hb (i + 2)
  simp -implicitDefEqProofs (disch := omega) [swashref05_Rows, hU, hIn]
 | true =>
  rw [hin] at hIn
  have hin' : 0 ≤ i ∧ 0 ≤ (10 : Int) ∧ i ≤ b.length ∧ 10 ≤ b.length - i := of_decide_eq_true hin
  obtain ⟨z, hz⟩ := uS_of_in (b := b) (i := i) (n := 2) (by unfold inS; exact decide_eq_true (by omega))
  obtain ⟨n, hn⟩ := uS_of_in (b := b) (i := i + 2) (n := 2) (by unfold inS; exact decide_eq_true (by omega))
  have hz2 := uS_two hb hz
  have hn2 := uS_two hb hn
  have hu1 := fun H' => hU i H'
  have hu2 := fun H' => hU (i + 2) H'
  rw [hz] at hu1
  rw [hn] at hu2
  simp only [Option.getD_some] at hu1 hu2
  have hpc : (pieceS b i 10).isSome = true := by rw [inS_piece]; exact hin
  by_cases hnz : need ≤ z
  rotate_left
  ·refine hno (by unfold takeS; rw [hz, hn]; simp [hnz]) ?_
   have : z < need := by omega
   simp -implicitDefEqProofs (disch := omega) [swashref05_Rows, hu1, hu2, hIn, this]
  have hnz' : ¬ z < need := by omega
  have hRows := fun H' => refRows_run k b.length (i + 10) n z (by omega) (by omega) H'
  cases hrb : rowsB b.length (i + 10) n z with
  | false =>
   have hrs : rowsS b (i + 10) n z = none := by
    cases h : rowsS b (i + 10) n z with
    | none => rfl
    | some r =>
     have := (rowsB_iff (by omega)).2 ((rowsS_iff (by omega)).1 h).1
     rw [hrb] at this; cases this
   rw [hrb] at hRows
   refine hno (by unfold takeS; rw [hz, hn]; simp [hrs]) ?_
   simp -implicitDefEqProofs (disch := omega) [swashref05_Rows, hu1, hu2, hIn, hnz', hRows]
  | true =>
   rw [hrb] at hRows
   have hrs := (rowsS_iff (r := (b.drop (i + 10).toNat).take (n * z).toNat) (by omega)).2 ⟨(rowsB_iff (by omega)).1 hrb, rfl⟩
   obtain ⟨r, hr⟩ : ∃ r, r = (b.drop (i + 10).toNat).take (n * z).toNat := ⟨_, rfl⟩
   rw [← hr] at hrs
   have htake : takeS b i need keys = some (endRows r z.toNat n.toNat keys) := by unfold takeS; rw [hz, hn]; simp [hpc, hnz, hrs]
   obtain ⟨n, rfl⟩ := Int.eq_ofNat_of_zero_le hn2.1
   have hzn : (z.toNat : Int) = z := by omega
   -- the rows' places
   obtain ⟨x, e', H1, hr1, rfl, ⟨a, s, rfl, ho⟩, hx⟩ := loop_up (body := swashref05_Rows_l1 k (R (T k))) n
    (fun j e H' => (∃ s, e = [(0, lv encB b), (1, .int .i64 i), (3, .int .i64 keys), (11, .int .i64 z), (12, .int .i64 n), (13, s), (14, .int .i64 j)] ∧ Own H H' 1 s encI (posS i z j)) ∧ Ext H H')
    (fun x e H' => x = .exit 0 ∧ (∃ a s, e = [(0, lv encB b), (1, .int .i64 i), (3, .int .i64 keys), (11, .int .i64 z), (12, .int .i64 n), (13, s), (14, .int .i64 n), (47, a)] ∧ Own H H' 1 s encI (posS i z n)) ∧ Ext H H')
    (e0 := [(0, lv encB b), (1, .int .i64 i), (3, .int .i64 keys), (11, .int .i64 z), (12, .int .i64 n), (13, bareV), (14, .int .i64 0)]) (H0 := H) ⟨⟨_, rfl, Own.bare _ _ _⟩, Ext.refl H⟩ (by omega)
    (fun j e H' hj ⟨⟨s, he, ho⟩, hx⟩ => by
     subst he
     have hlt : (j : Int) < n := by omega
     have hjz : (j : Int) * z ≤ 65536 * 65536 := Int.mul_le_mul (by omega) (by omega) (by omega) (by omega)
     have hjz0 : 0 ≤ (j : Int) * z := Int.mul_nonneg (by omega) (by omega)
     obtain ⟨s2, H2, e2, o2, x2⟩ := ap1_own (bytes := 8) encI_len ho hx (i + 10 + z * (j : Nat)) (by simp; omega) (by decide)
     rw [← posS_snoc] at o2
     rw [Int.mul_comm z] at e2
     refine .inl ⟨_, H2, ?_, ⟨s2, rfl, o2⟩, x2⟩
     rw [swashref05_Rows_l1_eq]
     simp -implicitDefEqProofs (disch := omega) [hlt, e2])
    (fun e H' ⟨⟨s, he, ho⟩, hx⟩ => by
     subst he
     refine ⟨.exit 0, _, H', ?_, by simp, rfl, ⟨.bool false, s, rfl, ho⟩, hx⟩
     rw [swashref05_Rows_l1_eq]
     simp -implicitDefEqProofs)
   have hgu : gU b i 2 = z := gU_some hz
   have fl := rowsO_flat b i need keys
   unfold rowsO at fl ⊢
   rw [htake, hgu] at fl ⊢
   dsimp only at fl ⊢
   by_cases hn0 : n = 0
   ·subst hn0
    obtain ⟨L, hf⟩ := ho.freeze encI_len (encI_still _) 5
    have e2 : (endRows r z.toNat (Int.toNat ((0 : Nat) : Int)) keys).length = 0 := by simp [endRows]
    rw [e2] at fl ⊢
    refine nrm_fz (v := .tuple #[s, .int .i64 z, .bool true]) (H' := H1) ?_ (fz_tuple (l := [s, .int .i64 z, .bool true]) (mapF_cons hf (mapF_cons (L1 := []) rfl (mapF_one (L := []) rfl)))) hx fl.alive
    simp at hr1 hRows
    simp -implicitDefEqProofs (disch := omega) [swashref05_Rows, hu1, hu2, hIn, hnz', hRows, hr1, swashref05_Rows_l1k_x0, swashref05_Rows_j1_eq]
   ·have hgt : 0 < n := by omega
    obtain ⟨z, rfl⟩ := Int.eq_ofNat_of_zero_le hz2.1
    simp only [Int.toNat_natCast] at *
    have hrow := rowsS_row hrs (j := n - 1) (by omega)
    obtain ⟨row, hrowd⟩ : ∃ row, row = (r.drop (z * (n - 1))).take z := ⟨_, rfl⟩
    rw [← hrowd] at hrow
    have hlast := posS_get i z n (n - 1) (by omega)
    obtain ⟨bk, hsk, hbk, hgk, _⟩ := ixS_own ho .i64 (n - 1) (by simp; omega) H1
    rw [posS_len] at hsk
    have hixk : ∀ H'', ixS 1 s (.int .i64 ((n : Int) - 1)) H'' = .ok (.pointer (some ⟨bk, (n - 1) * 1, none⟩)) H'' := fun H'' => by
     rw [hsk, show ((n : Int) - 1) = ((n - 1 : Nat) : Int) by omega]
     have := ixS_slice 1 bk 0 n n .i64 (n - 1) H'' (by omega)
     simpa using this
    have hld := ld1_row encI_len hgk (c := 0) hlast (by decide) rfl
    simp only [Nat.add_zero, Nat.mul_one] at hld hixk
    have hp0 : 0 ≤ i + 10 + (z : Int) * ((n - 1 : Nat) : Int) ∧ i + 10 + (z : Int) * ((n - 1 : Nat) : Int) < 2 ^ 34 := by
     have := Int.mul_nonneg (show (0 : Int) ≤ z by omega) (show (0 : Int) ≤ ((n - 1 : Nat) : Int) by omega)
     have : (z : Int) * ((n - 1 : Nat) : Int) ≤ 65536 * 65536 := Int.mul_le_mul (by omega) (by omega) (by omega) (by omega)
     omega
    generalize i + 10 + (z : Int) * ((n - 1 : Nat) : Int) = p at hrow hld hp0
    obtain ⟨x, e', H2, hr2, rfl, rfl, a2, rfl⟩ := loop_up (body := swashref05_Rows_l2 k (R (T k))) keys
     (fun j e H' => H' = H1 ∧ e = [(0, lv encB b), (3, .int .i64 keys), (11, .int .i64 z), (12, .int .i64 n), (13, s), (15, .bool ((List.range j).all fun q => uS row (2 * q) 2 == some 65535)), (16, .int .i64 j)])
     (fun x e H' => H' = H1 ∧ x = .exit 2 ∧ ∃ a, e = [(0, lv encB b), (3, .int .i64 keys), (11, .int .i64 z), (12, .int .i64 n), (13, s), (15, .bool (noneS row keys)), (16, .int .i64 keys), (63, a)])
     (e0 := [(0, lv encB b), (3, .int .i64 keys), (11, .int .i64 z), (12, .int .i64 n), (13, s), (15, .bool true), (16, .int .i64 0)]) (H0 := H1) ⟨rfl, rfl⟩ (by omega)
     (fun j e H' hj ⟨hH, he⟩ => by
      subst he hH
      have hlt : (j : Int) < keys := by omega
      refine .inl ⟨_, _, ?_, rfl, rfl⟩
      rw [swashref05_Rows_l2_eq, List.range_succ, List.all_append]
      cases hall : (List.range j).all fun q => uS row (2 * q) 2 == some 65535 with
      | false => simp -implicitDefEqProofs (disch := omega) [hlt]
      | true =>
       have hsub := uS_sub hrow (x := 2 * j) (y := 2) (by omega) (by omega) (by omega)
       have hu := hU (p + 2 * j)
       rw [← hsub] at hu
       obtain ⟨y, hy⟩ : ∃ y, uS row (2 * j) 2 = some y := by
        obtain ⟨y, hy⟩ := (row_two hrow (x := 2 * j) (y := 2) (by omega) (by omega) (by omega)).2
        exact ⟨y, by rw [hsub, hy]⟩
       rw [hy] at hu
       simp -implicitDefEqProofs (disch := omega) [hlt]
       rw [hixk]
       simp -implicitDefEqProofs (disch := omega) [hlt, hld, hu, hy])
     (fun e H' ⟨hH, he⟩ => by
      subst he hH
      refine ⟨.exit 2, _, _, ?_, by simp, rfl, rfl, .bool false, rfl⟩
      rw [swashref05_Rows_l2_eq]
      simp -implicitDefEqProofs [noneS])
    obtain ⟨bf, L, hsf, hf⟩ := ho.freeze_take encI_len (encI_still _) 5 (endRows r z n keys).length (by unfold endRows; split <;> simp) (by simp; omega)
    rw [posS_len] at hsf
    have hbf : bk = bf := by rw [hsk] at hsf; simpa using hsf
    subst hbf
    rw [posS_take _ _ _ _ (by unfold endRows; split <;> simp)] at hf
    cases hno : noneS row keys with
    | false =>
     rw [hno] at hr2
     have e2 : (endRows r z n keys).length = n := by unfold endRows; rw [← hrowd, hno]; simp
     rw [e2] at hf fl ⊢
     refine nrm_fz (v := .tuple #[s, .int .i64 z, .bool true]) (H' := H2) ?_ (fz_tuple (l := [s, .int .i64 z, .bool true]) (mapF_cons (by rw [hsk]; exact hf n) (mapF_cons (L1 := []) rfl (mapF_one (L := []) rfl)))) hx fl.alive
     simp -implicitDefEqProofs (disch := omega) [swashref05_Rows, hu1, hu2, hIn, hnz', hRows, hr1, swashref05_Rows_l1k_x0, hgt, hr2, swashref05_Rows_l2k_x2, swashref05_Rows_j3_eq]
    | true =>
     rw [hno] at hr2
     have e2 : (endRows r z n keys).length = n - 1 := by unfold endRows; rw [← hrowd, hno, if_pos ⟨by omega, rfl⟩]; simp
     rw [e2] at hf fl ⊢
     have hsl := slS_own hgk .i64 (n - 1) (by simp)
     rw [posS_len, show (((n - 1 : Nat)) : Int) = (n : Int) - 1 by omega] at hsl
     refine nrm_fz (v := .tuple #[.slice (some ⟨bk, 0, none⟩) (n - 1) n, .int .i64 z, .bool true]) (H' := H2) ?_ (fz_tuple (l := [.slice (some ⟨bk, 0, none⟩) (n - 1) n, .int .i64 z, .bool true]) (mapF_cons (hf n) (mapF_cons (L1 := []) rfl (mapF_one (L := []) rfl)))) hx fl.alive
     subst hsk
     simp -implicitDefEqProofs (disch := omega) [swashref05_Rows, hu1, hu2, hIn, hnz', hRows, hr1, swashref05_Rows_l1k_x0, hgt, hr2, swashref05_Rows_l2k_x2, hsl, swashref05_Rows_j2_eq]
end Go.Sw
end
section
set_option maxRecDepth 100000
set_option linter.unusedVariables false
namespace Go.Sw
noncomputable section
def swashref06_Read_l1 (k : Nat) (call : Caller) : Env → Heap → Res (AExit × Env) := loopB (C k) call F.swashref06_Read [1, 1, 0, 1, 0, 0]
def swashref06_Read_l1k (k : Nat) (call : Caller) : Kont Value := kBlock 0 (kSeq (pieceK (C k) call F.swashref06_Read [1, 1, 1]) (kDone Prog (resOf Prog F.swashref06_Read)))
def swashref06_Read_j1 (k : Nat) (call : Caller) (a0 a6 a8 a9 a10 : Value) (h : Heap) : Res (AExit × Env) :=
 kSeq (pieceK (C k) call F.swashref06_Read [1, 1, 0, 1, 0, 0, 1, 1]) (kRound (ownOf (C k) F.swashref06_Read [1, 1, 0, 1, 0, 0])) .normal [(0, a0), (6, a6), (8, a8), (9, a9), (10, a10)] h
def swashref06_Read_j2 (k : Nat) (call : Caller) (a0 a6 a8 a9 a10 a52 : Value) (h : Heap) : Res (AExit × Env) :=
 kSeq (pieceK (C k) call F.swashref06_Read [1, 1, 0, 1, 0, 0, 1, 1]) (kRound (ownOf (C k) F.swashref06_Read [1, 1, 0, 1, 0, 0])) .normal [(0, a0), (6, a6), (8, a8), (9, a9), (10, a10), (52, a52)] h
def swashref06_Read (k : Nat) (call : Caller) (a0 a1 a2 : Value) (h : Heap) : Res Value :=
 (allocR Prog 88 h).bind fun v1 h2 =>
 (call F.swashref06_parts [a0, a1, a2] h2).bind fun v3 h4 =>
 (extractR v3 0 h4).bind fun v5 h6 =>
 (extractR v3 1 h6).bind fun v7 h8 =>
 (loopN (swashref06_Read_l1 k call) loopFuel [(0, a0), (6, v1), (8, v5), (9, v7), (10, (.int .i64 0))] h8).bind fun r9 h10 =>
 swashref06_Read_l1k k call r9.1 r9.2 h10
theorem swashref06_Read_R (k : Nat) (a0 a1 a2 : Value) (h : Heap) : R (T k) F.swashref06_Read [a0, a1, a2] h = nrm .fz h (swashref06_Read k (R (T k)) a0 a1 a2 h) :=
 (R_body (t := T k) (T_scott k) (by kernel_rfl) (by kernel_rfl) _ _).trans (by kernel_rfl)
theorem swashref06_Read_l1_eq (k : Nat) (call : Caller) (a0 a6 a8 a9 a10 : Value) (h : Heap) : swashref06_Read_l1 k call [(0, a0), (6, a6), (8, a8), (9, a9), (10, a10)] h =
 (builtinV Prog .len [86] [a8] h).bind fun v11 h12 =>
 (binR Prog .lss 3 a10 v11 h12).bind fun v13 h14 =>
 condV (some v13) (
 (indexAddrR Prog 86 a8 a10 h14).bindN fun v15 h16 =>
 (fieldAddrR Prog 244 v15 0 h16).bindN fun v17 h18 =>
 (loadR Prog 3 v17 h18).bindN fun v19 h20 =>
 (indexAddrR Prog 86 a8 a10 h20).bindN fun v21 h22 =>
 (fieldAddrR Prog 244 v21 1 h22).bindN fun v23 h24 =>
 (loadR Prog 3 v23 h24).bindN fun v25 h26 =>
 (binR Prog .gtr 3 v19 v25 h26).bindN fun v27 h28 =>
 ((bif wantVal v27 false then Res.ok a10 h28 else Res.ok undef h28)).bindN fun v29 h30 =>
 ((bif wantVal v27 false then binR Prog .gtr 3 v29 (.int .i64 0) h30 else Res.ok undef h30)).bindN fun v31 h32 =>
 ((bif wantVal v27 false then Res.ok v31 h32 else Res.ok undef h32)).bindN fun v33 h34 =>
 ((bif wantVal v33 true then Res.ok a8 h34 else Res.ok undef h34)).bindN fun v35 h36 =>
 ((bif wantVal v33 true then Res.ok a10 h36 else Res.ok undef h36)).bindN fun v37 h38 =>
 ((bif wantVal v33 true then binR Prog .sub 3 v37 (.int .i64 1) h38 else Res.ok undef h38)).bindN fun v39 h40 =>
 ((bif wantVal v33 true then indexAddrR Prog 86 v35 v39 h40 else Res.ok undef h40)).bindN fun v41 h42 =>
 ((bif wantVal v33 true then fieldAddrR Prog 244 v41 1 h42 else Res.ok undef h42)).bindN fun v43 h44 =>
 ((bif wantVal v33 true then loadR Prog 3 v43 h44 else Res.ok undef h44)).bindN fun v45 h46 =>
 ((bif wantVal v33 true then Res.ok a8 h46 else Res.ok undef h46)).bindN fun v47 h48 =>
 ((bif wantVal v33 true then Res.ok a10 h48 else Res.ok undef h48)).bindN fun v49 h50 =>
 ((bif wantVal v33 true then indexAddrR Prog 86 v47 v49 h50 else Res.ok undef h50)).bindN fun v51 h52 =>
 ((bif wantVal v33 true then fieldAddrR Prog 244 v51 0 h52 else Res.ok undef h52)).bindN fun v53 h54 =>
 ((bif wantVal v33 true then loadR Prog 3 v53 h54 else Res.ok undef h54)).bindN fun v55 h56 =>
 ((bif wantVal v33 true then binR Prog .geq 3 v45 v55 h56 else Res.ok undef h56)).bindN fun v57 h58 =>
 ((bif wantVal v27 false then condV (some v33) (Res.ok v57 h58) (Res.ok (.bool false) h58) else Res.ok undef h58)).bindN fun v59 h60 =>
 (condV (some v27) (Res.ok (.bool true) h60) (Res.ok v59 h60)).bindN fun v61 h62 =>
 condV (some v61) (
 swashref06_Read_j1 k call a0 a6 a8 (.bool false) a10 h62)
 (
 swashref06_Read_j2 k call a0 a6 a8 a9 a10 v61 h62))
 (
 .ok ((.exit 0), [(0, a0), (6, a6), (8, a8), (9, a9), (10, a10), (21, v13)]) h14) :=
 (loopB_eq _ _).trans (by kernel_rfl)
theorem swashref06_Read_j1_eq (k : Nat) (call : Caller) (a0 a6 a8 a9 a10 : Value) (h : Heap) : swashref06_Read_j1 k call a0 a6 a8 a9 a10 h =
 (binR Prog .add 3 a10 (.int .i64 1) h).bind fun v63 h64 =>
 .ok (.normal, [(0, a0), (6, a6), (8, a8), (9, a9), (10, v63)]) h64 := by kernel_rfl
theorem swashref06_Read_j2_eq (k : Nat) (call : Caller) (a0 a6 a8 a9 a10 a52 : Value) (h : Heap) : swashref06_Read_j2 k call a0 a6 a8 a9 a10 a52 h =
 (binR Prog .add 3 a10 (.int .i64 1) h).bind fun v65 h66 =>
 .ok (.normal, [(0, a0), (6, a6), (8, a8), (9, a9), (10, v65)]) h66 := by kernel_rfl
theorem swashref06_Read_l1k_x0 (k : Nat) (call : Caller) (a0 a6 a8 a9 a10 a21 : Value) (h : Heap) : swashref06_Read_l1k k call (.exit 0) [(0, a0), (6, a6), (8, a8), (9, a9), (10, a10), (21, a21)] h =
 (unR .not a9 h).bind fun v67 h68 =>
 condV (some v67) (
 (buildR Prog 88 [] h68).bind fun v69 h70 =>
 (storeR Prog 88 a6 v69 h70).bind fun _v71 h72 =>
 (loadR Prog 88 a6 h72).bind fun v73 h74 =>
 .ok (.tuple #[v73, (.bool false)]) h74)
 (
 (buildR Prog 88 [(0, a0), (1, a8)] h68).bind fun v75 h76 =>
 (storeR Prog 88 a6 v75 h76).bind fun _v77 h78 =>
 (loadR Prog 88 a6 h78).bind fun v79 h80 =>
 .ok (.tuple #[v79, (.bool true)]) h80) := by kernel_rfl
def swashref06_Get_l1 (k : Nat) (call : Caller) : Env → Heap → Res (AExit × Env) := loopB (C k) call F.swashref06_Get [1, 0, 1, 0, 0]
def swashref06_Get_l1k (k : Nat) (call : Caller) : Kont Value := kBlock 0 (kSeq (pieceK (C k) call F.swashref06_Get [1, 1]) (kDone Prog (resOf Prog F.swashref06_Get)))
def swashref06_Get (k : Nat) (call : Caller) (a0 a1 : Value) (h : Heap) : Res Value :=
 (boxR a0 h).bind fun v1 h2 =>
 (loopN (swashref06_Get_l1 k call) loopFuel [(1, a1), (2, v1), (6, (.int .i64 0))] h2).bind fun r3 h4 =>
 swashref06_Get_l1k k call r3.1 r3.2 h4
theorem swashref06_Get_R (k : Nat) (a0 a1 : Value) (h : Heap) : R (T k) F.swashref06_Get [a0, a1] h = nrm .gc h (swashref06_Get k (R (T k)) a0 a1 h) :=
 (R_body (t := T k) (T_scott k) (by kernel_rfl) (by kernel_rfl) _ _).trans (by kernel_rfl)
theorem swashref06_Get_l1_eq (k : Nat) (call : Caller) (a1 a2 a6 : Value) (h : Heap) : swashref06_Get_l1 k call [(1, a1), (2, a2), (6, a6)] h =
 (fieldAddrR Prog 88 a2 1 h).bind fun v5 h6 =>
 (loadR Prog 86 v5 h6).bind fun v7 h8 =>
 (builtinV Prog .len [86] [v7] h8).bind fun v9 h10 =>
 (binR Prog .lss 3 a6 v9 h10).bind fun v11 h12 =>
 condV (some v11) (
 (fieldAddrR Prog 88 a2 1 h12).bind fun v13 h14 =>
 (loadR Prog 86 v13 h14).bind fun v15 h16 =>
 (indexAddrR Prog 86 v15 a6 h16).bind fun v17 h18 =>
 (loadR Prog 244 v17 h18).bind fun v19 h20 =>
 (allocR Prog 244 h20).bind fun v21 h22 =>
 (storeR Prog 244 v21 v19 h22).bind fun _v23 h24 =>
 (fieldAddrR Prog 244 v21 0 h24).bind fun v25 h26 =>
 (loadR Prog 3 v25 h26).bind fun v27 h28 =>
 (binR Prog .geq 3 a1 v27 h28).bind fun v29 h30 =>
 ((bif wantVal v29 true then Res.ok a1 h30 else Res.ok undef h30)).bind fun v31 h32 =>
 ((bif wantVal v29 true then fieldAddrR Prog 244 v21 1 h32 else Res.ok undef h32)).bind fun v33 h34 =>
 ((bif wantVal v29 true then loadR Prog 3 v33 h34 else Res.ok undef h34)).bind fun v35 h36 =>
 ((bif wantVal v29 true then binR Prog .leq 3 v31 v35 h36 else Res.ok undef h36)).bind fun v37 h38 =>
 (condV (some v29) (Res.ok v37 h38) (Res.ok (.bool false) h38)).bind fun v39 h40 =>
 condV (some v39) (
 (fieldAddrR Prog 88 a2 0 h40).bind fun v41 h42 =>
 (loadR Prog 65 v41 h42).bind fun v43 h44 =>
 (fieldAddrR Prog 244 v21 2 h44).bind fun v45 h46 =>
 (loadR Prog 3 v45 h46).bind fun v47 h48 =>
 (fieldAddrR Prog 244 v21 0 h48).bind fun v49 h50 =>
 (loadR Prog 3 v49 h50).bind fun v51 h52 =>
 (binR Prog .sub 3 a1 v51 h52).bind fun v53 h54 =>
 (fieldAddrR Prog 244 v21 4 h54).bind fun v55 h56 =>
 (loadR Prog 3 v55 h56).bind fun v57 h58 =>
 (binR Prog .mul 3 v53 v57 h58).bind fun v59 h60 =>
 (binR Prog .add 3 v47 v59 h60).bind fun v61 h62 =>
 (fieldAddrR Prog 244 v21 3 h62).bind fun v63 h64 =>
 (loadR Prog 3 v63 h64).bind fun v65 h66 =>
 (call F.swashref01_U [v43, v61, v65] h66).bind fun v67 h68 =>
 .ok (.ret, [(4, v67), (5, (.bool true))]) h68)
 (
 (binR Prog .add 3 a6 (.int .i64 1) h40).bind fun v69 h70 =>
 .ok (.normal, [(1, a1), (2, a2), (6, v69)]) h70))
 (
 .ok ((.exit 0), [(1, a1), (2, a2), (6, a6), (12, v11)]) h12) :=
 (loopB_eq _ _).trans (by kernel_rfl)
theorem swashref06_Get_l1k_r (k : Nat) (call : Caller) (a4 a5 : Value) (h : Heap) : swashref06_Get_l1k k call .ret [(4, a4), (5, a5)] h =
 .ok (.tuple #[a4, a5]) h := by kernel_rfl
theorem swashref06_Get_l1k_x0 (k : Nat) (call : Caller) (a1 a2 a6 a12 : Value) (h : Heap) : swashref06_Get_l1k k call (.exit 0) [(1, a1), (2, a2), (6, a6), (12, a12)] h =
 .ok (.tuple #[(.int .i64 0), (.bool false)]) h := by kernel_rfl
def swashref06_parts_l1 (k : Nat) (call : Caller) : Env → Heap → Res (AExit × Env) := loopB (C k) call F.swashref06_parts [1, 0, 1, 0, 1, 1, 1, 1, 1, 1, 1, 0, 1, 1, 0, 1, 0, 0]
def swashref06_parts_l1k (k : Nat) (call : Caller) : Kont Value := kBlock 1 (kSeq (pieceK (C k) call F.swashref06_parts [1, 0, 1, 0, 1, 1, 1, 1, 1, 1, 1, 0, 1, 1, 1]) (kBlock 0 (kSeq (pieceK (C k) call F.swashref06_parts [1, 1]) (kDone Prog (resOf Prog F.swashref06_parts)))))
def swashref06_parts (k : Nat) (call : Caller) (a0 a1 a2 : Value) (h : Heap) : Res Value :=
 (call F.swashref01_U [a0, (.int .i64 0), (.int .i64 2)] h).bind fun v1 h2 =>
 (binR Prog .eql 3 v1 (.int .i64 0) h2).bind fun v3 h4 =>
 condV (some v3) (
 (binR Prog .sub 3 a1 (.int .i64 1) h4).bind fun v5 h6 =>
 (buildR Prog 244 [(0, (.int .i64 0)), (1, v5), (2, (.int .i64 2)), (3, a2), (4, a2)] h6).bind fun v7 h8 =>
 (buildSliceR Prog 86 1 [(0, v7)] h8).bind fun v9 h10 =>
 (builtinV Prog .len [65] [a0] h10).bind fun v11 h12 =>
 (call F.swashref01_Rows [v11, (.int .i64 2), a1, a2] h12).bind fun v13 h14 =>
 .ok (.tuple #[v9, v13]) h14)
 (
 (binR Prog .eql 3 v1 (.int .i64 2) h4).bind fun v15 h16 =>
 condV (some v15) (
 (call F.swashref06_segments [a0, a2, (.bool false)] h16).bind fun v17 h18 =>
 (extractR v17 0 h18).bind fun v19 h20 =>
 (extractR v17 1 h20).bind fun v21 h22 =>
 .ok (.tuple #[v19, v21]) h22)
 (
 (binR Prog .eql 3 v1 (.int .i64 4) h16).bind fun v23 h24 =>
 condV (some v23) (
 (call F.swashref06_segments [a0, a2, (.bool true)] h24).bind fun v25 h26 =>
 (extractR v25 0 h26).bind fun v27 h28 =>
 (extractR v25 1 h28).bind fun v29 h30 =>
 .ok (.tuple #[v27, v29]) h30)
 (
 (binR Prog .eql 3 v1 (.int .i64 6) h24).bind fun v31 h32 =>
 condV (some v31) (
 (binR Prog .add 3 (.int .i64 2) a2 h32).bind fun v33 h34 =>
 (call F.swashref05_Rows [a0, (.int .i64 2), v33, (.int .i64 1)] h34).bind fun v35 h36 =>
 (extractR v35 0 h36).bind fun v37 h38 =>
 (extractR v35 1 h38).bind fun v39 h40 =>
 (extractR v35 2 h40).bind fun v41 h42 =>
 (buildSliceR Prog 86 0 [] h42).bind fun v43 h44 =>
 (loopN (swashref06_parts_l1 k call) loopFuel [(0, a0), (2, a2), (8, v37), (10, v41), (11, v43), (12, (.int .i64 0))] h44).bind fun r45 h46 =>
 swashref06_parts_l1k k call r45.1 r45.2 h46)
 (
 (binR Prog .eql 3 v1 (.int .i64 8) h32).bind fun v47 h48 =>
 condV (some v47) (
 (call F.swashref06_trimmed [a0, (.int .i64 2), a2] h48).bind fun v49 h50 =>
 (extractR v49 0 h50).bind fun v51 h52 =>
 (extractR v49 1 h52).bind fun v53 h54 =>
 .ok (.tuple #[v51, v53]) h54)
 (
 (binR Prog .eql 3 v1 (.int .i64 10) h48).bind fun v55 h56 =>
 condV (some v55) (
 (call F.swashref01_U [a0, (.int .i64 2), (.int .i64 2)] h56).bind fun v57 h58 =>
 (binR Prog .neq 3 v57 (.int .i64 1) h58).bind fun v59 h60 =>
 ((bif wantVal v59 true then Res.ok v57 h60 else Res.ok undef h60)).bind fun v61 h62 =>
 ((bif wantVal v59 true then binR Prog .neq 3 v61 (.int .i64 2) h62 else Res.ok undef h62)).bind fun v63 h64 =>
 (condV (some v59) (Res.ok v63 h64) (Res.ok (.bool false) h64)).bind fun v65 h66 =>
 ((bif wantVal v65 true then Res.ok v57 h66 else Res.ok undef h66)).bind fun v67 h68 =>
 ((bif wantVal v65 true then binR Prog .neq 3 v67 (.int .i64 4) h68 else Res.ok undef h68)).bind fun v69 h70 =>
 (condV (some v65) (Res.ok v69 h70) (Res.ok (.bool false) h70)).bind fun v71 h72 =>
 condV (some v71) (
 .ok (.tuple #[(.slice none 0 0), (.bool false)]) h72)
 (
 (call F.swashref06_trimmed [a0, (.int .i64 4), v57] h72).bind fun v73 h74 =>
 (extractR v73 0 h74).bind fun v75 h76 =>
 (extractR v73 1 h76).bind fun v77 h78 =>
 .ok (.tuple #[v75, v77]) h78))
 (
 .ok (.tuple #[(.slice none 0 0), (.bool false)]) h56))))))
theorem swashref06_parts_R (k : Nat) (a0 a1 a2 : Value) (h : Heap) : R (T k) F.swashref06_parts [a0, a1, a2] h = nrm .fz h (swashref06_parts k (R (T k)) a0 a1 a2 h) :=
 (R_body (t := T k) (T_scott k) (by kernel_rfl) (by kernel_rfl) _ _).trans (by kernel_rfl)
theorem swashref06_parts_l1_eq (k : Nat) (call : Caller) (a0 a2 a8 a10 a11 a12 : Value) (h : Heap) : swashref06_parts_l1 k call [(0, a0), (2, a2), (8, a8), (10, a10), (11, a11), (12, a12)] h =
 (builtinV Prog .len [28] [a8] h).bind fun v79 h80 =>
 (binR Prog .lss 3 a12 v79 h80).bind fun v81 h82 =>
 condV (some v81) (
 (indexAddrR Prog 28 a8 a12 h82).bind fun v83 h84 =>
 (loadR Prog 3 v83 h84).bind fun v85 h86 =>
 (call F.swashref01_U [a0, v85, (.int .i64 2)] h86).bind fun v87 h88 =>
 (indexAddrR Prog 28 a8 a12 h88).bind fun v89 h90 =>
 (loadR Prog 3 v89 h90).bind fun v91 h92 =>
 (binR Prog .add 3 v91 (.int .i64 2) h92).bind fun v93 h94 =>
 (buildR Prog 244 [(0, v87), (1, v87), (2, v93), (3, a2)] h94).bind fun v95 h96 =>
 (buildSliceR Prog 86 1 [(0, v95)] h96).bind fun v97 h98 =>
 (builtinV Prog .append [86, 86] [a11, v97] h98).bind fun v99 h100 =>
 (binR Prog .add 3 a12 (.int .i64 1) h100).bind fun v101 h102 =>
 .ok (.normal, [(0, a0), (2, a2), (8, a8), (10, a10), (11, v99), (12, v101)]) h102)
 (
 .ok ((.exit 1), [(0, a0), (2, a2), (8, a8), (10, a10), (11, a11), (12, a12), (58, v81)]) h82) :=
 (loopB_eq _ _).trans (by kernel_rfl)
theorem swashref06_parts_l1k_x1 (k : Nat) (call : Caller) (a0 a2 a8 a10 a11 a12 a58 : Value) (h : Heap) : swashref06_parts_l1k k call (.exit 1) [(0, a0), (2, a2), (8, a8), (10, a10), (11, a11), (12, a12), (58, a58)] h =
 .ok (.tuple #[a11, a10]) h := by kernel_rfl
def swashref06_segments_j1 (k : Nat) (call : Caller) (a0 a1 a2 a8 : Value) (h : Heap) : Res Value :=
 kSeq (pieceK (C k) call F.swashref06_segments [1, 1, 1]) (kDone Prog (resOf Prog F.swashref06_segments)) .normal [(0, a0), (1, a1), (2, a2), (8, a8)] h
def swashref06_segments_j2 (k : Nat) (call : Caller) (a0 a1 a2 a8 a17 : Value) (h : Heap) : Res Value :=
 kSeq (pieceK (C k) call F.swashref06_segments [1, 1, 1]) (kDone Prog (resOf Prog F.swashref06_segments)) .normal [(0, a0), (1, a1), (2, a2), (8, a8), (17, a17)] h
def swashref06_segments_l1 (k : Nat) (call : Caller) : Env → Heap → Res (AExit × Env) := loopB (C k) call F.swashref06_segments [1, 1, 1, 1, 1, 0, 1, 0, 0]
def swashref06_segments_l1k (k : Nat) (call : Caller) : Kont Value := kBlock 0 (kSeq (pieceK (C k) call F.swashref06_segments [1, 1, 1, 1, 1, 1]) (kDone Prog (resOf Prog F.swashref06_segments)))
def swashref06_segments_j3 (k : Nat) (call : Caller) (a0 a1 a2 a9 a11 a12 a13 a14 : Value) (h : Heap) : Res (AExit × Env) :=
 kSeq (pieceK (C k) call F.swashref06_segments [1, 1, 1, 1, 1, 0, 1, 0, 0, 1, 0, 0, 1, 1]) (kBlock 1 (kSeq (pieceK (C k) call F.swashref06_segments [1, 1, 1, 1, 1, 0, 1, 0, 0, 1, 1]) (kRound (ownOf (C k) F.swashref06_segments [1, 1, 1, 1, 1, 0, 1, 0, 0])))) .normal [(0, a0), (1, a1), (2, a2), (9, a9), (11, a11), (12, a12), (13, a13), (14, a14)] h
def swashref06_segments_j4 (k : Nat) (call : Caller) (a0 a1 a2 a9 a11 a12 a13 a14 a55 : Value) (h : Heap) : Res (AExit × Env) :=
 kSeq (pieceK (C k) call F.swashref06_segments [1, 1, 1, 1, 1, 0, 1, 0, 0, 1, 0, 0, 1, 1]) (kBlock 1 (kSeq (pieceK (C k) call F.swashref06_segments [1, 1, 1, 1, 1, 0, 1, 0, 0, 1, 1]) (kRound (ownOf (C k) F.swashref06_segments [1, 1, 1, 1, 1, 0, 1, 0, 0])))) .normal [(0, a0), (1, a1), (2, a2), (9, a9), (11, a11), (12, a12), (13, a13), (14, a14), (55, a55)] h
def swashref06_segments (k : Nat) (call : Caller) (a0 a1 a2 : Value) (h : Heap) : Res Value :=
 (binR Prog .add 3 (.int .i64 4) a1 h).bind fun v1 h2 =>
 condV (some a2) (
 swashref06_segments_j1 k call a0 a1 a2 (.int .i64 6) h2)
 (
 swashref06_segments_j2 k call a0 a1 a2 v1 a2 h2)
theorem swashref06_segments_R (k : Nat) (a0 a1 a2 : Value) (h : Heap) : R (T k) F.swashref06_segments [a0, a1, a2] h = nrm .fz h (swashref06_segments k (R (T k)) a0 a1 a2 h) :=
 (R_body (t := T k) (T_scott k) (by kernel_rfl) (by kernel_rfl) _ _).trans (by kernel_rfl)
theorem swashref06_segments_j1_eq (k : Nat) (call : Caller) (a0 a1 a2 a8 : Value) (h : Heap) : swashref06_segments_j1 k call a0 a1 a2 a8 h =
 (call F.swashref05_Rows [a0, (.int .i64 2), a8, (.int .i64 2)] h).bind fun v3 h4 =>
 (extractR v3 0 h4).bind fun v5 h6 =>
 (extractR v3 1 h6).bind fun v7 h8 =>
 (extractR v3 2 h8).bind fun v9 h10 =>
 (buildSliceR Prog 86 0 [] h10).bind fun v11 h12 =>
 (loopN (swashref06_segments_l1 k call) loopFuel [(0, a0), (1, a1), (2, a2), (9, v5), (11, v9), (12, v11), (13, (.int .i64 0))] h12).bind fun r13 h14 =>
 swashref06_segments_l1k k call r13.1 r13.2 h14 := by kernel_rfl
theorem swashref06_segments_j2_eq (k : Nat) (call : Caller) (a0 a1 a2 a8 a17 : Value) (h : Heap) : swashref06_segments_j2 k call a0 a1 a2 a8 a17 h =
 (call F.swashref05_Rows [a0, (.int .i64 2), a8, (.int .i64 2)] h).bind fun v15 h16 =>
 (extractR v15 0 h16).bind fun v17 h18 =>
 (extractR v15 1 h18).bind fun v19 h20 =>
 (extractR v15 2 h20).bind fun v21 h22 =>
 (buildSliceR Prog 86 0 [] h22).bind fun v23 h24 =>
 (loopN (swashref06_segments_l1 k call) loopFuel [(0, a0), (1, a1), (2, a2), (9, v17), (11, v21), (12, v23), (13, (.int .i64 0))] h24).bind fun r25 h26 =>
 swashref06_segments_l1k k call r25.1 r25.2 h26 := by kernel_rfl
theorem swashref06_segments_l1_eq (k : Nat) (call : Caller) (a0 a1 a2 a9 a11 a12 a13 : Value) (h : Heap) : swashref06_segments_l1 k call [(0, a0), (1, a1), (2, a2), (9, a9), (11, a11), (12, a12), (13, a13)] h =
 (builtinV Prog .len [28] [a9] h).bind fun v27 h28 =>
 (binR Prog .lss 3 a13 v27 h28).bind fun v29 h30 =>
 ((bif wantVal v29 true then Res.ok a11 h30 else Res.ok undef h30)).bind fun v31 h32 =>
 (condV (some v29) (Res.ok v31 h32) (Res.ok (.bool false) h32)).bind fun v33 h34 =>
 condV (some v33) (
 (indexAddrR Prog 28 a9 a13 h34).bindN fun v35 h36 =>
 (loadR Prog 3 v35 h36).bindN fun v37 h38 =>
 (binR Prog .add 3 v37 (.int .i64 2) h38).bindN fun v39 h40 =>
 (call F.swashref01_U [a0, v39, (.int .i64 2)] h40).bindT (fun p43 h44 => (indexAddrR Prog 28 a9 a13 h40).bindN fun v45 h46 => (loadR Prog 3 v45 h46).bindN fun v47 h48 => (indexAddrR Prog 28 a9 a13 h48).bindN fun v49 h50 => (loadR Prog 3 v49 h50).bindN fun v51 h52 => (binR Prog .add 3 v51 (.int .i64 4) h52).bindN fun v53 h54 => (allocR Prog 244 h54).bindN fun v55 h56 => chkR ((okVal (loadR Prog 3 v45 h34) v47 && true) && ((okVal (loadR Prog 3 v49 h34) v51 && (okVal (loadR Prog 3 v49 h56) v51 && true)) && true)) (.panic p43 h44)) fun v41 h42 =>
 (indexAddrR Prog 28 a9 a13 h42).bindN fun v57 h58 =>
 (loadR Prog 3 v57 h58).bindN fun v59 h60 =>
 (call F.swashref01_U [a0, v59, (.int .i64 2)] h60).bindT (fun p63 h64 => (indexAddrR Prog 28 a9 a13 h60).bindN fun v65 h66 => (loadR Prog 3 v65 h66).bindN fun v67 h68 => (binR Prog .add 3 v67 (.int .i64 4) h68).bindN fun v69 h70 => (allocR Prog 244 h70).bindN fun v71 h72 => chkR ((okVal (loadR Prog 3 v57 h34) v59 && true) && ((okVal (loadR Prog 3 v65 h34) v67 && (okVal (loadR Prog 3 v65 h42) v67 && (okVal (loadR Prog 3 v65 h72) v67 && true))) && true)) (.panic p63 h64)) fun v61 h62 =>
 (indexAddrR Prog 28 a9 a13 h62).bindN fun v73 h74 =>
 (loadR Prog 3 v73 h74).bindN fun v75 h76 =>
 (binR Prog .add 3 v75 (.int .i64 4) h76).bindN fun v77 h78 =>
 (buildR Prog 244 [(0, v41), (1, v61), (2, v77), (3, a1)] h78).bindN fun v79 h80 =>
 (allocR Prog 244 h80).bindN fun v81 h82 =>
 (storeR Prog 244 v81 v79 h82).bindN fun _v83 h84 =>
 chkR ((okVal (loadR Prog 3 v57 h34) v59 && true) && ((okVal (loadR Prog 3 v73 h34) v75 && (okVal (loadR Prog 3 v73 h42) v75 && (okVal (loadR Prog 3 v73 h82) v75 && true))) && true)) (
 condV (some a2) (
 (indexAddrR Prog 28 a9 a13 h84).bind fun v85 h86 =>
 (loadR Prog 3 v85 h86).bind fun v87 h88 =>
 (binR Prog .add 3 v87 (.int .i64 4) h88).bind fun v89 h90 =>
 (call F.swashref01_U [a0, v89, (.int .i64 2)] h90).bind fun v91 h92 =>
 (fieldAddrR Prog 244 v81 2 h92).bind fun v93 h94 =>
 (storeR Prog 3 v93 v91 h94).bind fun _v95 h96 =>
 (fieldAddrR Prog 244 v81 4 h96).bind fun v97 h98 =>
 (storeR Prog 3 v97 a1 h98).bind fun _v99 h100 =>
 (builtinV Prog .len [65] [a0] h100).bind fun v101 h102 =>
 (fieldAddrR Prog 244 v81 2 h102).bind fun v103 h104 =>
 (loadR Prog 3 v103 h104).bind fun v105 h106 =>
 (fieldAddrR Prog 244 v81 1 h106).bind fun v107 h108 =>
 (loadR Prog 3 v107 h108).bind fun v109 h110 =>
 (fieldAddrR Prog 244 v81 0 h110).bind fun v111 h112 =>
 (loadR Prog 3 v111 h112).bind fun v113 h114 =>
 (binR Prog .sub 3 v109 v113 h114).bind fun v115 h116 =>
 (binR Prog .add 3 v115 (.int .i64 1) h116).bind fun v117 h118 =>
 (call F.swashref01_Rows [v101, v105, v117, a1] h118).bind fun v119 h120 =>
 swashref06_segments_j3 k call a0 a1 a2 a9 v119 a12 a13 v81 h120)
 (
 swashref06_segments_j4 k call a0 a1 a2 a9 a11 a12 a13 v81 a2 h84)))
 (
 .ok ((.exit 0), [(0, a0), (1, a1), (2, a2), (9, a9), (11, a11), (12, a12), (13, a13), (32, v33)]) h34) :=
 (loopB_eq _ _).trans (by kernel_rfl)
theorem swashref06_segments_j3_eq (k : Nat) (call : Caller) (a0 a1 a2 a9 a11 a12 a13 a14 : Value) (h : Heap) : swashref06_segments_j3 k call a0 a1 a2 a9 a11 a12 a13 a14 h =
 (loadR Prog 244 a14 h).bind fun v121 h122 =>
 (buildSliceR Prog 86 1 [(0, v121)] h122).bind fun v123 h124 =>
 (builtinV Prog .append [86, 86] [a12, v123] h124).bind fun v125 h126 =>
 (binR Prog .add 3 a13 (.int .i64 1) h126).bind fun v127 h128 =>
 .ok (.normal, [(0, a0), (1, a1), (2, a2), (9, a9), (11, a11), (12, v125), (13, v127)]) h128 := by kernel_rfl
theorem swashref06_segments_j4_eq (k : Nat) (call : Caller) (a0 a1 a2 a9 a11 a12 a13 a14 a55 : Value) (h : Heap) : swashref06_segments_j4 k call a0 a1 a2 a9 a11 a12 a13 a14 a55 h =
 (loadR Prog 244 a14 h).bind fun v129 h130 =>
 (buildSliceR Prog 86 1 [(0, v129)] h130).bind fun v131 h132 =>
 (builtinV Prog .append [86, 86] [a12, v131] h132).bind fun v133 h134 =>
 (binR Prog .add 3 a13 (.int .i64 1) h134).bind fun v135 h136 =>
 .ok (.normal, [(0, a0), (1, a1), (2, a2), (9, a9), (11, a11), (12, v133), (13, v135)]) h136 := by kernel_rfl
theorem swashref06_segments_l1k_x0 (k : Nat) (call : Caller) (a0 a1 a2 a9 a11 a12 a13 a32 : Value) (h : Heap) : swashref06_segments_l1k k call (.exit 0) [(0, a0), (1, a1), (2, a2), (9, a9), (11, a11), (12, a12), (13, a13), (32, a32)] h =
 .ok (.tuple #[a12, a11]) h := by kernel_rfl
def swashref06_trimmed (k : Nat) (call : Caller) (a0 a1 a2 : Value) (h : Heap) : Res Value :=
 (call F.swashref01_U [a0, a1, (.int .i64 2)] h).bind fun v1 h2 =>
 (binR Prog .add 3 a1 (.int .i64 2) h2).bind fun v3 h4 =>
 (call F.swashref01_U [a0, v3, (.int .i64 2)] h4).bind fun v5 h6 =>
 (binR Prog .lss 3 v1 (.int .i64 0) h6).bind fun v7 h8 =>
 ((bif wantVal v7 false then Res.ok v5 h8 else Res.ok undef h8)).bind fun v9 h10 =>
 ((bif wantVal v7 false then binR Prog .lss 3 v9 (.int .i64 0) h10 else Res.ok undef h10)).bind fun v11 h12 =>
 (condV (some v7) (Res.ok (.bool true) h12) (Res.ok v11 h12)).bind fun v13 h14 =>
 ((bif wantVal v13 false then Res.ok v1 h14 else Res.ok undef h14)).bind fun v15 h16 =>
 ((bif wantVal v13 false then Res.ok v5 h16 else Res.ok undef h16)).bind fun v17 h18 =>
 ((bif wantVal v13 false then binR Prog .add 3 v15 v17 h18 else Res.ok undef h18)).bind fun v19 h20 =>
 ((bif wantVal v13 false then binR Prog .gtr 3 v19 (.int .i64 65536) h20 else Res.ok undef h20)).bind fun v21 h22 =>
 (condV (some v13) (Res.ok (.bool true) h22) (Res.ok v21 h22)).bind fun v23 h24 =>
 ((bif wantVal v23 false then Res.ok a0 h24 else Res.ok undef h24)).bind fun v25 h26 =>
 ((bif wantVal v23 false then builtinV Prog .len [65] [v25] h26 else Res.ok undef h26)).bind fun v27 h28 =>
 ((bif wantVal v23 false then Res.ok a1 h28 else Res.ok undef h28)).bind fun v29 h30 =>
 ((bif wantVal v23 false then binR Prog .add 3 v29 (.int .i64 4) h30 else Res.ok undef h30)).bind fun v31 h32 =>
 ((bif wantVal v23 false then Res.ok v5 h32 else Res.ok undef h32)).bind fun v33 h34 =>
 ((bif wantVal v23 false then Res.ok a2 h34 else Res.ok undef h34)).bind fun v35 h36 =>
 ((bif wantVal v23 false then call F.swashref01_Rows [v27, v31, v33, v35] h36 else Res.ok undef h36)).bind fun v37 h38 =>
 ((bif wantVal v23 false then unR .not v37 h38 else Res.ok undef h38)).bind fun v39 h40 =>
 (condV (some v23) (Res.ok (.bool true) h40) (Res.ok v39 h40)).bind fun v41 h42 =>
 condV (some v41) (
 .ok (.tuple #[(.slice none 0 0), (.bool false)]) h42)
 (
 (binR Prog .eql 3 v5 (.int .i64 0) h42).bind fun v43 h44 =>
 condV (some v43) (
 (buildSliceR Prog 86 0 [] h44).bind fun v45 h46 =>
 .ok (.tuple #[v45, (.bool true)]) h46)
 (
 (binR Prog .add 3 v1 v5 h44).bind fun v47 h48 =>
 (binR Prog .sub 3 v47 (.int .i64 1) h48).bind fun v49 h50 =>
 (binR Prog .add 3 a1 (.int .i64 4) h50).bind fun v51 h52 =>
 (buildR Prog 244 [(0, v1), (1, v49), (2, v51), (3, a2), (4, a2)] h52).bind fun v53 h54 =>
 (buildSliceR Prog 86 1 [(0, v53)] h54).bind fun v55 h56 =>
 .ok (.tuple #[v55, (.bool true)]) h56))
theorem swashref06_trimmed_R (k : Nat) (a0 a1 a2 : Value) (h : Heap) : R (T k) F.swashref06_trimmed [a0, a1, a2] h = nrm .fz h (swashref06_trimmed k (R (T k)) a0 a1 a2 h) :=
 (R_body (t := T k) (T_scott k) (by kernel_rfl) (by kernel_rfl) _ _).trans (by kernel_rfl)
end
end Go.Sw
end
