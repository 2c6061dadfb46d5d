/-
  Functions' forms, and what is proved of them, part 8.
-/
import Derived.Test.YtnaodjnimkndbabSwW7
import Derived.Test.YtnaodjnimkndbabSwW6
import Derived.Test.YtnaodjnimkndbabSwW5
import Derived.Test.YtnaodjnimkndbabSwW3
import Derived.Test.YtnaodjnimkndbabSwLib8
import Derived.Eval
set_option linter.unusedSimpArgs false
set_option linter.unusedVariables false
set_option linter.unusedSectionVars false
section
namespace Go.Sw
open Go.RowKit
theorem veq_liga (t : LTab) : veq (ligaV t) (ligaV t) = true := veq_boxV (l := ligaC t) fun v hv => by
 simp [ligaC] at hv
 rcases hv with rfl | rfl | rfl | rfl
 ·exact veq_mach _
 ·exact veq_B _
 ·exact veq_B _
 ·exact veq_B _
def ligaW (t : LTab) (L : List It) (il c p3 p4 cp : Nat) (o : Option Nat) (s : List Gl × List Int) (ob : Option Nat) : List It :=
 L.set il (itLine c o s.1) ++ [itLP cp ob s.2, itBlk p3 ⟨[ptrV c], 1, false⟩, itBlk p4 ⟨[ligaV t], 1, false⟩]
set_option maxHeartbeats 2000000 in
theorem liga_do (k : Nat) (t : LTab) (ht : t.ok) (L : List It) (il c p3 p4 cp : Nat) (o : Option Nat) (hil : il < L.length) (n : Int) {H0 : Heap} :
  DoOkG k t.m H0 (ligaW t L il c p3 p4 cp o) (fun s => (s.1.length : Int) = n ∧ KeptOk n s.2) (.func (.func F.liga_Table_Run_in1) #[] #[ptrV p3, ptrV cp, ptrV p4]) (doLi t) := by
 intro s w j e H X hI st h0 h1 he
 have hlen' := doLi_len t s j e
 have hkept' := doLi_kept t hI.1 hI.2 h0 e
 obtain ⟨l, ps⟩ := s
 dsimp only at hI hlen' hkept'
 have heb := ht.m.ent e he
 have hhas := ht.has e he
 unfold ligaW at st
 dsimp only at st
 obtain ⟨B, hB⟩ : ∃ B : List It, B = [itBlk p3 ⟨[ptrV c], 1, false⟩, itBlk p4 ⟨[ligaV t], 1, false⟩] ++ (X ++ [itBlk H.n ⟨encEn e, 1, false⟩]) := ⟨_, rfl⟩
 obtain ⟨S, hS⟩ : ∃ S : List Gl → Option Nat → List Int → List It, S = fun l' ob' ps' => L.set il (itLine c o l') ++ itLP cp ob' ps' :: B := ⟨_, rfl⟩
 have hSv : ∀ l' ob' ps', S l' ob' ps' = L.set il (itLine c o l') ++ itLP cp ob' ps' :: B := fun _ _ _ => by rw [hS]
 clear hS
 have hpx : ∀ l' ob' ps', (S l' ob' ps')[L.length]? = some (itLP cp ob' ps') := fun l' ob' ps' => by
  rw [hSv, List.getElem?_append_right (by simp)]
  simp
 have hlx : ∀ l' ob' ps', (S l' ob' ps')[il]? = some (itLine c o l') := fun l' ob' ps' => by
  rw [hSv, List.getElem?_append_left (by simpa using hil), List.getElem?_set_self hil]
 have setP : ∀ l' ob' ps' ob2 ps2, (S l' ob' ps').set L.length (itLP cp ob2 ps2) = S l' ob2 ps2 := fun l' ob' ps' ob2 ps2 => by
  rw [hSv, hSv, List.set_append_right _ _ (by simp)]
  simp
 have setL : ∀ l' ob' ps' l2, (S l' ob' ps').set il (itLine c o l2) = S l2 ob' ps' := fun l' ob' ps' l2 => by
  rw [hSv, hSv, List.set_append_left _ _ (by simpa using hil), List.set_set]
 have look : ∀ {H' : Heap} {l' ob' ps'}, Star H0 H' (S l' ob' ps') → H'.get p3 = some ⟨[ptrV c], 1, false⟩ ∧ H'.get p4 = some ⟨[ligaV t], 1, false⟩ ∧ H'.get H.n = some ⟨encEn e, 1, false⟩ ∧ R (T k) F.line_Line_Len [ptrV c] H' = .ok (.int .i64 l'.length) H' := fun {H' l' ob' ps'} h => by
  have hl := lineLen_run k h il (hlx _ _ _)
  rw [hSv, hB] at h
  exact ⟨h.memBlk (by simp), h.memBlk (by simp), h.memBlk (by simp), hl⟩
 have st2 : Star H0 (H.push ⟨encEn e, 1, false⟩) (S l w ps) := by
  have := st.push ⟨encEn e, 1, false⟩
  rw [hSv, hB]
  simpa using this
 have fin : ∀ {H' : Heap} {l' ob' ps'}, Star H0 H' (S l' ob' ps') → Star H0 H' (ligaW t L il c p3 p4 cp o (l', ps') ob' ++ X) := fun {H' l' ob' ps'} h => by
  rw [hSv, hB] at h
  have e1 : L.set il (itLine c o l') ++ itLP cp ob' ps' :: ([itBlk p3 ⟨[ptrV c], 1, false⟩, itBlk p4 ⟨[ligaV t], 1, false⟩] ++ (X ++ [itBlk H.n ⟨encEn e, 1, false⟩])) = (ligaW t L il c p3 p4 cp o (l', ps') ob' ++ X) ++ [itBlk H.n ⟨encEn e, 1, false⟩] := by
   unfold ligaW
   simp
  rw [e1] at h
  exact h.drop_last
 have ha15 := fun H => and15 Prog 3 H heb.2.2.1 heb.2.2.2.1
 have ha13 := fun H => and13 Prog 3 H heb.2.2.1 heb.2.2.2.1
 obtain ⟨v3, v4, v7, v8⟩ := look st2
 clear st
 obtain ⟨k1, hk1⟩ : ∃ k1, k1 = if e.flags ≥ 32768 ∧ j < (l.length : Int) then pushP j ps else ps := ⟨_, rfl⟩
 have hdo : doLi t (l, ps) j e = if e.flags / 8192 % 2 = 1 then perfS t k1 e.a 0 [] l else (l, k1) := by
  unfold doLi
  rw [hk1]
 have hk64 : k1.length ≤ 64 := by
  rw [hk1]
  split
  ·rename_i hc
   exact (pushP_ok hI.2 ⟨h0, by rw [← hI.1]; exact hc.2⟩).1
  ·exact hI.2.1
 -- the second part
 have tail : ∀ {H' : Heap} {ob1}, Star H0 H' (S l ob1 k1) → ∃ H'' w', liga_Table_Run_in1_j1 k (R (T k)) (ptrV p3) (ptrV cp) (ptrV p4) (ptrV H.n) H' = .ok (.tuple #[]) H'' ∧ (∀ a0 a16, liga_Table_Run_in1_j2 k (R (T k)) a0 (ptrV p3) (ptrV cp) (ptrV p4) (ptrV H.n) a16 H' = .ok (.tuple #[]) H'') ∧ Star H0 H'' (ligaW t L il c p3 p4 cp o (doLi t (l, ps) j e) w' ++ X) := fun {H' ob1} h => by
  obtain ⟨w3, w4, w7, _⟩ := look h
  rw [hdo]
  by_cases d : e.flags / 8192 % 2 = 1
  ·rw [if_pos d] at ha13 ⊢
   obtain ⟨ob2, H2, e2, g2⟩ := ligaPerform_star k t ht h il L.length (by omega) (hlx _ _ _) (hpx _ _ _) hk64 e.a (by omega) (hhas.resolve_left (fun hh => hh d))
   rw [setL, setP] at g2
   refine ⟨H2, ob2, ?_, fun a0 a16 => ?_, fin g2⟩
   ·rw [liga_Table_Run_in1_j1_eq]
    simp -implicitDefEqProofs (disch := omega) [w7, ha13, bne, w3, w4, e2]
   ·rw [liga_Table_Run_in1_j2_eq]
    simp -implicitDefEqProofs (disch := omega) [w7, ha13, bne, w3, w4, e2]
  ·rw [if_neg d] at ha13 ⊢
   refine ⟨H', ob1, ?_, fun a0 a16 => ?_, fin h⟩
   ·rw [liga_Table_Run_in1_j1_eq]
    simp -implicitDefEqProofs (disch := omega) [w7, ha13, bne]
   ·rw [liga_Table_Run_in1_j2_eq]
    simp -implicitDefEqProofs (disch := omega) [w7, ha13, bne]
 by_cases d2 : e.flags ≥ 32768
 ·rw [if_pos d2] at ha15
  by_cases d3 : j < (l.length : Int)
  ·rw [if_pos ⟨d2, d3⟩] at hk1
   obtain ⟨ob1, H2, e2, g2⟩ := ligaPush_star k st2 L.length hI.2.1 (hpx _ _ _) j
   rw [setP, ← hk1] at g2
   obtain ⟨H3, w', t1, _, t3⟩ := tail g2
   refine ⟨.tuple #[], H3, w', ?_, t3, ⟨by rw [hlen']; exact hI.1, hkept'⟩⟩
   simp only [callV, List.nil_append, List.cons_append]
   rw [liga_Table_Run_in1_R, nrm_of]
   simp -implicitDefEqProofs (disch := omega) [liga_Table_Run_in1, v7, ha15, bne, v3, v8, d3, e2, t1]
  ·rw [if_neg fun h => d3 h.2] at hk1
   rw [← hk1] at st2
   obtain ⟨H3, w', _, t1, t3⟩ := tail st2
   refine ⟨.tuple #[], H3, w', ?_, t3, ⟨by rw [hlen']; exact hI.1, hkept'⟩⟩
   simp only [callV, List.nil_append, List.cons_append]
   rw [liga_Table_Run_in1_R, nrm_of]
   simp -implicitDefEqProofs (disch := omega) [liga_Table_Run_in1, v7, ha15, bne, v3, v8, d3, t1]
 ·rw [if_neg d2] at ha15
  rw [if_neg fun h => d2 h.1] at hk1
  rw [← hk1] at st2
  obtain ⟨H3, w', _, t1, t3⟩ := tail st2
  refine ⟨.tuple #[], H3, w', ?_, t3, ⟨by rw [hlen']; exact hI.1, hkept'⟩⟩
  simp only [callV, List.nil_append, List.cons_append]
  rw [liga_Table_Run_in1_R, nrm_of]
  simp -implicitDefEqProofs (disch := omega) [liga_Table_Run_in1, v7, ha15, bne, t1]
set_option maxRecDepth 20000 in
set_option maxHeartbeats 1000000 in
theorem ligaRun_star (k : Nat) (t : LTab) (ht : t.ok) {H0 H : Heap} {L : List It} (h : Star H0 H L) (il : Nat) {c : Nat} {o : Option Nat} {l : List Gl} (hil : L[il]? = some (itLine c o l)) (hl : l.length < 2 ^ 40) :
  ∃ H', R (T k) F.liga_Table_Run [ligaV t, ptrV c] H = .ok (.int .i64 (runL t l).2) H' ∧ Star H0 H' (L.set il (itLine c o (runL t l).1)) := by
 have hll := (List.getElem?_eq_some_iff.1 hil).1
 have st := ((h.push ⟨[ligaV t], 1, false⟩).push ⟨[ptrV c], 1, false⟩).push ⟨[.slice none 0 0], 1, false⟩
 simp only [hn_push] at st
 obtain ⟨H3, hH3⟩ : ∃ H3, H3 = ((H.push ⟨[ligaV t], 1, false⟩).push ⟨[ptrV c], 1, false⟩).push ⟨[.slice none 0 0], 1, false⟩ := ⟨_, rfl⟩
 rw [← hH3] at st
 have ik : (L ++ [itBlk H.n ⟨[ligaV t], 1, false⟩] ++ [itBlk (H.n + 1) ⟨[ptrV c], 1, false⟩] ++ [itBlk (H.n + 1 + 1) ⟨[.slice none 0 0], 1, false⟩])[L.length + 2]? = some (itBlk (H.n + 1 + 1) ⟨[.slice none 0 0], 1, false⟩) := by
  rw [List.getElem?_append_right (by simp)]
  simp
 have st := st.same (L.length + 2) ik (itLP (H.n + 1 + 1) none []) ⟨_, st.get _ ik, .inl ⟨rfl, rfl, rfl⟩⟩ fun b hb => by simpa [itLP, itBlk] using hb
 have eset : ∀ (x1 x2 x3 y : It), (L ++ [x1] ++ [x2] ++ [x3]).set (L.length + 2) y = L ++ ([x1, x2] ++ [y]) := fun x1 x2 x3 y => by
  rw [List.set_append_right _ _ (by simp)]
  simp
 rw [eset] at st
 have st : Star H0 H3 (ligaW t L il c (H.n + 1) H.n (H.n + 1 + 1) o (l, []) none) := by
  refine st.perm ?_
  unfold ligaW
  dsimp only
  rw [set_same hil]
  refine List.Perm.append_left L ?_
  exact List.perm_append_comm.trans (List.Perm.cons _ (List.Perm.swap _ _ _))
 have ePl := plainNew k (.func F.liga_Table_Run_in1) #[] #[ptrV (H.n + 1), ptrV (H.n + 1 + 1), ptrV H.n] H3
 have st4 := st.push ⟨[.func (.func F.liga_Table_Run_in1) #[] #[ptrV (H.n + 1), ptrV (H.n + 1 + 1), ptrV H.n]], 1, false⟩
 have hact := plain_okG k (liga_do k t ht L il c (H.n + 1) H.n (H.n + 1 + 1) o hll (l.length : Int) (H0 := H0)) H3.n
 obtain ⟨H7, w7, eR, st5, _⟩ := driveRun_starG k t.m ht.m (fun (s : List Gl × List Int) (ob : Option Nat) => ligaW t L il c (H.n + 1) H.n (H.n + 1 + 1) o s ob ++ [itBlk H3.n ⟨[.func (.func F.liga_Table_Run_in1) #[] #[ptrV (H.n + 1), ptrV (H.n + 1 + 1), ptrV H.n]], 1, false⟩]) (fun s => (s.1.length : Int) = (l.length : Int) ∧ KeptOk (l.length : Int) s.2) (fun s => s.1) c
  (fun s ob => ⟨il, o, by
   unfold ligaW
   rw [List.append_assoc, List.getElem?_append_left (by simpa using hll), List.getElem?_set_self hll]⟩) _ _ hact [] (l, []) none ⟨rfl, by simp, fun x hx => by simp at hx⟩ (by simpa [List.append_assoc] using st4) hl
 have hr : runD t.m (fun s : List Gl × List Int => s.1) (fun s i e => (doLi t s i e, i, i + 1)) (2 * (l.length : Int) + 128) (2 * l.length + 128) ((l, []), ⟨0, 0, 0, 0⟩) = runLr t l := by unfold runLr; rfl
 rw [hr] at eR st5
 have b0 := st4.memBlk (c := H.n) (k := ⟨[ligaV t], 1, false⟩) (by unfold ligaW; simp)
 have b1 := st4.memBlk (c := H.n + 1) (k := ⟨[ptrV c], 1, false⟩) (by unfold ligaW; simp)
 refine ⟨H7, ?_, ?_⟩
 ·rw [liga_Table_Run_R, nrm_of]
  have v1 := veq_liga t
  have v2 := veq_mach t.m
  unfold runL
  generalize runLr t l = r at eR ⊢
  rw [hH3] at ePl eR b0 b1
  simp only [hn_push] at ePl eR
  simp -implicitDefEqProofs (disch := omega) [liga_Table_Run, ePl, eR, v1, v2]
 ·unfold runL
  generalize runLr t l = r at st5 ⊢
  unfold ligaW at st5
  have := st5.take L.length
  rw [List.append_assoc, List.append_assoc, List.take_append_of_le_length (by simp), List.take_of_length_le (by simp)] at this
  exact this
end Go.Sw
end
section
namespace Go.Sw
open Go.RowKit
theorem LigaTakes_in1 (k : Nat) (hk : k < 1000000) {H : Heap} (b : List Int) (hb : Byt b) (hl : b.length < 2 ^ 31) (p2 p3 : Nat) (old : Value)
  (h2 : H.get p2 = some ⟨[lv encB b], 1, false⟩) (h3 : H.get p3 = some ⟨[old], 1, false⟩) :
  R (T k) F.swashlaw17_LigaTakes_in1 [ptrV p2, ptrV p3] H = match ligaS b 40 with
   | some x => .ok (.tuple #[]) (H.set p3 (some ⟨[ligaV x], 1, false⟩))
   | none => .panic failV H := by
 rw [swashlaw17_LigaTakes_in1_R]
 have ht := ligaTake_run k hk b hb 40 (by omega) hl H
 have ho := fun H => Of_lv k b H
 cases h : ligaS b 40 with
 | none =>
  rw [h] at ht
  refine nrm_throw ⟨H, ?_, Ext.refl H⟩ Flat.fail.alive
  simp -implicitDefEqProofs (disch := omega) [swashlaw17_LigaTakes_in1, h2, ho, ht]
 | some x =>
  rw [h] at ht
  simp -implicitDefEqProofs (disch := omega) [swashlaw17_LigaTakes_in1, h2, h3, ho, ht]
set_option maxHeartbeats 2000000 in
theorem LigaTakes_run (b : List Int) (hb : Byt b) (ids : List Int) : R (T F.swashlaw17_speaks) F.swashlaw17_LigaTakes [lv encB b, lv encI ids] Heap.empty = .ok (.bool true) Heap.empty := by
 generalize hk : F.swashlaw17_speaks = k
 have hs := speaks17_run k (by subst hk; rfl)
 have hk6 : k < 1000000 := by subst hk; decide
 clear hk
 rw [swashlaw17_LigaTakes_R]
 generalize Heap.empty = H
 have hx1 : Ext H (H.push ⟨[lv encB b], 1, false⟩) := (Ext.refl H).push _
 by_cases hl : b.length > 800
 ·have hl' : (b.length : Int) > 800 := by omega
  refine nrm_gc ⟨_, ?_, hx1⟩ (.bool _)
  simp -implicitDefEqProofs (disch := omega) [swashlaw17_LigaTakes, hs, hl']
 have hl' : ¬ (b.length : Int) > 800 := by omega
 by_cases hi : ids.length > 40
 ·have hi' : (ids.length : Int) > 40 := by omega
  refine nrm_gc ⟨_, ?_, hx1⟩ (.bool _)
  simp -implicitDefEqProofs (disch := omega) [swashlaw17_LigaTakes, hs, hl', hi']
 have hi' : ¬ (ids.length : Int) > 40 := by omega
 have hin := LigaTakes_in1 k hk6 (H := (H.push ⟨[lv encB b], 1, false⟩).push ⟨[.pointer none], 1, false⟩) b hb (by omega) H.n (H.n + 1) (.pointer none) (by simp) (by simp)
 have hrd := fun H' => ligaRead_run k (H := H') (Sl.lv H' 1 b) hb 40 (by omega) (fun _ H' => ligaTake_run k hk6 b hb 40 (by omega) (by omega) H')
 unfold ligaO ligaN at hrd
 rw [if_pos (by omega), if_pos (by omega)] at hrd
 cases h : ligaS b 40 with
 | none =>
  rw [h] at hin hrd
  simp only [ligaP, Option.isSome_none, Bool.false_eq_true, if_false] at hrd
  have ht := Try_no k F.swashlaw17_LigaTakes_in1 #[ptrV H.n, ptrV (H.n + 1)] hin
  refine nrm_gc ⟨_, ?_, hx1.push ⟨[.pointer none], 1, false⟩⟩ (.bool _)
  simp -implicitDefEqProofs (disch := omega) [swashlaw17_LigaTakes, hs, hl', hi', ht, hrd]
 | some t =>
  rw [h] at hin hrd
  simp only [ligaP, Option.isSome_some, if_true] at hrd
  have ht := Try_ok k F.swashlaw17_LigaTakes_in1 #[ptrV H.n, ptrV (H.n + 1)] hin
  simp at ht
  have hok := ligaS_ok hb (by omega) (by omega) (by omega) h
  have g := ((Star.nil H).push ⟨[lv encB b], 1, false⟩).push ⟨[ligaV t], 1, false⟩
  simp only [List.nil_append, List.cons_append, hn_push] at g
  obtain ⟨c1, o1, H1, e1, g⟩ := lineNew_star k g ids (by omega)
  simp only [List.nil_append, List.cons_append] at g
  obtain ⟨c2, o2, H2, e2, g⟩ := lineNew_star k g ids (by omega)
  simp only [List.nil_append, List.cons_append] at g
  have b2 := g.get 1 rfl
  have v2 := veq_liga t
  obtain ⟨H3, e3, g⟩ := ligaRun_star k t hok g 2 rfl (by simp; omega)
  simp only [List.set_cons_zero, List.set_cons_succ] at g
  obtain ⟨H4, e4, g⟩ := ligaRun_star k t hok g 3 rfl (by simp; omega)
  simp only [List.set_cons_zero, List.set_cons_succ] at g
  have hlen := runL_len t hok.m (newG ids)
  rw [newG_len] at hlen
  generalize runL t (newG ids) = r at e3 e4 g hlen
  have gl1 := lineGlyphs_run k hk6 g 2 rfl (by omega)
  have gl2 := lineGlyphs_run k hk6 g 3 rfl (by omega)
  have hsame := Same_run k (Rd.lv encG_len H4 r.1) (Rd.lv encG_len H4 r.1) (by omega) (by omega)
  refine nrm_gc ⟨H4, ?_, g.ext⟩ (.bool _)
  simp -implicitDefEqProofs (disch := omega) [swashlaw17_LigaTakes, hs, hl', hi', ht, hrd, e1, e2, b2, v2, e3, e4, gl1, gl2, hsame]
theorem LigaTakes_args (vs : List Value) (h : ArgsLay [.one (.slice [.int .u8]), .one (.slice [.int .i64])] vs) : ∃ H', R (T F.swashlaw17_speaks) F.swashlaw17_LigaTakes vs Heap.empty = .ok (.bool true) H' := by
 obtain ⟨v1, _, rfl, h1, h⟩ := h.head
 obtain ⟨v2, _, rfl, h2, h⟩ := h.head
 obtain rfl := h.done
 obtain ⟨b, rfl, hb⟩ := arg_B h1
 obtain ⟨ids, rfl, _⟩ := arg_I h2
 exact ⟨_, LigaTakes_run b hb ids⟩
set_option maxHeartbeats 2000000 in
theorem LigaLess_run (x : LPlan) (hx : x.ok) (ids : List Int) : R (T F.swashlaw17_speaks) F.swashlaw17_LigaLess [lplV x, lv encI ids] Heap.empty = .ok (.bool true) Heap.empty := by
 generalize hk : F.swashlaw17_speaks = k
 have hs := speaks17_run k (by subst hk; rfl)
 have hW : ownW k = .no := by subst hk; rfl
 have hk6 : k < 1000000 := by subst hk; decide
 clear hk
 rw [swashlaw17_LigaLess_R]
 generalize Heap.empty = H
 have hx1 : Ext H (H.push ⟨lplC x, 1, false⟩) := (Ext.refl H).push _
 have hsm := fun H => small17_run k x ids H
 by_cases c1 : LSmall x ids.length
 rotate_left
 ·refine nrm_gc ⟨_, ?_, hx1⟩ (.bool _)
  rw [decide_eq_false c1] at hsm
  simp -implicitDefEqProofs (disch := omega) [swashlaw17_LigaLess, hs, hsm]
 rw [decide_eq_true c1] at hsm
 unfold LSmall at c1
 have hw := fun H => write17_fz k hk6 hW x hx (by omega) (by omega) (by omega) (by omega) (by omega) (by omega) (PlanSl.lv H x.p (Sl.lv H 4 x.p.ents)) (Sl.lv H 1 x.acts) (Sl.lv H 1 x.comps) (Sl.lv H 1 x.ligs)
 have hcb : Byt (ligB x.p x.acts x.comps x.ligs) := ligB_byt hx.p _ _ _
 have hcl := ligB_len hx.p (a := x.acts) (c := x.comps) (l := x.ligs) (by omega) (by omega) (by omega) (by omega) (by omega) (by omega)
 generalize ligB x.p x.acts x.comps x.ligs = b at hw hcb hcl
 have hrd := fun H' => ligaRead_run k (H := H') (Sl.lv H' 1 b) hcb 40 (by omega) (fun _ H' => ligaTake_run k hk6 b hcb 40 (by omega) (by omega) H')
 unfold ligaO ligaN at hrd
 rw [if_pos (by omega), if_pos (by omega)] at hrd
 cases h : ligaS b 40 with
 | none =>
  rw [h] at hrd
  simp only [ligaP, Option.isSome_none, Bool.false_eq_true, if_false] at hrd
  refine nrm_gc ⟨_, ?_, hx1⟩ (.bool _)
  simp -implicitDefEqProofs (disch := omega) [swashlaw17_LigaLess, hs, hsm, hw, hrd]
 | some t =>
  rw [h] at hrd
  simp only [ligaP, Option.isSome_some, if_true] at hrd
  have hok := ligaS_ok hcb (by omega) (by omega) (by omega) h
  have g := (Star.nil H).push ⟨lplC x, 1, false⟩
  simp only [List.nil_append] at g
  obtain ⟨c1', o2, H2, e2, g⟩ := lineNew_star k g ids (by omega)
  simp only [List.nil_append, List.cons_append] at g
  obtain ⟨H3, e3, g⟩ := ligaRun_star k t hok g 1 rfl (by simp; omega)
  simp only [List.set_cons_zero, List.set_cons_succ] at g
  have hlen := runL_len t hok.m (newG ids)
  rw [newG_len] at hlen
  have hless := liga_less t hok.m (newG ids) (newG_clOk ids)
  generalize runL t (newG ids) = r at e3 g hlen hless
  have gl1 := lineGlyphs_run k hk6 g 1 rfl (by omega)
  obtain ⟨xx, e', H4, hr4, rfl, rfl, hx4⟩ := loop_up (body := swashlaw17_LigaLess_l1 k (R (T k))) r.1.length
   (fun j e H' => e = [(37, lv encG r.1), (38, .int .i64 r.1.length), (39, .int .i64 j)] ∧ Ext H3 H')
   (fun xx e H' => xx = .exit 0 ∧ e = [(37, lv encG r.1), (38, .int .i64 r.1.length), (39, .int .i64 r.1.length), (40, .bool false)] ∧ Ext H3 H')
   (e0 := [(37, lv encG r.1), (38, .int .i64 r.1.length), (39, .int .i64 0)]) (H0 := H3) ⟨rfl, Ext.refl _⟩ (by omega)
   (fun j e H' hj ⟨he, hx⟩ => by
    subst he
    have hjl : (j : Int) < r.1.length := by omega
    obtain ⟨q, hq⟩ : ∃ q, r.1[j]? = some q := ⟨_, List.getElem?_eq_getElem hj⟩
    have hqs := hless j q hq
    have q1 : ¬ q.cl < 0 := by omega
    have q2 : ¬ q.cl > (j : Int) := by omega
    have i1 := fun H' => ixS_lvN encG_len r.1 .i64 j q hq H'
    refine .inl ⟨_, H'.push ⟨encG q, 1, false⟩, ?_, rfl, hx.push _⟩
    rw [swashlaw17_LigaLess_l1_eq]
    simp -implicitDefEqProofs (disch := omega) [hjl, i1, q1, q2])
   (fun e H' ⟨he, hx⟩ => by
    subst he
    refine ⟨.exit 0, _, H', ?_, by simp, rfl, rfl, hx⟩
    rw [swashlaw17_LigaLess_l1_eq]
    simp -implicitDefEqProofs)
  have g4 := g.rest hx4
  rw [hlen] at hr4
  refine nrm_gc ⟨H4, ?_, g4.ext⟩ (.bool _)
  simp -implicitDefEqProofs (disch := omega) [swashlaw17_LigaLess, hs, hsm, hw, hrd, e2, e3, gl1, hlen, hr4, swashlaw17_LigaLess_l1k_x0]
theorem wf_u32 {n : Int} (h : (Lit.int .u32 n).wf = true) : 0 ≤ n ∧ n < 4294967296 := by
 simp [Lit.wf, IntKind.min, IntKind.max, IntKind.signed, IntKind.bits] at h
 omega
abbrev lplSh : ASh := .agg [.slice [.int .u8], .slice [.slice [.int .u8]], .slice [.int .i64, .int .i64, .int .i64, .int .i64], .int .u8, .slice [.int .u32], .slice [.int .u16], .slice [.int .u16]]
theorem row_F {r : List Da} {cs : List Value} (h : LayRow [.int .u32] r cs) : ∃ n : Int, cs = encF n ∧ (0 ≤ n ∧ n < 4294967296) := by
 obtain ⟨_, v1, _, _, rfl, h1, h⟩ := h.head
 obtain rfl := h.done
 obtain ⟨n, rfl, w⟩ := h1.intv
 exact ⟨n, rfl, wf_u32 w⟩
theorem row_H {r : List Da} {cs : List Value} (h : LayRow [.int .u16] r cs) : ∃ n : Int, cs = encH n ∧ (0 ≤ n ∧ n < 65536) := by
 obtain ⟨_, v1, _, _, rfl, h1, h⟩ := h.head
 obtain rfl := h.done
 obtain ⟨n, rfl, w⟩ := h1.intv
 exact ⟨n, rfl, wf_u16 w⟩
theorem arg_lpl {v : Value} (h : ArgLay lplSh v) : ∃ x, v = lplV x ∧ x.ok := by
 cases h with
 | agg ss ds vs h =>
  obtain ⟨_, v1, _, _, rfl, h1, h⟩ := h.head
  obtain ⟨_, v2, _, _, rfl, h2, h⟩ := h.head
  obtain ⟨_, v3, _, _, rfl, h3, h⟩ := h.head
  obtain ⟨_, v4, _, _, rfl, h4, h⟩ := h.head
  obtain ⟨_, v5, _, _, rfl, h5, h⟩ := h.head
  obtain ⟨_, v6, _, _, rfl, h6, h⟩ := h.head
  obtain ⟨_, v7, _, _, rfl, h7, h⟩ := h.head
  obtain rfl := h.done
  obtain ⟨a, rfl, wa⟩ := Lay.list (enc := encB) (ok := fun n => 0 ≤ n ∧ n < 256) (fun r cs h => row_B h) h1
  obtain ⟨b, rfl, wb⟩ := Lay.list (enc := encBR) (ok := Byt) (fun r cs h => row_BR h) h2
  obtain ⟨c, rfl, wc⟩ := Lay.list (enc := encEn) (ok := fun _ => True) (fun r cs h => row_En h) h3
  obtain ⟨d, rfl, wd⟩ := h4.intv
  obtain ⟨f, rfl, wf⟩ := Lay.list (enc := encF) (ok := fun n => 0 ≤ n ∧ n < 4294967296) (fun r cs h => row_F h) h5
  obtain ⟨p, rfl, wp⟩ := Lay.list (enc := encH) (ok := fun n => 0 ≤ n ∧ n < 65536) (fun r cs h => row_H h) h6
  obtain ⟨q, rfl, wq⟩ := Lay.list (enc := encH) (ok := fun n => 0 ≤ n ∧ n < 65536) (fun r cs h => row_H h) h7
  exact ⟨⟨⟨a, b, c, d⟩, f, p, q⟩, rfl, ⟨⟨wa, wb, wf_u8 wd⟩, wf, wp, wq⟩⟩
theorem LigaLess_args (vs : List Value) (h : ArgsLay [lplSh, .one (.slice [.int .i64])] vs) : ∃ H', R (T F.swashlaw17_speaks) F.swashlaw17_LigaLess vs Heap.empty = .ok (.bool true) H' := by
 obtain ⟨v1, _, rfl, h1, h⟩ := h.head
 obtain ⟨v2, _, rfl, h2, h⟩ := h.head
 obtain rfl := h.done
 obtain ⟨x, rfl, hx⟩ := arg_lpl h1
 obtain ⟨ids, rfl, _⟩ := arg_I h2
 exact ⟨_, LigaLess_run x hx ids⟩
end Go.Sw
end
section
namespace Go.Sw
open Go.RowKit
theorem names_ok : NamesOk Prog := NamesOk.of (by kernel_rfl)
theorem mixed_ok : Prog.follows .mixedOrders = true := Checked.mixed Go.Proofs.Try.checked
theorem laid_ok : laidOutB Prog = true := by kernel_rfl
theorem cloneP_is : SpIs Prog F.slices_Clone_of_api_Place_api_Place fun _ args H => cloneV 3 12 args H :=
 clone_is (c := { P := Prog, kp := kpS, sp := fun _ => none }) names_ok mixed_ok (t := 70) (e := 91) (by kernel_rfl) fun call a H => (slices_Clone_of_api_Place_api_Place_body 0 _ call a H).trans (by
  unfold slices_Clone_of_api_Place_api_Place cloneF
  simp only [be_70_0, ap_70, beR_bare])
theorem cloneG_is : SpIs Prog F.slices_Clone_of_api_Glyph_api_Glyph fun _ args H => cloneV 2 16 args H :=
 clone_is (c := { P := Prog, kp := kpS, sp := fun _ => none }) names_ok mixed_ok (t := 48) (e := 115) (by kernel_rfl) fun call a H => (slices_Clone_of_api_Glyph_api_Glyph_body 0 _ call a H).trans (by
  unfold slices_Clone_of_api_Glyph_api_Glyph cloneF
  simp only [be_48_0, ap_48, beR_bare])
theorem cloneR_is : SpIs Prog F.slices_Clone_of_sfnt_Part_sfnt_Part fun _ args H => cloneV 2 40 args H :=
 clone_is (c := { P := Prog, kp := kpS, sp := fun _ => none }) names_ok mixed_ok (t := 167) (e := 165) (by kernel_rfl) fun call a H => (slices_Clone_of_sfnt_Part_sfnt_Part_body 0 _ call a H).trans (by
  unfold slices_Clone_of_sfnt_Part_sfnt_Part cloneF
  simp only [be_167_0, ap_167, beR_bare])
theorem more_is (f : FuncId) (s : Sp) (h : moreS f = some s) : SpIs Prog f s := by
 unfold moreS at h
 cases h0 : Nat.beq f 35 with
 | true => have := Nat.eq_of_beq_eq_true h0; subst this; rw [h0, cond_true] at h; injection h with h; subst h; exact try_is
 | false =>
 rw [h0, cond_false] at h
 cases h1 : Nat.beq f 104 with
 | true => have := Nat.eq_of_beq_eq_true h1; subst this; rw [h1, cond_true] at h; injection h with h; subst h; exact cloneG_is
 | false =>
 rw [h1, cond_false] at h
 cases h2 : Nat.beq f 118 with
 | true => have := Nat.eq_of_beq_eq_true h2; subst this; rw [h2, cond_true] at h; injection h with h; subst h; exact cloneP_is
 | false =>
 rw [h2, cond_false] at h
 cases h3 : Nat.beq f 159 with
 | true => have := Nat.eq_of_beq_eq_true h3; subst this; rw [h3, cond_true] at h; injection h with h; subst h; exact cloneR_is
 | false =>
 rw [h3, cond_false] at h
 cases h4 : Nat.beq f 244 with
 | true => rw [h4, cond_true] at h; injection h with h; subst h; exact SpIs.stuck _ _
 | false =>
 rw [h4, cond_false] at h
 cases h
theorem T_prog (k : Nat) : (T k).c.P = Prog := by unfold T C; rfl
theorem told_ok {k m : Nat} (hsp : okTrue (run (baseCfg Prog kpS moreS) m (k % 1000000) [] Heap.empty) = true) : SpOk (T k).c := by
 have h0 : CallOk Prog (run (baseCfg Prog kpS moreS) m) := run_ok (c := baseCfg Prog kpS moreS) names_ok mixed_ok (SpOk.base more_is) m
 have h1 : SpOk (C k) := by
  unfold C
  exact SpOk.of (P := Prog) (kp := kpS) (speaks := speaksT) (more := moreS) (k := k % 1000000) h0 hsp more_is
 exact h1
end Go.Sw
end
