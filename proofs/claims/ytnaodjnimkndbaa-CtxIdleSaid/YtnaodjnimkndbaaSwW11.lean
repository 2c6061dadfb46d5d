/-
  Functions' forms, and what is proved of them, part 11.
-/
import Derived.Test.YtnaodjnimkndbaaSwW10
import Derived.Test.YtnaodjnimkndbaaSwW9
import Derived.Test.YtnaodjnimkndbaaSwW4
import Derived.Test.YtnaodjnimkndbaaSwLib8
import Derived.Eval
set_option linter.unusedSimpArgs false
set_option linter.unusedVariables false
set_option linter.unusedSectionVars false
section
namespace Go.Sw
open Go.RowKit
theorem ζkp {sb : List Int} {g : Int} {n m : Nat} (h : n ≤ m) (hn : subsS sb g n = none) : subsS sb g m = none := ζb9 h hn
set_option maxHeartbeats 1000000 in
/-- An entry's two lookups. -/
theorem r15_l2 (k : Nat) (b : List Int) (hb : Byt b) (hbl : b.length < 2 ^ 31) (g : Int) (hg : 1 ≤ g ∧ g ≤ 65535) {p : Int} {sb : List Int} (hsb : restS b p = some sb) (p4 p6 p9 p11 : Nat) (z0 : List Value) (hz0 : z0.length = 10) (r : RMach) (e : En) (he : 0 ≤ e.a ∧ e.a < 65536 ∧ 0 ≤ e.b ∧ e.b < 65536) (a10 : Value)
  (c : Nat) {H0 H : Heap} {s : Value} {o : Option Nat} {rs : List (List Int × List RP)} (hc : c ≤ 65536) (hto : To15 sb g c rs) (st : Star H0 H (st15 [itBlk p11 ⟨encEn e, 1, false⟩] p4 p6 p9 z0 r s o rs)) :
  ∃ H', (∃ c' rs' s' o' zz, ((c' : Nat) : Int) = manyE c e ∧ To15 sb g c' rs' ∧ Star H0 H' (st15 [itBlk p11 ⟨encEn e, 1, false⟩] p4 p6 p9 z0 r s' o' rs') ∧
    loopN (ζ2l k (R (T k))) loopFuel [(0, lv encB b), (1, .int .i64 g), (4, ptrV p4), (6, ptrV p6), (8, .int .i64 p), (9, ptrV p9), (10, a10), (11, ptrV p11), (12, .int .i64 0)] H =
     .ok (.exit 2, [(0, lv encB b), (1, .int .i64 g), (4, ptrV p4), (6, ptrV p6), (8, .int .i64 p), (9, ptrV p9), (10, a10), (11, ptrV p11), (12, zz), (50, .bool false)]) H') ∨
   (∃ n rs' s' o', subsS sb g n = none ∧ (n : Int) ≤ manyE c e ∧ Star H0 H' (st15 [itBlk p11 ⟨encEn e, 1, false⟩] p4 p6 p9 (tC r s') r s' o' rs') ∧
    loopN (ζ2l k (R (T k))) loopFuel [(0, lv encB b), (1, .int .i64 g), (4, ptrV p4), (6, ptrV p6), (8, .int .i64 p), (9, ptrV p9), (10, a10), (11, ptrV p11), (12, .int .i64 0)] H = .ok (.ret, [(4, ptrV p4), (5, .bool false)]) H') := by
 obtain ⟨f, hf⟩ : ∃ f : Nat → Int, f = fun i => if i = 0 then (c : Int) else if i = 1 then (if e.a = 65535 then (c : Int) else max c (e.a + 1)) else manyE c e := ⟨_, rfl⟩
 have f0 : f 0 = c := by rw [hf]; rfl
 have f1 : f 1 = (if e.a = 65535 then (c : Int) else max c (e.a + 1)) := by rw [hf]; rfl
 have f2 : f 2 = manyE c e := by rw [hf]; rfl
 have f2' : f 2 = (if e.b = 65535 then f 1 else max (f 1) (e.b + 1)) := by rw [f2, f1]; rfl
 have fb : (c : Int) ≤ f 1 ∧ f 1 ≤ 65536 := by rw [f1]; split <;> omega
 have fb2 : f 1 ≤ f 2 ∧ f 2 ≤ 65536 := by rw [f2']; split <;> omega
 rw [← f2]
 obtain ⟨xx, e', H1, hr1, hQ⟩ := loop_up (body := ζ2l k (R (T k))) 2
  (fun j e' H' => e' = [(0, lv encB b), (1, .int .i64 g), (4, ptrV p4), (6, ptrV p6), (8, .int .i64 p), (9, ptrV p9), (10, a10), (11, ptrV p11), (12, .int .i64 j)] ∧ ∃ c' rs' s' o', ((c' : Nat) : Int) = f j ∧ To15 sb g c' rs' ∧ Star H0 H' (st15 [itBlk p11 ⟨encEn e, 1, false⟩] p4 p6 p9 z0 r s' o' rs'))
  (fun xx e' H' => (∃ c' rs' s' o' zz, xx = .exit 2 ∧ e' = [(0, lv encB b), (1, .int .i64 g), (4, ptrV p4), (6, ptrV p6), (8, .int .i64 p), (9, ptrV p9), (10, a10), (11, ptrV p11), (12, zz), (50, .bool false)] ∧ ((c' : Nat) : Int) = f 2 ∧ To15 sb g c' rs' ∧ Star H0 H' (st15 [itBlk p11 ⟨encEn e, 1, false⟩] p4 p6 p9 z0 r s' o' rs')) ∨
   (∃ n rs' s' o', xx = .ret ∧ e' = [(4, ptrV p4), (5, .bool false)] ∧ subsS sb g n = none ∧ (n : Int) ≤ f 2 ∧ Star H0 H' (st15 [itBlk p11 ⟨encEn e, 1, false⟩] p4 p6 p9 (tC r s') r s' o' rs')))
  (e0 := [(0, lv encB b), (1, .int .i64 g), (4, ptrV p4), (6, ptrV p6), (8, .int .i64 p), (9, ptrV p9), (10, a10), (11, ptrV p11), (12, .int .i64 0)]) (H0 := H) ⟨rfl, c, rs, s, o, f0.symm, hto, st⟩ (by omega)
  (fun j e' H' hj ⟨he', c1, rs', s', o', hc1, hto', st⟩ => by
   subst he'
   have q11 := st.get 4 rfl
   have hj2 : j = 0 ∨ j = 1 := by omega
   rcases hj2 with rfl | rfl
   ·obtain ⟨H2, h | h⟩ := r15_l3 k [itBlk p11 ⟨encEn e, 1, false⟩] b hb hbl g hg hsb p4 p6 p9 z0 hz0 r e.a ⟨he.1, he.2.1⟩ a10 (ptrV p11) (.int .i64 0) c1 (by omega) hto' st
    ·obtain ⟨c2, rs2, s2, o2, zz, k1, k2, k3, k4⟩ := h
     refine .inl ⟨_, H2, ?_, rfl, c2, rs2, s2, o2, by rw [k1, f1, hc1, f0], k2, k3⟩
     rw [ζ1t]
     simp -implicitDefEqProofs (disch := omega) [q11, ζ6c, k4, ζ5u]
    ·obtain ⟨n, rs2, s2, o2, k1, k2, k3, k4⟩ := h
     refine .inr ⟨.ret, _, H2, ?_, by simp, .inr ⟨n, rs2, s2, o2, rfl, rfl, k1, ?_, k3⟩⟩
     ·rw [ζ1t]
      simp -implicitDefEqProofs (disch := omega) [q11, ζ6c, k4, ζ6d]
     ·rw [hc1, f0, ← f1] at k2; omega
   ·obtain ⟨H2, h | h⟩ := r15_l3 k [itBlk p11 ⟨encEn e, 1, false⟩] b hb hbl g hg hsb p4 p6 p9 z0 hz0 r e.b ⟨he.2.2.1, he.2.2.2⟩ a10 (ptrV p11) (.int .i64 1) c1 (by omega) hto' st
    ·obtain ⟨c2, rs2, s2, o2, zz, k1, k2, k3, k4⟩ := h
     refine .inl ⟨_, H2, ?_, rfl, c2, rs2, s2, o2, by rw [k1, f2', hc1], k2, k3⟩
     rw [ζ1t]
     simp -implicitDefEqProofs (disch := omega) [q11, ζ6b, k4, ζ5u]
    ·obtain ⟨n, rs2, s2, o2, k1, k2, k3, k4⟩ := h
     refine .inr ⟨.ret, _, H2, ?_, by simp, .inr ⟨n, rs2, s2, o2, rfl, rfl, k1, ?_, k3⟩⟩
     ·rw [ζ1t]
      simp -implicitDefEqProofs (disch := omega) [q11, ζ6b, k4, ζ6d]
     ·rw [hc1, ← f2'] at k2; omega)
  (fun e' H' ⟨he', c1, rs', s', o', hc1, hto', st⟩ => by
   subst he'
   refine ⟨.exit 2, _, H', ?_, by simp, .inl ⟨c1, rs', s', o', .int .i64 ((2 : Nat) : Int), rfl, rfl, hc1, hto', st⟩⟩
   rw [ζ1t]
   simp -implicitDefEqProofs)
 refine ⟨H1, ?_⟩
 rcases hQ with ⟨c', rs', s', o', zz, rfl, rfl, h1, h2, h3⟩ | ⟨n, rs', s', o', rfl, rfl, h1, h2, h3⟩
 ·exact .inl ⟨c', rs', s', o', zz, h1, h2, h3, hr1⟩
 ·exact .inr ⟨n, rs', s', o', h1, h2, h3, hr1⟩
theorem ζmv (es : List En) (j : Nat) : manyS (es.take j) ≤ manyS es := by
 have : manyS es = (es.drop j).foldl manyE (manyS (es.take j)) := by
  unfold manyS
  rw [← List.foldl_append, List.take_append_drop]
 rw [this]
 exact (many_has (es.drop j) _).1
theorem fin15 {H H' : Heap} {r : RMach} {s : Value} {rs : List (List Int × List RP)} {bb : Bool} (own : Own H H' 2 s encRT rs) (hx : Ext H H') {res : Res Value} (hr : res = .ok (.tuple #[.agg (tC r s).toArray, .bool bb]) H') : nrm .fz H res = .ok (.tuple #[r15V r rs, .bool bb]) H := by
 obtain ⟨L, hf⟩ := own.freeze ζgh (fun n _ v hv => by simp at hv; rcases hv with rfl | rfl <;> trivial) 4
 have h1 : mapF (fzV H.n H' 6) (tC r s) = some (r15C r rs, [] ++ (L ++ [])) :=
  ζck (a := rmC r) (b := [s]) (r1 := rmC r) (r2 := [lv encRT rs]) (ζ7w fun v hv => by simp at hv; rcases hv with rfl | rfl | rfl | rfl | rfl | rfl | rfl | rfl | rfl <;> trivial) (ζ1e hf rfl)
 have h2 : fzV H.n H' fzDepth (.tuple #[.agg (tC r s).toArray, .bool bb]) = some (.tuple #[r15V r rs, .bool bb], ([] ++ (L ++ [])) ++ []) :=
  fz_tuple (l := [.agg (tC r s).toArray, .bool bb]) (r := [r15V r rs, .bool bb]) (ζ1e (fz_agg h1) (ζ7w fun v hv => by simp at hv; subst hv; trivial))
 exact nrm_fz hr h2 hx (Flat.tupleL (l := [r15V r rs, .bool bb]) (.cons (.aggL (.cons (Flat.B _) (.cons (.int _ _) (.cons (.int _ _) (.cons (.int _ _) (.cons (.int _ _) (.cons (.int _ _) (.cons (.int _ _) (.cons (Flat.B _) (.cons (Flat.RPs _) (.cons (.lv fun p _ => .cons (Flat.B _) (.cons (Flat.RPs _) .nil)) .nil))))))))))) (.cons (.bool _) .nil))).alive
theorem To15.nil (sb : List Int) (g : Int) : To15 sb g 0 [] := ⟨[], rfl, rfl, fun i x y h => by simp at h⟩
set_option maxHeartbeats 2000000 in
theorem ζhv (k : Nat) (b : List Int) (hb : Byt b) (g : Int) (hg : 1 ≤ g ∧ g ≤ 65535) (hl : b.length < 2 ^ 31) (H : Heap) :
  ∃ r rs, R (T k) F.ζ9 [lv encB b, .int .i64 g] H = .ok (.tuple #[r15V r rs, .bool (ctxS b g).isSome]) H ∧ ∀ t, ctxS b g = some t → r = rmOf b g 2 t.m ∧ Subs15 t.subs rs := by
 have u16 := fun H' => refU_run k (H := H') (Sl.lv H' 1 b) hb 16 4 (by omega) (by omega)
 have hrm := fun H' => ζim k b hb g 2 hg (.inr (.inr rfl)) hl H'
 unfold refMachS at hrm
 obtain ⟨a16, ha16⟩ : ∃ a16, a16 = (uS b 16 4).getD (-1) := ⟨_, rfl⟩
 rw [← ha16] at u16
 -- what lies there at first
 have start : ∀ r : RMach, Star H (((H.push ⟨zC10, 1, false⟩).push ⟨rmC r, 1, false⟩).push ⟨tC r (.slice none 0 0), 1, false⟩) (st15 [] H.n (H.n + 1) (H.n + 2) zC10 r (.slice none 0 0) none []) := fun r => by
  have g := (((Star.nil H).push ⟨zC10, 1, false⟩).push ⟨rmC r, 1, false⟩).push ⟨tC r (.slice none 0 0), 1, false⟩
  have g := g.more_row (Ext.refl _) (OwnO.nil encRT _ 2) (fun b hb => by cases hb)
  simp only [List.nil_append, List.cons_append, hn_push] at g
  exact g
 cases hm : machS b g 2 with
 | none =>
  have hc : ctxS b g = none := by unfold ctxS; rw [hm]; rfl
  rw [hm] at hrm
  simp only [Option.map_none, rmO, Option.getD_none, Option.isSome_none] at hrm
  have g0 := ((start rmZ).setBlk 0 rfl ⟨tC rmZ (.slice none 0 0), 1, false⟩)
  refine ⟨rmZ, [], ?_, fun t ht => by rw [hc] at ht; cases ht⟩
  rw [hc, ζ3s]
  refine fin15 (g0.own 3 rfl) g0.ext ?_
  simp -implicitDefEqProofs (disch := omega) [ζ9, hrm, u16]
 | some m =>
  have hok := machS_ok hb hg.1 hg.2 (by omega) hm
  have hent := fun (i : Nat) (e : En) (he : m.ents[i]? = some e) (hi : i ≤ 65536) H' => ζh8 k hb (.inr (.inr rfl)) hl hm (i := (i : Int)) (by omega) (by omega) (e := e) (by simpa using he) H'
  rw [hm] at hrm
  simp only [Option.map_some, rmO, Option.getD_some, Option.isSome_some] at hrm
  have hn : (rmOf b g 2 m).n = m.ents.length := rfl
  generalize hrr : rmOf b g 2 m = r at hrm hent hn
  have fail : (a16 < 0 ∨ a16 > b.length) → ∃ r rs, R (T k) F.ζ9 [lv encB b, .int .i64 g] H = .ok (.tuple #[r15V r rs, .bool (ctxS b g).isSome]) H ∧ ∀ t, ctxS b g = some t → r = rmOf b g 2 t.m ∧ Subs15 t.subs rs := fun hbad => by
   have hc : ctxS b g = none := by
    unfold ctxS
    rw [hm, Option.bind_some]
    cases hu : uS b 16 4 with
    | none => rfl
    | some p =>
     rw [hu] at ha16
     have ha16 : a16 = p := ha16
     have : restS b p = none := by unfold restS; rw [if_neg (by omega)]
     rw [Option.bind_some, this]; rfl
   have g0 := ((start r).setBlk 0 rfl ⟨tC r (.slice none 0 0), 1, false⟩)
   refine ⟨r, [], ?_, fun t ht => by rw [hc] at ht; cases ht⟩
   rw [hc, ζ3s]
   refine fin15 (g0.own 3 rfl) g0.ext ?_
   by_cases c1 : a16 < 0
   ·simp -implicitDefEqProofs (disch := omega) [ζ9, hrm, u16, c1]
   ·have c2 : a16 > b.length := by omega
    simp -implicitDefEqProofs (disch := omega) [ζ9, hrm, u16, c1, c2]
  by_cases c1 : a16 < 0
  ·exact fail (.inl c1)
  by_cases c2 : a16 > b.length
  ·exact fail (.inr c2)
  clear fail
  have hu : uS b 16 4 = some a16 := by
   cases hu : uS b 16 4 with
   | none => rw [hu] at ha16; simp at ha16; omega
   | some p => rw [hu] at ha16; rw [ha16]; rfl
  obtain ⟨sb, hsb⟩ : ∃ sb, restS b a16 = some sb := ⟨_, ζ1v.2 ⟨⟨by omega, by omega⟩, rfl⟩⟩
  have hes : ∀ e, e ∈ m.ents → 0 ≤ e.a ∧ e.a < 65536 ∧ 0 ≤ e.b ∧ e.b < 65536 := fun e he => by have := hok.ent e he; omega
  have hc : ctxS b g = (subsS sb g (manyS m.ents).toNat).map fun subs => ⟨m, subs⟩ := by
   unfold ctxS
   rw [hm, Option.bind_some, hu, Option.bind_some, hsb, Option.bind_some]
  obtain ⟨xx, e', H1, hr1, hQ⟩ := loop_up (body := ζ54 k (R (T k))) m.ents.length
   (fun j e H' => e = [(0, lv encB b), (1, .int .i64 g), (4, ptrV H.n), (6, ptrV (H.n + 1)), (8, .int .i64 a16), (9, ptrV (H.n + 2)), (10, .int .i64 j)] ∧ ∃ c rs s o, ((c : Nat) : Int) = manyS (m.ents.take j) ∧ To15 sb g c rs ∧ Star H H' (st15 [] H.n (H.n + 1) (H.n + 2) zC10 r s o rs))
   (fun xx e H' => (∃ c rs s o, xx = .exit 0 ∧ e = [(0, lv encB b), (1, .int .i64 g), (4, ptrV H.n), (6, ptrV (H.n + 1)), (8, .int .i64 a16), (9, ptrV (H.n + 2)), (10, .int .i64 m.ents.length), (43, .bool false)] ∧ ((c : Nat) : Int) = manyS m.ents ∧ To15 sb g c rs ∧ Star H H' (st15 [] H.n (H.n + 1) (H.n + 2) zC10 r s o rs)) ∨
    (∃ n rs s o X, xx = .ret ∧ e = [(4, ptrV H.n), (5, .bool false)] ∧ subsS sb g n = none ∧ (n : Int) ≤ manyS m.ents ∧ Star H H' (st15 X H.n (H.n + 1) (H.n + 2) (tC r s) r s o rs)))
   (e0 := [(0, lv encB b), (1, .int .i64 g), (4, ptrV H.n), (6, ptrV (H.n + 1)), (8, .int .i64 a16), (9, ptrV (H.n + 2)), (10, .int .i64 0)]) (H0 := ((H.push ⟨zC10, 1, false⟩).push ⟨rmC r, 1, false⟩).push ⟨tC r (.slice none 0 0), 1, false⟩)
   ⟨rfl, 0, [], _, none, rfl, To15.nil sb g, start r⟩ (by have := hok.elen; omega)
   (fun j e H' hj ⟨he, c, rs, s, o, hcm, hto, st⟩ => by
    subst he
    have hjn : (j : Int) < r.n := by omega
    have hel := hok.elen
    obtain ⟨en, hen⟩ : ∃ en, m.ents[j]? = some en := ⟨_, List.getElem?_eq_getElem hj⟩
    have heb := hes en (List.mem_of_getElem? hen)
    have hE := fun H' => hent j en hen (by have := hok.elen; omega) H'
    have hmb := ζa8 (es := m.ents.take j) fun e he => hes e (List.mem_of_mem_take he)
    have hsn : manyS (m.ents.take (j + 1)) = manyE (c : Int) en := by rw [ζ1p hen, ζhk, hcm]
    have q6 := st.get 1 rfl
    have n6 : ¬ H.n + 1 = H'.n := by have := Heap.get_lt q6; omega
    have st2 : Star H (H'.push ⟨encEn en, 1, false⟩) (st15 [itBlk H'.n ⟨encEn en, 1, false⟩] H.n (H.n + 1) (H.n + 2) zC10 r s o rs) := st.push ⟨encEn en, 1, false⟩
    obtain ⟨H2, h | h⟩ := r15_l2 k b hb hl g hg hsb H.n (H.n + 1) (H.n + 2) H'.n zC10 rfl r en heb (.int .i64 j) c (by omega) hto st2
    ·obtain ⟨c2, rs2, s2, o2, zz, k1, k2, k3, k4⟩ := h
     refine .inl ⟨_, H2, ?_, rfl, c2, rs2, s2, o2, by rw [k1, hsn], k2, (show Star H H2 (st15 [] H.n (H.n + 1) (H.n + 2) zC10 r s2 o2 rs2 ++ [itBlk H'.n ⟨encEn en, 1, false⟩]) from k3).ζa5⟩
     rw [ζ3m]
     simp -implicitDefEqProofs (disch := omega) [q6, hjn, hE, k4, ζ9z]
    ·obtain ⟨n, rs2, s2, o2, k1, k2, k3, k4⟩ := h
     refine .inr ⟨.ret, _, H2, ?_, by simp, .inr ⟨n, rs2, s2, o2, _, rfl, rfl, k1, ?_, k3⟩⟩
     ·rw [ζ3m]
      simp -implicitDefEqProofs (disch := omega) [q6, hjn, hE, k4, ζau]
     ·have := ζmv m.ents (j + 1)
      omega)
   (fun e H' ⟨he, c, rs, s, o, hcm, hto, st⟩ => by
    subst he
    rw [List.take_length] at hcm
    have q6 := st.get 1 rfl
    refine ⟨.exit 0, _, H', ?_, by simp, .inl ⟨c, rs, s, o, rfl, rfl, hcm, hto, st⟩⟩
    rw [ζ3m]
    have hns : ¬ (m.ents.length : Int) < r.n := by omega
    simp -implicitDefEqProofs (disch := omega) [q6, hns])
  rcases hQ with ⟨c, rs, s, o, rfl, rfl, hcm, ⟨subs, t1, t2⟩, st⟩ | ⟨n, rs, s, o, X, rfl, rfl, h1, h2, st⟩
  ·have hyes : ctxS b g = some ⟨m, subs⟩ := by rw [hc, ← hcm, Int.toNat_natCast, t1]; rfl
   have q9 := st.get 2 rfl
   have g0 := st.setBlk 0 rfl ⟨tC r s, 1, false⟩
   refine ⟨r, rs, ?_, fun t ht => by rw [hyes] at ht; injection ht with ht; subst ht; exact ⟨hrr.symm, t2⟩⟩
   rw [hyes, ζ3s]
   refine fin15 (g0.own 3 rfl) g0.ext ?_
   have q4 := st.get 0 rfl
   have q4' := g0.get 0 rfl
   simp -implicitDefEqProofs (disch := omega) [ζ9, hrm, u16, c1, c2, hr1, ζ9y, q9, q4, q4']
  ·have hno : ctxS b g = none := by rw [hc, ζkp (n := n) (by omega) h1]; rfl
   have q4 := st.get 0 rfl
   refine ⟨r, rs, ?_, fun t ht => by rw [hno] at ht; cases ht⟩
   rw [hno, ζ3s]
   refine fin15 (st.own 3 rfl) st.ext ?_
   simp -implicitDefEqProofs (disch := omega) [ζ9, hrm, u16, c1, c2, hr1, ζat, q4]
end Go.Sw
end
section
namespace Go.Sw
open Go.RowKit
end Go.Sw
end
section
namespace Go.Sw
open Go.RowKit
theorem ζnb {t : CTab} (ht : t.ok) (h : ∀ e, e ∈ t.m.ents → (e.a = 65535 ∨ ∀ x, t.subs[e.a.toNat]? = some x → ∀ id, getS x.2 id = none) ∧ (e.b = 65535 ∨ ∀ x, t.subs[e.b.toNat]? = some x → ∀ id, getS x.2 id = none)) (l : List Gl) : (runC t l).1 = l := by
 unfold runC runCr
 have := runD_inv t.m ht.m (fun s : List Gl × Int => s.1) (fun s i e => (doC t s i e, i, i + 1)) (fun s => s.1 = l) (fun s i e hs _ he => by
  dsimp only [doC]
  obtain ⟨h1, h2⟩ := h e he
  rw [ζi9 t s.1 s.2 e.a h1, ζi9 t s.1 i e.b h2]
  exact hs) (2 * (l.length : Int) + 128) (2 * l.length + 128) ((l, -1), ⟨0, 0, 0, 0⟩) rfl (Int.le_refl _) (Int.le_refl _) (by have := ht.m.two; dsimp only; omega)
 dsimp only at this ⊢
 exact this
end Go.Sw
end
section
namespace Go.Sw
open Go.RowKit
structure CPlan where
 m : Plan
 subs : List (List Int)
abbrev encUs (s : List Int) : List Value := [lv encU2 s]
theorem ζmj (s : List Int) : (encUs s).length = 1 := rfl
abbrev cplC (p : CPlan) : List Value := [lv encB p.m.cls, lv encBR p.m.rows, lv encEn p.m.ents, .int .u8 p.m.wide, lv encUs p.subs]
abbrev cplV (p : CPlan) : Value := .agg (cplC p).toArray
def CPlan.ok (p : CPlan) : Prop := (p.m.ok ∧ p.subs.length < 2 ^ 63) ∧ ∀ s, s ∈ p.subs → ∀ n, n ∈ s → 0 ≤ n ∧ n < 65536
def CSmall (p : CPlan) (n : Nat) : Prop := (∀ s, s ∈ p.subs → s.length ≤ 60) ∧ p.m.cls.length ≤ 40 ∧ p.m.rows.length ≤ 20 ∧ p.m.ents.length ≤ 40 ∧ p.subs.length ≤ 20 ∧ n ≤ 60
instance (p : CPlan) (n : Nat) : Decidable (CSmall p n) := by unfold CSmall; infer_instance
theorem ζkl (k : Nat) (p : CPlan) (ids : List Int) (H : Heap) (hs : p.subs.length < 2 ^ 63) : R (T k) F.ζi [cplV p, lv encI ids] H = .ok (.bool (decide (CSmall p ids.length))) H := by
 rw [ζcq]
 have hx1 : Ext H (H.push ⟨cplC p, 1, false⟩) := (Ext.refl H).push _
 have hq : (H.push ⟨cplC p, 1, false⟩).get H.n = some ⟨cplC p, 1, false⟩ := ζe _ _ _ rfl
 obtain ⟨xx, e', H1, hr1, hQ, rfl⟩ := loop_up (body := ζ4h k (R (T k))) p.subs.length
  (fun j e H' => e = [(1, lv encI ids), (2, ptrV H.n), (8, lv encUs p.subs), (9, .int .i64 p.subs.length), (10, .int .i64 j)] ∧ (∀ (i : Nat) s, i < j → p.subs[i]? = some s → s.length ≤ 60) ∧ H' = H.push ⟨cplC p, 1, false⟩)
  (fun xx e H' => ((xx = .exit 0 ∧ (∀ s, s ∈ p.subs → s.length ≤ 60) ∧ e = [(1, lv encI ids), (2, ptrV H.n), (8, lv encUs p.subs), (9, .int .i64 p.subs.length), (10, .int .i64 p.subs.length), (11, .bool false)]) ∨ (xx = .ret ∧ e = [(4, .bool false)] ∧ ¬ ∀ s, s ∈ p.subs → s.length ≤ 60)) ∧ H' = H.push ⟨cplC p, 1, false⟩)
  (e0 := [(1, lv encI ids), (2, ptrV H.n), (8, lv encUs p.subs), (9, .int .i64 p.subs.length), (10, .int .i64 0)]) (H0 := H.push ⟨cplC p, 1, false⟩) ⟨rfl, fun i s h => by omega, rfl⟩ (by omega)
  (fun j e H' hj ⟨he, hall, hH⟩ => by
   subst he hH
   have hjl : (j : Int) < p.subs.length := by omega
   obtain ⟨s, hs⟩ : ∃ s, p.subs[j]? = some s := ⟨_, List.getElem?_eq_getElem hj⟩
   have i1 := fun H' => ixS_lvN ζmj p.subs .i64 j s hs H'
   by_cases c : s.length > 60
   ·have c' : (s.length : Int) > 60 := by omega
    refine .inr ⟨.ret, _, _, ?_, by simp, .inr ⟨rfl, rfl, fun h => by have := h s (List.mem_of_getElem? hs); omega⟩, rfl⟩
    rw [ζ3a]
    simp -implicitDefEqProofs (disch := omega) [hjl, i1, c']
   ·have c' : ¬ (s.length : Int) > 60 := by omega
    refine .inl ⟨_, _, ?_, rfl, fun i s' hi hs' => ?_, rfl⟩
    ·rw [ζ3a]
     simp -implicitDefEqProofs (disch := omega) [hjl, i1, c']
    ·by_cases hij : i = j
     ·subst hij; rw [hs] at hs'; injection hs' with hs'; subst hs'; omega
     ·exact hall i s' (by omega) hs')
  (fun e H' ⟨he, hall, hH⟩ => by
   subst he hH
   refine ⟨.exit 0, _, _, ?_, by simp, .inl ⟨rfl, fun s h => ?_, rfl⟩, rfl⟩
   ·rw [ζ3a]
    simp -implicitDefEqProofs
   ·obtain ⟨i, hi⟩ := List.getElem?_of_mem h
    exact hall i s (List.getElem?_eq_some_iff.1 hi).1 hi)
 refine nrm_gc ⟨_, ?_, hx1⟩ (.bool _)
 rcases hQ with ⟨rfl, hall, rfl⟩ | ⟨rfl, rfl, hno⟩
 ·by_cases h1 : p.m.cls.length ≤ 40
  ·have h1' : (p.m.cls.length : Int) ≤ 40 := by omega
   by_cases h2 : p.m.rows.length ≤ 20
   ·have h2' : (p.m.rows.length : Int) ≤ 20 := by omega
    by_cases h3 : p.m.ents.length ≤ 40
    ·have h3' : (p.m.ents.length : Int) ≤ 40 := by omega
     by_cases h4 : p.subs.length ≤ 20
     ·have h4' : (p.subs.length : Int) ≤ 20 := by omega
      by_cases h5 : ids.length ≤ 60
      ·have h5' : (ids.length : Int) ≤ 60 := by omega
       rw [decide_eq_true (p := CSmall p ids.length) ⟨hall, h1, h2, h3, h4, h5⟩]
       simp -implicitDefEqProofs [ζi, hr1, ζ14, h1', h2', h3', h4', h5']
      ·have h5' : ¬ (ids.length : Int) ≤ 60 := by omega
       rw [decide_eq_false (p := CSmall p ids.length) (fun h => h5 h.2.2.2.2.2)]
       simp -implicitDefEqProofs [ζi, hr1, ζ14, h1', h2', h3', h4', h5']
     ·have h4' : ¬ (p.subs.length : Int) ≤ 20 := by omega
      rw [decide_eq_false (p := CSmall p ids.length) (fun h => h4 h.2.2.2.2.1)]
      simp -implicitDefEqProofs [ζi, hr1, ζ14, h1', h2', h3', h4']
    ·have h3' : ¬ (p.m.ents.length : Int) ≤ 40 := by omega
     rw [decide_eq_false (p := CSmall p ids.length) (fun h => h3 h.2.2.2.1)]
     simp -implicitDefEqProofs [ζi, hr1, ζ14, h1', h2', h3']
   ·have h2' : ¬ (p.m.rows.length : Int) ≤ 20 := by omega
    rw [decide_eq_false (p := CSmall p ids.length) (fun h => h2 h.2.2.1)]
    simp -implicitDefEqProofs [ζi, hr1, ζ14, h1', h2']
  ·have h1' : ¬ (p.m.cls.length : Int) ≤ 40 := by omega
   rw [decide_eq_false (p := CSmall p ids.length) (fun h => h1 h.2.1)]
   simp -implicitDefEqProofs [ζi, hr1, ζ14, h1']
 ·rw [decide_eq_false (p := CSmall p ids.length) (fun h => hno h.1)]
  simp -implicitDefEqProofs [ζi, hr1, ζ9r]
theorem ζif {p : Plan} (hp : p.ok) (subs : List (List Int)) : Byt (ctxBytes p subs) := by
 unfold ctxBytes
 refine (ζil hp 2 (ζy _ _)).app (Byt.app ?_ ?_)
 ·exact Byt.flat fun r hr => by obtain ⟨j, _, rfl⟩ := List.mem_map.1 hr; exact ζy _ _
 ·exact Byt.flat fun r hr => by
   obtain ⟨s, _, rfl⟩ := List.mem_map.1 hr
   exact ((((ζy _ _).app (ζy _ _)).app (ζy _ _)).app (Byt.flat fun r hr => by obtain ⟨x, _, rfl⟩ := List.mem_map.1 hr; exact ζy _ _))
theorem ζig {p : Plan} (hp : p.ok) (h1 : p.cls.length ≤ 1000) (h2 : p.rows.length ≤ 1000) (h3 : p.ents.length ≤ 1000) {subs : List (List Int)} (hs : ∀ s, s ∈ subs → s.length ≤ 60) (hn : subs.length ≤ 1000) : (ctxBytes p subs).length ≤ 300000 := by
 have hl := ζba hp 2 (rm := bytesOf ((planRoom p 2 (List.replicate 4 0)).length : Int) 4) (by simp) h1 h2 h3
 have := ζdo subs
 have := lksB_le subs hs
 unfold ctxBytes
 simp only [List.length_append]
 omega
theorem row_UR {r : List Da} {cs : List Value} (h : LayRow [.slice [.int .u16]] r cs) : ∃ b : List Int, cs = encUs b ∧ ∀ n, n ∈ b → 0 ≤ n ∧ n < 65536 := by
 obtain ⟨_, v1, _, _, rfl, h1, h⟩ := h.head
 obtain rfl := h.done
 obtain ⟨b, rfl, hb⟩ := Lay.list (enc := encU2) (ok := fun n => 0 ≤ n ∧ n < 65536) (fun r cs h => by
  obtain ⟨d, v, ds, vs, rfl, h1, h2⟩ := h.head
  obtain rfl := h2.done
  obtain ⟨n, rfl, w⟩ := h1.intv
  exact ⟨n, rfl, wf_u16 w⟩) h1
 exact ⟨b, rfl, hb⟩
abbrev cplSh : ASh := .agg [.slice [.int .u8], .slice [.slice [.int .u8]], .slice [.int .i64, .int .i64, .int .i64, .int .i64], .int .u8, .slice [.slice [.int .u16]]]
theorem arg_cpl {v : Value} (h : ArgLay cplSh v) : ∃ p, v = cplV p ∧ p.ok := by
 cases h with
 | agg ss ds vs h =>
  obtain ⟨_, v1, _, _, rfl, h1, h⟩ := h.head
  obtain ⟨_, v2, _, _, rfl, h2, h⟩ := h.head
  obtain ⟨_, v3, _, _, rfl, h3, h⟩ := h.head
  obtain ⟨_, v4, _, _, rfl, h4, h⟩ := h.head
  obtain ⟨_, v5, _, _, rfl, h5, h⟩ := h.head
  obtain rfl := h.done
  obtain ⟨a, rfl, wa⟩ := Lay.list (enc := encB) (ok := fun n => 0 ≤ n ∧ n < 256) (fun r cs h => row_B h) h1
  obtain ⟨b, rfl, wb⟩ := Lay.list (enc := encBR) (ok := Byt) (fun r cs h => row_BR h) h2
  obtain ⟨c, rfl, wc⟩ := Lay.list (enc := encEn) (ok := fun _ => True) (fun r cs h => row_En h) h3
  obtain ⟨d, rfl, wd⟩ := h4.intv
  obtain ⟨f, rfl, wn, wf⟩ := Lay.listN (enc := encUs) (ok := fun b => ∀ n, n ∈ b → 0 ≤ n ∧ n < 65536) (fun r cs h => row_UR h) h5
  exact ⟨⟨⟨a, b, c, d⟩, f⟩, rfl, ⟨⟨wa, wb, wf_u8 wd⟩, wn⟩, wf⟩
end Go.Sw
end
section
namespace Go.Sw
open Go.RowKit
def setN (f : Bool) (e : En) : En := if f then ⟨e.next, e.flags, 65535, 65535⟩ else e
theorem nils_ctx {p : Plan} (hp : p.ok) (h1 : p.cls.length ≤ 1000) (h2 : p.rows.length ≤ 1000) (h3 : p.ents.length ≤ 1000) {n : Nat} (hn : n ≤ 1000) {g : Int} {t : CTab} (h : ctxS (ctxBytes p (List.replicate n [])) g = some t) (ht : t.ok) (l : List Gl) : (runC t l).1 = l := by
 obtain ⟨_, _, hx⟩ := ζih hp h1 h2 h3 (subs := List.replicate n []) (fun s hs => by
  have := List.eq_of_mem_replicate hs
  subst this
  exact ⟨by simp, fun x h => by cases h⟩) (by simpa using hn) h
 have hnone : ∀ (j : Nat) x, t.subs[j]? = some x → ∀ id, getS x.2 id = none := fun j x hj id => by
  obtain ⟨s, hs, rfl⟩ := hx j x hj
  have := List.eq_of_mem_replicate (List.mem_of_getElem? hs)
  subst this
  rfl
 exact ζnb ht (fun e _ => ⟨.inr fun x h => hnone _ x h, .inr fun x h => hnone _ x h⟩) l
set_option maxHeartbeats 2000000 in
theorem ζjs (p : CPlan) (hp : p.ok) (ids : List Int) (f : Bool) : R (T F.ζ25) F.ζ2 [cplV p, lv encI ids, .bool f] Heap.empty = .ok (.bool true) Heap.empty := by
 generalize hk : F.ζ25 = k
 have hs := ζio k (by subst hk; rfl)
 have hk6 : k < 1000000 := by subst hk; decide
 have hW : ownW k = .no := by subst hk; rfl
 clear hk
 rw [ζbf]
 generalize Heap.empty = H
 have hx1 : Ext H (H.push ⟨cplC p, 1, false⟩) := (Ext.refl H).push _
 have hsm := fun H => ζkl k p ids H hp.1.2
 by_cases c1 : CSmall p ids.length
 rotate_left
 ·refine nrm_gc ⟨_, ?_, hx1⟩ (.bool _)
  rw [decide_eq_false c1] at hsm
  simp -implicitDefEqProofs (disch := omega) [ζ2, hs, hsm]
 rw [decide_eq_true c1] at hsm
 obtain ⟨q1, q2, q3, q4, q5, q6⟩ := c1
 have g := (Star.nil H).push ⟨cplC p, 1, false⟩
 have g := g.push ⟨planCells p.m, 1, false⟩
 have g := g.more_row (Ext.refl _) (OwnO.bare encEn _ 4) (fun b hb => by cases hb)
 simp only [List.nil_append, List.cons_append, hn_push] at g
 obtain ⟨s1, o1, H1, e1, g⟩ := g.append (bytes := 32) 2 ζ3f rfl (b := lv encEn p.m.ents) (l2 := p.m.ents) rfl (lv_first ζ3f p.m.ents _) (by simp; omega) (by decide)
 simp only [List.nil_append, List.cons_append, List.set_cons_zero, List.set_cons_succ] at g
 have b1 := g.get 0 rfl
 obtain ⟨H2, e2, g, _⟩ := g.stCell 1 rfl 2 (g.row 2 rfl).storable (g.row 2 rfl).cells (by simp)
 simp only [List.set_cons_zero, List.set_cons_succ] at g
 have b2 := g.get 1 rfl
 have hln : ∀ H', lnS s1 H' = .ok (.int .i64 p.m.ents.length) H' := (g.row 2 rfl).len
 obtain ⟨x, e', H3, hr3, rfl, rfl, g⟩ := loop_up (body := ζ3i k (R (T k))) p.m.ents.length
  (fun j e H' => e = [(1, lv encI ids), (2, .bool f), (3, ptrV H.n), (7, ptrV (H.n + 1)), (8, .slice none 0 0), (34, .int .i64 p.m.ents.length), (35, .int .i64 j)] ∧ Star H H' [itBlk H.n ⟨cplC p, 1, false⟩, itBlk (H.n + 1) ⟨[lv encB p.m.cls, lv encBR p.m.rows, s1, .int .u8 p.m.wide], 1, false⟩, itRow o1 4 s1 encEn ((p.m.ents.take j).map (setN f) ++ p.m.ents.drop j)])
  (fun x e H' => x = .exit 0 ∧ e = [(1, lv encI ids), (2, .bool f), (3, ptrV H.n), (7, ptrV (H.n + 1)), (8, .slice none 0 0), (34, .int .i64 p.m.ents.length), (35, .int .i64 p.m.ents.length), (36, .bool false)] ∧ Star H H' [itBlk H.n ⟨cplC p, 1, false⟩, itBlk (H.n + 1) ⟨[lv encB p.m.cls, lv encBR p.m.rows, s1, .int .u8 p.m.wide], 1, false⟩, itRow o1 4 s1 encEn (p.m.ents.map (setN f))])
  (e0 := [(1, lv encI ids), (2, .bool f), (3, ptrV H.n), (7, ptrV (H.n + 1)), (8, .slice none 0 0), (34, .int .i64 p.m.ents.length), (35, .int .i64 0)]) (H0 := H2) ⟨rfl, by simpa using g⟩ (by omega)
  (fun j e H' hj ⟨he, g⟩ => by
   subst he
   have hlt : (j : Int) < p.m.ents.length := by omega
   obtain ⟨y, hy⟩ : ∃ y, p.m.ents[j]? = some y := ⟨_, List.getElem?_eq_getElem hj⟩
   cases f with
   | false =>
    have hst := map_step (f := setN false) hy
    refine .inl ⟨_, H', ?_, rfl, ?_⟩
    rotate_left
    ·have hkp := map_keep (f := setN false) hy rfl
     rw [← hkp]
     exact g
    rw [ζ2p]
    simp -implicitDefEqProofs (disch := omega) [hlt, ζ8y]
   | true =>
    have hyj := map_at (f := setN true) hy
    have bq := g.get 1 rfl
    obtain ⟨c, hc, hgc, i2⟩ := g.ix 2 rfl .i64 j (by simp; omega)
    subst hc
    obtain ⟨H5, e5, g5, _⟩ := g.stRow 2 rfl ζ3f (j := j) (c := 2) (n := 1) ⟨y.next, y.flags, 65535, y.b⟩ (v := .int .i64 65535) hyj rfl rfl (by decide) rfl
    simp only [List.set_cons_zero, List.set_cons_succ] at g5
    have hyj2 : (((p.m.ents.take j).map (setN true) ++ p.m.ents.drop j).set j ⟨y.next, y.flags, 65535, y.b⟩)[j]? = some ⟨y.next, y.flags, 65535, y.b⟩ := List.getElem?_set_self (by have := (List.getElem?_eq_some_iff.1 hyj).1; exact this)
    have bq5 := g5.get 1 rfl
    obtain ⟨H6, e6, g6, _⟩ := g5.stRow 2 rfl ζ3f (j := j) (c := 3) (n := 1) ⟨y.next, y.flags, 65535, 65535⟩ (v := .int .i64 65535) hyj2 rfl rfl (by decide) rfl
    simp only [List.set_cons_zero, List.set_cons_succ, List.set_set] at g6
    have hfin := map_step (f := setN true) hy
    have g6 : Star H H6 [itBlk H.n ⟨cplC p, 1, false⟩, itBlk (H.n + 1) ⟨[lv encB p.m.cls, lv encBR p.m.rows, s1, .int .u8 p.m.wide], 1, false⟩, itRow (some c) 4 s1 encEn (((p.m.ents.take j).map (setN true) ++ p.m.ents.drop j).set j (setN true y))] := g6
    rw [hfin] at g6
    have hvq : veq s1 s1 = true := (g6.row 2 rfl).veq
    refine .inl ⟨_, H6, ?_, rfl, g6⟩
    rw [ζ2p]
    simp -implicitDefEqProofs (disch := omega) [-stR_ptr, -ld1_ptr, ld1_ptr (H.n + 1) 2, hlt, bq, bq5, i2, e5, e6, hvq, ζ8x])
  (fun e H' ⟨he, g⟩ => by
   subst he
   rw [List.take_length, List.drop_length, List.append_nil] at g
   refine ⟨.exit 0, _, H', ?_, by simp, rfl, rfl, g⟩
   rw [ζ2p]
   simp -implicitDefEqProofs)
 have b3 := g.get 1 rfl
 have b30 := g.get 0 rfl
 -- as many lookups without numbers
 obtain ⟨zz, hzz⟩ : ∃ zz : List Int × Value, zz = ([], .slice none 0 0) := ⟨_, rfl⟩
 have g := g.more_row (Ext.refl _) (OwnO.nil encSu _ 1) (fun b hb => by cases hb)
 simp only [List.cons_append, List.nil_append] at g
 obtain ⟨x, e', H4, hr4, rfl, s8, o8, rfl, g⟩ := loop_up (body := ζ3j k (R (T k))) p.subs.length
  (fun j e H' => ∃ s8 o8, e = [(1, lv encI ids), (2, .bool f), (7, ptrV (H.n + 1)), (8, s8), (52, .int .i64 p.subs.length), (53, .int .i64 j)] ∧ Star H H' [itBlk H.n ⟨cplC p, 1, false⟩, itBlk (H.n + 1) ⟨[lv encB p.m.cls, lv encBR p.m.rows, s1, .int .u8 p.m.wide], 1, false⟩, itRow o1 4 s1 encEn (p.m.ents.map (setN f)), itRow o8 1 s8 encSu (List.replicate j zz)])
  (fun x e H' => x = .exit 2 ∧ ∃ s8 o8, e = [(1, lv encI ids), (2, .bool f), (7, ptrV (H.n + 1)), (8, s8), (52, .int .i64 p.subs.length), (53, .int .i64 p.subs.length), (54, .bool false)] ∧ Star H H' [itBlk H.n ⟨cplC p, 1, false⟩, itBlk (H.n + 1) ⟨[lv encB p.m.cls, lv encBR p.m.rows, s1, .int .u8 p.m.wide], 1, false⟩, itRow o1 4 s1 encEn (p.m.ents.map (setN f)), itRow o8 1 s8 encSu (List.replicate p.subs.length zz)])
  (e0 := [(1, lv encI ids), (2, .bool f), (7, ptrV (H.n + 1)), (8, .slice none 0 0), (52, .int .i64 p.subs.length), (53, .int .i64 0)]) (H0 := H3) ⟨_, none, rfl, g⟩ (by omega)
  (fun j e H' hj ⟨s8, o8, he, g⟩ => by
   subst he
   have hlt : (j : Int) < p.subs.length := by omega
   obtain ⟨s9, o9, H5, e5, g5⟩ := g.append1 (bytes := 24) 3 ζgi rfl zz (by simp; omega) (by decide)
   simp only [List.set_cons_zero, List.set_cons_succ] at g5
   rw [← List.replicate_succ'] at g5
   rw [hzz] at e5
   refine .inl ⟨_, H5, ?_, s9, o9, rfl, g5⟩
   rw [ζ4f]
   simp -implicitDefEqProofs (disch := omega) [hlt, e5])
  (fun e H' ⟨s8, o8, he, g⟩ => by
   subst he
   refine ⟨.exit 2, _, H', ?_, by simp, rfl, s8, o8, rfl, g⟩
   rw [ζ4f]
   simp -implicitDefEqProofs)
 have b4 := g.get 1 rfl
 -- it is written
 obtain ⟨p2, hp2⟩ : ∃ p2 : Plan, p2 = ⟨p.m.cls, p.m.rows, p.m.ents.map (setN f), p.m.wide⟩ := ⟨_, rfl⟩
 have z1 : p2.cls = p.m.cls := by rw [hp2]
 have z2 : p2.rows = p.m.rows := by rw [hp2]
 have z3 : p2.ents = p.m.ents.map (setN f) := by rw [hp2]
 have z4 : p2.wide = p.m.wide := by rw [hp2]
 have z5 : p2.ok := by rw [hp2]; exact hp.1.1
 have z6 : p2.ents.length = p.m.ents.length := by rw [z3]; simp
 have hrow : Sl H4 4 s1 encEn p2.ents := by rw [z3]; exact (g.row 2 rfl).sl ζ3f
 have hw := ζii k hW p2 z5 (by rw [z1]; omega) (by rw [z2]; omega) (by omega) hrow (List.replicate p.subs.length zz) (fun x hx => by
  have := List.eq_of_mem_replicate hx
  rw [this, hzz]
  exact ⟨Sl.nil _ _, by simp, fun n h => by cases h⟩) (by simp; omega) (vS := s8) ((g.row 3 rfl).sl ζgi)
 have hfst : (List.replicate p.subs.length zz).map Prod.fst = List.replicate p.subs.length [] := by rw [List.map_replicate, hzz]
 rw [hfst, z1, z2, z4] at hw
 have hnil : ∀ s : List Int, s ∈ List.replicate p.subs.length [] → s.length ≤ 60 := fun s hs => by rw [List.eq_of_mem_replicate hs]; simp
 have hcb := ζif z5 (List.replicate p.subs.length [])
 have hcl := ζig z5 (by rw [z1]; omega) (by rw [z2]; omega) (by omega) hnil (by simp; omega)
 have hidle := fun (t : CTab) h => nils_ctx (p := p2) z5 (by rw [z1]; omega) (by rw [z2]; omega) (by omega) (n := p.subs.length) (by omega) (g := 40) (t := t) h
 generalize ctxBytes p2 (List.replicate p.subs.length []) = b at hw hcb hcl hidle
 have hrd := fun H' => ζk0 k hk6 b hcb 40 (by omega) (by omega) H'
 obtain ⟨r, rs, hrr, hrs⟩ := ζhv k b hcb 40 (by omega) (by omega) H4
 have hlnE : ∀ H', lnS s1 H' = .ok (.int .i64 p.m.ents.length) H' := hln
 cases h : ctxS b 40 with
 | none =>
  rw [h] at hrd hrr
  simp only [cV, Option.isSome_none, Bool.false_eq_true, if_false] at hrd hrr
  refine nrm_gc ⟨_, ?_, g.ext.push ⟨r15C r rs, 1, false⟩⟩ (.bool _)
  simp -implicitDefEqProofs (disch := omega) [-stR_ptr, stR_ptr 4 (H.n + 1) 0, stR_ptr 10 H4.n 0, ζ2, hs, hsm, e1, b1, e2, b2, hln, hr3, ζ1b, b30, hr4, ζ1c, b4, hw, hrd, hrr]
 | some t =>
  rw [h] at hrd hrr
  simp only [cV, Option.isSome_some, if_true] at hrd hrr
  obtain ⟨rfl, hsub⟩ := hrs t h
  have hok := ctxS_ok hcb (by omega) (by omega) h
  have hm : machS b 40 2 = some t.m := by
   unfold ctxS at h
   obtain ⟨m, hm, h⟩ := Option.bind_eq_some_iff.1 h
   obtain ⟨_, _, h⟩ := Option.bind_eq_some_iff.1 h
   obtain ⟨_, _, h⟩ := Option.bind_eq_some_iff.1 h
   obtain ⟨_, _, h⟩ := Option.map_eq_some_iff.1 h
   subst h
   exact hm
  have hsame := hidle t h hok
  have g := g.push ⟨r15C (rmOf b 40 2 t.m) rs, 1, false⟩
  simp only [List.nil_append, List.cons_append] at g
  have gP := g
  obtain ⟨c, o, H5, e5, g⟩ := ζij k g ids (by omega)
  simp only [List.nil_append, List.cons_append] at g
  obtain ⟨H6, e6, g, hlen⟩ := ζk1 k t hok g 5 rfl (by simp; omega)
  simp only [List.set_cons_zero, List.set_cons_succ] at g
  have b6 := g.get 1 rfl
  have b7 := g.get 4 rfl
  have b7p := gP.get 4 rfl
  have b6p := gP.get 1 rfl
  have hnew := fun H' => ζlm k ids (by omega) H'
  have hrun := fun H' => ζna k hcb (by omega) (by omega) t hok hm rs hsub (newG ids) (by simp; omega) H'
  rw [hsame] at g
  simp only [hsame] at hrun
  have gl := ζgm k hk6 g 5 rfl (by rw [newG_len]; omega)
  have hsm2 := fun H' => Same_run k (Rd.lv encG_len H' (newG ids)) (Rd.lv encG_len H' (newG ids)) (by rw [newG_len]; omega) (by rw [newG_len]; omega)
  have hnn : ¬ H.n + 1 = H4.n := by have := Heap.get_lt b4; omega
  generalize rmOf b 40 2 t.m = rm at hrr g gP e5 b7 b7p b6p hrun
  generalize (runC t (newG ids)).2 = w at e6 hrun
  have hveq : veq (r15V rm rs) (r15V rm rs) = true := veq_agg (l := r15C rm rs) fun v hv => by
   simp at hv
   rcases hv with rfl | rfl | rfl | rfl | rfl | rfl | rfl | rfl | rfl | rfl <;> first | exact veq_B _ | exact veq_RP _ | simp | skip
   exact veq_lv fun p _ v hv => by
    simp at hv
    rcases hv with rfl | rfl
    ·exact veq_B _
    ·exact veq_RP _
  by_cases d0 : f = true ∧ rm.n > p.m.ents.length
  ·obtain ⟨rfl, d0⟩ := d0
   refine nrm_gc ⟨_, ?_, gP.ext⟩ (.bool _)
   simp -implicitDefEqProofs (disch := omega) [-stR_ptr, stR_ptr 4 (H.n + 1) 0, stR_ptr 10 H4.n 0, ζ2, hs, hsm, e1, b1, e2, b2, hln, hr3, ζ1b, b30, hr4, ζ1c, b4, hw, hrd, hrr, b7p, b6p, hnn, d0]
  ·refine nrm_gc ⟨H6, ?_, g.ext⟩ (.bool _)
   by_cases d1 : rm.n ≤ p.m.ents.length
   ·have d1' : ¬ rm.n > p.m.ents.length := by omega
    by_cases d2 : rm.states ≤ p.m.rows.length
    ·cases f <;> simp -implicitDefEqProofs (disch := omega) [-stR_ptr, stR_ptr 4 (H.n + 1) 0, stR_ptr 10 H4.n 0, ζ2, hs, hsm, e1, b1, e2, b2, hln, hr3, ζ1b, b30, hr4, ζ1c, b4, hw, hrd, hrr, b7p, b6p, hnn, e5, e6, b6, b7, hnew, hrun, hveq, gl, hsm2, ζ2n, ζ2o, d1, d1', d2]
    ·cases f <;> simp -implicitDefEqProofs (disch := omega) [-stR_ptr, stR_ptr 4 (H.n + 1) 0, stR_ptr 10 H4.n 0, ζ2, hs, hsm, e1, b1, e2, b2, hln, hr3, ζ1b, b30, hr4, ζ1c, b4, hw, hrd, hrr, b7p, b6p, hnn, e5, e6, b6, b7, hnew, hrun, hveq, gl, hsm2, ζ2n, ζ2o, d1, d1', d2]
   ·have d1' : rm.n > p.m.ents.length := by omega
    cases f with
    | true => exact absurd ⟨rfl, d1'⟩ d0
    | false => simp -implicitDefEqProofs (disch := omega) [-stR_ptr, stR_ptr 4 (H.n + 1) 0, stR_ptr 10 H4.n 0, ζ2, hs, hsm, e1, b1, e2, b2, hln, hr3, ζ1b, b30, hr4, ζ1c, b4, hw, hrd, hrr, b7p, b6p, hnn, e5, e6, b6, b7, hnew, hrun, hveq, gl, hsm2, ζ2n, ζ2o, d1]
theorem ζid (vs : List Value) (h : ArgsLay [cplSh, .one (.slice [.int .i64]), .one .bool] vs) : ∃ H', R (T F.ζ25) F.ζ2 vs Heap.empty = .ok (.bool true) H' := by
 obtain ⟨v1, _, rfl, h1, h⟩ := h.head
 obtain ⟨v2, _, rfl, h2, h⟩ := h.head
 obtain ⟨v3, _, rfl, h3, h⟩ := h.head
 obtain rfl := h.done
 obtain ⟨p, rfl, hp⟩ := arg_cpl h1
 obtain ⟨ids, rfl, _⟩ := arg_I h2
 obtain ⟨f, rfl⟩ := arg_b h3
 exact ⟨_, ζjs p hp ids f⟩
end Go.Sw
end
section
namespace Go.Sw
open Go.RowKit
theorem names_ok : NamesOk Prog := NamesOk.of (by kernel_rfl)
theorem mixed_ok : Prog.follows .mixedOrders = true := Checked.mixed Go.Proofs.Try.checked
theorem laid_ok : laidOutB Prog = true := by kernel_rfl
theorem ζmg : SpIs Prog F.ζk fun _ args H => cloneV 3 12 args H :=
 clone_is (c := { P := Prog, kp := kpS, sp := fun _ => none }) names_ok mixed_ok (t := 31) (e := 34) (by kernel_rfl) fun call a H => (ζ39 0 _ call a H).trans (by
  unfold ζk cloneF
  simp only [be_31_0, ap_31, beR_bare])
theorem ζmf : SpIs Prog F.ζ8 fun _ args H => cloneV 2 16 args H :=
 clone_is (c := { P := Prog, kp := kpS, sp := fun _ => none }) names_ok mixed_ok (t := 50) (e := 55) (by kernel_rfl) fun call a H => (ζ38 0 _ call a H).trans (by
  unfold ζ8 cloneF
  simp only [be_50_0, ap_50, beR_bare])
theorem more_is (f : FuncId) (s : Sp) (h : moreS f = some s) : SpIs Prog f s := by
 unfold moreS at h
 cases h1 : Nat.beq f 77 with
 | true => have := Nat.eq_of_beq_eq_true h1; subst this; rw [h1, cond_true] at h; injection h with h; subst h; exact try_is
 | false =>
 rw [h1, cond_false] at h
 cases h2 : Nat.beq f 147 with
 | true => have := Nat.eq_of_beq_eq_true h2; subst this; rw [h2, cond_true] at h; injection h with h; subst h; exact ζmg
 | false =>
 rw [h2, cond_false] at h
 cases h3 : Nat.beq f 151 with
 | true => have := Nat.eq_of_beq_eq_true h3; subst this; rw [h3, cond_true] at h; injection h with h; subst h; exact ζmf
 | false =>
 rw [h3, cond_false] at h
 cases h4 : Nat.beq f 152 with
 | true => rw [h4, cond_true] at h; injection h with h; subst h; exact SpIs.stuck _ _
 | false => rw [h4, cond_false] at h; cases h
theorem T_prog (k : Nat) : (T k).c.P = Prog := by unfold T C; rfl
theorem told_ok {k m : Nat} (hsp : okTrue (run (baseCfg Prog kpS moreS) m (k % 1000000) [] Heap.empty) = true) : SpOk (T k).c := by
 have h0 : CallOk Prog (run (baseCfg Prog kpS moreS) m) := run_ok (c := baseCfg Prog kpS moreS) names_ok mixed_ok (SpOk.base more_is) m
 have h1 : SpOk (C k) := by
  unfold C
  exact SpOk.of (P := Prog) (kp := kpS) (speaks := speaksT) (more := moreS) (k := k % 1000000) h0 hsp more_is
 exact h1
end Go.Sw
end
