/-
  Functions' forms, and what is proved of them, part 10.
-/
import Derived.Test.YtnaodjnimkndbaaSwW5
import Derived.Test.YtnaodjnimkndbaaSwW9
import Derived.Test.YtnaodjnimkndbaaSwW8
import Derived.Test.YtnaodjnimkndbaaSwW4
import Derived.Test.YtnaodjnimkndbaaSwCfg
set_option linter.unusedSimpArgs false
set_option linter.unusedVariables false
set_option linter.unusedSectionVars false
section
namespace Go.Sw
open Go.RowKit
theorem Star.cut1 {H0 H : Heap} {L : List It} (h : Star H0 H L) (i : Nat) {o : Option Nat} {s : Value} {b : List Int} (hi : L[i]? = some (itRow o 1 s encB b)) (a n : Nat) (hn : 0 < n) (hfit : a + n ≤ b.length) (k1 k2 : IntKind) :
  ∃ c, o = some c ∧ s = .slice (some ⟨c, 0, none⟩) b.length b.length ∧ slS 1 s (some (.int k1 (a : Nat))) (some (.int k2 ((a + n : Nat) : Int))) none H = .ok (.slice (some ⟨c, a, none⟩) n (b.length - a)) H := by
 obtain ⟨c, rfl, rfl, hc⟩ := (h.row i hi).full (fun e => by subst e; simp at hfit; omega)
 refine ⟨c, rfl, rfl, ?_⟩
 unfold slS
 dsimp only [boundOf]
 rw [if_pos (Int.natCast_nonneg _), if_pos (Int.natCast_nonneg _)]
 simp only [Int.toNat_natCast]
 rw [if_pos ⟨Nat.le_refl _, hfit, by omega, by simp⟩]
 have : openOk H c 1 none = true := by unfold openOk; rw [hc]; simp
 rw [if_pos this, Nat.mul_one, Nat.zero_add, Nat.add_sub_cancel_left]
theorem Star.copy1 {H0 H : Heap} {L : List It} (h : Star H0 H L) (i j : Nat) {c : Nat} {o2 : Option Nat} {s s2 : Value} {b r : List Int} (hi : L[i]? = some (itRow (some c) 1 s encB b)) (hj : L[j]? = some (itRow o2 1 s2 encB r)) (a n cap : Nat) (hr : r.length = n) (hn : 0 < n) (hfit : a + n ≤ b.length) :
  ∃ H', cpR 1 (.slice (some ⟨c, a, none⟩) n cap) s2 H = .ok (.int .i64 n) H' ∧ Star H0 H' (L.set i (itRow (some c) 1 s encB (b.take a ++ (r ++ b.drop (a + n))))) := by
 obtain ⟨c', e1, e2, hc⟩ := (h.row i hi).full (fun e => by subst e; simp at hfit; omega)
 injection e1 with e1
 subst e1
 have hown2 := (h.row j hj).own0
 have hl2 := hown2.lenV
 have hf2 := hown2.first encB_len
 have hrl : (rows encB r).length = n := by rw [rows_length encB_len, hr, Nat.mul_one]
 have hbl : (rows encB b).length = b.length := by rw [rows_length encB_len, Nat.mul_one]
 have hsp : splice (rows encB b) a (rows encB r) = rows encB (b.take a ++ (r ++ b.drop (a + n))) := by
  unfold splice
  have t1 := rows_take encB_len b a
  rw [Nat.mul_one] at t1
  have t2 : (rows encB b).drop (a + n) = rows encB (b.drop (a + n)) := by
   have e : rows encB b = rows encB (b.take (a + n)) ++ rows encB (b.drop (a + n)) := by rw [← rows_append, List.take_append_drop]
   have hl : (rows encB (b.take (a + n))).length = a + n := by rw [rows_length encB_len, Nat.mul_one, List.length_take]; omega
   rw [e, List.drop_append_of_le_length (by omega), List.drop_of_length_le (by omega), List.nil_append]
  rw [t1, hrl, t2, rows_append, rows_append]
 refine ⟨_, ?_, h.setRow i hi (b.take a ++ (r ++ b.drop (a + n))) (by simp; omega)⟩
 unfold cpR
 dsimp only
 rw [hl2]
 dsimp only
 rw [hr, Nat.min_self]
 rw [hr] at hf2
 rw [hf2]
 dsimp only
 rw [if_neg (by intro e; rw [List.isEmpty_iff] at e; rw [e] at hrl; simp at hrl; omega)]
 unfold putCells
 rw [hc]
 dsimp only
 rw [if_pos (by rw [hrl, hbl]; simp; omega)]
 simp only [Res.bind]
 rw [hsp, show min (n : Int) n = n by omega]
end Go.Sw
end
section
namespace Go.Sw
open Go.RowKit
variable {σ : Type}
theorem runD_inv (m : Mach) (hm : m.ok) (ln : σ → List Gl) (f : σ → Int → En → σ × Int × Int) (P : σ → Prop) (hf : ∀ s i e, P s → 0 ≤ i → e ∈ m.ents → P (f s i e).1) (most : Int) :
  ∀ (n : Nat) (x : σ × Drv), P x.1 → 0 ≤ x.2.pl → 0 ≤ x.2.st → x.2.st < m.rows.length → P (runD m ln f most n x).2.2
 | 0, x, h, _, _, _ => h
 | n + 1, x, h, hp, h0, h1 => by
  have hmem := entS_mem hm (ln x.1) x.2 ⟨h0, h1⟩
  have hent := hm.ent _ hmem
  have hP : P (stepD m ln f x).1.1 := by unfold stepD; split <;> exact hf _ _ _ h hp hmem
  have hst : 0 ≤ (stepD m ln f x).1.2.st ∧ (stepD m ln f x).1.2.st < m.rows.length := by unfold stepD; split <;> exact ⟨hent.1, hent.2.1⟩
  have hpl := stepD_pl m ln f x
  unfold runD
  split
  ·split
   ·exact hP
   ·split
    ·exact hP
    ·exact runD_inv m hm ln f P hf most n _ hP hpl hst.1 hst.2
  ·exact h
end Go.Sw
end
section
namespace Go.Sw
open Go.RowKit
def lksB (subs : List (List Int)) : List Int := (subs.map ofS).flatten
def offsL (subs : List (List Int)) : List (List Int) := (List.range subs.length).map fun j => bytesOf (4 * subs.length + (lksB (subs.take j)).length : Int) 4
def offsB (subs : List (List Int)) : List Int := (offsL subs).flatten
theorem offsL_len (subs : List (List Int)) : (offsL subs).length = subs.length := by simp [offsL]
theorem offsL_four (subs : List (List Int)) : ∀ r, r ∈ offsL subs → r.length = 4 := fun r hr => by
 obtain ⟨j, _, rfl⟩ := List.mem_map.1 hr
 exact bytesOf_len _ _
theorem offsB_len (subs : List (List Int)) : (offsB subs).length = subs.length * 4 := by unfold offsB; rw [flat_len (offsL_four subs), offsL_len]
theorem ofS_len (s : List Int) : (ofS s).length = 6 + s.length * 2 := by unfold ofS; simp [twos_len]; omega
theorem lksB_le : ∀ (subs : List (List Int)), (∀ s, s ∈ subs → s.length ≤ 60) → (lksB subs).length ≤ subs.length * 126
 | [], _ => by simp [lksB]
 | s :: subs, h => by
  have ih := lksB_le subs fun x hx => h x (by simp [hx])
  have := h s (by simp)
  have hs := ofS_len s
  unfold lksB at ih ⊢
  simp only [List.map_cons, List.flatten_cons, List.length_append, List.length_cons]
  omega
theorem lksB_take_le (subs : List (List Int)) (j : Nat) : (lksB (subs.take j)).length ≤ (lksB subs).length := by
 have : lksB subs = lksB (subs.take j) ++ lksB (subs.drop j) := by
  unfold lksB
  rw [← List.flatten_append, ← List.map_append, List.take_append_drop]
 rw [this]
 simp
def ctxBytes (p : Plan) (subs : List (List Int)) : List Int := planRoom p 2 (bytesOf ((planRoom p 2 (List.replicate 4 0)).length : Int) 4) ++ (offsB subs ++ lksB subs)
theorem planRoom_size (p : Plan) (w : Int) (rm rm' : List Int) (h : rm.length = rm'.length) : (planRoom p w rm).length = (planRoom p w rm').length := by
 unfold planRoom
 simp [h]
end Go.Sw
end
section
namespace Go.Sw
open Go.RowKit
abbrev encU2 (n : Int) : List Value := [.int .u16 n]
theorem encU2_len (n : Int) : (encU2 n).length = 1 := rfl
abbrev encSu (x : List Int × Value) : List Value := [x.2]
theorem encSu_len (x : List Int × Value) : (encSu x).length = 1 := rfl
theorem twos_take (s : List Int) {j : Nat} {x : Int} (h : s[j]? = some x) : twos (s.take (j + 1)) = twos (s.take j) ++ bytesOf x 2 := by rw [take_snoc h, twos_snoc]
theorem w15_l2 (k : Nat) {H0 H : Heap} {L : List It} (g : Star H0 H L) (i : Nat) {o : Option Nat} {s7 : Value} {lk : List Int} (hi : L[i]? = some (itRow o 1 s7 encB lk)) {v : Value} {s : List Int} (hv : Sl H0 1 v encU2 s) (hs : ∀ x, x ∈ s → 0 ≤ x ∧ x < 65536) (hl : lk.length + 2 * s.length < 2 ^ 29) (a1 a5 a6 a16 a17 a18 : Value) :
  ∃ s' o' zz H', loopN (swashlaw15_Write_l2 k (R (T k))) loopFuel [(1, a1), (5, a5), (6, a6), (7, s7), (16, a16), (17, a17), (18, a18), (36, v), (37, .int .i64 s.length), (38, .int .i64 0)] H =
   .ok (.exit 2, [(1, a1), (5, a5), (6, a6), (7, s'), (16, a16), (17, a17), (18, a18), (36, v), (37, .int .i64 s.length), (38, zz), (39, .bool false)]) H' ∧ Star H0 H' (L.set i (itRow o' 1 s' encB (lk ++ twos s))) := by
 have hlt := (List.getElem?_eq_some_iff.1 hi).1
 have same : L.set i (itRow o 1 s7 encB lk) = L := by
  obtain ⟨hlt, hx⟩ := List.getElem?_eq_some_iff.1 hi
  rw [← hx, List.set_getElem_self]
 obtain ⟨xx, e', H1, hr1, rfl, s', o', rfl, g1⟩ := loop_up (body := swashlaw15_Write_l2 k (R (T k))) s.length
  (fun j e H' => ∃ s' o', e = [(1, a1), (5, a5), (6, a6), (7, s'), (16, a16), (17, a17), (18, a18), (36, v), (37, .int .i64 s.length), (38, .int .i64 j)] ∧ Star H0 H' (L.set i (itRow o' 1 s' encB (lk ++ twos (s.take j)))))
  (fun xx e H' => xx = .exit 2 ∧ ∃ s' o', e = [(1, a1), (5, a5), (6, a6), (7, s'), (16, a16), (17, a17), (18, a18), (36, v), (37, .int .i64 s.length), (38, .int .i64 s.length), (39, .bool false)] ∧ Star H0 H' (L.set i (itRow o' 1 s' encB (lk ++ twos s))))
  (e0 := [(1, a1), (5, a5), (6, a6), (7, s7), (16, a16), (17, a17), (18, a18), (36, v), (37, .int .i64 s.length), (38, .int .i64 0)]) (H0 := H) ⟨s7, o, rfl, by simpa [twos, same] using g⟩ (by omega)
  (fun j e H' hj ⟨s', o', he, g⟩ => by
   subst he
   have hjl : (j : Int) < s.length := by omega
   obtain ⟨x, hx⟩ : ∃ x, s[j]? = some x := ⟨_, List.getElem?_eq_getElem hj⟩
   have hxb := hs x (List.mem_of_getElem? hx)
   obtain ⟨p, i1, i2⟩ := hv.ix1 encU2_len j x hx _ rfl
   have i2 := i2 H' g.ext
   have hself : (L.set i (itRow o' 1 s' encB (lk ++ twos (s.take j))))[i]? = some (itRow o' 1 s' encB (lk ++ twos (s.take j))) := List.getElem?_set_self hlt
   obtain ⟨s2, o2, H2, e2, g2⟩ := Put_star k g i hself x 2 2 rfl hxb.1 (by omega) (by omega) (by rw [List.length_append, twos_len, List.length_take]; omega)
   rw [List.set_set, List.append_assoc, ← twos_take s hx] at g2
   refine .inl ⟨_, H2, ?_, s2, o2, rfl, g2⟩
   rw [swashlaw15_Write_l2_eq]
   simp -implicitDefEqProofs (disch := omega) [hjl, i1, i2, e2])
  (fun e H' ⟨s', o', he, g⟩ => by
   subst he
   rw [List.take_length] at g
   refine ⟨.exit 2, _, H', ?_, by simp, rfl, s', o', rfl, g⟩
   rw [swashlaw15_Write_l2_eq]
   simp -implicitDefEqProofs)
 exact ⟨s', o', _, H1, hr1, g1⟩
theorem lksB_snoc (subs : List (List Int)) {j : Nat} {s : List Int} (h : subs[j]? = some s) : lksB (subs.take (j + 1)) = lksB (subs.take j) ++ ofS s := by
 rw [take_snoc h]
 simp [lksB]
theorem offs_snoc (subs : List (List Int)) {j : Nat} (h : j < subs.length) : ((offsL subs).take (j + 1)).flatten = ((offsL subs).take j).flatten ++ bytesOf (4 * subs.length + (lksB (subs.take j)).length : Int) 4 := by
 have : (offsL subs)[j]? = some (bytesOf (4 * subs.length + (lksB (subs.take j)).length : Int) 4) := by
  unfold offsL
  rw [List.getElem?_map, List.getElem?_range h]
  rfl
 rw [take_snoc this]
 simp
theorem planRoom_copy (p : Plan) (w : Int) (rm r x : List Int) (h : rm.length = r.length) : ((planRoom p w rm) ++ x).take 16 ++ (r ++ ((planRoom p w rm) ++ x).drop (16 + r.length)) = planRoom p w r ++ x := by
 have e : ∀ rm' : List Int, rm'.length = r.length → planRoom p w rm' ++ x = (bytesOf (planN p : Int) 4 ++ (bytesOf (16 + r.length : Int) 4 ++ (bytesOf (16 + r.length + (ofS p.cls).length : Int) 4 ++ bytesOf (16 + r.length + (ofS p.cls).length + (rowsL (planN p) p.rows).length : Int) 4))) ++ (rm' ++ ((ofS p.cls ++ (rowsL (planN p) p.rows ++ entsB w p.ents)) ++ x)) := fun rm' hr => by
  unfold planRoom
  rw [hr]
  simp only [List.append_assoc]
 rw [e rm h, e r rfl]
 generalize hA : (bytesOf (planN p : Int) 4 ++ (bytesOf (16 + r.length : Int) 4 ++ (bytesOf (16 + r.length + (ofS p.cls).length : Int) 4 ++ bytesOf (16 + r.length + (ofS p.cls).length + (rowsL (planN p) p.rows).length : Int) 4))) = A
 have hAl : A.length = 16 := by rw [← hA]; simp
 generalize ((ofS p.cls ++ (rowsL (planN p) p.rows ++ entsB w p.ents)) ++ x) = Z
 rw [← hAl, List.take_left, ← h]
 rw [show A ++ (rm ++ Z) = (A ++ rm) ++ Z by rw [List.append_assoc], show A.length + rm.length = (A ++ rm).length by simp, List.drop_left]
set_option maxHeartbeats 1000000 in
theorem ctxWrite_runG (k : Nat) (hW : ownW k = .no) (p : Plan) (hp : p.ok) (h1 : p.cls.length ≤ 1000) (h2 : p.rows.length ≤ 1000) (h3 : p.ents.length ≤ 1000) {H : Heap} {vC vR sE : Value} {rv : List (List Int × Value)} (hP : PlanSl H p vC vR sE rv)
  (subs : List (List Int × Value)) (hs : ∀ x, x ∈ subs → Sl H 1 x.2 encU2 x.1 ∧ x.1.length ≤ 60 ∧ ∀ n, n ∈ x.1 → 0 ≤ n ∧ n < 65536) (hn : subs.length ≤ 1000) {vS : Value} (hvS : Sl H 1 vS encSu subs) :
  R (T k) F.swashlaw15_Write [.agg #[vC, vR, sE, .int .u8 p.wide], vS] H = .ok (lv encB (ctxBytes p (subs.map Prod.fst))) H := by
 rw [swashlaw15_Write_R]
 obtain ⟨H1, hH1⟩ : ∃ H1, H1 = H.push ⟨[vC, vR, sE, .int .u8 p.wide], 1, false⟩ := ⟨_, rfl⟩
 have hx1 : Ext H H1 := by rw [hH1]; exact (Ext.refl H).push _
 have hg1 : H1.get H.n = some ⟨[vC, vR, sE, .int .u8 p.wide], 1, false⟩ := by rw [hH1]; exact get_push_eq _ _ _ rfl
 obtain ⟨N, hN⟩ : ∃ N, N = (planRoom p 2 (List.replicate 4 0)).length := ⟨_, rfl⟩
 have hNb : N ≤ 100000 := by rw [hN]; exact planRoom_len hp 2 (by simp) h1 h2 h3
 obtain ⟨fs, hfs⟩ : ∃ fs : List (List Int), fs = subs.map Prod.fst := ⟨_, rfl⟩
 have hfl : fs.length = subs.length := by rw [hfs]; simp
 have hfb : ∀ s, s ∈ fs → s.length ≤ 60 := fun s h => by
  rw [hfs] at h
  obtain ⟨x, hx, rfl⟩ := List.mem_map.1 h
  exact (hs x hx).2.1
 have hLk := lksB_le fs hfb
 have hLk2 := lksB_take_le fs
 have hol := offsB_len fs
 obtain ⟨s0, o0, J0, e0, g, _⟩ := Write_starG k hW p hp 2 (by omega) 4 (by omega) h1 h2 h3 (Star.nil H1) (hP.up hx1)
 rw [planBytes_room] at g
 simp only [List.nil_append] at g
 have hln0 : ∀ H', lnS s0 H' = .ok (.int .i64 N) H' := by rw [hN]; exact (g.row 0 rfl).len
 have hlnS : ∀ H', lnS vS H' = .ok (.int .i64 subs.length) H' := fun H' => hvS.len H'
 have g := g.more_row (Ext.refl _) (OwnO.nil encB _ 1) (fun b hb => by cases hb)
 simp only [List.cons_append, List.nil_append] at g
 obtain ⟨xx, e', J1, hr1, rfl, s5, s7, o5, o7, rfl, g⟩ := loop_up (body := swashlaw15_Write_l1 k (R (T k))) subs.length
  (fun j e H' => ∃ s5 s7 o5 o7, e = [(1, vS), (5, s5), (6, .int .i64 N), (7, s7), (16, vS), (17, .int .i64 subs.length), (18, .int .i64 j)] ∧ Star H1 H' [itRow o5 1 s5 encB (planRoom p 2 (List.replicate 4 0) ++ ((offsL fs).take j).flatten), itRow o7 1 s7 encB (lksB (fs.take j))])
  (fun xx e H' => xx = .exit 0 ∧ ∃ s5 s7 o5 o7, e = [(1, vS), (5, s5), (6, .int .i64 N), (7, s7), (16, vS), (17, .int .i64 subs.length), (18, .int .i64 subs.length), (19, .bool false)] ∧ Star H1 H' [itRow o5 1 s5 encB (planRoom p 2 (List.replicate 4 0) ++ offsB fs), itRow o7 1 s7 encB (lksB fs)])
  (e0 := [(1, vS), (5, s0), (6, .int .i64 N), (7, .slice none 0 0), (16, vS), (17, .int .i64 subs.length), (18, .int .i64 0)]) (H0 := J0) ⟨s0, _, o0, none, rfl, by simpa [lksB] using g⟩ (by omega)
  (fun j e H' hj ⟨s5, s7, o5, o7, he, g⟩ => by
   subst he
   have hjl : (j : Int) < subs.length := by omega
   obtain ⟨x, hx⟩ : ∃ x, subs[j]? = some x := ⟨_, List.getElem?_eq_getElem hj⟩
   have hxs := hs x (List.mem_of_getElem? hx)
   have hf : fs[j]? = some x.1 := by rw [hfs, List.getElem?_map, hx]; rfl
   obtain ⟨pt, i1, i2⟩ := (hvS.up hx1).ix1 encSu_len j x hx _ rfl
   have i2 := i2 H' g.ext
   have hlx : ∀ H', lnS x.2 H' = .ok (.int .i64 x.1.length) H' := fun H' => hxs.1.len H'
   have hlk := hLk2 j
   have hl7 : ∀ H', lnS s7 H' = .ok (.int .i64 (lksB (fs.take j)).length) H' := (g.row 1 rfl).len
   have hob : ((offsL fs).take j).flatten.length ≤ 4000 := by
    rw [flat_len (fun r hr => offsL_four fs r (List.mem_of_mem_take hr)), List.length_take, offsL_len]
    omega
   obtain ⟨t1, u1, J1, f1, g⟩ := Put_star k g 0 rfl (4 * fs.length + (lksB (fs.take j)).length) 4 4 rfl (by omega) (by omega) (by omega) (by rw [List.length_append]; omega)
   simp only [List.set_cons_zero, List.set_cons_succ] at g
   rw [List.append_assoc, ← offs_snoc fs (by omega)] at g
   obtain ⟨t2, u2, J2, f2, g⟩ := Put_star k g 1 rfl 8 2 2 rfl (by omega) (by omega) (by omega) (by omega)
   simp only [List.set_cons_zero, List.set_cons_succ] at g
   obtain ⟨t3, u3, J3, f3, g⟩ := Put_star k g 1 rfl 0 2 2 rfl (by omega) (by omega) (by omega) (by rw [List.length_append, bytesOf_len]; omega)
   simp only [List.set_cons_zero, List.set_cons_succ] at g
   obtain ⟨t4, u4, J4, f4, g⟩ := Put_star k g 1 rfl x.1.length 2 2 rfl (by omega) (by omega) (by omega) (by simp only [List.length_append, bytesOf_len]; omega)
   simp only [List.set_cons_zero, List.set_cons_succ] at g
   obtain ⟨t5, u5, zz, J5, f5, g⟩ := w15_l2 k g 1 rfl (hxs.1.up hx1) hxs.2.2 (by simp only [List.length_append, bytesOf_len]; omega) vS t1 (.int .i64 N) vS (.int .i64 subs.length) (.int .i64 j)
   simp only [List.set_cons_zero, List.set_cons_succ] at g
   have hsn : lksB (fs.take j) ++ bytesOf 8 2 ++ bytesOf 0 2 ++ bytesOf x.1.length 2 ++ twos x.1 = lksB (fs.take (j + 1)) := by
    rw [lksB_snoc fs hf]
    unfold ofS
    simp only [List.append_assoc]
   rw [hsn] at g
   rw [hfl] at f1
   refine .inl ⟨_, J5, ?_, t1, t5, u1, u5, rfl, g⟩
   rw [swashlaw15_Write_l1_eq]
   simp -implicitDefEqProofs (disch := omega) [hjl, i1, i2, hlnS, hl7, f1, f2, f3, hlx, f4, f5, swashlaw15_Write_l2k_x2])
  (fun e H' ⟨s5, s7, o5, o7, he, g⟩ => by
   subst he
   rw [List.take_of_length_le (by rw [offsL_len]; omega), List.take_of_length_le (by omega)] at g
   refine ⟨.exit 0, _, H', ?_, by simp, rfl, s5, s7, o5, o7, rfl, g⟩
   rw [swashlaw15_Write_l1_eq]
   simp -implicitDefEqProofs)
 -- where the lookups stand is told
 have hbl : (planRoom p 2 (List.replicate 4 0) ++ offsB fs).length = N + fs.length * 4 := by rw [List.length_append, hol, hN]
 have hN16 : 20 ≤ N := by rw [hN]; unfold planRoom; simp; omega
 obtain ⟨c5, rfl, hs5, cut1⟩ := g.cut1 0 rfl 16 4 (by omega) (by omega) .i64 .i64
 have g := g.more_row (Ext.refl _) (OwnO.nil encB _ 1) (fun b hb => by cases hb)
 simp only [List.cons_append, List.nil_append] at g
 obtain ⟨t6, u6, J6, f6, g⟩ := Put_star k g 2 rfl N 4 4 rfl (by omega) (by omega) (by omega) (by simp)
 simp only [List.set_cons_zero, List.set_cons_succ, List.nil_append] at g
 obtain ⟨c6, h6, _, cut2⟩ := g.cut1 0 rfl 16 4 (by omega) (by omega) .i64 .i64
 have h6 := Option.some.inj h6
 subst h6
 obtain ⟨J7, f7, g⟩ := g.copy1 0 2 rfl rfl 16 4 ((planRoom p 2 (List.replicate 4 0) ++ offsB fs).length - 16) (by simp) (by omega) (by omega)
 simp only [List.set_cons_zero] at g
 have hcopy := planRoom_copy p 2 (List.replicate 4 0) (bytesOf (N : Int) 4) (offsB fs) (by simp)
 rw [bytesOf_len] at hcopy
 rw [hcopy] at g
 have hrl : (planRoom p 2 (bytesOf (N : Int) 4)).length = N := by rw [hN]; exact planRoom_size p 2 _ _ (by simp)
 obtain ⟨t8, u8, J8, f8, g⟩ := g.appendRow (bytes := 1) 0 1 encB_len rfl rfl (by rw [List.length_append, hrl]; omega) (by decide)
 simp only [List.set_cons_zero, List.set_cons_succ] at g
 have hfin : planRoom p 2 (bytesOf (N : Int) 4) ++ offsB fs ++ lksB fs = ctxBytes p fs := by unfold ctxBytes; rw [← hN, List.append_assoc]
 rw [hfin] at g
 have hown : Own H J8 1 t8 encB (ctxBytes p fs) := (g.own 0 rfl).base hx1.n
 obtain ⟨L, hf⟩ := hown.freeze encB_len (fun n _ v hv => by simp at hv; subst hv; trivial) 6
 refine nrm_fz (v := t8) (H' := J8) ?_ (by rw [← hfs]; exact hf) (hx1.trans g.ext) (Flat.B _).alive
 have hv5 : veq (.slice (some ⟨c5, 16, none⟩) 4 ((planRoom p 2 (List.replicate 4 0) ++ offsB fs).length - 16)) (.slice (some ⟨c5, 16, none⟩) 4 ((planRoom p 2 (List.replicate 4 0) ++ offsB fs).length - 16)) = true := by simp
 generalize (planRoom p 2 (List.replicate 4 0) ++ offsB fs).length - 16 = cap at cut1 cut2 f7 hv5
 have cut1 : slS 1 s5 (some (.int .i64 16)) (some (.int .i64 20)) none J1 = .ok (.slice (some ⟨c5, 16, none⟩) 4 cap) J1 := cut1
 have cut2 : slS 1 s5 (some (.int .i64 16)) (some (.int .i64 20)) none J6 = .ok (.slice (some ⟨c5, 16, none⟩) 4 cap) J6 := cut2
 rw [hH1] at e0
 have e0 : R (T k) F.swashlaw07_Write [.agg #[vC, vR, sE, .int .u8 p.wide], .int .i64 2, .int .i64 4] (H.push ⟨[vC, vR, sE, .int .u8 p.wide], 1, false⟩) = .ok s0 J0 := e0
 simp -implicitDefEqProofs (disch := omega) [swashlaw15_Write, e0, hln0, hlnS, hr1, swashlaw15_Write_l1k_x0, cut1, f6, cut2, f7, hv5, f8]
theorem ctxWrite_run (k : Nat) (hW : ownW k = .no) (p : Plan) (hp : p.ok) (h1 : p.cls.length ≤ 1000) (h2 : p.rows.length ≤ 1000) (h3 : p.ents.length ≤ 1000) {H : Heap} {sE : Value} (hsE : Sl H 4 sE encEn p.ents)
  (subs : List (List Int × Value)) (hs : ∀ x, x ∈ subs → Sl H 1 x.2 encU2 x.1 ∧ x.1.length ≤ 60 ∧ ∀ n, n ∈ x.1 → 0 ≤ n ∧ n < 65536) (hn : subs.length ≤ 1000) {vS : Value} (hvS : Sl H 1 vS encSu subs) :
  R (T k) F.swashlaw15_Write [.agg #[lv encB p.cls, lv encBR p.rows, sE, .int .u8 p.wide], vS] H = .ok (lv encB (ctxBytes p (subs.map Prod.fst))) H :=
 ctxWrite_runG k hW p hp h1 h2 h3 (PlanSl.lv H p hsE) subs hs hn hvS
end Go.Sw
end
section
namespace Go.Sw
open Go.RowKit
theorem refSet_run (k : Nat) (l : List Gl) (hl : l.length < 2 ^ 30) (j id : Int) (H : Heap) :
  R (T k) F.swashref11_Set [lv encG l, .int .i64 j, .int .i64 id] H = .ok (.tuple #[lv encG (setG l j id), .bool (decide (0 ≤ j ∧ j < l.length))]) H := by
 rw [swashref11_Set_R]
 have fl : ∀ (l : List Gl) b, Flat (.tuple #[lv encG l, .bool b]) := fun l b => .tupleL (.cons (Flat.Gls l) (.cons (.bool _) .nil))
 by_cases hj : 0 ≤ j ∧ j < l.length
 ·rw [decide_eq_true hj]
  obtain ⟨n, rfl⟩ := Int.eq_ofNat_of_zero_le hj.1
  have hn : n < l.length := by omega
  obtain ⟨gl, hgl⟩ : ∃ gl, l[n]? = some gl := ⟨_, List.getElem?_eq_getElem hn⟩
  have c1 : ¬ (n : Int) ≥ l.length := by omega
  have c0 : ¬ (n : Int) < 0 := by omega
  have g := (Star.nil H).more_row (Ext.refl _) (OwnO.bare encG _ 2) (fun b hb => by cases hb)
  obtain ⟨s1, o1, H1, e1, g⟩ := g.append (bytes := 16) 0 encG_len rfl (b := lv encG l) (l2 := l) rfl (lv_first encG_len l _) (by simp; omega) (by decide)
  simp only [List.nil_append, List.set_cons_zero] at g
  obtain ⟨c, hc, hgc, i2⟩ := g.ix 0 rfl .i64 n hn
  subst hc
  obtain ⟨H2, e2, g, _⟩ := g.stRow 0 rfl encG_len (j := n) (c := 0) (n := 1) (⟨id, gl.cl⟩ : Gl) (v := .int .i64 id) hgl rfl rfl (by decide) rfl
  simp only [Nat.add_zero, List.set_cons_zero] at e2 g
  obtain ⟨L, hf⟩ := (g.own 0 rfl).freeze encG_len (encG_still _) 5
  have hs : setG l (n : Int) id = l.set n ⟨id, gl.cl⟩ := by
   unfold setG
   rw [if_pos hj, Int.toNat_natCast]
   apply List.ext_getElem?
   intro i
   rw [List.getElem?_modify, List.getElem?_set]
   by_cases hin : n = i
   ·subst hin; simp [hn, (List.getElem?_eq_some_iff.1 hgl).2]
   ·simp [hin]
  rw [hs]
  have hft : fzV H.n H2 fzDepth (.tuple #[s1, .bool true]) = some (.tuple #[lv encG (l.set n ⟨id, gl.cl⟩), .bool true], L ++ []) :=
   fz_tuple (l := [s1, .bool true]) (r := [lv encG (l.set n ⟨id, gl.cl⟩), .bool true]) (mapF_cons hf (mapF_still fun v hv => by simp at hv; subst hv; trivial))
  refine nrm_fz (v := .tuple #[s1, .bool true]) (H' := H2) ?_ hft g.ext (fl _ _).alive
  simp -implicitDefEqProofs (disch := omega) [-stR_ptr, swashref11_Set, c0, c1, e1, i2, e2]
 ·have hs : setG l j id = l := by unfold setG; rw [if_neg hj]
  rw [decide_eq_false hj, hs]
  refine nrm_fz (v := .tuple #[lv encG l, .bool false]) (L := []) (H' := H) ?_ rfl (Ext.refl H) (fl _ _).alive
  by_cases c1 : j < 0
  ·simp -implicitDefEqProofs (disch := omega) [swashref11_Set, c1]
  ·have c2 : j ≥ l.length := by omega
   simp -implicitDefEqProofs (disch := omega) [swashref11_Set, c1, c2]
theorem refNew_run (k : Nat) (ids : List Int) (hl : ids.length < 2 ^ 30) (H : Heap) : R (T k) F.swashref11_New [lv encI ids] H = .ok (lv encG (newG ids)) H := by
 rw [swashref11_New_R]
 have g := (Star.nil H).more_row (Ext.refl _) (OwnO.bare encG _ 2) (fun b hb => by cases hb)
 simp only [List.nil_append] at g
 obtain ⟨x, e', H1, hr1, rfl, z, s, o, rfl, g⟩ := loop_up (body := swashref11_New_l1 k (R (T k))) ids.length
  (fun j e H' => ∃ s o, e = [(0, lv encI ids), (3, s), (4, .int .i64 j)] ∧ Star H H' [itRow o 2 s encG (newG (ids.take j))])
  (fun x e H' => x = .exit 0 ∧ ∃ z s o, e = [(0, lv encI ids), (3, s), (4, z), (9, .bool false)] ∧ Star H H' [itRow o 2 s encG (newG ids)])
  (e0 := [(0, lv encI ids), (3, bareV), (4, .int .i64 0)]) (H0 := H) ⟨bareV, none, rfl, g⟩ (by omega)
  (fun j e H' hj ⟨s, o, he, g⟩ => by
   subst he
   have hlt : (j : Int) < ids.length := by omega
   obtain ⟨x, hx⟩ : ∃ x, ids[j]? = some x := ⟨_, List.getElem?_eq_getElem hj⟩
   have i1 := fun H' => ixS_lvN encI_len ids .i64 j x hx H'
   have hlen : (ids.take j).length = j := by rw [List.length_take]; omega
   obtain ⟨s', o', H2, e2, g2⟩ := g.append1 (bytes := 16) 0 encG_len rfl (⟨x, j⟩ : Gl) (by rw [newG_len]; omega) (by decide)
   simp only [List.set_cons_zero] at g2
   simp only [encG] at e2
   refine .inl ⟨_, H2, ?_, s', o', rfl, by rw [take_snoc hx, newG_snoc, hlen]; exact g2⟩
   rw [swashref11_New_l1_eq]
   simp -implicitDefEqProofs (disch := omega) [hlt, i1, e2])
  (fun e H' ⟨s, o, he, g⟩ => by
   subst he
   rw [List.take_length] at g
   refine ⟨.exit 0, _, H', ?_, by simp, rfl, .int .i64 ids.length, s, o, rfl, g⟩
   rw [swashref11_New_l1_eq]
   simp -implicitDefEqProofs)
 obtain ⟨L, hf⟩ := (g.own 0 rfl).freeze encG_len (encG_still _) 6
 refine nrm_fz (v := s) (H' := H1) ?_ hf g.ext (Flat.Gls _).alive
 simp -implicitDefEqProofs (disch := omega) [swashref11_New, hr1, swashref11_New_l1k_x0]
end Go.Sw
end
section
set_option maxRecDepth 100000
set_option linter.unusedVariables false
namespace Go.Sw
noncomputable section
def swashref12_Begin (k : Nat) (call : Caller) (a0 : Value) (h : Heap) : Res Value :=
 (allocR Prog 288 h).bind fun v1 h2 =>
 (binR Prog .mul 3 (.int .i64 2) a0 h2).bind fun v3 h4 =>
 (binR Prog .add 3 v3 (.int .i64 128) h4).bind fun v5 h6 =>
 (buildR Prog 288 [(4, v5)] h6).bind fun v7 h8 =>
 (storeR Prog 288 v1 v7 h8).bind fun _v9 h10 =>
 (loadR Prog 288 v1 h10).bind fun v11 h12 =>
 .ok v11 h12
theorem swashref12_Begin_R (k : Nat) (a0 : Value) (h : Heap) : R (T k) F.swashref12_Begin [a0] h = nrm .gc h (swashref12_Begin k (R (T k)) a0 h) :=
 (R_body (t := T k) (T_scott k) (by kernel_rfl) (by kernel_rfl) _ _).trans (by kernel_rfl)
def swashref12_Next_j1 (k : Nat) (call : Caller) (a3 a4 a6 a8 : Value) (h : Heap) : Res Value :=
 kSeq (pieceK (C k) call F.swashref12_Next [1, 1, 1, 1]) (kDone Prog (resOf Prog F.swashref12_Next)) .normal [(3, a3), (4, a4), (6, a6), (8, a8)] h
def swashref12_Next_j2 (k : Nat) (call : Caller) (a2 a3 a4 a6 a8 a18 : Value) (h : Heap) : Res Value :=
 kSeq (pieceK (C k) call F.swashref12_Next [1, 1, 1, 1]) (kDone Prog (resOf Prog F.swashref12_Next)) .normal [(2, a2), (3, a3), (4, a4), (6, a6), (8, a8), (18, a18)] h
def swashref12_Next (k : Nat) (call : Caller) (a0 a1 a2 : Value) (h : Heap) : Res Value :=
 (boxR a0 h).bind fun v1 h2 =>
 (boxR a1 h2).bind fun v3 h4 =>
 (allocR Prog 150 h4).bind fun v5 h6 =>
 (fieldAddrR Prog 288 v3 5 h6).bind fun v7 h8 =>
 (loadR Prog 4 v7 h8).bind fun v9 h10 =>
 condV (some v9) (
 (buildR Prog 150 [] h10).bind fun v11 h12 =>
 (storeR Prog 150 v5 v11 h12).bind fun _v13 h14 =>
 (loadR Prog 150 v5 h14).bind fun v15 h16 =>
 .ok (.tuple #[v15, (.bool false)]) h16)
 (
 (fieldAddrR Prog 288 v3 1 h10).bind fun v17 h18 =>
 (loadR Prog 3 v17 h18).bind fun v19 h20 =>
 (builtinV Prog .len [50] [a2] h20).bind fun v21 h22 =>
 (binR Prog .lss 3 v19 v21 h22).bind fun v23 h24 =>
 condV (some v23) (
 (loadR Prog 137 v1 h24).bindN fun v25 h26 =>
 (fieldAddrR Prog 288 v3 1 h26).bindN fun v27 h28 =>
 (loadR Prog 3 v27 h28).bindN fun v29 h30 =>
 (indexAddrR Prog 50 a2 v29 h30).bindN fun v31 h32 =>
 (fieldAddrR Prog 55 v31 0 h32).bindN fun v33 h34 =>
 (loadR Prog 3 v33 h34).bindN fun v35 h36 =>
 (call F.swashref07_Class [v25, v35] h36).bindT (fun p39 h40 => .panic p39 h40) fun v37 h38 =>
 swashref12_Next_j1 k call v1 v3 v5 v37 h38)
 (
 swashref12_Next_j2 k call a2 v1 v3 v5 (.int .i64 0) v23 h24))
theorem swashref12_Next_R (k : Nat) (a0 a1 a2 : Value) (h : Heap) : R (T k) F.swashref12_Next [a0, a1, a2] h = nrm .gc h (swashref12_Next k (R (T k)) a0 a1 a2 h) :=
 (R_body (t := T k) (T_scott k) (by kernel_rfl) (by kernel_rfl) _ _).trans (by kernel_rfl)
theorem swashref12_Next_j1_eq (k : Nat) (call : Caller) (a3 a4 a6 a8 : Value) (h : Heap) : swashref12_Next_j1 k call a3 a4 a6 a8 h =
 (loadR Prog 137 a3 h).bind fun v41 h42 =>
 (fieldAddrR Prog 288 a4 0 h42).bind fun v43 h44 =>
 (loadR Prog 3 v43 h44).bind fun v45 h46 =>
 (call F.swashref07_Step [v41, v45, a8] h46).bind fun v47 h48 =>
 (extractR v47 0 h48).bind fun v49 h50 =>
 (extractR v47 1 h50).bind fun v51 h52 =>
 (allocR Prog 150 h52).bind fun v53 h54 =>
 (storeR Prog 150 v53 v49 h54).bind fun _v55 h56 =>
 (loadR Prog 150 v53 h56).bind fun v57 h58 =>
 (storeR Prog 150 a6 v57 h58).bind fun _v59 h60 =>
 (loadR Prog 150 a6 h60).bind fun v61 h62 =>
 .ok (.tuple #[v61, v51]) h62 := by kernel_rfl
theorem swashref12_Next_j2_eq (k : Nat) (call : Caller) (a2 a3 a4 a6 a8 a18 : Value) (h : Heap) : swashref12_Next_j2 k call a2 a3 a4 a6 a8 a18 h =
 (loadR Prog 137 a3 h).bind fun v63 h64 =>
 (fieldAddrR Prog 288 a4 0 h64).bind fun v65 h66 =>
 (loadR Prog 3 v65 h66).bind fun v67 h68 =>
 (call F.swashref07_Step [v63, v67, a8] h68).bind fun v69 h70 =>
 (extractR v69 0 h70).bind fun v71 h72 =>
 (extractR v69 1 h72).bind fun v73 h74 =>
 (allocR Prog 150 h74).bind fun v75 h76 =>
 (storeR Prog 150 v75 v71 h76).bind fun _v77 h78 =>
 (loadR Prog 150 v75 h78).bind fun v79 h80 =>
 (storeR Prog 150 a6 v79 h80).bind fun _v81 h82 =>
 (loadR Prog 150 a6 h82).bind fun v83 h84 =>
 .ok (.tuple #[v83, v73]) h84 := by kernel_rfl
def swashref12_Go_j1 (k : Nat) (call : Caller) (a5 a10 a11 : Value) (h : Heap) : Res Value :=
 kSeq (pieceK (C k) call F.swashref12_Go [1, 1, 1, 1, 1]) (kDone Prog (resOf Prog F.swashref12_Go)) .normal [(5, a5), (10, a10), (11, a11)] h
def swashref12_Go_j2 (k : Nat) (call : Caller) (a5 a10 a11 : Value) (h : Heap) : Res Value :=
 kSeq (pieceK (C k) call F.swashref12_Go [1, 1, 1, 1, 1, 1]) (kDone Prog (resOf Prog F.swashref12_Go)) .normal [(5, a5), (10, a10), (11, a11)] h
def swashref12_Go_j3 (k : Nat) (call : Caller) (a5 a10 a11 a39 : Value) (h : Heap) : Res Value :=
 kSeq (pieceK (C k) call F.swashref12_Go [1, 1, 1, 1, 1, 1]) (kDone Prog (resOf Prog F.swashref12_Go)) .normal [(5, a5), (10, a10), (11, a11), (39, a39)] h
def swashref12_Go_j4 (k : Nat) (call : Caller) (a5 a10 : Value) (h : Heap) : Res Value :=
 kSeq (pieceK (C k) call F.swashref12_Go [1, 1, 1, 1, 1, 1, 1]) (kDone Prog (resOf Prog F.swashref12_Go)) .normal [(5, a5), (10, a10)] h
def swashref12_Go_j5 (k : Nat) (call : Caller) (a5 a10 a52 : Value) (h : Heap) : Res Value :=
 kSeq (pieceK (C k) call F.swashref12_Go [1, 1, 1, 1, 1, 1, 1]) (kDone Prog (resOf Prog F.swashref12_Go)) .normal [(5, a5), (10, a10), (52, a52)] h
def swashref12_Go (k : Nat) (call : Caller) (a0 a1 a2 a3 a4 : Value) (h : Heap) : Res Value :=
 (boxR a0 h).bind fun v1 h2 =>
 (boxR a1 h2).bind fun v3 h4 =>
 (allocR Prog 288 h4).bind fun v5 h6 =>
 (fieldAddrR Prog 288 v1 1 h6).bind fun v7 h8 =>
 (loadR Prog 3 v7 h8).bind fun v9 h10 =>
 (binR Prog .geq 3 v9 a2 h10).bind fun v11 h12 =>
 (fieldAddrR Prog 288 v1 2 h12).bind fun v13 h14 =>
 (loadR Prog 3 v13 h14).bind fun v15 h16 =>
 (binR Prog .add 3 v15 (.int .i64 1) h16).bind fun v17 h18 =>
 (fieldAddrR Prog 288 v1 2 h18).bind fun v19 h20 =>
 (storeR Prog 3 v19 v17 h20).bind fun _v21 h22 =>
 (fieldAddrR Prog 150 v3 0 h22).bind fun v23 h24 =>
 (loadR Prog 3 v23 h24).bind fun v25 h26 =>
 (fieldAddrR Prog 288 v1 0 h26).bind fun v27 h28 =>
 (storeR Prog 3 v27 v25 h28).bind fun _v29 h30 =>
 (fieldAddrR Prog 150 v3 1 h30).bind fun v31 h32 =>
 (loadR Prog 3 v31 h32).bind fun v33 h34 =>
 (binR Prog .quo 3 v33 (.int .i64 16384) h34).bind fun v35 h36 =>
 (binR Prog .rem 3 v35 (.int .i64 2) h36).bind fun v37 h38 =>
 (binR Prog .eql 3 v37 (.int .i64 1) h38).bind fun v39 h40 =>
 condV (some v39) (
 (fieldAddrR Prog 288 v1 3 h40).bind fun v41 h42 =>
 (loadR Prog 3 v41 h42).bind fun v43 h44 =>
 (binR Prog .add 3 v43 (.int .i64 1) h44).bind fun v45 h46 =>
 (fieldAddrR Prog 288 v1 3 h46).bind fun v47 h48 =>
 (storeR Prog 3 v47 v45 h48).bind fun _v49 h50 =>
 (fieldAddrR Prog 288 v1 1 h50).bind fun v51 h52 =>
 (storeR Prog 3 v51 a3 h52).bind fun _v53 h54 =>
 swashref12_Go_j1 k call v1 v5 (.bool false) h54)
 (
 (fieldAddrR Prog 288 v1 3 h40).bind fun v55 h56 =>
 (storeR Prog 3 v55 (.int .i64 0) h56).bind fun _v57 h58 =>
 (fieldAddrR Prog 288 v1 1 h58).bind fun v59 h60 =>
 (storeR Prog 3 v59 a4 h60).bind fun _v61 h62 =>
 swashref12_Go_j1 k call v1 v5 v11 h62)
theorem swashref12_Go_R (k : Nat) (a0 a1 a2 a3 a4 : Value) (h : Heap) : R (T k) F.swashref12_Go [a0, a1, a2, a3, a4] h = nrm .gc h (swashref12_Go k (R (T k)) a0 a1 a2 a3 a4 h) :=
 (R_body (t := T k) (T_scott k) (by kernel_rfl) (by kernel_rfl) _ _).trans (by kernel_rfl)
theorem swashref12_Go_j1_eq (k : Nat) (call : Caller) (a5 a10 a11 : Value) (h : Heap) : swashref12_Go_j1 k call a5 a10 a11 h =
 (fieldAddrR Prog 288 a5 1 h).bind fun v63 h64 =>
 (loadR Prog 3 v63 h64).bind fun v65 h66 =>
 (binR Prog .lss 3 v65 (.int .i64 0) h66).bind fun v67 h68 =>
 condV (some v67) (
 (fieldAddrR Prog 288 a5 1 h68).bind fun v69 h70 =>
 (storeR Prog 3 v69 (.int .i64 0) h70).bind fun _v71 h72 =>
 swashref12_Go_j2 k call a5 a10 a11 h72)
 (
 swashref12_Go_j3 k call a5 a10 a11 v67 h68) := by kernel_rfl
theorem swashref12_Go_j2_eq (k : Nat) (call : Caller) (a5 a10 a11 : Value) (h : Heap) : swashref12_Go_j2 k call a5 a10 a11 h =
 condV (some a11) (
 (fieldAddrR Prog 288 a5 5 h).bind fun v73 h74 =>
 (storeR Prog 4 v73 (.bool true) h74).bind fun _v75 h76 =>
 swashref12_Go_j4 k call a5 a10 h76)
 (
 (fieldAddrR Prog 288 a5 2 h).bind fun v77 h78 =>
 (loadR Prog 3 v77 h78).bind fun v79 h80 =>
 (fieldAddrR Prog 288 a5 4 h80).bind fun v81 h82 =>
 (loadR Prog 3 v81 h82).bind fun v83 h84 =>
 (binR Prog .geq 3 v79 v83 h84).bind fun v85 h86 =>
 ((bif wantVal v85 false then fieldAddrR Prog 288 a5 3 h86 else Res.ok undef h86)).bind fun v87 h88 =>
 ((bif wantVal v85 false then loadR Prog 3 v87 h88 else Res.ok undef h88)).bind fun v89 h90 =>
 ((bif wantVal v85 false then binR Prog .gtr 3 v89 (.int .i64 64) h90 else Res.ok undef h90)).bind fun v91 h92 =>
 (condV (some v85) (Res.ok (.bool true) h92) (Res.ok v91 h92)).bind fun v93 h94 =>
 condV (some v93) (
 (fieldAddrR Prog 288 a5 5 h94).bind fun v95 h96 =>
 (storeR Prog 4 v95 (.bool true) h96).bind fun _v97 h98 =>
 (fieldAddrR Prog 288 a5 6 h98).bind fun v99 h100 =>
 (storeR Prog 3 v99 (.int .i64 4) h100).bind fun _v101 h102 =>
 swashref12_Go_j4 k call a5 a10 h102)
 (
 swashref12_Go_j5 k call a5 a10 v93 h94)) := by kernel_rfl
theorem swashref12_Go_j3_eq (k : Nat) (call : Caller) (a5 a10 a11 a39 : Value) (h : Heap) : swashref12_Go_j3 k call a5 a10 a11 a39 h =
 condV (some a11) (
 (fieldAddrR Prog 288 a5 5 h).bind fun v103 h104 =>
 (storeR Prog 4 v103 (.bool true) h104).bind fun _v105 h106 =>
 swashref12_Go_j4 k call a5 a10 h106)
 (
 (fieldAddrR Prog 288 a5 2 h).bind fun v107 h108 =>
 (loadR Prog 3 v107 h108).bind fun v109 h110 =>
 (fieldAddrR Prog 288 a5 4 h110).bind fun v111 h112 =>
 (loadR Prog 3 v111 h112).bind fun v113 h114 =>
 (binR Prog .geq 3 v109 v113 h114).bind fun v115 h116 =>
 ((bif wantVal v115 false then fieldAddrR Prog 288 a5 3 h116 else Res.ok undef h116)).bind fun v117 h118 =>
 ((bif wantVal v115 false then loadR Prog 3 v117 h118 else Res.ok undef h118)).bind fun v119 h120 =>
 ((bif wantVal v115 false then binR Prog .gtr 3 v119 (.int .i64 64) h120 else Res.ok undef h120)).bind fun v121 h122 =>
 (condV (some v115) (Res.ok (.bool true) h122) (Res.ok v121 h122)).bind fun v123 h124 =>
 condV (some v123) (
 (fieldAddrR Prog 288 a5 5 h124).bind fun v125 h126 =>
 (storeR Prog 4 v125 (.bool true) h126).bind fun _v127 h128 =>
 (fieldAddrR Prog 288 a5 6 h128).bind fun v129 h130 =>
 (storeR Prog 3 v129 (.int .i64 4) h130).bind fun _v131 h132 =>
 swashref12_Go_j4 k call a5 a10 h132)
 (
 swashref12_Go_j5 k call a5 a10 v123 h124)) := by kernel_rfl
theorem swashref12_Go_j4_eq (k : Nat) (call : Caller) (a5 a10 : Value) (h : Heap) : swashref12_Go_j4 k call a5 a10 h =
 (loadR Prog 288 a5 h).bind fun v133 h134 =>
 (storeR Prog 288 a10 v133 h134).bind fun _v135 h136 =>
 (loadR Prog 288 a10 h136).bind fun v137 h138 =>
 .ok v137 h138 := by kernel_rfl
theorem swashref12_Go_j5_eq (k : Nat) (call : Caller) (a5 a10 a52 : Value) (h : Heap) : swashref12_Go_j5 k call a5 a10 a52 h =
 (loadR Prog 288 a5 h).bind fun v139 h140 =>
 (storeR Prog 288 a10 v139 h140).bind fun _v141 h142 =>
 (loadR Prog 288 a10 h142).bind fun v143 h144 =>
 .ok v143 h144 := by kernel_rfl
end
end Go.Sw
end
section
namespace Go.Sw
open Go.RowKit
structure Way where
 st : Int
 pl : Int
 stp : Int
 rest : Int
 most : Int
 over : Bool
 code : Int
abbrev wayC (w : Way) : List Value := [.int .i64 w.st, .int .i64 w.pl, .int .i64 w.stp, .int .i64 w.rest, .int .i64 w.most, .bool w.over, .int .i64 w.code]
abbrev wayV (w : Way) : Value := .agg (wayC w).toArray
theorem Flat.way (w : Way) : Flat (wayV w) := .aggL (.cons (.int _ _) (.cons (.int _ _) (.cons (.int _ _) (.cons (.int _ _) (.cons (.int _ _) (.cons (.bool _) (.cons (.int _ _) .nil)))))))
theorem Begin_run (k : Nat) (n : Int) (h0 : 0 ≤ n) (h1 : n < 2 ^ 40) (H : Heap) : R (T k) F.swashref12_Begin [.int .i64 n] H = .ok (wayV ⟨0, 0, 0, 0, 2 * n + 128, false, 0⟩) H := by
 rw [swashref12_Begin_R]
 refine nrm_gc ⟨H.push ⟨wayC ⟨0, 0, 0, 0, 2 * n + 128, false, 0⟩, 1, false⟩, ?_, (Ext.refl H).push _⟩ (Flat.way _).alive
 simp -implicitDefEqProofs (disch := omega) [swashref12_Begin]
def goS (w : Way) (e : En) (n stay on : Int) : Way :=
 let s : Bool := decide (e.flags / 16384 % 2 = 1)
 let rest := if s then w.rest + 1 else 0
 let pl := max (if s then stay else on) 0
 let fin : Bool := !s && decide (w.pl ≥ n)
 if fin then ⟨e.next, pl, w.stp + 1, rest, w.most, true, w.code⟩
 else if w.stp + 1 ≥ w.most ∨ rest > 64 then ⟨e.next, pl, w.stp + 1, rest, w.most, true, 4⟩
 else ⟨e.next, pl, w.stp + 1, rest, w.most, w.over, w.code⟩
set_option maxHeartbeats 1000000 in
theorem Go_run (k : Nat) (w : Way) (e : En) (n stay on : Int) (hw : 0 ≤ w.stp ∧ w.stp < 2 ^ 50 ∧ 0 ≤ w.rest ∧ w.rest < 2 ^ 50) (he : 0 ≤ e.flags ∧ e.flags < 65536) (H : Heap) :
  R (T k) F.swashref12_Go [wayV w, encE e, .int .i64 n, .int .i64 stay, .int .i64 on] H = .ok (wayV (goS w e n stay on)) H := by
 rw [swashref12_Go_R]
 have q1 := fun H => bin_quo Prog 3 H .i64 e.flags 16384 (by decide)
 rw [Int.tdiv_eq_ediv_of_nonneg he.1] at q1
 have hq : 0 ≤ e.flags / 16384 := Int.ediv_nonneg he.1 (by decide)
 have q2 := fun H => bin_rem Prog 3 H .i64 (e.flags / 16384) 2 (by decide)
 rw [Int.tmod_eq_emod_of_nonneg hq] at q2
 refine nrm_gc ⟨((H.push ⟨wayC (goS w e n stay on), 1, false⟩).push ⟨encEn e, 1, false⟩).push ⟨wayC (goS w e n stay on), 1, false⟩, ?_, (((Ext.refl H).push _).push _).push _⟩ (Flat.way _).alive
 unfold goS
 by_cases c1 : e.flags / 16384 % 2 = 1
 ·have m1 : max stay 0 = if stay < 0 then 0 else stay := by split <;> omega
  by_cases c2 : stay < 0
  ·by_cases c3 : w.stp + 1 ≥ w.most
   ·simp -implicitDefEqProofs (disch := omega) [swashref12_Go, q1, q2, c1, m1, c2, c3, swashref12_Go_j1_eq, swashref12_Go_j2_eq, swashref12_Go_j4_eq]
   ·by_cases c4 : w.rest + 1 > 64
    ·simp -implicitDefEqProofs (disch := omega) [swashref12_Go, q1, q2, c1, m1, c2, c3, c4, swashref12_Go_j1_eq, swashref12_Go_j2_eq, swashref12_Go_j4_eq]
    ·simp -implicitDefEqProofs (disch := omega) [swashref12_Go, q1, q2, c1, m1, c2, c3, c4, swashref12_Go_j1_eq, swashref12_Go_j2_eq, swashref12_Go_j5_eq]
  ·by_cases c3 : w.stp + 1 ≥ w.most
   ·simp -implicitDefEqProofs (disch := omega) [swashref12_Go, q1, q2, c1, m1, c2, c3, swashref12_Go_j1_eq, swashref12_Go_j3_eq, swashref12_Go_j4_eq]
   ·by_cases c4 : w.rest + 1 > 64
    ·simp -implicitDefEqProofs (disch := omega) [swashref12_Go, q1, q2, c1, m1, c2, c3, c4, swashref12_Go_j1_eq, swashref12_Go_j3_eq, swashref12_Go_j4_eq]
    ·simp -implicitDefEqProofs (disch := omega) [swashref12_Go, q1, q2, c1, m1, c2, c3, c4, swashref12_Go_j1_eq, swashref12_Go_j3_eq, swashref12_Go_j5_eq]
 ·have c1' : (e.flags / 16384 % 2 == 1) = false := by simpa using c1
  have m1 : max on 0 = if on < 0 then 0 else on := by split <;> omega
  by_cases c5 : w.pl ≥ n
  ·by_cases c2 : on < 0
   ·simp -implicitDefEqProofs (disch := omega) [swashref12_Go, q1, q2, c1, c1', m1, c2, c5, swashref12_Go_j1_eq, swashref12_Go_j2_eq, swashref12_Go_j4_eq]
   ·simp -implicitDefEqProofs (disch := omega) [swashref12_Go, q1, q2, c1, c1', m1, c2, c5, swashref12_Go_j1_eq, swashref12_Go_j3_eq, swashref12_Go_j4_eq]
  ·by_cases c3 : w.stp + 1 ≥ w.most
   ·by_cases c2 : on < 0
    ·simp -implicitDefEqProofs (disch := omega) [swashref12_Go, q1, q2, c1, c1', m1, c2, c3, c5, swashref12_Go_j1_eq, swashref12_Go_j2_eq, swashref12_Go_j4_eq]
    ·simp -implicitDefEqProofs (disch := omega) [swashref12_Go, q1, q2, c1, c1', m1, c2, c3, c5, swashref12_Go_j1_eq, swashref12_Go_j3_eq, swashref12_Go_j4_eq]
   ·by_cases c2 : on < 0
    ·simp -implicitDefEqProofs (disch := omega) [swashref12_Go, q1, q2, c1, c1', m1, c2, c3, c5, swashref12_Go_j1_eq, swashref12_Go_j2_eq, swashref12_Go_j5_eq]
    ·simp -implicitDefEqProofs (disch := omega) [swashref12_Go, q1, q2, c1, c1', m1, c2, c3, c5, swashref12_Go_j1_eq, swashref12_Go_j3_eq, swashref12_Go_j5_eq]
end Go.Sw
end
section
namespace Go.Sw
open Go.RowKit
theorem atG_class (m : Mach) (l : List Gl) (pl : Int) (h : 0 ≤ pl) : (clsS m l pl).1 = if pl < l.length then (match l[pl.toNat]? with | some g => classS m g.id | none => 0) else 0 := by
 unfold clsS atG
 by_cases h2 : pl < l.length
 ·rw [if_pos ⟨h, h2⟩, if_pos h2]
  obtain ⟨g, hg⟩ : ∃ g, l[pl.toNat]? = some g := ⟨_, List.getElem?_eq_getElem (by omega)⟩
  rw [hg]
 ·rw [if_neg (fun hc => h2 hc.2), if_neg h2]
set_option maxHeartbeats 1000000 in
theorem Next_run (k : Nat) {b : List Int} (hb : Byt b) {g w : Int} (hg : 1 ≤ g ∧ g ≤ 65535) (hw : w = 0 ∨ w = 1 ∨ w = 2) (hl : b.length < 2 ^ 31) {m : Mach} (hm : m.ok) (h : machS b g w = some m) (y : Way) (hy : y.over = false) (hp : 0 ≤ y.pl) (l : List Gl) (hll : l.length < 2 ^ 40) (H : Heap) :
  R (T k) F.swashref12_Next [rmV (rmOf b g w m), wayV y, lv encG l] H = .ok (.tuple #[encEA (stepS m y.st (clsS m l y.pl).1), .bool (stepS m y.st (clsS m l y.pl).1).isSome]) H := by
 rw [swashref12_Next_R]
 have hstep := fun c H' => step7_run k hb hw hl hm h y.st c H'
 have hcls := fun id H' => class7_run k hb hg hl hm h id H'
 have hc := atG_class m l y.pl hp
 obtain ⟨st, pl, stp, rest, most, over, code⟩ := y
 dsimp only at hy hp hstep hc ⊢
 subst hy
 generalize rmOf b g w m = r at hstep hcls ⊢
 have fl : ∀ o : Option En, Flat (.tuple #[encEA o, .bool o.isSome]) := fun o => .tupleL (.cons (encEA_flat _) (.cons (.bool _) .nil))
 by_cases h2 : pl < l.length
 ·rw [if_pos h2] at hc
  obtain ⟨gl, hgl⟩ : ∃ gl, l[pl.toNat]? = some gl := ⟨_, List.getElem?_eq_getElem (by omega)⟩
  rw [hgl] at hc
  dsimp only at hc
  have i1 := fun H' => ixS_lv encG_len l .i64 pl gl hp hgl H'
  rw [hc]
  generalize hs : stepS m st (classS m gl.id) = o
  have hst := fun H' => hstep (classS m gl.id) H'
  rw [hs] at hst
  have fo := fl o
  unfold encEA at hst fo ⊢
  generalize o.isSome = z at hst fo ⊢
  generalize o.getD ⟨0, 0, 0, 0⟩ = e at hst fo ⊢
  refine nrm_gc ⟨((((H.push ⟨rmCells r.b r.cl r.rowsAt r.entsAt r.states r.n r.words r.tb r.parts, 1, false⟩).push ⟨[.int .i64 st, .int .i64 pl, .int .i64 stp, .int .i64 rest, .int .i64 most, .bool false, .int .i64 code], 1, false⟩).push ⟨encEn e, 1, false⟩).push ⟨encEn e, 1, false⟩), ?_, ((((Ext.refl H).push _).push _).push _).push _⟩ fo.alive
  simp -implicitDefEqProofs (disch := omega) [swashref12_Next, h2, i1, hcls, swashref12_Next_j1_eq, hst]
 ·rw [if_neg h2] at hc
  rw [hc]
  generalize hs : stepS m st 0 = o
  have hst := fun H' => hstep 0 H'
  rw [hs] at hst
  have fo := fl o
  unfold encEA at hst fo ⊢
  generalize o.isSome = z at hst fo ⊢
  generalize o.getD ⟨0, 0, 0, 0⟩ = e at hst fo ⊢
  refine nrm_gc ⟨((((H.push ⟨rmCells r.b r.cl r.rowsAt r.entsAt r.states r.n r.words r.tb r.parts, 1, false⟩).push ⟨[.int .i64 st, .int .i64 pl, .int .i64 stp, .int .i64 rest, .int .i64 most, .bool false, .int .i64 code], 1, false⟩).push ⟨encEn e, 1, false⟩).push ⟨encEn e, 1, false⟩), ?_, ((((Ext.refl H).push _).push _).push _).push _⟩ fo.alive
  simp -implicitDefEqProofs (disch := omega) [swashref12_Next, h2, swashref12_Next_j2_eq, hst]
end Go.Sw
end
section
set_option maxRecDepth 100000
set_option linter.unusedVariables false
namespace Go.Sw
noncomputable section
def swashref15_Read_l1 (k : Nat) (call : Caller) : Env → Heap → Res (AExit × Env) := loopB (C k) call F.swashref15_Read [1, 1, 1, 1, 1, 0, 1, 0, 0]
def swashref15_Read_l1k (k : Nat) (call : Caller) : Kont Value := kBlock 0 (kSeq (pieceK (C k) call F.swashref15_Read [1, 1, 1, 1, 1, 1]) (kDone Prog (resOf Prog F.swashref15_Read)))
def swashref15_Read_l2 (k : Nat) (call : Caller) : Env → Heap → Res (AExit × Env) := loopB (C k) call F.swashref15_Read [1, 1, 1, 1, 1, 0, 1, 0, 0, 1, 0, 0, 1, 1, 0, 0]
def swashref15_Read_l2k (k : Nat) (call : Caller) : Kont (AExit × Env) := kBlock 2 (kBlock 1 (kSeq (pieceK (C k) call F.swashref15_Read [1, 1, 1, 1, 1, 0, 1, 0, 0, 1, 1]) (kRound (ownOf (C k) F.swashref15_Read [1, 1, 1, 1, 1, 0, 1, 0, 0]))))
def swashref15_Read_j1 (k : Nat) (call : Caller) (a0 a1 a4 a6 a8 a9 a10 a11 a12 a13 : Value) (h : Heap) : Res (AExit × Env) :=
 kSeq (pieceK (C k) call F.swashref15_Read [1, 1, 1, 1, 1, 0, 1, 0, 0, 1, 0, 0, 1, 1, 0, 0, 1, 0, 0, 1, 1]) (kBlock 3 (kSeq (pieceK (C k) call F.swashref15_Read [1, 1, 1, 1, 1, 0, 1, 0, 0, 1, 0, 0, 1, 1, 0, 0, 1, 1]) (kRound (ownOf (C k) F.swashref15_Read [1, 1, 1, 1, 1, 0, 1, 0, 0, 1, 0, 0, 1, 1, 0, 0])))) .normal [(0, a0), (1, a1), (4, a4), (6, a6), (8, a8), (9, a9), (10, a10), (11, a11), (12, a12), (13, a13)] h
def swashref15_Read_j2 (k : Nat) (call : Caller) (a0 a1 a4 a6 a8 a9 a10 a11 a12 a13 a56 : Value) (h : Heap) : Res (AExit × Env) :=
 kSeq (pieceK (C k) call F.swashref15_Read [1, 1, 1, 1, 1, 0, 1, 0, 0, 1, 0, 0, 1, 1, 0, 0, 1, 0, 0, 1, 1]) (kBlock 3 (kSeq (pieceK (C k) call F.swashref15_Read [1, 1, 1, 1, 1, 0, 1, 0, 0, 1, 0, 0, 1, 1, 0, 0, 1, 1]) (kRound (ownOf (C k) F.swashref15_Read [1, 1, 1, 1, 1, 0, 1, 0, 0, 1, 0, 0, 1, 1, 0, 0])))) .normal [(0, a0), (1, a1), (4, a4), (6, a6), (8, a8), (9, a9), (10, a10), (11, a11), (12, a12), (13, a13), (56, a56)] h
def swashref15_Read_l3 (k : Nat) (call : Caller) : Env → Heap → Res (AExit × Env) := loopB (C k) call F.swashref15_Read [1, 1, 1, 1, 1, 0, 1, 0, 0, 1, 0, 0, 1, 1, 0, 0, 1, 0, 0, 1, 1, 0, 0]
def swashref15_Read_l3k (k : Nat) (call : Caller) : Kont (AExit × Env) := kBlock 4 (kBlock 3 (kSeq (pieceK (C k) call F.swashref15_Read [1, 1, 1, 1, 1, 0, 1, 0, 0, 1, 0, 0, 1, 1, 0, 0, 1, 1]) (kRound (ownOf (C k) F.swashref15_Read [1, 1, 1, 1, 1, 0, 1, 0, 0, 1, 0, 0, 1, 1, 0, 0]))))
def swashref15_Read (k : Nat) (call : Caller) (a0 a1 : Value) (h : Heap) : Res Value :=
 (allocR Prog 198 h).bind fun v1 h2 =>
 (call F.swashref07_Read [a0, a1, (.int .i64 2)] h2).bind fun v3 h4 =>
 (extractR v3 0 h4).bind fun v5 h6 =>
 (extractR v3 1 h6).bind fun v7 h8 =>
 (allocR Prog 137 h8).bind fun v9 h10 =>
 (storeR Prog 137 v9 v5 h10).bind fun _v11 h12 =>
 (call F.swashref01_U [a0, (.int .i64 16), (.int .i64 4)] h12).bind fun v13 h14 =>
 (loadR Prog 137 v9 h14).bind fun v15 h16 =>
 (buildR Prog 198 [(0, v15)] h16).bind fun v17 h18 =>
 (allocR Prog 198 h18).bind fun v19 h20 =>
 (storeR Prog 198 v19 v17 h20).bind fun _v21 h22 =>
 (unR .not v7 h22).bind fun v23 h24 =>
 ((bif wantVal v23 false then Res.ok v13 h24 else Res.ok undef h24)).bind fun v25 h26 =>
 ((bif wantVal v23 false then binR Prog .lss 3 v25 (.int .i64 0) h26 else Res.ok undef h26)).bind fun v27 h28 =>
 (condV (some v23) (Res.ok (.bool true) h28) (Res.ok v27 h28)).bind fun v29 h30 =>
 ((bif wantVal v29 false then Res.ok v13 h30 else Res.ok undef h30)).bind fun v31 h32 =>
 ((bif wantVal v29 false then Res.ok a0 h32 else Res.ok undef h32)).bind fun v33 h34 =>
 ((bif wantVal v29 false then builtinV Prog .len [65] [v33] h34 else Res.ok undef h34)).bind fun v35 h36 =>
 ((bif wantVal v29 false then binR Prog .gtr 3 v31 v35 h36 else Res.ok undef h36)).bind fun v37 h38 =>
 (condV (some v29) (Res.ok (.bool true) h38) (Res.ok v37 h38)).bind fun v39 h40 =>
 condV (some v39) (
 (loadR Prog 198 v19 h40).bind fun v41 h42 =>
 (storeR Prog 198 v1 v41 h42).bind fun _v43 h44 =>
 (loadR Prog 198 v1 h44).bind fun v45 h46 =>
 .ok (.tuple #[v45, (.bool false)]) h46)
 (
 (loopN (swashref15_Read_l1 k call) loopFuel [(0, a0), (1, a1), (4, v1), (6, v9), (8, v13), (9, v19), (10, (.int .i64 0))] h40).bind fun r47 h48 =>
 swashref15_Read_l1k k call r47.1 r47.2 h48)
theorem swashref15_Read_R (k : Nat) (a0 a1 : Value) (h : Heap) : R (T k) F.swashref15_Read [a0, a1] h = nrm .fz h (swashref15_Read k (R (T k)) a0 a1 h) :=
 (R_body (t := T k) (T_scott k) (by kernel_rfl) (by kernel_rfl) _ _).trans (by kernel_rfl)
theorem swashref15_Read_l1_eq (k : Nat) (call : Caller) (a0 a1 a4 a6 a8 a9 a10 : Value) (h : Heap) : swashref15_Read_l1 k call [(0, a0), (1, a1), (4, a4), (6, a6), (8, a8), (9, a9), (10, a10)] h =
 (fieldAddrR Prog 137 a6 5 h).bind fun v49 h50 =>
 (loadR Prog 3 v49 h50).bind fun v51 h52 =>
 (binR Prog .lss 3 a10 v51 h52).bind fun v53 h54 =>
 condV (some v53) (
 (loadR Prog 137 a6 h54).bind fun v55 h56 =>
 (call F.swashref07_Entry [v55, a10] h56).bind fun v57 h58 =>
 (allocR Prog 150 h58).bind fun v59 h60 =>
 (storeR Prog 150 v59 v57 h60).bind fun _v61 h62 =>
 (loopN (swashref15_Read_l2 k call) loopFuel [(0, a0), (1, a1), (4, a4), (6, a6), (8, a8), (9, a9), (10, a10), (11, v59), (12, (.int .i64 0))] h62).bind fun r63 h64 =>
 swashref15_Read_l2k k call r63.1 r63.2 h64)
 (
 .ok ((.exit 0), [(0, a0), (1, a1), (4, a4), (6, a6), (8, a8), (9, a9), (10, a10), (43, v53)]) h54) :=
 (loopB_eq _ _).trans (by kernel_rfl)
theorem swashref15_Read_l2_eq (k : Nat) (call : Caller) (a0 a1 a4 a6 a8 a9 a10 a11 a12 : Value) (h : Heap) : swashref15_Read_l2 k call [(0, a0), (1, a1), (4, a4), (6, a6), (8, a8), (9, a9), (10, a10), (11, a11), (12, a12)] h =
 (binR Prog .lss 3 a12 (.int .i64 2) h).bind fun v65 h66 =>
 condV (some v65) (
 (fieldAddrR Prog 150 a11 2 h66).bind fun v67 h68 =>
 (loadR Prog 3 v67 h68).bind fun v69 h70 =>
 (binR Prog .eql 3 a12 (.int .i64 1) h70).bind fun v71 h72 =>
 condV (some v71) (
 (fieldAddrR Prog 150 a11 3 h72).bind fun v73 h74 =>
 (loadR Prog 3 v73 h74).bind fun v75 h76 =>
 swashref15_Read_j1 k call a0 a1 a4 a6 a8 a9 a10 a11 a12 v75 h76)
 (
 swashref15_Read_j2 k call a0 a1 a4 a6 a8 a9 a10 a11 a12 v69 v71 h72))
 (
 .ok ((.exit 2), [(0, a0), (1, a1), (4, a4), (6, a6), (8, a8), (9, a9), (10, a10), (11, a11), (12, a12), (50, v65)]) h66) :=
 (loopB_eq _ _).trans (by kernel_rfl)
theorem swashref15_Read_j1_eq (k : Nat) (call : Caller) (a0 a1 a4 a6 a8 a9 a10 a11 a12 a13 : Value) (h : Heap) : swashref15_Read_j1 k call a0 a1 a4 a6 a8 a9 a10 a11 a12 a13 h =
 (loopN (swashref15_Read_l3 k call) loopFuel [(0, a0), (1, a1), (4, a4), (6, a6), (8, a8), (9, a9), (10, a10), (11, a11), (12, a12), (13, a13)] h).bind fun r77 h78 =>
 swashref15_Read_l3k k call r77.1 r77.2 h78 := by kernel_rfl
theorem swashref15_Read_j2_eq (k : Nat) (call : Caller) (a0 a1 a4 a6 a8 a9 a10 a11 a12 a13 a56 : Value) (h : Heap) : swashref15_Read_j2 k call a0 a1 a4 a6 a8 a9 a10 a11 a12 a13 a56 h =
 (loopN (swashref15_Read_l3 k call) loopFuel [(0, a0), (1, a1), (4, a4), (6, a6), (8, a8), (9, a9), (10, a10), (11, a11), (12, a12), (13, a13)] h).bind fun r79 h80 =>
 swashref15_Read_l3k k call r79.1 r79.2 h80 := by kernel_rfl
theorem swashref15_Read_l3_eq (k : Nat) (call : Caller) (a0 a1 a4 a6 a8 a9 a10 a11 a12 a13 : Value) (h : Heap) : swashref15_Read_l3 k call [(0, a0), (1, a1), (4, a4), (6, a6), (8, a8), (9, a9), (10, a10), (11, a11), (12, a12), (13, a13)] h =
 (binR Prog .neq 3 a13 (.int .i64 65535) h).bind fun v81 h82 =>
 ((bif wantVal v81 true then fieldAddrR Prog 198 a9 1 h82 else Res.ok undef h82)).bind fun v83 h84 =>
 ((bif wantVal v81 true then loadR Prog 196 v83 h84 else Res.ok undef h84)).bind fun v85 h86 =>
 ((bif wantVal v81 true then builtinV Prog .len [196] [v85] h86 else Res.ok undef h86)).bind fun v87 h88 =>
 ((bif wantVal v81 true then Res.ok a13 h88 else Res.ok undef h88)).bind fun v89 h90 =>
 ((bif wantVal v81 true then binR Prog .leq 3 v87 v89 h90 else Res.ok undef h90)).bind fun v91 h92 =>
 (condV (some v81) (Res.ok v91 h92) (Res.ok (.bool false) h92)).bind fun v93 h94 =>
 condV (some v93) (
 (fieldAddrR Prog 198 a9 1 h94).bind fun v95 h96 =>
 (loadR Prog 196 v95 h96).bind fun v97 h98 =>
 (builtinV Prog .len [196] [v97] h98).bind fun v99 h100 =>
 (binR Prog .mul 3 (.int .i64 4) v99 h100).bind fun v101 h102 =>
 (binR Prog .add 3 a8 v101 h102).bind fun v103 h104 =>
 (call F.swashref01_U [a0, v103, (.int .i64 4)] h104).bind fun v105 h106 =>
 (binR Prog .lss 3 v105 (.int .i64 0) h106).bind fun v107 h108 =>
 ((bif wantVal v107 false then Res.ok v105 h108 else Res.ok undef h108)).bind fun v109 h110 =>
 ((bif wantVal v107 false then Res.ok a0 h110 else Res.ok undef h110)).bind fun v111 h112 =>
 ((bif wantVal v107 false then builtinV Prog .len [65] [v111] h112 else Res.ok undef h112)).bind fun v113 h114 =>
 ((bif wantVal v107 false then Res.ok a8 h114 else Res.ok undef h114)).bind fun v115 h116 =>
 ((bif wantVal v107 false then binR Prog .sub 3 v113 v115 h116 else Res.ok undef h116)).bind fun v117 h118 =>
 ((bif wantVal v107 false then binR Prog .gtr 3 v109 v117 h118 else Res.ok undef h118)).bind fun v119 h120 =>
 (condV (some v107) (Res.ok (.bool true) h120) (Res.ok v119 h120)).bind fun v121 h122 =>
 condV (some v121) (
 (loadR Prog 198 a9 h122).bind fun v123 h124 =>
 (storeR Prog 198 a4 v123 h124).bind fun _v125 h126 =>
 .ok (.ret, [(4, a4), (5, (.bool false))]) h126)
 (
 (binR Prog .add 3 a8 v105 h122).bind fun v127 h128 =>
 (sliceR Prog 65 a0 (some v127) none none h128).bind fun v129 h130 =>
 (call F.swashref06_Read [v129, a1, (.int .i64 2)] h130).bind fun v131 h132 =>
 (extractR v131 0 h132).bind fun v133 h134 =>
 (extractR v131 1 h134).bind fun v135 h136 =>
 (allocR Prog 88 h136).bind fun v137 h138 =>
 (storeR Prog 88 v137 v133 h138).bind fun _v139 h140 =>
 (unR .not v135 h140).bind fun v141 h142 =>
 condV (some v141) (
 (loadR Prog 198 a9 h142).bind fun v143 h144 =>
 (storeR Prog 198 a4 v143 h144).bind fun _v145 h146 =>
 .ok (.ret, [(4, a4), (5, (.bool false))]) h146)
 (
 (fieldAddrR Prog 198 a9 1 h142).bind fun v147 h148 =>
 (loadR Prog 196 v147 h148).bind fun v149 h150 =>
 (loadR Prog 88 v137 h150).bind fun v151 h152 =>
 (buildSliceR Prog 196 1 [(0, v151)] h152).bind fun v153 h154 =>
 (builtinV Prog .append [196, 196] [v149, v153] h154).bind fun v155 h156 =>
 (fieldAddrR Prog 198 a9 1 h156).bind fun v157 h158 =>
 (storeR Prog 196 v157 v155 h158).bind fun _v159 h160 =>
 .ok (.normal, [(0, a0), (1, a1), (4, a4), (6, a6), (8, a8), (9, a9), (10, a10), (11, a11), (12, a12), (13, a13)]) h160)))
 (
 .ok ((.exit 4), [(0, a0), (1, a1), (4, a4), (6, a6), (8, a8), (9, a9), (10, a10), (11, a11), (12, a12), (13, a13), (67, v93)]) h94) :=
 (loopB_eq _ _).trans (by kernel_rfl)
theorem swashref15_Read_l1k_x0 (k : Nat) (call : Caller) (a0 a1 a4 a6 a8 a9 a10 a43 : Value) (h : Heap) : swashref15_Read_l1k k call (.exit 0) [(0, a0), (1, a1), (4, a4), (6, a6), (8, a8), (9, a9), (10, a10), (43, a43)] h =
 (loadR Prog 198 a9 h).bind fun v161 h162 =>
 (storeR Prog 198 a4 v161 h162).bind fun _v163 h164 =>
 (loadR Prog 198 a4 h164).bind fun v165 h166 =>
 .ok (.tuple #[v165, (.bool true)]) h166 := by kernel_rfl
theorem swashref15_Read_l2k_x2 (k : Nat) (call : Caller) (a0 a1 a4 a6 a8 a9 a10 a11 a12 a50 : Value) (h : Heap) : swashref15_Read_l2k k call (.exit 2) [(0, a0), (1, a1), (4, a4), (6, a6), (8, a8), (9, a9), (10, a10), (11, a11), (12, a12), (50, a50)] h =
 (binR Prog .add 3 a10 (.int .i64 1) h).bind fun v167 h168 =>
 .ok (.normal, [(0, a0), (1, a1), (4, a4), (6, a6), (8, a8), (9, a9), (10, v167)]) h168 := by kernel_rfl
theorem swashref15_Read_l3k_r (k : Nat) (call : Caller) (a4 a5 : Value) (h : Heap) : swashref15_Read_l3k k call .ret [(4, a4), (5, a5)] h =
 .ok (.ret, [(4, a4), (5, a5)]) h := by kernel_rfl
theorem swashref15_Read_l3k_x4 (k : Nat) (call : Caller) (a0 a1 a4 a6 a8 a9 a10 a11 a12 a13 a67 : Value) (h : Heap) : swashref15_Read_l3k k call (.exit 4) [(0, a0), (1, a1), (4, a4), (6, a6), (8, a8), (9, a9), (10, a10), (11, a11), (12, a12), (13, a13), (67, a67)] h =
 (binR Prog .add 3 a12 (.int .i64 1) h).bind fun v169 h170 =>
 .ok (.normal, [(0, a0), (1, a1), (4, a4), (6, a6), (8, a8), (9, a9), (10, a10), (11, a11), (12, v169)]) h170 := by kernel_rfl
theorem swashref15_Read_l2k_r (k : Nat) (call : Caller) (a4 a5 : Value) (h : Heap) : swashref15_Read_l2k k call .ret [(4, a4), (5, a5)] h =
 .ok (.ret, [(4, a4), (5, a5)]) h := by kernel_rfl
theorem swashref15_Read_l1k_r (k : Nat) (call : Caller) (a4 a5 : Value) (h : Heap) : swashref15_Read_l1k k call .ret [(4, a4), (5, a5)] h =
 (loadR Prog 198 a4 h).bind fun v171 h172 =>
 .ok (.tuple #[v171, a5]) h172 := by kernel_rfl
def swashref15_Run_l1 (k : Nat) (call : Caller) : Env → Heap → Res (AExit × Env) := loopB (C k) call F.swashref15_Run [1, 1, 1, 0, 0, 0]
def swashref15_Run_l1k (k : Nat) (call : Caller) : Kont Value := kBlock 0 (kSeq (pieceK (C k) call F.swashref15_Run [1, 1, 1, 1]) (kDone Prog (resOf Prog F.swashref15_Run)))
def swashref15_Run_j1 (k : Nat) (call : Caller) (a1 a2 a6 a7 a8 : Value) (h : Heap) : Res (AExit × Env) :=
 kSeq (pieceK (C k) call F.swashref15_Run [1, 1, 1, 0, 0, 0, 1, 0, 1, 1, 1, 1]) (kBlock 1 (kRound (ownOf (C k) F.swashref15_Run [1, 1, 1, 0, 0, 0]))) .normal [(1, a1), (2, a2), (6, a6), (7, a7), (8, a8)] h
def swashref15_Run_j2 (k : Nat) (call : Caller) (a1 a2 a6 a7 a8 a46 : Value) (h : Heap) : Res (AExit × Env) :=
 kSeq (pieceK (C k) call F.swashref15_Run [1, 1, 1, 0, 0, 0, 1, 0, 1, 1, 1, 1]) (kBlock 1 (kRound (ownOf (C k) F.swashref15_Run [1, 1, 1, 0, 0, 0]))) .normal [(1, a1), (2, a2), (6, a6), (7, a7), (8, a8), (46, a46)] h
def swashref15_Run (k : Nat) (call : Caller) (a0 a1 : Value) (h : Heap) : Res Value :=
 (boxR a0 h).bind fun v1 h2 =>
 (builtinV Prog .len [50] [a1] h2).bind fun v3 h4 =>
 (call F.swashref12_Begin [v3] h4).bind fun v5 h6 =>
 (allocR Prog 288 h6).bind fun v7 h8 =>
 (storeR Prog 288 v7 v5 h8).bind fun _v9 h10 =>
 (loopN (swashref15_Run_l1 k call) loopFuel [(1, a1), (2, v1), (6, v7), (7, (.int .i64 (-1)))] h10).bind fun r11 h12 =>
 swashref15_Run_l1k k call r11.1 r11.2 h12
theorem swashref15_Run_R (k : Nat) (a0 a1 : Value) (h : Heap) : R (T k) F.swashref15_Run [a0, a1] h = nrm .fz h (swashref15_Run k (R (T k)) a0 a1 h) :=
 (R_body (t := T k) (T_scott k) (by kernel_rfl) (by kernel_rfl) _ _).trans (by kernel_rfl)
theorem swashref15_Run_l1_eq (k : Nat) (call : Caller) (a1 a2 a6 a7 : Value) (h : Heap) : swashref15_Run_l1 k call [(1, a1), (2, a2), (6, a6), (7, a7)] h =
 (fieldAddrR Prog 288 a6 5 h).bind fun v13 h14 =>
 (loadR Prog 4 v13 h14).bind fun v15 h16 =>
 (unR .not v15 h16).bind fun v17 h18 =>
 condV (some v17) (
 (fieldAddrR Prog 198 a2 0 h18).bind fun v19 h20 =>
 (loadR Prog 137 v19 h20).bind fun v21 h22 =>
 (loadR Prog 288 a6 h22).bind fun v23 h24 =>
 (call F.swashref12_Next [v21, v23, a1] h24).bind fun v25 h26 =>
 (extractR v25 0 h26).bind fun v27 h28 =>
 (extractR v25 1 h28).bind fun v29 h30 =>
 (allocR Prog 150 h30).bind fun v31 h32 =>
 (storeR Prog 150 v31 v27 h32).bind fun _v33 h34 =>
 (loadR Prog 198 a2 h34).bind fun v35 h36 =>
 (fieldAddrR Prog 150 v31 2 h36).bind fun v37 h38 =>
 (loadR Prog 3 v37 h38).bind fun v39 h40 =>
 (call F.swashref15_swap [v35, a1, a7, v39] h40).bind fun v41 h42 =>
 (loadR Prog 198 a2 h42).bind fun v43 h44 =>
 (fieldAddrR Prog 288 a6 1 h44).bind fun v45 h46 =>
 (loadR Prog 3 v45 h46).bind fun v47 h48 =>
 (fieldAddrR Prog 150 v31 3 h48).bind fun v49 h50 =>
 (loadR Prog 3 v49 h50).bind fun v51 h52 =>
 (call F.swashref15_swap [v43, v41, v47, v51] h52).bind fun v53 h54 =>
 (fieldAddrR Prog 150 v31 1 h54).bind fun v55 h56 =>
 (loadR Prog 3 v55 h56).bind fun v57 h58 =>
 (binR Prog .geq 3 v57 (.int .i64 32768) h58).bind fun v59 h60 =>
 ((bif wantVal v59 true then fieldAddrR Prog 288 a6 1 h60 else Res.ok undef h60)).bind fun v61 h62 =>
 ((bif wantVal v59 true then loadR Prog 3 v61 h62 else Res.ok undef h62)).bind fun v63 h64 =>
 ((bif wantVal v59 true then Res.ok v53 h64 else Res.ok undef h64)).bind fun v65 h66 =>
 ((bif wantVal v59 true then builtinV Prog .len [50] [v65] h66 else Res.ok undef h66)).bind fun v67 h68 =>
 ((bif wantVal v59 true then binR Prog .lss 3 v63 v67 h68 else Res.ok undef h68)).bind fun v69 h70 =>
 (condV (some v59) (Res.ok v69 h70) (Res.ok (.bool false) h70)).bind fun v71 h72 =>
 condV (some v71) (
 (fieldAddrR Prog 288 a6 1 h72).bind fun v73 h74 =>
 (loadR Prog 3 v73 h74).bind fun v75 h76 =>
 swashref15_Run_j1 k call v53 a2 a6 v75 v31 h76)
 (
 swashref15_Run_j2 k call v53 a2 a6 a7 v31 v71 h72))
 (
 .ok ((.exit 0), [(1, a1), (2, a2), (6, a6), (7, a7), (15, v17)]) h18) :=
 (loopB_eq _ _).trans (by kernel_rfl)
theorem swashref15_Run_j1_eq (k : Nat) (call : Caller) (a1 a2 a6 a7 a8 : Value) (h : Heap) : swashref15_Run_j1 k call a1 a2 a6 a7 a8 h =
 (loadR Prog 288 a6 h).bind fun v77 h78 =>
 (loadR Prog 150 a8 h78).bind fun v79 h80 =>
 (builtinV Prog .len [50] [a1] h80).bind fun v81 h82 =>
 (fieldAddrR Prog 288 a6 1 h82).bind fun v83 h84 =>
 (loadR Prog 3 v83 h84).bind fun v85 h86 =>
 (fieldAddrR Prog 288 a6 1 h86).bind fun v87 h88 =>
 (loadR Prog 3 v87 h88).bind fun v89 h90 =>
 (binR Prog .add 3 v89 (.int .i64 1) h90).bind fun v91 h92 =>
 (call F.swashref12_Go [v77, v79, v81, v85, v91] h92).bind fun v93 h94 =>
 (storeR Prog 288 a6 v93 h94).bind fun _v95 h96 =>
 .ok (.normal, [(1, a1), (2, a2), (6, a6), (7, a7)]) h96 := by kernel_rfl
theorem swashref15_Run_j2_eq (k : Nat) (call : Caller) (a1 a2 a6 a7 a8 a46 : Value) (h : Heap) : swashref15_Run_j2 k call a1 a2 a6 a7 a8 a46 h =
 (loadR Prog 288 a6 h).bind fun v97 h98 =>
 (loadR Prog 150 a8 h98).bind fun v99 h100 =>
 (builtinV Prog .len [50] [a1] h100).bind fun v101 h102 =>
 (fieldAddrR Prog 288 a6 1 h102).bind fun v103 h104 =>
 (loadR Prog 3 v103 h104).bind fun v105 h106 =>
 (fieldAddrR Prog 288 a6 1 h106).bind fun v107 h108 =>
 (loadR Prog 3 v107 h108).bind fun v109 h110 =>
 (binR Prog .add 3 v109 (.int .i64 1) h110).bind fun v111 h112 =>
 (call F.swashref12_Go [v97, v99, v101, v105, v111] h112).bind fun v113 h114 =>
 (storeR Prog 288 a6 v113 h114).bind fun _v115 h116 =>
 .ok (.normal, [(1, a1), (2, a2), (6, a6), (7, a7)]) h116 := by kernel_rfl
theorem swashref15_Run_l1k_x0 (k : Nat) (call : Caller) (a1 a2 a6 a7 a15 : Value) (h : Heap) : swashref15_Run_l1k k call (.exit 0) [(1, a1), (2, a2), (6, a6), (7, a7), (15, a15)] h =
 (fieldAddrR Prog 288 a6 6 h).bindN fun v117 h118 =>
 (loadR Prog 3 v117 h118).bindN fun v119 h120 =>
 .ok (.tuple #[a1, v119]) h120 := by kernel_rfl
def swashref15_swap_j1 (k : Nat) (call : Caller) (a1 : Value) (h : Heap) : Res Value :=
 kSeq (pieceK (C k) call F.swashref15_swap [1, 1, 1, 1]) (kDone Prog (resOf Prog F.swashref15_swap)) .normal [(1, a1)] h
def swashref15_swap_j2 (k : Nat) (call : Caller) (a1 a2 a9 a38 : Value) (h : Heap) : Res Value :=
 kSeq (pieceK (C k) call F.swashref15_swap [1, 1, 1, 1]) (kDone Prog (resOf Prog F.swashref15_swap)) .normal [(1, a1), (2, a2), (9, a9), (38, a38)] h
def swashref15_swap (k : Nat) (call : Caller) (a0 a1 a2 a3 : Value) (h : Heap) : Res Value :=
 (boxR a0 h).bind fun v1 h2 =>
 (binR Prog .eql 3 a3 (.int .i64 65535) h2).bind fun v3 h4 =>
 ((bif wantVal v3 false then Res.ok a2 h4 else Res.ok undef h4)).bind fun v5 h6 =>
 ((bif wantVal v3 false then binR Prog .lss 3 v5 (.int .i64 0) h6 else Res.ok undef h6)).bind fun v7 h8 =>
 (condV (some v3) (Res.ok (.bool true) h8) (Res.ok v7 h8)).bind fun v9 h10 =>
 ((bif wantVal v9 false then Res.ok a2 h10 else Res.ok undef h10)).bind fun v11 h12 =>
 ((bif wantVal v9 false then Res.ok a1 h12 else Res.ok undef h12)).bind fun v13 h14 =>
 ((bif wantVal v9 false then builtinV Prog .len [50] [v13] h14 else Res.ok undef h14)).bind fun v15 h16 =>
 ((bif wantVal v9 false then binR Prog .geq 3 v11 v15 h16 else Res.ok undef h16)).bind fun v17 h18 =>
 (condV (some v9) (Res.ok (.bool true) h18) (Res.ok v17 h18)).bind fun v19 h20 =>
 condV (some v19) (
 .ok a1 h20)
 (
 (fieldAddrR Prog 198 v1 1 h20).bindN fun v21 h22 =>
 (loadR Prog 196 v21 h22).bindN fun v23 h24 =>
 (indexAddrR Prog 196 v23 a3 h24).bindN fun v25 h26 =>
 (loadR Prog 88 v25 h26).bindN fun v27 h28 =>
 (indexAddrR Prog 50 a1 a2 h28).bindN fun v29 h30 =>
 (fieldAddrR Prog 55 v29 0 h30).bindN fun v31 h32 =>
 (loadR Prog 3 v31 h32).bindN fun v33 h34 =>
 (call F.swashref06_Get [v27, v33] h34).bindT (fun p37 h38 => .panic p37 h38) fun v35 h36 =>
 (extractR v35 0 h36).bindN fun v39 h40 =>
 (extractR v35 1 h40).bindN fun v41 h42 =>
 condV (some v41) (
 (call F.swashref11_Set [a1, a2, v39] h42).bind fun v43 h44 =>
 (extractR v43 0 h44).bind fun v45 h46 =>
 (extractR v43 1 h46).bind fun v47 h48 =>
 swashref15_swap_j1 k call v45 h48)
 (
 swashref15_swap_j2 k call a1 a2 v39 v41 h42))
theorem swashref15_swap_R (k : Nat) (a0 a1 a2 a3 : Value) (h : Heap) : R (T k) F.swashref15_swap [a0, a1, a2, a3] h = nrm .fz h (swashref15_swap k (R (T k)) a0 a1 a2 a3 h) :=
 (R_body (t := T k) (T_scott k) (by kernel_rfl) (by kernel_rfl) _ _).trans (by kernel_rfl)
theorem swashref15_swap_j1_eq (k : Nat) (call : Caller) (a1 : Value) (h : Heap) : swashref15_swap_j1 k call a1 h =
 .ok a1 h := by kernel_rfl
theorem swashref15_swap_j2_eq (k : Nat) (call : Caller) (a1 a2 a9 a38 : Value) (h : Heap) : swashref15_swap_j2 k call a1 a2 a9 a38 h =
 .ok a1 h := by kernel_rfl
end
end Go.Sw
end
section
namespace Go.Sw
open Go.RowKit
abbrev encRT (x : List Int × List RP) : List Value := [lv encB x.1, lv encRP x.2]
theorem encRT_len (x : List Int × List RP) : (encRT x).length = 2 := rfl
abbrev r15C (r : RMach) (subs : List (List Int × List RP)) : List Value := [lv encB r.b, .int .i64 r.cl, .int .i64 r.rowsAt, .int .i64 r.entsAt, .int .i64 r.states, .int .i64 r.n, .int .i64 r.words, lv encB r.tb, lv encRP r.parts, lv encRT subs]
abbrev r15V (r : RMach) (subs : List (List Int × List RP)) : Value := .agg (r15C r subs).toArray
def Subs15 (subs : List (Int × List Pt)) (rs : List (List Int × List RP)) : Prop :=
 subs.length = rs.length ∧ ∀ (i : Nat) x y, subs[i]? = some x → rs[i]? = some y → Byt y.1 ∧ y.1.length < 2 ^ 31 ∧ Rel y.1 x.2 y.2 ∧ (∀ r, r ∈ y.2 → r.ok) ∧ y.2.length < 2 ^ 31
theorem swap15_run (k : Nat) (t : CTab) (ht : t.ok) (r : RMach) (rs : List (List Int × List RP)) (hrs : Subs15 t.subs rs) (l : List Gl) (hl : l.length < 2 ^ 30) (j w : Int) (hw : w = 65535 ∨ 0 ≤ w ∧ w < t.subs.length) (H : Heap) :
  R (T k) F.swashref15_swap [r15V r rs, lv encG l, .int .i64 j, .int .i64 w] H = .ok (lv encG (swapC t l j w)) H := by
 rw [swashref15_swap_R]
 have hx : Ext H (H.push ⟨r15C r rs, 1, false⟩) := (Ext.refl H).push _
 unfold swapC atG
 by_cases hw0 : w = 65535
 ·rw [if_pos hw0]
  refine nrm_fz (v := lv encG l) (L := []) (H' := H.push ⟨r15C r rs, 1, false⟩) ?_ rfl hx (Flat.Gls _).alive
  simp -implicitDefEqProofs (disch := omega) [swashref15_swap, hw0]
 rw [if_neg hw0]
 have hw1 : (w == 65535) = false := by simpa using hw0
 by_cases c1 : j < 0
 ·rw [if_neg (by omega)]
  refine nrm_fz (v := lv encG l) (L := []) (H' := H.push ⟨r15C r rs, 1, false⟩) ?_ rfl hx (Flat.Gls _).alive
  simp -implicitDefEqProofs (disch := omega) [swashref15_swap, hw1, c1]
 by_cases c2 : j ≥ l.length
 ·rw [if_neg (by omega)]
  refine nrm_fz (v := lv encG l) (L := []) (H' := H.push ⟨r15C r rs, 1, false⟩) ?_ rfl hx (Flat.Gls _).alive
  simp -implicitDefEqProofs (disch := omega) [swashref15_swap, hw1, c1, c2]
 rw [if_pos (by omega)]
 obtain ⟨gl, hgl⟩ : ∃ gl, l[j.toNat]? = some gl := ⟨_, List.getElem?_eq_getElem (by omega)⟩
 obtain ⟨n, rfl⟩ := Int.eq_ofNat_of_zero_le (show 0 ≤ w by omega)
 obtain ⟨x, hxs⟩ : ∃ x, t.subs[n]? = some x := ⟨_, List.getElem?_eq_getElem (by omega)⟩
 have hlen := hrs.1
 obtain ⟨y, hys⟩ : ∃ y, rs[n]? = some y := ⟨_, List.getElem?_eq_getElem (by omega)⟩
 obtain ⟨y1, y2, y3, y4, y5⟩ := hrs.2 n x y hxs hys
 have xo := ht.subs x (List.mem_of_getElem? hxs)
 have i1 := fun H' => ixS_lvN encRT_len rs .i64 n y hys H'
 have i2 := fun H' => ixS_lv encG_len l .i64 j gl (by omega) hgl H'
 have hget := fun H' => get06_run k y.1 y1 y.2 y4 y5 y2 gl.id H'
 rw [← get_ref y3 xo.1 xo.2.1] at hget
 have hset := fun id H' => refSet_run k l hl j id H'
 rw [hgl]
 dsimp only
 rw [Int.toNat_natCast, hxs, Option.bind_some]
 cases hg : getS x.2 gl.id with
 | none =>
  rw [hg] at hget
  simp at hget
  refine nrm_fz (v := lv encG l) (L := []) (H' := H.push ⟨r15C r rs, 1, false⟩) ?_ rfl hx (Flat.Gls _).alive
  simp -implicitDefEqProofs (disch := omega) [swashref15_swap, hw1, c1, c2, i1, i2, hget, swashref15_swap_j2_eq]
 | some id =>
  rw [hg] at hget
  simp at hget
  refine nrm_fz (v := lv encG (setG l j id)) (L := []) (H' := H.push ⟨r15C r rs, 1, false⟩) ?_ rfl hx (Flat.Gls _).alive
  simp -implicitDefEqProofs (disch := omega) [swashref15_swap, hw1, c1, c2, i1, i2, hget, hset, swashref15_swap_j1_eq]
end Go.Sw
end
section
namespace Go.Sw
open Go.RowKit
variable {σ : Type}
abbrev drvW (y : Way) : Drv := ⟨y.st, y.pl, y.stp, y.rest⟩
theorem clsS_end (m : Mach) (l : List Gl) (p : Int) (h : 0 ≤ p) : (clsS m l p).2 = decide (p ≥ l.length) := by
 unfold clsS atG
 by_cases h2 : p < l.length
 ·obtain ⟨g, hg⟩ : ∃ g, l[p.toNat]? = some g := ⟨_, List.getElem?_eq_getElem (by omega)⟩
  rw [if_pos ⟨h, h2⟩, hg, decide_eq_false (by omega)]
 ·rw [if_neg (fun hc => h2 hc.2), decide_eq_true (by omega)]
end Go.Sw
end
section
namespace Go.Sw
open Go.RowKit
abbrev doF (t : CTab) : List Gl × Int → Int → En → (List Gl × Int) × Int × Int := fun s i e => (doC t s i e, i, i + 1)
def docStep (t : CTab) (x : (List Gl × Int) × Way) : (List Gl × Int) × Way :=
 (doC t x.1 x.2.pl (entS t.m x.1.1 (drvW x.2)), goS x.2 (entS t.m x.1.1 (drvW x.2)) (x.1.1.length : Int) x.2.pl (x.2.pl + 1))
def docR (t : CTab) : Nat → (List Gl × Int) × Way → (List Gl × Int) × Way
 | 0, x => x
 | n + 1, x => if x.2.over = true then x else docR t n (docStep t x)
theorem docR_over (t : CTab) (n : Nat) (x : (List Gl × Int) × Way) (h : x.2.over = true) : docR t n x = x := by
 cases n with
 | zero => rfl
 | succ n => unfold docR; rw [if_pos h]
theorem doc_runD (t : CTab) (N : Int) : ∀ (n : Nat) (s : List Gl × Int) (y : Way), y.over = false → y.code = 0 → 0 ≤ y.pl → y.most = N → y.stp < N → N - y.stp ≤ n →
  runD t.m (fun s : List Gl × Int => s.1) (doF t) N n (s, drvW y) = ((docR t n (s, y)).2.stp, (docR t n (s, y)).2.code, (docR t n (s, y)).1)
 | 0, s, y, _, _, _, _, h1, h2 => by omega
 | n + 1, s, y, hov, hc0, hp, hN, hlt, hn => by
  have hend := clsS_end t.m s.1 y.pl hp
  have hd : docR t (n + 1) (s, y) = docR t n (docStep t (s, y)) := by
   show (if y.over = true then (s, y) else docR t n (docStep t (s, y))) = _
   rw [if_neg (by rw [hov]; simp)]
  rw [hd]
  unfold runD
  rw [if_pos hlt]
  unfold docStep stepD
  dsimp only
  generalize entS t.m s.1 (drvW y) = e
  rw [hend]
  unfold goS
  dsimp only
  by_cases c1 : e.flags / 16384 % 2 = 1
  ·rw [if_pos c1, decide_eq_true c1]
   simp only [Bool.not_true, Bool.false_and, Bool.false_eq_true, if_false, if_true]
   by_cases c2 : y.rest + 1 > 64
   ·rw [if_pos c2, if_pos (Or.inr c2)]
    rw [docR_over _ _ _ rfl]
   ·rw [if_neg c2]
    by_cases c3 : y.stp + 1 ≥ y.most
    ·rw [if_pos (Or.inl c3), docR_over _ _ _ rfl]
     cases n with
     | zero => rfl
     | succ n => unfold runD; dsimp only; rw [if_neg (by omega)]
    ·rw [if_neg (by omega)]
     exact doc_runD t N n _ ⟨e.next, max y.pl 0, y.stp + 1, y.rest + 1, y.most, y.over, y.code⟩ hov hc0 (by dsimp only; omega) hN (by dsimp only; omega) (by dsimp only; omega)
  ·rw [if_neg c1, decide_eq_false c1]
   simp only [Bool.not_false, Bool.true_and, Bool.false_eq_true, if_false]
   by_cases c4 : y.pl ≥ s.1.length
   ·rw [decide_eq_true c4]
    simp only [if_true]
    rw [docR_over _ _ _ rfl, hc0]
   ·rw [decide_eq_false c4]
    simp only [Bool.false_eq_true, if_false]
    rw [if_neg (show ¬ (0 : Int) > 64 by decide)]
    by_cases c3 : y.stp + 1 ≥ y.most
    ·rw [if_pos (Or.inl c3), docR_over _ _ _ rfl]
     cases n with
     | zero => rfl
     | succ n => unfold runD; dsimp only; rw [if_neg (by omega)]
    ·rw [if_neg (by omega)]
     exact doc_runD t N n _ ⟨e.next, max (y.pl + 1) 0, y.stp + 1, 0, y.most, y.over, y.code⟩ hov hc0 (by dsimp only; omega) hN (by dsimp only; omega) (by dsimp only; omega)
end Go.Sw
end
