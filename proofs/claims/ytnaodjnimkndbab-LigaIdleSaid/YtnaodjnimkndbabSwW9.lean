/-
  Functions' forms, and what is proved of them, part 9.
-/
import Derived.Test.YtnaodjnimkndbabSwW2
import Derived.Test.YtnaodjnimkndbabSwW8
import Derived.Test.YtnaodjnimkndbabSwCfg
import Derived.Test.YtnaodjnimkndbabSwW5
import Derived.Test.YtnaodjnimkndbabSwW4
import Derived.Test.YtnaodjnimkndbabSwW7
set_option linter.unusedSimpArgs false
set_option linter.unusedVariables false
set_option linter.unusedSectionVars false
section
namespace Go.Sw
open Go.RowKit
abbrev encF (n : Int) : List Value := [.int .u32 n]
theorem encF_len (n : Int) : (encF n).length = 1 := rfl
abbrev encH (n : Int) : List Value := [.int .u16 n]
theorem encH_len (n : Int) : (encH n).length = 1 := rfl
theorem room_put (p : Plan) (w : Int) (a x r y : List Int) (h : x.length = r.length) : (planRoom p w (a ++ (x ++ y))).take (16 + a.length) ++ (r ++ (planRoom p w (a ++ (x ++ y))).drop (16 + a.length + r.length)) = planRoom p w (a ++ (r ++ y)) := by
 obtain ⟨hd, tl, h16, hs⟩ := ζlf p w (a ++ (x ++ y)).length;rw [hs _ rfl, hs (a ++ (r ++ y)) (by simp [h])];rw [← h16, show hd ++ (a ++ (x ++ y) ++ tl) = (hd ++ a) ++ (x ++ (y ++ tl)) by simp, show hd.length + a.length = (hd ++ a).length by simp, List.take_left, ← h];rw [show (hd ++ a) ++ (x ++ (y ++ tl)) = (hd ++ a ++ x) ++ (y ++ tl) by simp, show (hd ++ a).length + x.length = (hd ++ a ++ x).length by simp [Nat.add_assoc], List.drop_left];simp
theorem ζi0 (s : List Int) {j : Nat} {x : Int} (h : s[j]? = some x) : twos (s.take (j + 1)) = twos (s.take j) ++ bytesOf x 2 := by rw [ζ1b h, ζgu]
theorem ζfo (s : List Int) {j : Nat} {x : Int} (h : s[j]? = some x) : fours (s.take (j + 1)) = fours (s.take j) ++ bytesOf x 4 := by rw [ζ1b h, ζku]
def ligNs (N a c : Nat) : List Int := [(N : Int), ((N + 4 * a : Nat) : Int), ((N + 4 * a + 2 * c : Nat) : Int)]
theorem ζjt (N a c : Nat) : ligRm N a c = fours (ligNs N a c) := by simp [ligRm, ligNs, fours]
set_option maxHeartbeats 1000000 in
theorem w17_l1 (k : Nat) {H0 H : Heap} (p : Plan) (N na nc : Nat) (hN : (planRoom p 1 (List.replicate 12 0)).length = N) (hNb : N ≤ 100000) (hna : na ≤ 1000) (hnc : nc ≤ 1000) {o : Option Nat} {s : Value} (a1 : Value) (g : Star H0 H [itRow o 1 s encB (planRoom p 1 (List.replicate 12 0))]) :
  ∃ H', loopN (ζ2u k (R (T k))) loopFuel [(1, a1), (3, s), (38, .agg #[.int .i64 N, .int .i64 ((N : Int) + 4 * (na : Int)), .int .i64 ((N : Int) + 4 * (na : Int) + 2 * (nc : Int))]), (39, .int .i64 0)] H =
   .ok (.exit 0, [(1, a1), (3, s), (38, .agg #[.int .i64 N, .int .i64 ((N : Int) + 4 * (na : Int)), .int .i64 ((N : Int) + 4 * (na : Int) + 2 * (nc : Int))]), (39, .int .i64 3), (40, .bool false)]) H' ∧ Star H0 H' [itRow o 1 s encB (planRoom p 1 (ligRm N na nc))] := by
 have hN28 : 28 ≤ N := by rw [← hN]; unfold planRoom; simp; omega
 obtain ⟨xx, e', H1, hr1, rfl, rfl, g1⟩ := loop_up (body := ζ2u k (R (T k))) 3
  (fun j e H' => e = [(1, a1), (3, s), (38, .agg #[.int .i64 N, .int .i64 ((N : Int) + 4 * (na : Int)), .int .i64 ((N : Int) + 4 * (na : Int) + 2 * (nc : Int))]), (39, .int .i64 j)] ∧ Star H0 H' [itRow o 1 s encB (planRoom p 1 (fours ((ligNs N na nc).take j) ++ List.replicate (12 - 4 * j) 0))])
  (fun xx e H' => xx = .exit 0 ∧ e = [(1, a1), (3, s), (38, .agg #[.int .i64 N, .int .i64 ((N : Int) + 4 * (na : Int)), .int .i64 ((N : Int) + 4 * (na : Int) + 2 * (nc : Int))]), (39, .int .i64 3), (40, .bool false)] ∧ Star H0 H' [itRow o 1 s encB (planRoom p 1 (ligRm N na nc))])
  (e0 := [(1, a1), (3, s), (38, .agg #[.int .i64 N, .int .i64 ((N : Int) + 4 * (na : Int)), .int .i64 ((N : Int) + 4 * (na : Int) + 2 * (nc : Int))]), (39, .int .i64 0)]) (H0 := H) ⟨rfl, by simpa [fours] using g⟩ (by omega)
  (fun j e H' hj ⟨he, g⟩ => by
   subst he;have hjl : (j : Int) < 3 := by omega
   obtain ⟨x, hx⟩ : ∃ x, (ligNs N na nc)[j]? = some x := ⟨_, List.getElem?_eq_getElem (by simpa [ligNs] using hj)⟩
   have hxb : 0 ≤ x ∧ x < 4294967296 := by
    have := List.mem_of_getElem? hx;have : x = (N : Int) ∨ x = ((N + 4 * na : Nat) : Int) ∨ x = ((N + 4 * na + 2 * nc : Nat) : Int) := by simpa [ligNs] using this
    omega
   have hal : (fours ((ligNs N na nc).take j)).length = 4 * j := by
    rw [ζbf, List.length_take];simp only [ligNs, List.length_cons, List.length_nil];omega
   have hlen : (planRoom p 1 (fours ((ligNs N na nc).take j) ++ List.replicate (12 - 4 * j) 0)).length = N := by
    have := ζ9n p 1 (fours ((ligNs N na nc).take j) ++ List.replicate (12 - 4 * j) 0) (List.replicate 12 0) (by rw [List.length_append, hal]; simp; omega);rw [this, hN]
   obtain ⟨c5, rfl, hs5, cut1⟩ := g.cut1 0 rfl (16 + 4 * j) 4 (by omega) (by omega) .i64 .i64;have g := g.more_row (Ext.refl _) (OwnO.nil encB _ 1) (fun b hb => by cases hb);simp only [List.cons_append, List.nil_append] at g;obtain ⟨t6, u6, J6, f6, g⟩ := Put_star k g 1 rfl x 4 4 rfl hxb.1 (by omega) (by omega) (by simp);simp only [List.set_cons_zero, List.set_cons_succ, List.nil_append] at g;obtain ⟨c6, h6, _, cut2⟩ := g.cut1 0 rfl (16 + 4 * j) 4 (by omega) (by omega) .i64 .i64;have h6 := Option.some.inj h6;subst h6;obtain ⟨J7, f7, g⟩ := g.copy1 0 1 rfl rfl (16 + 4 * j) 4 ((planRoom p 1 (fours ((ligNs N na nc).take j) ++ List.replicate (12 - 4 * j) 0)).length - (16 + 4 * j)) (by simp) (by omega) (by omega);simp only [List.set_cons_zero] at g;have hrep : List.replicate (12 - 4 * j) (0 : Int) = List.replicate 4 0 ++ List.replicate (12 - 4 * (j + 1)) 0 := by
    rw [List.replicate_append_replicate];congr 1;omega
   have hput := room_put p 1 (fours ((ligNs N na nc).take j)) (List.replicate 4 0) (bytesOf x 4) (List.replicate (12 - 4 * (j + 1)) 0) (by simp);rw [hal, ζ6d, ← hrep] at hput;rw [hput, ← List.append_assoc, ← ζfo _ hx] at g;have g0 := g.take 1;simp only [List.take_succ_cons, List.take_zero] at g0;have hv5 : veq (.slice (some ⟨c5, 16 + 4 * j, none⟩) 4 ((planRoom p 1 (fours ((ligNs N na nc).take j) ++ List.replicate (12 - 4 * j) 0)).length - (16 + 4 * j))) (.slice (some ⟨c5, 16 + 4 * j, none⟩) 4 ((planRoom p 1 (fours ((ligNs N na nc).take j) ++ List.replicate (12 - 4 * j) 0)).length - (16 + 4 * j))) = true := by simp
   generalize (planRoom p 1 (fours ((ligNs N na nc).take j) ++ List.replicate (12 - 4 * j) 0)).length - (16 + 4 * j) = cap at cut1 cut2 f7 hv5;have e16 : ((16 + 4 * j : Nat) : Int) = 16 + 4 * (j : Int) := by omega
   have e20 : ((16 + 4 * j + 4 : Nat) : Int) = 20 + 4 * (j : Int) := by omega
   rw [e16, e20] at cut1 cut2;refine .inl ⟨_, J7, ?_, rfl, g0⟩;rw [ζ5f];have hget : #[Value.int .i64 N, Value.int .i64 ((N : Int) + 4 * (na : Int)), Value.int .i64 ((N : Int) + 4 * (na : Int) + 2 * (nc : Int))][j]? = some (.int .i64 x) := by
    have h3 : j = 0 ∨ j = 1 ∨ j = 2 := by omega
    rcases h3 with rfl | rfl | rfl
    ·have : (N : Int) = x := by simpa [ligNs] using hx
     rw [← this]; rfl
    ·have : (N : Int) + 4 * (na : Int) = x := by simpa [ligNs] using hx
     rw [← this]; rfl
    ·have : (N : Int) + 4 * (na : Int) + 2 * (nc : Int) = x := by simpa [ligNs] using hx
     rw [← this]; rfl
   have i0 := fun H' => iv1_get (k := .i64) (len := 3) hj hget H';have hj1 : ((j + 1 : Nat) : Int) = (j : Int) + 1 := rfl;obtain ⟨V, hV⟩ : ∃ V, V = Value.agg #[.int .i64 N, .int .i64 ((N : Int) + 4 * (na : Int)), .int .i64 ((N : Int) + 4 * (na : Int) + 2 * (nc : Int))] := ⟨_, rfl⟩
   rw [← hV] at i0 ⊢;rw [hj1];simp -implicitDefEqProofs (disch := omega) [hjl, i0, cut1, f6, cut2, f7, hv5])
  (fun e H' ⟨he, g⟩ => by
   subst he;refine ⟨.exit 0, _, H', ?_, by simp, rfl, rfl, ?_⟩
   ·rw [ζ5f];simp -implicitDefEqProofs
   ·rw [ζjt];simpa [ligNs] using g)
 exact ⟨H1, hr1, g1⟩
theorem w17_l2 (k : Nat) {H0 H : Heap} {o : Option Nat} {s7 : Value} {lk : List Int} (a1 : Value) (g : Star H0 H [itRow o 1 s7 encB lk]) {v : Value} {s : List Int} (hv : Sl H0 1 v encF s) (hb : ∀ x, x ∈ s → 0 ≤ x ∧ x < 4294967296) (hl : lk.length + 4 * s.length < 2 ^ 29) :
  ∃ s' o' zz H', loopN (ζ2v k (R (T k))) loopFuel [(1, a1), (3, s7), (56, v), (57, .int .i64 s.length), (58, .int .i64 0)] H =
   .ok (.exit 2, [(1, a1), (3, s'), (56, v), (57, .int .i64 s.length), (58, zz), (59, .bool false)]) H' ∧ Star H0 H' [itRow o' 1 s' encB (lk ++ fours s)] := by
 obtain ⟨xx, e', H1, hr1, rfl, s', o', rfl, g1⟩ := loop_up (body := ζ2v k (R (T k))) s.length
  (fun j e H' => ∃ s' o', e = [(1, a1), (3, s'), (56, v), (57, .int .i64 s.length), (58, .int .i64 j)] ∧ Star H0 H' [itRow o' 1 s' encB (lk ++ fours (s.take j))])
  (fun xx e H' => xx = .exit 2 ∧ ∃ s' o', e = [(1, a1), (3, s'), (56, v), (57, .int .i64 s.length), (58, .int .i64 s.length), (59, .bool false)] ∧ Star H0 H' [itRow o' 1 s' encB (lk ++ fours s)])
  (e0 := [(1, a1), (3, s7), (56, v), (57, .int .i64 s.length), (58, .int .i64 0)]) (H0 := H) ⟨s7, o, rfl, by simpa [fours] using g⟩ (by omega)
  (fun j e H' hj ⟨s', o', he, g⟩ => by
   subst he;have hjl : (j : Int) < s.length := by omega
   obtain ⟨x, hx⟩ : ∃ x, s[j]? = some x := ⟨_, List.getElem?_eq_getElem hj⟩
   have hxb := hb x (List.mem_of_getElem? hx);obtain ⟨p, i1, i2⟩ := hv.ix1 encF_len j x hx _ rfl;have i2 := i2 H' g.ext;obtain ⟨s2, o2, H2, e2, g2⟩ := Put_star k g 0 rfl x 4 4 rfl hxb.1 (by omega) (by omega) (by rw [List.length_append, ζbf, List.length_take]; omega);simp only [List.set_cons_zero] at g2;rw [List.append_assoc, ← ζfo _ hx] at g2;have hw64 : IntKind.i64.wrap x = x := wrap_i64 (by omega) (by omega);refine .inl ⟨_, H2, ?_, s2, o2, rfl, g2⟩;rw [ζ5g];simp -implicitDefEqProofs (disch := omega) [hjl, i1, i2, hw64, e2])
  (fun e H' ⟨s', o', he, g⟩ => by
   subst he;rw [List.take_length] at g;refine ⟨.exit 2, _, H', ?_, by simp, rfl, s', o', rfl, g⟩;rw [ζ5g];simp -implicitDefEqProofs)
 exact ⟨s', o', _, H1, hr1, g1⟩
theorem w17_l3 (k : Nat) {H0 H : Heap} {o : Option Nat} {s7 : Value} {lk : List Int} (a1 : Value) (g : Star H0 H [itRow o 1 s7 encB lk]) {v : Value} {s : List Int} (hv : Sl H0 1 v encH s) (hb : ∀ x, x ∈ s → 0 ≤ x ∧ x < 65536) (hl : lk.length + 2 * s.length < 2 ^ 29) :
  ∃ s' o' zz H', loopN (ζ2w k (R (T k))) loopFuel [(1, a1), (3, s7), (68, v), (69, .int .i64 s.length), (70, .int .i64 0)] H =
   .ok (.exit 4, [(1, a1), (3, s'), (68, v), (69, .int .i64 s.length), (70, zz), (71, .bool false)]) H' ∧ Star H0 H' [itRow o' 1 s' encB (lk ++ twos s)] := by
 obtain ⟨xx, e', H1, hr1, rfl, s', o', rfl, g1⟩ := loop_up (body := ζ2w k (R (T k))) s.length
  (fun j e H' => ∃ s' o', e = [(1, a1), (3, s'), (68, v), (69, .int .i64 s.length), (70, .int .i64 j)] ∧ Star H0 H' [itRow o' 1 s' encB (lk ++ twos (s.take j))])
  (fun xx e H' => xx = .exit 4 ∧ ∃ s' o', e = [(1, a1), (3, s'), (68, v), (69, .int .i64 s.length), (70, .int .i64 s.length), (71, .bool false)] ∧ Star H0 H' [itRow o' 1 s' encB (lk ++ twos s)])
  (e0 := [(1, a1), (3, s7), (68, v), (69, .int .i64 s.length), (70, .int .i64 0)]) (H0 := H) ⟨s7, o, rfl, by simpa [twos] using g⟩ (by omega)
  (fun j e H' hj ⟨s', o', he, g⟩ => by
   subst he;have hjl : (j : Int) < s.length := by omega
   obtain ⟨x, hx⟩ : ∃ x, s[j]? = some x := ⟨_, List.getElem?_eq_getElem hj⟩
   have hxb := hb x (List.mem_of_getElem? hx);obtain ⟨p, i1, i2⟩ := hv.ix1 encH_len j x hx _ rfl;have i2 := i2 H' g.ext;obtain ⟨s2, o2, H2, e2, g2⟩ := Put_star k g 0 rfl x 2 2 rfl hxb.1 (by omega) (by omega) (by rw [List.length_append, twos_len, List.length_take]; omega);simp only [List.set_cons_zero] at g2;rw [List.append_assoc, ← ζi0 _ hx] at g2;have hw64 : IntKind.i64.wrap x = x := wrap_i64 (by omega) (by omega);refine .inl ⟨_, H2, ?_, s2, o2, rfl, g2⟩;rw [ζ5h];simp -implicitDefEqProofs (disch := omega) [hjl, i1, i2, hw64, e2])
  (fun e H' ⟨s', o', he, g⟩ => by
   subst he;rw [List.take_length] at g;refine ⟨.exit 4, _, H', ?_, by simp, rfl, s', o', rfl, g⟩;rw [ζ5h];simp -implicitDefEqProofs)
 exact ⟨s', o', _, H1, hr1, g1⟩
theorem w17_l4 (k : Nat) {H0 H : Heap} {o : Option Nat} {s7 : Value} {lk : List Int} (g : Star H0 H [itRow o 1 s7 encB lk]) {v : Value} {s : List Int} (hv : Sl H0 1 v encH s) (hb : ∀ x, x ∈ s → 0 ≤ x ∧ x < 65536) (hl : lk.length + 2 * s.length < 2 ^ 29) :
  ∃ s' o' zz H', loopN (ζ2x k (R (T k))) loopFuel [(3, s7), (80, v), (81, .int .i64 s.length), (82, .int .i64 0)] H =
   .ok (.exit 6, [(3, s'), (80, v), (81, .int .i64 s.length), (82, zz), (83, .bool false)]) H' ∧ Star H0 H' [itRow o' 1 s' encB (lk ++ twos s)] := by
 obtain ⟨xx, e', H1, hr1, rfl, s', o', rfl, g1⟩ := loop_up (body := ζ2x k (R (T k))) s.length
  (fun j e H' => ∃ s' o', e = [(3, s'), (80, v), (81, .int .i64 s.length), (82, .int .i64 j)] ∧ Star H0 H' [itRow o' 1 s' encB (lk ++ twos (s.take j))])
  (fun xx e H' => xx = .exit 6 ∧ ∃ s' o', e = [(3, s'), (80, v), (81, .int .i64 s.length), (82, .int .i64 s.length), (83, .bool false)] ∧ Star H0 H' [itRow o' 1 s' encB (lk ++ twos s)])
  (e0 := [(3, s7), (80, v), (81, .int .i64 s.length), (82, .int .i64 0)]) (H0 := H) ⟨s7, o, rfl, by simpa [twos] using g⟩ (by omega)
  (fun j e H' hj ⟨s', o', he, g⟩ => by
   subst he;have hjl : (j : Int) < s.length := by omega
   obtain ⟨x, hx⟩ : ∃ x, s[j]? = some x := ⟨_, List.getElem?_eq_getElem hj⟩
   have hxb := hb x (List.mem_of_getElem? hx);obtain ⟨p, i1, i2⟩ := hv.ix1 encH_len j x hx _ rfl;have i2 := i2 H' g.ext;obtain ⟨s2, o2, H2, e2, g2⟩ := Put_star k g 0 rfl x 2 2 rfl hxb.1 (by omega) (by omega) (by rw [List.length_append, twos_len, List.length_take]; omega);simp only [List.set_cons_zero] at g2;rw [List.append_assoc, ← ζi0 _ hx] at g2;have hw64 : IntKind.i64.wrap x = x := wrap_i64 (by omega) (by omega);refine .inl ⟨_, H2, ?_, s2, o2, rfl, g2⟩;rw [ζ5i];simp -implicitDefEqProofs (disch := omega) [hjl, i1, i2, hw64, e2])
  (fun e H' ⟨s', o', he, g⟩ => by
   subst he;rw [List.take_length] at g;refine ⟨.exit 6, _, H', ?_, by simp, rfl, s', o', rfl, g⟩;rw [ζ5i];simp -implicitDefEqProofs)
 exact ⟨s', o', _, H1, hr1, g1⟩
structure LPlan where
 p : Plan
 acts : List Int
 comps : List Int
 ligs : List Int
structure LPlan.ok (x : LPlan) : Prop where
 p : x.p.ok
 acts : ∀ n, n ∈ x.acts → 0 ≤ n ∧ n < 4294967296
 comps : ∀ n, n ∈ x.comps → 0 ≤ n ∧ n < 65536
 ligs : ∀ n, n ∈ x.ligs → 0 ≤ n ∧ n < 65536
set_option maxRecDepth 20000 in
set_option maxHeartbeats 2000000 in
theorem ζif (k : Nat) (hW : ownW k = .no) (x : LPlan) (hx : x.ok) (h1 : x.p.cls.length ≤ 1000) (h2 : x.p.rows.length ≤ 1000) (h3 : x.p.ents.length ≤ 1000) (h4 : x.acts.length ≤ 1000) (h5 : x.comps.length ≤ 1000) (h6 : x.ligs.length ≤ 1000) {H : Heap} {vC vR sE : Value} {rv : List (List Int × Value)} (hP : PlanSl H x.p vC vR sE rv)
  {vA vB vL : Value} (hA : Sl H 1 vA encF x.acts) (hB : Sl H 1 vB encH x.comps) (hL : Sl H 1 vL encH x.ligs) :
  ∃ s o H', ζa k (R (T k)) (.agg #[vC, vR, sE, .int .u8 x.p.wide, vA, vB, vL]) H = .ok s H' ∧ Star H H' [itRow o 1 s encB (ligB x.p x.acts x.comps x.ligs)] := by
 obtain ⟨H1, hH1⟩ : ∃ H1, H1 = H.push ⟨[vC, vR, sE, .int .u8 x.p.wide, vA, vB, vL], 1, false⟩ := ⟨_, rfl⟩
 have hx1 : Ext H H1 := by rw [hH1]; exact (Ext.refl H).push _
 have hg1 : H1.get H.n = some ⟨[vC, vR, sE, .int .u8 x.p.wide, vA, vB, vL], 1, false⟩ := by rw [hH1]; exact ζe _ _ _ rfl
 obtain ⟨N, hN⟩ : ∃ N, (planRoom x.p 1 (List.replicate 12 0)).length = N := ⟨_, rfl⟩
 have hNb : N ≤ 100000 := by rw [← hN]; exact ζee hx.p 1 (by simp) h1 h2 h3
 obtain ⟨s0, o0, J0, e0, g, gx0⟩ := ζji k hW x.p hx.p 1 (by omega) 12 (by omega) h1 h2 h3 (Star.nil H1) (hP.up hx1);rw [ζgs] at g;simp only [List.nil_append] at g;have hln0 : ∀ H', lnS s0 H' = .ok (.int .i64 N) H' := by rw [← hN]; exact (g.row 0 rfl).len
 have hlnA : ∀ H', lnS vA H' = .ok (.int .i64 x.acts.length) H' := fun H' => hA.len H';have hlnB : ∀ H', lnS vB H' = .ok (.int .i64 x.comps.length) H' := fun H' => hB.len H';have hlnL : ∀ H', lnS vL H' = .ok (.int .i64 x.ligs.length) H' := fun H' => hL.len H';have gk := gx0.get hg1;have hnk : ¬ H.n = J0.n := by have := Heap.get_lt gk; omega
 have gR := g.rest ((Ext.refl J0).push ⟨[.int .i64 N, .int .i64 ((N : Int) + 4 * (x.acts.length : Int)), .int .i64 ((N : Int) + 4 * (x.acts.length : Int) + 2 * (x.comps.length : Int))], 1, false⟩);obtain ⟨K1, f1, gK⟩ := w17_l1 k x.p N x.acts.length x.comps.length hN hNb h4 h5 (ptrV H.n) gR;have hrl : (planRoom x.p 1 (ligRm N x.acts.length x.comps.length)).length = N := by rw [← hN]; exact ζ9n x.p 1 _ _ (by rw [ζgh]; simp)
 have gk1 := gK.ext.get hg1;obtain ⟨s2, o2, z2, K2, f2, gK2⟩ := w17_l2 k (ptrV H.n) gK (hA.up hx1) hx.acts (by rw [hrl]; omega);have gk2 := gK2.ext.get hg1;obtain ⟨s3, o3, z3, K3, f3, gK3⟩ := w17_l3 k (ptrV H.n) gK2 (hB.up hx1) hx.comps (by rw [List.length_append, hrl, ζbf]; omega);have gk3 := gK3.ext.get hg1;obtain ⟨s4, o4, z4, K4, f4, gK4⟩ := w17_l4 k gK3 (hL.up hx1) hx.ligs (by rw [List.length_append, List.length_append, hrl, ζbf, twos_len]; omega);have hfin : planRoom x.p 1 (ligRm N x.acts.length x.comps.length) ++ fours x.acts ++ twos x.comps ++ twos x.ligs = ligB x.p x.acts x.comps x.ligs := by
  unfold ligB ligN;rw [hN];simp only [List.append_assoc]
 rw [hfin] at gK4;have hpos : 0 < (ligB x.p x.acts x.comps x.ligs).length := by
  rw [← hfin, List.length_append, List.length_append, List.length_append, hrl];have : 28 ≤ N := by rw [← hN]; unfold planRoom; simp; omega
  omega
 refine ⟨s4, o4, K4, ?_, ?_⟩;rotate_left
 ·have ho := (gK4.own 0 rfl).base hx1.n;obtain ⟨o5, ho5, hlt⟩ := ho.toO;have hst : Star H K4 ([] ++ [itRow o5 1 s4 encB (ligB x.p x.acts x.comps x.ligs)]) := (Star.nil H).more_row (hx1.trans gK4.ext) ho5 fun b hb => ⟨hlt b hb, ho5.lt b hb⟩
  have h7 : o5 = o4 := by
   have hr := gK4.row 0 rfl;rcases hr with ⟨r1, r2, r3⟩ | ⟨b, r1, r2, r3⟩
   ·exfalso;rw [r2] at hpos;simp at hpos
   ·rcases ho5 with ⟨q1, q2, q3⟩ | ⟨b2, q1, q2, q3⟩
    ·exfalso;rw [q2] at hpos;simp at hpos
    ·rw [r1, q1];rw [r2] at q2;injection q2 with q2;injection q2 with q2;injection q2 with q2;rw [q2]
  subst h7;simpa using hst
 rw [hH1] at e0;have e0 : R (T k) F.ζ0 [.agg #[vC, vR, sE, .int .u8 x.p.wide], .int .i64 1, .int .i64 12] (H.push ⟨[vC, vR, sE, .int .u8 x.p.wide, vA, vB, vL], 1, false⟩) = .ok s0 J0 := e0;simp -implicitDefEqProofs (disch := omega) [ζa, e0, hln0, gk, hnk, hlnA, hlnB, hlnL, f1, ζ9c, gk1, f2, ζ9d, gk2, f3, ζ9e, gk3, f4, ζ9f]
theorem ζlr (k : Nat) (hk : k < 1000000) (hW : ownW k = .no) (x : LPlan) (hx : x.ok) (h1 : x.p.cls.length ≤ 1000) (h2 : x.p.rows.length ≤ 1000) (h3 : x.p.ents.length ≤ 1000) (h4 : x.acts.length ≤ 1000) (h5 : x.comps.length ≤ 1000) (h6 : x.ligs.length ≤ 1000) {H : Heap} {vC vR sE : Value} {rv : List (List Int × Value)} (hP : PlanSl H x.p vC vR sE rv)
  {vA vB vL : Value} (hA : Sl H 1 vA encF x.acts) (hB : Sl H 1 vB encH x.comps) (hL : Sl H 1 vL encH x.ligs) :
  R (T k) F.ζa [.agg #[vC, vR, sE, .int .u8 x.p.wide, vA, vB, vL]] H = .ok (lv encB (ligB x.p x.acts x.comps x.ligs)) H := by
 obtain ⟨s, o, H', e, g⟩ := ζif k hW x hx h1 h2 h3 h4 h5 h6 hP hA hB hL;rw [ζcd];have ho : own k = .fz := by
  unfold own;rw [show Nat.blt k 1000000 = true from Nat.ble_eq_true_of_le hk];rfl
 rw [ho];obtain ⟨L, hf⟩ := (g.own 0 rfl).freeze encB_len (fun n _ v hv => by simp at hv; subst hv; trivial) 6;exact nrm_fz (v := s) (H' := H') e hf g.ext (Flat.B _).alive
abbrev lplC (x : LPlan) : List Value := [lv encB x.p.cls, lv encBR x.p.rows, lv encEn x.p.ents, .int .u8 x.p.wide, lv encF x.acts, lv encH x.comps, lv encH x.ligs]
abbrev lplV (x : LPlan) : Value := .agg (lplC x).toArray
def LSmall (x : LPlan) (n : Nat) : Prop := x.p.cls.length ≤ 40 ∧ x.p.rows.length ≤ 20 ∧ x.p.ents.length ≤ 40 ∧ x.acts.length ≤ 60 ∧ x.comps.length ≤ 100 ∧ x.ligs.length ≤ 100 ∧ n ≤ 100
instance (x : LPlan) (n : Nat) : Decidable (LSmall x n) := by unfold LSmall; exact inferInstance
theorem ζid (k : Nat) (hk : k % 1000000 = F.ζ1w) (H : Heap) : R (T k) F.ζ1w [] H = .ok (.bool true) H :=
 (R_sp (t := T k) (T_scott k) (s := constSp (.bool true)) (by unfold T C; dsimp only; rw [hk]; kernel_rfl) [] H).trans (nrm_gc (Pure.of rfl) (.bool _))
theorem ζk9 (k : Nat) (x : LPlan) (ids : List Int) (H : Heap) : R (T k) F.ζn [lplV x, lv encI ids] H = .ok (.bool (decide (LSmall x ids.length))) H := by
 rw [ζce];refine nrm_gc ⟨_, ?_, (Ext.refl H).push ⟨lplC x, 1, false⟩⟩ (.bool _);unfold LSmall;by_cases h1 : x.p.cls.length ≤ 40
 ·have h1' : (x.p.cls.length : Int) ≤ 40 := by omega
  by_cases h2 : x.p.rows.length ≤ 20
  ·have h2' : (x.p.rows.length : Int) ≤ 20 := by omega
   by_cases h3 : x.p.ents.length ≤ 40
   ·have h3' : (x.p.ents.length : Int) ≤ 40 := by omega
    by_cases h4 : x.acts.length ≤ 60
    ·have h4' : (x.acts.length : Int) ≤ 60 := by omega
     by_cases h5 : x.comps.length ≤ 100
     ·have h5' : (x.comps.length : Int) ≤ 100 := by omega
      by_cases h6 : x.ligs.length ≤ 100
      ·have h6' : (x.ligs.length : Int) ≤ 100 := by omega
       by_cases h7 : ids.length ≤ 100
       ·have h7' : (ids.length : Int) ≤ 100 := by omega
        simp -implicitDefEqProofs [ζn, h1, h2, h3, h4, h5, h6, h7, h1', h2', h3', h4', h5', h6', h7']
       ·have h7' : ¬ (ids.length : Int) ≤ 100 := by omega
        simp -implicitDefEqProofs [ζn, h1, h2, h3, h4, h5, h6, h7, h1', h2', h3', h4', h5', h6', h7']
      ·have h6' : ¬ (x.ligs.length : Int) ≤ 100 := by omega
       simp -implicitDefEqProofs [ζn, h1, h2, h3, h4, h5, h6, h1', h2', h3', h4', h5', h6']
     ·have h5' : ¬ (x.comps.length : Int) ≤ 100 := by omega
      simp -implicitDefEqProofs [ζn, h1, h2, h3, h4, h5, h1', h2', h3', h4', h5']
    ·have h4' : ¬ (x.acts.length : Int) ≤ 60 := by omega
     simp -implicitDefEqProofs [ζn, h1, h2, h3, h4, h1', h2', h3', h4']
   ·have h3' : ¬ (x.p.ents.length : Int) ≤ 40 := by omega
    simp -implicitDefEqProofs [ζn, h1, h2, h3, h1', h2', h3']
  ·have h2' : ¬ (x.p.rows.length : Int) ≤ 20 := by omega
   simp -implicitDefEqProofs [ζn, h1, h2, h1', h2']
 ·have h1' : ¬ (x.p.cls.length : Int) ≤ 40 := by omega
  simp -implicitDefEqProofs [ζn, h1, h1']
end Go.Sw
end
section
namespace Go.Sw
open Go.RowKit
theorem uS_fits {b : List Int} {i n x : Int} (h : uS b i n = some x) : 0 ≤ i ∧ i + n ≤ b.length := by
 unfold uS pieceS at h;split at h
 ·omega
 ·simp at h
end Go.Sw
end
section
set_option maxRecDepth 100000
set_option linter.unusedVariables false
namespace Go.Sw
noncomputable section
def ζ68 (k : Nat) (call : Caller) (a0 a1 : Value) (h : Heap) : Res Value :=
 (boxR a1 h).bind fun v1 h2 =>
 (allocR Prog 99 h2).bind fun v3 h4 =>
 (loadR Prog 3 v1 h4).bind fun v5 h6 =>
 (binR Prog .lss 3 v5 (.int .i64 1) h6).bind fun v7 h8 =>
 ((bif wantVal v7 false then loadR Prog 3 v1 h8 else Res.ok undef h8)).bind fun v9 h10 =>
 ((bif wantVal v7 false then binR Prog .gtr 3 v9 (.int .i64 65535) h10 else Res.ok undef h10)).bind fun v11 h12 =>
 (condV (some v7) (Res.ok (.bool true) h12) (Res.ok v11 h12)).bind fun v13 h14 =>
 condV (some v13) (
 (storeR Prog 99 v3 (.pointer none) h14).bind fun _v15 h16 =>
 (loadR Prog 99 v3 h16).bind fun v17 h18 =>
 .ok (.tuple #[v17, (.int .i64 1)]) h18)
 (
 (call F.view_Of [a0] h14).bind fun v19 h20 =>
 (call F.ζ2q [v19] h20).bind fun v21 h22 =>
 (call F.view_Of [v21] h22).bind fun v23 h24 =>
 (allocR Prog 55 h24).bind fun v25 h26 =>
 (storeR Prog 55 v25 v23 h26).bind fun _v27 h28 =>
 (call F.view_Try [(.func (.func F.ζ1y) #[] #[v25, v1, v3])] h28).bind fun v29 h30 =>
 (unR .not v29 h30).bind fun v31 h32 =>
 condV (some v31) (
 (storeR Prog 99 v3 (.pointer none) h32).bind fun _v33 h34 =>
 (loadR Prog 99 v3 h34).bind fun v35 h36 =>
 .ok (.tuple #[v35, (.int .i64 2)]) h36)
 (
 (loadR Prog 99 v3 h32).bind fun v37 h38 =>
 (storeR Prog 99 v3 v37 h38).bind fun _v39 h40 =>
 (loadR Prog 99 v3 h40).bind fun v41 h42 =>
 .ok (.tuple #[v41, (.int .i64 0)]) h42))
theorem ζjw (k : Nat) (a0 a1 : Value) (h : Heap) : R (T k) F.ζ68 [a0, a1] h = nrm .fz h (ζ68 k (R (T k)) a0 a1 h) :=
 (R_body (t := T k) (T_scott k) (by kernel_rfl) (by kernel_rfl) _ _).trans (by kernel_rfl)
def ζ3a (k : Nat) (call : Caller) (a0 a1 : Value) (h : Heap) : Res Value :=
 (boxR a0 h).bind fun v1 h2 =>
 (boxR a1 h2).bind fun v3 h4 =>
 (allocR Prog 241 h4).bind fun v5 h6 =>
 (loadR Prog 99 v1 h6).bindN fun v7 h8 =>
 (nilR v7 h8).bindN fun v9 h10 =>
 (fieldAddrR Prog 243 v9 0 h10).bindN fun v11 h12 =>
 (loadR Prog 180 v11 h12).bindN fun v13 h14 =>
 (loadR Prog 44 v3 h14).bindN fun v15 h16 =>
 (call F.ζ4r [(.func (.func F.ζg) #[] #[v3, v5, v1])] h16).bindT (fun p19 h20 => .panic p19 h20) fun v17 h18 =>
 (call F.ζ41 [v13, v15, v17] h18).bindT (fun p23 h24 => chkR ((okVal (loadR Prog 99 v1 h18) v7 && true) && ((okVal (loadR Prog 180 v11 h18) v13 && true) && ((okVal (loadR Prog 44 v3 h18) v15 && true) && true))) (.panic p23 h24)) fun v21 h22 =>
 (extractR v21 0 h22).bindN fun v25 h26 =>
 (extractR v21 1 h26).bindN fun v27 h28 =>
 chkR ((okVal (loadR Prog 99 v1 h18) v7 && true) && ((okVal (loadR Prog 180 v11 h18) v13 && true) && ((okVal (loadR Prog 44 v3 h18) v15 && true) && true))) (
 .ok v27 h28)
theorem ζdw (k : Nat) (a0 a1 : Value) (h : Heap) : R (T k) F.ζ3a [a0, a1] h = nrm .no h (ζ3a k (R (T k)) a0 a1 h) :=
 (R_body (t := T k) (T_scott k) (by kernel_rfl) (by kernel_rfl) _ _).trans (by kernel_rfl)
def ζ6i (k : Nat) (call : Caller) : Env → Heap → Res (AExit × Env) := loopB (C k) call F.ζ1u [1, 1, 0, 1, 0, 0]
def ζck (k : Nat) (call : Caller) : Kont Value := kBlock 0 (kSeq (pieceK (C k) call F.ζ1u [1, 1, 1]) (kDone Prog (resOf Prog F.ζ1u)))
def ζdx (k : Nat) (call : Caller) (a5 a7 a30 a31 a32 a39 : Value) (h : Heap) : Res (AExit × Env) :=
 kSeq (pieceK (C k) call F.ζ1u [1, 1, 0, 1, 0, 0, 1, 1, 1]) (kRound (ownOf (C k) F.ζ1u [1, 1, 0, 1, 0, 0])) .normal [(5, a5), (7, a7), (30, a30), (31, a31), (32, a32), (39, a39)] h
def ζ6j (k : Nat) (call : Caller) : Env → Heap → Res (AExit × Env) := loopB (C k) call F.ζ1u [1, 1, 0, 1, 0, 0, 1, 1, 0, 0, 1, 1, 0, 1, 0, 0]
def ζcl (k : Nat) (call : Caller) : Kont (AExit × Env) := kBlock 2 (kBlock 1 (kSeq (pieceK (C k) call F.ζ1u [1, 1, 0, 1, 0, 0, 1, 1, 1]) (kRound (ownOf (C k) F.ζ1u [1, 1, 0, 1, 0, 0]))))
def ζdy (k : Nat) (call : Caller) (a5 a8 a30 a31 a32 a50 : Value) (h : Heap) : Res (AExit × Env) :=
 kSeq (pieceK (C k) call F.ζ1u [1, 1, 0, 1, 0, 0, 1, 1, 1]) (kRound (ownOf (C k) F.ζ1u [1, 1, 0, 1, 0, 0])) .normal [(5, a5), (8, a8), (30, a30), (31, a31), (32, a32), (50, a50)] h
def ζ1u (k : Nat) (call : Caller) (a0 a1 : Value) (h : Heap) : Res Value :=
 (boxR a0 h).bind fun v1 h2 =>
 (loadR Prog 55 v1 h2).bindN fun v3 h4 =>
 (call F.ζ1z [v3, a1, (.int .i64 1)] h4).bindT (fun p7 h8 => (loadR Prog 55 v1 h4).bindN fun v9 h10 => (loadR Prog 55 v1 h10).bindN fun v11 h12 => (loadR Prog 55 v1 h12).bindN fun v13 h14 => (loadR Prog 55 v1 h14).bindN fun v15 h16 => (loadR Prog 55 v1 h16).bindN fun v17 h18 => (loadR Prog 55 v1 h18).bindN fun v19 h20 => chkR ((okVal (loadR Prog 55 v1 h2) v9 && true) && ((okVal (loadR Prog 55 v1 h2) v11 && true) && ((okVal (loadR Prog 55 v1 h2) v13 && true) && ((okVal (loadR Prog 55 v1 h2) v15 && true) && ((okVal (loadR Prog 55 v1 h2) v17 && true) && ((okVal (loadR Prog 55 v1 h2) v19 && true) && true)))))) (.panic p7 h8)) fun v5 h6 =>
 (loadR Prog 55 v1 h6).bindN fun v21 h22 =>
 (loadR Prog 55 v1 h22).bindN fun v23 h24 =>
 (call F.ζs [v23, (.int .i64 16)] h24).bindT (fun p27 h28 => (loadR Prog 55 v1 h24).bindN fun v29 h30 => (loadR Prog 55 v1 h30).bindN fun v31 h32 => (loadR Prog 55 v1 h32).bindN fun v33 h34 => (loadR Prog 55 v1 h34).bindN fun v35 h36 => chkR ((okVal (loadR Prog 55 v1 h2) v21 && true) && ((okVal (loadR Prog 55 v1 h2) v23 && true) && ((okVal (loadR Prog 55 v1 h2) v29 && (okVal (loadR Prog 55 v1 h6) v29 && true)) && ((okVal (loadR Prog 55 v1 h2) v31 && (okVal (loadR Prog 55 v1 h6) v31 && true)) && ((okVal (loadR Prog 55 v1 h2) v33 && (okVal (loadR Prog 55 v1 h6) v33 && true)) && ((okVal (loadR Prog 55 v1 h2) v35 && (okVal (loadR Prog 55 v1 h6) v35 && true)) && true)))))) (.panic p27 h28)) fun v25 h26 =>
 (call F.ζ10 [v21, v25] h26).bindT (fun p39 h40 => (loadR Prog 55 v1 h26).bindN fun v41 h42 => (loadR Prog 55 v1 h42).bindN fun v43 h44 => (loadR Prog 55 v1 h44).bindN fun v45 h46 => (loadR Prog 55 v1 h46).bindN fun v47 h48 => chkR ((okVal (loadR Prog 55 v1 h2) v21 && (okVal (loadR Prog 55 v1 h26) v21 && true)) && ((okVal (loadR Prog 55 v1 h2) v23 && true) && ((okVal (loadR Prog 55 v1 h2) v41 && (okVal (loadR Prog 55 v1 h6) v41 && (okVal (loadR Prog 55 v1 h26) v41 && true))) && ((okVal (loadR Prog 55 v1 h2) v43 && (okVal (loadR Prog 55 v1 h6) v43 && (okVal (loadR Prog 55 v1 h26) v43 && true))) && ((okVal (loadR Prog 55 v1 h2) v45 && (okVal (loadR Prog 55 v1 h6) v45 && (okVal (loadR Prog 55 v1 h26) v45 && true))) && ((okVal (loadR Prog 55 v1 h2) v47 && (okVal (loadR Prog 55 v1 h6) v47 && (okVal (loadR Prog 55 v1 h26) v47 && true))) && true)))))) (.panic p39 h40)) fun v37 h38 =>
 (loadR Prog 55 v1 h38).bindN fun v49 h50 =>
 (loadR Prog 55 v1 h50).bindN fun v51 h52 =>
 (call F.ζs [v51, (.int .i64 20)] h52).bindT (fun p55 h56 => (loadR Prog 55 v1 h52).bindN fun v57 h58 => (loadR Prog 55 v1 h58).bindN fun v59 h60 => chkR ((okVal (loadR Prog 55 v1 h2) v21 && (okVal (loadR Prog 55 v1 h26) v21 && true)) && ((okVal (loadR Prog 55 v1 h2) v23 && true) && ((okVal (loadR Prog 55 v1 h2) v49 && (okVal (loadR Prog 55 v1 h6) v49 && (okVal (loadR Prog 55 v1 h26) v49 && true))) && ((okVal (loadR Prog 55 v1 h2) v51 && (okVal (loadR Prog 55 v1 h6) v51 && (okVal (loadR Prog 55 v1 h26) v51 && true))) && ((okVal (loadR Prog 55 v1 h2) v57 && (okVal (loadR Prog 55 v1 h6) v57 && (okVal (loadR Prog 55 v1 h26) v57 && (okVal (loadR Prog 55 v1 h38) v57 && true)))) && ((okVal (loadR Prog 55 v1 h2) v59 && (okVal (loadR Prog 55 v1 h6) v59 && (okVal (loadR Prog 55 v1 h26) v59 && (okVal (loadR Prog 55 v1 h38) v59 && true)))) && true)))))) (.panic p55 h56)) fun v53 h54 =>
 (call F.ζ10 [v49, v53] h54).bindT (fun p63 h64 => (loadR Prog 55 v1 h54).bindN fun v65 h66 => (loadR Prog 55 v1 h66).bindN fun v67 h68 => chkR ((okVal (loadR Prog 55 v1 h2) v21 && (okVal (loadR Prog 55 v1 h26) v21 && true)) && ((okVal (loadR Prog 55 v1 h2) v23 && true) && ((okVal (loadR Prog 55 v1 h2) v49 && (okVal (loadR Prog 55 v1 h6) v49 && (okVal (loadR Prog 55 v1 h26) v49 && (okVal (loadR Prog 55 v1 h54) v49 && true)))) && ((okVal (loadR Prog 55 v1 h2) v51 && (okVal (loadR Prog 55 v1 h6) v51 && (okVal (loadR Prog 55 v1 h26) v51 && true))) && ((okVal (loadR Prog 55 v1 h2) v65 && (okVal (loadR Prog 55 v1 h6) v65 && (okVal (loadR Prog 55 v1 h26) v65 && (okVal (loadR Prog 55 v1 h38) v65 && (okVal (loadR Prog 55 v1 h54) v65 && true))))) && ((okVal (loadR Prog 55 v1 h2) v67 && (okVal (loadR Prog 55 v1 h6) v67 && (okVal (loadR Prog 55 v1 h26) v67 && (okVal (loadR Prog 55 v1 h38) v67 && (okVal (loadR Prog 55 v1 h54) v67 && true))))) && true)))))) (.panic p63 h64)) fun v61 h62 =>
 (loadR Prog 55 v1 h62).bindN fun v69 h70 =>
 (loadR Prog 55 v1 h70).bindN fun v71 h72 =>
 (call F.ζs [v71, (.int .i64 24)] h72).bindT (fun p75 h76 => chkR ((okVal (loadR Prog 55 v1 h2) v21 && (okVal (loadR Prog 55 v1 h26) v21 && true)) && ((okVal (loadR Prog 55 v1 h2) v23 && true) && ((okVal (loadR Prog 55 v1 h2) v49 && (okVal (loadR Prog 55 v1 h6) v49 && (okVal (loadR Prog 55 v1 h26) v49 && (okVal (loadR Prog 55 v1 h54) v49 && true)))) && ((okVal (loadR Prog 55 v1 h2) v51 && (okVal (loadR Prog 55 v1 h6) v51 && (okVal (loadR Prog 55 v1 h26) v51 && true))) && ((okVal (loadR Prog 55 v1 h2) v69 && (okVal (loadR Prog 55 v1 h6) v69 && (okVal (loadR Prog 55 v1 h26) v69 && (okVal (loadR Prog 55 v1 h38) v69 && (okVal (loadR Prog 55 v1 h54) v69 && true))))) && ((okVal (loadR Prog 55 v1 h2) v71 && (okVal (loadR Prog 55 v1 h6) v71 && (okVal (loadR Prog 55 v1 h26) v71 && (okVal (loadR Prog 55 v1 h38) v71 && (okVal (loadR Prog 55 v1 h54) v71 && true))))) && true)))))) (.panic p75 h76)) fun v73 h74 =>
 (call F.ζ10 [v69, v73] h74).bindT (fun p79 h80 => chkR ((okVal (loadR Prog 55 v1 h2) v21 && (okVal (loadR Prog 55 v1 h26) v21 && true)) && ((okVal (loadR Prog 55 v1 h2) v23 && true) && ((okVal (loadR Prog 55 v1 h2) v49 && (okVal (loadR Prog 55 v1 h6) v49 && (okVal (loadR Prog 55 v1 h26) v49 && (okVal (loadR Prog 55 v1 h54) v49 && true)))) && ((okVal (loadR Prog 55 v1 h2) v51 && (okVal (loadR Prog 55 v1 h6) v51 && (okVal (loadR Prog 55 v1 h26) v51 && true))) && ((okVal (loadR Prog 55 v1 h2) v69 && (okVal (loadR Prog 55 v1 h6) v69 && (okVal (loadR Prog 55 v1 h26) v69 && (okVal (loadR Prog 55 v1 h38) v69 && (okVal (loadR Prog 55 v1 h54) v69 && (okVal (loadR Prog 55 v1 h74) v69 && true)))))) && ((okVal (loadR Prog 55 v1 h2) v71 && (okVal (loadR Prog 55 v1 h6) v71 && (okVal (loadR Prog 55 v1 h26) v71 && (okVal (loadR Prog 55 v1 h38) v71 && (okVal (loadR Prog 55 v1 h54) v71 && true))))) && true)))))) (.panic p79 h80)) fun v77 h78 =>
 (buildR Prog 243 [(0, v5), (1, v37), (2, v61), (3, v77)] h78).bindN fun v81 h82 =>
 (boxR v81 h82).bindN fun v83 h84 =>
 chkR ((okVal (loadR Prog 55 v1 h2) v21 && (okVal (loadR Prog 55 v1 h26) v21 && true)) && ((okVal (loadR Prog 55 v1 h2) v23 && true) && ((okVal (loadR Prog 55 v1 h2) v49 && (okVal (loadR Prog 55 v1 h6) v49 && (okVal (loadR Prog 55 v1 h26) v49 && (okVal (loadR Prog 55 v1 h54) v49 && true)))) && ((okVal (loadR Prog 55 v1 h2) v51 && (okVal (loadR Prog 55 v1 h6) v51 && (okVal (loadR Prog 55 v1 h26) v51 && true))) && ((okVal (loadR Prog 55 v1 h2) v69 && (okVal (loadR Prog 55 v1 h6) v69 && (okVal (loadR Prog 55 v1 h26) v69 && (okVal (loadR Prog 55 v1 h38) v69 && (okVal (loadR Prog 55 v1 h54) v69 && (okVal (loadR Prog 55 v1 h74) v69 && true)))))) && ((okVal (loadR Prog 55 v1 h2) v71 && (okVal (loadR Prog 55 v1 h6) v71 && (okVal (loadR Prog 55 v1 h26) v71 && (okVal (loadR Prog 55 v1 h38) v71 && (okVal (loadR Prog 55 v1 h54) v71 && true))))) && true)))))) (
 (nilR v83 h84).bind fun v85 h86 =>
 (fieldAddrR Prog 243 v85 0 h86).bind fun v87 h88 =>
 (loadR Prog 180 v87 h88).bind fun v89 h90 =>
 (call F.ζ1c [v89] h90).bind fun v91 h92 =>
 (builtinV Prog .len [24] [v91] h92).bind fun v93 h94 =>
 (loopN (ζ6i k call) loopFuel [(5, v83), (30, v91), (31, v93), (32, (.int .i64 0))] h94).bind fun r95 h96 =>
 ζck k call r95.1 r95.2 h96)
theorem ζjx (k : Nat) (a0 a1 : Value) (h : Heap) : R (T k) F.ζ1u [a0, a1] h = nrm .fz h (ζ1u k (R (T k)) a0 a1 h) :=
 (R_body (t := T k) (T_scott k) (by kernel_rfl) (by kernel_rfl) _ _).trans (by kernel_rfl)
theorem ζ53 (k : Nat) (call : Caller) (a5 a30 a31 a32 : Value) (h : Heap) : ζ6i k call [(5, a5), (30, a30), (31, a31), (32, a32)] h =
 (binR Prog .lss 3 a32 a31 h).bind fun v97 h98 =>
 condV (some v97) (
 (indexAddrR Prog 24 a30 a32 h98).bind fun v99 h100 =>
 (loadR Prog 31 v99 h100).bind fun v101 h102 =>
 (allocR Prog 31 h102).bind fun v103 h104 =>
 (storeR Prog 31 v103 v101 h104).bind fun _v105 h106 =>
 (fieldAddrR Prog 31 v103 1 h106).bind fun v107 h108 =>
 (loadR Prog 3 v107 h108).bind fun v109 h110 =>
 (binR Prog .and 3 v109 (.int .i64 8192) h110).bind fun v111 h112 =>
 (binR Prog .neq 3 v111 (.int .i64 0) h112).bind fun v113 h114 =>
 condV (some v113) (
 (fieldAddrR Prog 31 v103 2 h114).bind fun v115 h116 =>
 (loadR Prog 3 v115 h116).bind fun v117 h118 =>
 (loopN (ζ6j k call) loopFuel [(5, a5), (8, v117), (30, a30), (31, a31), (32, a32)] h118).bind fun r119 h120 =>
 ζcl k call r119.1 r119.2 h120)
 (
 ζdx k call a5 v103 a30 a31 a32 v113 h114))
 (
 .ok ((.exit 0), [(5, a5), (30, a30), (31, a31), (32, a32), (33, v97)]) h98) :=
 (loopB_eq _ _).trans (by kernel_rfl)
theorem ζf3 (k : Nat) (call : Caller) (a5 a7 a30 a31 a32 a39 : Value) (h : Heap) : ζdx k call a5 a7 a30 a31 a32 a39 h =
 (binR Prog .add 3 a32 (.int .i64 1) h).bind fun v121 h122 =>
 .ok (.normal, [(5, a5), (30, a30), (31, a31), (32, v121)]) h122 := by kernel_rfl
theorem ζ54 (k : Nat) (call : Caller) (a5 a8 a30 a31 a32 : Value) (h : Heap) : ζ6j k call [(5, a5), (8, a8), (30, a30), (31, a31), (32, a32)] h =
 (nilR a5 h).bind fun v123 h124 =>
 (fieldAddrR Prog 243 v123 1 h124).bind fun v125 h126 =>
 (loadR Prog 55 v125 h126).bind fun v127 h128 =>
 (binR Prog .mul 3 (.int .i64 4) a8 h128).bind fun v129 h130 =>
 (call F.ζs [v127, v129] h130).bind fun v131 h132 =>
 (binR Prog .and 3 v131 (.int .i64 2147483648) h132).bind fun v133 h134 =>
 (binR Prog .eql 3 v133 (.int .i64 0) h134).bind fun v135 h136 =>
 condV (some v135) (
 (binR Prog .add 3 a8 (.int .i64 1) h136).bind fun v137 h138 =>
 .ok (.normal, [(5, a5), (8, v137), (30, a30), (31, a31), (32, a32)]) h138)
 (
 .ok ((.exit 2), [(5, a5), (8, a8), (30, a30), (31, a31), (32, a32), (50, v135)]) h136) :=
 (loopB_eq _ _).trans (by kernel_rfl)
theorem ζdz (k : Nat) (call : Caller) (a5 a30 a31 a32 a33 : Value) (h : Heap) : ζck k call (.exit 0) [(5, a5), (30, a30), (31, a31), (32, a32), (33, a33)] h =
 .ok a5 h := by kernel_rfl
theorem ζe0 (k : Nat) (call : Caller) (a5 a8 a30 a31 a32 a50 : Value) (h : Heap) : ζcl k call (.exit 2) [(5, a5), (8, a8), (30, a30), (31, a31), (32, a32), (50, a50)] h =
 ζdy k call a5 a8 a30 a31 a32 a50 h := by kernel_rfl
theorem ζf4 (k : Nat) (call : Caller) (a5 a8 a30 a31 a32 a50 : Value) (h : Heap) : ζdy k call a5 a8 a30 a31 a32 a50 h =
 (binR Prog .add 3 a32 (.int .i64 1) h).bind fun v139 h140 =>
 .ok (.normal, [(5, a5), (30, a30), (31, a31), (32, v139)]) h140 := by kernel_rfl
def ζ1y (k : Nat) (call : Caller) (a0 a1 a2 : Value) (h : Heap) : Res Value :=
 (loadR Prog 55 a0 h).bind fun v1 h2 =>
 (loadR Prog 3 a1 h2).bind fun v3 h4 =>
 (call F.ζ1u [v1, v3] h4).bind fun v5 h6 =>
 (storeR Prog 99 a2 v5 h6).bind fun _v7 h8 =>
 .ok (.tuple #[]) h8
theorem ζf2 (k : Nat) (a0 a1 a2 : Value) (h : Heap) : R (T k) F.ζ1y [a0, a1, a2] h = nrm .no h (ζ1y k (R (T k)) a0 a1 a2 h) :=
 (R_body (t := T k) (T_scott k) (by kernel_rfl) (by kernel_rfl) _ _).trans (by kernel_rfl)
def ζ3e (k : Nat) (call : Caller) (a2 a3 a4 a6 : Value) (h : Heap) : Res Value :=
 kSeq (pieceK (C k) call F.ζg [1, 1]) (kDone Prog (resOf Prog F.ζg)) .normal [(2, a2), (3, a3), (4, a4), (6, a6)] h
def ζ3f (k : Nat) (call : Caller) (a0 a2 a3 a4 a6 a16 : Value) (h : Heap) : Res Value :=
 kSeq (pieceK (C k) call F.ζg [1, 1]) (kDone Prog (resOf Prog F.ζg)) .normal [(0, a0), (2, a2), (3, a3), (4, a4), (6, a6), (16, a16)] h
def ζg (k : Nat) (call : Caller) (a0 a1 a2 a3 a4 : Value) (h : Heap) : Res Value :=
 (boxR a1 h).bind fun v1 h2 =>
 (fieldAddrR Prog 31 v1 1 h2).bind fun v3 h4 =>
 (loadR Prog 3 v3 h4).bind fun v5 h6 =>
 (binR Prog .and 3 v5 (.int .i64 32768) h6).bind fun v7 h8 =>
 (binR Prog .neq 3 v7 (.int .i64 0) h8).bind fun v9 h10 =>
 ((bif wantVal v9 true then Res.ok a0 h10 else Res.ok undef h10)).bind fun v11 h12 =>
 ((bif wantVal v9 true then loadR Prog 44 a2 h12 else Res.ok undef h12)).bind fun v13 h14 =>
 ((bif wantVal v9 true then call F.ζ2h [v13] h14 else Res.ok undef h14)).bind fun v15 h16 =>
 ((bif wantVal v9 true then binR Prog .lss 3 v11 v15 h16 else Res.ok undef h16)).bind fun v17 h18 =>
 (condV (some v9) (Res.ok v17 h18) (Res.ok (.bool false) h18)).bind fun v19 h20 =>
 condV (some v19) (
 (call F.ζv [a3, a0] h20).bind fun v21 h22 =>
 ζ3e k call a2 a3 a4 v1 h22)
 (
 ζ3f k call a0 a2 a3 a4 v1 v19 h20)
theorem ζ3p (k : Nat) (a0 a1 a2 a3 a4 : Value) (h : Heap) : R (T k) F.ζg [a0, a1, a2, a3, a4] h = nrm .no h (ζg k (R (T k)) a0 a1 a2 a3 a4 h) :=
 (R_body (t := T k) (T_scott k) (by kernel_rfl) (by kernel_rfl) _ _).trans (by kernel_rfl)
theorem ζ42 (k : Nat) (call : Caller) (a2 a3 a4 a6 : Value) (h : Heap) : ζ3e k call a2 a3 a4 a6 h =
 (fieldAddrR Prog 31 a6 1 h).bind fun v23 h24 =>
 (loadR Prog 3 v23 h24).bind fun v25 h26 =>
 (binR Prog .and 3 v25 (.int .i64 8192) h26).bind fun v27 h28 =>
 (binR Prog .neq 3 v27 (.int .i64 0) h28).bind fun v29 h30 =>
 condV (some v29) (
 (loadR Prog 99 a4 h30).bind fun v31 h32 =>
 (loadR Prog 44 a2 h32).bind fun v33 h34 =>
 (fieldAddrR Prog 31 a6 2 h34).bind fun v35 h36 =>
 (loadR Prog 3 v35 h36).bind fun v37 h38 =>
 (call F.ζ8 [v31, v33, a3, v37] h38).bind fun v39 h40 =>
 .ok (.tuple #[]) h40)
 (
 .ok (.tuple #[]) h30) := by kernel_rfl
theorem ζ43 (k : Nat) (call : Caller) (a0 a2 a3 a4 a6 a16 : Value) (h : Heap) : ζ3f k call a0 a2 a3 a4 a6 a16 h =
 (fieldAddrR Prog 31 a6 1 h).bind fun v41 h42 =>
 (loadR Prog 3 v41 h42).bind fun v43 h44 =>
 (binR Prog .and 3 v43 (.int .i64 8192) h44).bind fun v45 h46 =>
 (binR Prog .neq 3 v45 (.int .i64 0) h46).bind fun v47 h48 =>
 condV (some v47) (
 (loadR Prog 99 a4 h48).bind fun v49 h50 =>
 (loadR Prog 44 a2 h50).bind fun v51 h52 =>
 (fieldAddrR Prog 31 a6 2 h52).bind fun v53 h54 =>
 (loadR Prog 3 v53 h54).bind fun v55 h56 =>
 (call F.ζ8 [v49, v51, a3, v55] h56).bind fun v57 h58 =>
 .ok (.tuple #[]) h58)
 (
 .ok (.tuple #[]) h48) := by kernel_rfl
def ζv (k : Nat) (call : Caller) (a0 a1 : Value) (h : Heap) : Res Value :=
 (nilR a0 h).bind fun v1 h2 =>
 (loadR Prog 241 v1 h2).bind fun v3 h4 =>
 (builtinV Prog .len [241] [v3] h4).bind fun v5 h6 =>
 (binR Prog .gtr 3 v5 (.int .i64 0) h6).bind fun v7 h8 =>
 ((bif wantVal v7 true then Res.ok a0 h8 else Res.ok undef h8)).bind fun v9 h10 =>
 ((bif wantVal v7 true then nilR v9 h10 else Res.ok undef h10)).bind fun v11 h12 =>
 ((bif wantVal v7 true then loadR Prog 241 v11 h12 else Res.ok undef h12)).bind fun v13 h14 =>
 ((bif wantVal v7 true then Res.ok v5 h14 else Res.ok undef h14)).bind fun v15 h16 =>
 ((bif wantVal v7 true then binR Prog .sub 3 v15 (.int .i64 1) h16 else Res.ok undef h16)).bind fun v17 h18 =>
 ((bif wantVal v7 true then indexAddrR Prog 241 v13 v17 h18 else Res.ok undef h18)).bind fun v19 h20 =>
 ((bif wantVal v7 true then loadR Prog 3 v19 h20 else Res.ok undef h20)).bind fun v21 h22 =>
 ((bif wantVal v7 true then Res.ok a1 h22 else Res.ok undef h22)).bind fun v23 h24 =>
 ((bif wantVal v7 true then binR Prog .eql 3 v21 v23 h24 else Res.ok undef h24)).bind fun v25 h26 =>
 (condV (some v7) (Res.ok v25 h26) (Res.ok (.bool false) h26)).bind fun v27 h28 =>
 condV (some v27) (
 .ok (.tuple #[]) h28)
 (
 (nilR a0 h28).bind fun v29 h30 =>
 (loadR Prog 241 v29 h30).bind fun v31 h32 =>
 (buildSliceR Prog 241 1 [(0, a1)] h32).bind fun v33 h34 =>
 (builtinV Prog .append [241, 241] [v31, v33] h34).bind fun v35 h36 =>
 (nilR a0 h36).bind fun v37 h38 =>
 (storeR Prog 241 v37 v35 h38).bind fun _v39 h40 =>
 (nilR a0 h40).bind fun v41 h42 =>
 (loadR Prog 241 v41 h42).bind fun v43 h44 =>
 (builtinV Prog .len [241] [v43] h44).bind fun v45 h46 =>
 (binR Prog .gtr 3 v45 (.int .i64 64) h46).bind fun v47 h48 =>
 condV (some v47) (
 (nilR a0 h48).bind fun v49 h50 =>
 (loadR Prog 241 v49 h50).bind fun v51 h52 =>
 (sliceR Prog 241 v51 (some (.int .i64 1)) none none h52).bind fun v53 h54 =>
 (nilR a0 h54).bind fun v55 h56 =>
 (storeR Prog 241 v55 v53 h56).bind fun _v57 h58 =>
 .ok (.tuple #[]) h58)
 (
 .ok (.tuple #[]) h48))
theorem ζc0 (k : Nat) (a0 a1 : Value) (h : Heap) : R (T k) F.ζv [a0, a1] h = nrm .no h (ζv k (R (T k)) a0 a1 h) :=
 (R_body (t := T k) (T_scott k) (by kernel_rfl) (by kernel_rfl) _ _).trans (by kernel_rfl)
def ζ3g (k : Nat) (call : Caller) : Env → Heap → Res (AExit × Env) := loopB (C k) call F.ζ8 [1, 1, 0, 0]
def ζ1k (k : Nat) (call : Caller) : Kont Value := kBlock 0 (kDone Prog (resOf Prog F.ζ8))
def ζ5y (k : Nat) (call : Caller) (a0 a1 a2 a3 a8 a9 a10 a12 : Value) (h : Heap) : Res (AExit × Env) :=
 kSeq (pieceK (C k) call F.ζ8 [1, 1, 0, 0, 0, 0, 1, 1, 1, 1, 1, 1, 1, 1]) (kBlock 1 (kSeq (pieceK (C k) call F.ζ8 [1, 1, 0, 0, 1]) (kRound (ownOf (C k) F.ζ8 [1, 1, 0, 0])))) .normal [(0, a0), (1, a1), (2, a2), (3, a3), (8, a8), (9, a9), (10, a10), (12, a12)] h
def ζ5z (k : Nat) (call : Caller) (a0 a1 a2 a3 a8 a9 a10 a12 a58 : Value) (h : Heap) : Res (AExit × Env) :=
 kSeq (pieceK (C k) call F.ζ8 [1, 1, 0, 0, 0, 0, 1, 1, 1, 1, 1, 1, 1, 1]) (kBlock 1 (kSeq (pieceK (C k) call F.ζ8 [1, 1, 0, 0, 1]) (kRound (ownOf (C k) F.ζ8 [1, 1, 0, 0])))) .normal [(0, a0), (1, a1), (2, a2), (3, a3), (8, a8), (9, a9), (10, a10), (12, a12), (58, a58)] h
def ζ8 (k : Nat) (call : Caller) (a0 a1 a2 a3 : Value) (h : Heap) : Res Value :=
 (loopN (ζ3g k call) loopFuel [(0, a0), (1, a1), (2, a2), (3, a3), (8, (.int .i64 0)), (9, (.slice none 0 0))] h).bind fun r1 h2 =>
 ζ1k k call r1.1 r1.2 h2
theorem ζb2 (k : Nat) (a0 a1 a2 a3 : Value) (h : Heap) : R (T k) F.ζ8 [a0, a1, a2, a3] h = nrm .no h (ζ8 k (R (T k)) a0 a1 a2 a3 h) :=
 (R_body (t := T k) (T_scott k) (by kernel_rfl) (by kernel_rfl) _ _).trans (by kernel_rfl)
theorem ζy (k : Nat) (call : Caller) (a0 a1 a2 a3 a8 a9 : Value) (h : Heap) : ζ3g k call [(0, a0), (1, a1), (2, a2), (3, a3), (8, a8), (9, a9)] h =
 (call F.ζ23 [a2] h).bind fun v3 h4 =>
 (extractR v3 0 h4).bind fun v5 h6 =>
 (extractR v3 1 h6).bind fun v7 h8 =>
 (unR .not v7 h8).bind fun v9 h10 =>
 condV (some v9) (
 .ok (.ret, [(0, a0), (1, a1), (2, a2), (3, a3), (8, a8), (9, a9), (10, v5), (24, v9)]) h10)
 (
 (nilR a0 h10).bind fun v11 h12 =>
 (fieldAddrR Prog 243 v11 1 h12).bind fun v13 h14 =>
 (loadR Prog 55 v13 h14).bind fun v15 h16 =>
 (binR Prog .mul 3 (.int .i64 4) a3 h16).bind fun v17 h18 =>
 (call F.ζs [v15, v17] h18).bind fun v19 h20 =>
 (call F.ζ2j [a1, v5] h20).bind fun v21 h22 =>
 (extractR v21 0 h22).bind fun v23 h24 =>
 (extractR v21 1 h24).bind fun v25 h26 =>
 (allocR Prog 115 h26).bind fun v27 h28 =>
 (storeR Prog 115 v27 v23 h28).bind fun _v29 h30 =>
 (nilR a0 h30).bindN fun v31 h32 =>
 (fieldAddrR Prog 243 v31 2 h32).bindN fun v33 h34 =>
 (loadR Prog 55 v33 h34).bindN fun v35 h36 =>
 (fieldAddrR Prog 115 v27 0 h36).bindN fun v37 h38 =>
 (loadR Prog 3 v37 h38).bindN fun v39 h40 =>
 (call F.ζ6e [v19] h40).bindT (fun p43 h44 => .panic p43 h44) fun v41 h42 =>
 (binR Prog .add 3 v39 v41 h42).bindN fun v45 h46 =>
 (call F.ζ46 [v35, v45] h46).bindT (fun p49 h50 => chkR ((okVal (loadR Prog 55 v33 h42) v35 && true) && ((okVal (loadR Prog 3 v37 h42) v39 && true) && true)) (.panic p49 h50)) fun v47 h48 =>
 (extractR v47 0 h48).bindN fun v51 h52 =>
 (extractR v47 1 h52).bindN fun v53 h54 =>
 chkR ((okVal (loadR Prog 55 v33 h42) v35 && true) && ((okVal (loadR Prog 3 v37 h42) v39 && true) && true)) (
 (unR .not v53 h54).bind fun v55 h56 =>
 condV (some v55) (
 .ok (.ret, [(0, a0), (1, a1), (2, a2), (3, a3), (8, a8), (9, a9), (10, v5), (12, v19), (15, v51), (52, v55)]) h56)
 (
 (binR Prog .add 3 a8 v51 h56).bind fun v57 h58 =>
 (binR Prog .and 3 v19 (.int .i64 3221225472) h58).bind fun v59 h60 =>
 (binR Prog .neq 3 v59 (.int .i64 0) h60).bind fun v61 h62 =>
 condV (some v61) (
 (call F.ζ15 [a0, a1, v5, v57, a9] h62).bind fun v63 h64 =>
 (unR .not v63 h64).bind fun v65 h66 =>
 condV (some v65) (
 .ok (.ret, [(0, a0), (1, a1), (2, a2), (3, a3), (8, v57), (10, v5), (12, v19), (65, v65)]) h66)
 (
 ζ5y k call a0 a1 a2 a3 v57 (.slice none 0 0) v5 v19 h66))
 (
 ζ5z k call a0 a1 a2 a3 v57 a9 v5 v19 v61 h62)))) :=
 (loopB_eq _ _).trans (by kernel_rfl)
theorem ζ44 (k : Nat) (call : Caller) (a0 a1 a2 a3 a8 a9 a10 a12 : Value) (h : Heap) : ζ5y k call a0 a1 a2 a3 a8 a9 a10 a12 h =
 (binR Prog .and 3 a12 (.int .i64 2147483648) h).bind fun v67 h68 =>
 (binR Prog .neq 3 v67 (.int .i64 0) h68).bind fun v69 h70 =>
 condV (some v69) (
 (call F.ζv [a2, a10] h70).bind fun v71 h72 =>
 .ok (.ret, []) h72)
 (
 (buildSliceR Prog 27 1 [(0, a10)] h70).bind fun v73 h74 =>
 (builtinV Prog .append [27, 27] [a9, v73] h74).bind fun v75 h76 =>
 (binR Prog .add 3 a3 (.int .i64 1) h76).bind fun v77 h78 =>
 .ok (.normal, [(0, a0), (1, a1), (2, a2), (3, v77), (8, a8), (9, v75)]) h78) := by kernel_rfl
theorem ζ8k (k : Nat) (call : Caller) (a0 a1 a2 a3 a8 a9 a10 a12 a58 : Value) (h : Heap) : ζ5z k call a0 a1 a2 a3 a8 a9 a10 a12 a58 h =
 (binR Prog .and 3 a12 (.int .i64 2147483648) h).bind fun v79 h80 =>
 (binR Prog .neq 3 v79 (.int .i64 0) h80).bind fun v81 h82 =>
 condV (some v81) (
 (call F.ζv [a2, a10] h82).bind fun v83 h84 =>
 .ok (.ret, []) h84)
 (
 (buildSliceR Prog 27 1 [(0, a10)] h82).bind fun v85 h86 =>
 (builtinV Prog .append [27, 27] [a9, v85] h86).bind fun v87 h88 =>
 (binR Prog .add 3 a3 (.int .i64 1) h88).bind fun v89 h90 =>
 .ok (.normal, [(0, a0), (1, a1), (2, a2), (3, v89), (8, a8), (9, v87)]) h90) := by kernel_rfl
theorem ζ8l (k : Nat) (call : Caller) (a0 a1 a2 a3 a8 a9 a10 a24 : Value) (h : Heap) : ζ1k k call .ret [(0, a0), (1, a1), (2, a2), (3, a3), (8, a8), (9, a9), (10, a10), (24, a24)] h =
 .ok (.tuple #[]) h := by kernel_rfl
theorem ζ7o (k : Nat) (call : Caller) (a0 a1 a2 a3 a8 a9 a10 a12 a15 a52 : Value) (h : Heap) : ζ1k k call .ret [(0, a0), (1, a1), (2, a2), (3, a3), (8, a8), (9, a9), (10, a10), (12, a12), (15, a15), (52, a52)] h =
 .ok (.tuple #[]) h := by kernel_rfl
theorem ζ7p (k : Nat) (call : Caller) (a0 a1 a2 a3 a8 a10 a12 a65 : Value) (h : Heap) : ζ1k k call .ret [(0, a0), (1, a1), (2, a2), (3, a3), (8, a8), (10, a10), (12, a12), (65, a65)] h =
 .ok (.tuple #[]) h := by kernel_rfl
theorem ζ7q (k : Nat) (call : Caller) (h : Heap) : ζ1k k call .ret [] h =
 .ok (.tuple #[]) h := by kernel_rfl
def ζ23 (k : Nat) (call : Caller) (a0 : Value) (h : Heap) : Res Value :=
 (nilR a0 h).bind fun v1 h2 =>
 (loadR Prog 241 v1 h2).bind fun v3 h4 =>
 (builtinV Prog .len [241] [v3] h4).bind fun v5 h6 =>
 (binR Prog .eql 3 v5 (.int .i64 0) h6).bind fun v7 h8 =>
 condV (some v7) (
 .ok (.tuple #[(.int .i64 0), (.bool false)]) h8)
 (
 (nilR a0 h8).bind fun v9 h10 =>
 (loadR Prog 241 v9 h10).bind fun v11 h12 =>
 (binR Prog .sub 3 v5 (.int .i64 1) h12).bind fun v13 h14 =>
 (indexAddrR Prog 241 v11 v13 h14).bind fun v15 h16 =>
 (loadR Prog 3 v15 h16).bind fun v17 h18 =>
 (nilR a0 h18).bind fun v19 h20 =>
 (loadR Prog 241 v19 h20).bind fun v21 h22 =>
 (binR Prog .sub 3 v5 (.int .i64 1) h22).bind fun v23 h24 =>
 (sliceR Prog 241 v21 none (some v23) none h24).bind fun v25 h26 =>
 (nilR a0 h26).bind fun v27 h28 =>
 (storeR Prog 241 v27 v25 h28).bind fun _v29 h30 =>
 .ok (.tuple #[v17, (.bool true)]) h30)
theorem ζcr (k : Nat) (a0 : Value) (h : Heap) : R (T k) F.ζ23 [a0] h = nrm .no h (ζ23 k (R (T k)) a0 h) :=
 (R_body (t := T k) (T_scott k) (by kernel_rfl) (by kernel_rfl) _ _).trans (by kernel_rfl)
def ζ46 (k : Nat) (call : Caller) (a0 a1 : Value) (h : Heap) : Res Value :=
 (boxR a0 h).bind fun v1 h2 =>
 (binR Prog .lss 3 a1 (.int .i64 0) h2).bind fun v3 h4 =>
 ((bif wantVal v3 false then Res.ok a1 h4 else Res.ok undef h4)).bind fun v5 h6 =>
 ((bif wantVal v3 false then loadR Prog 55 v1 h6 else Res.ok undef h6)).bind fun v7 h8 =>
 ((bif wantVal v3 false then call F.ζ40 [v7] h8 else Res.ok undef h8)).bind fun v9 h10 =>
 ((bif wantVal v3 false then binR Prog .quo 3 v9 (.int .i64 2) h10 else Res.ok undef h10)).bind fun v11 h12 =>
 ((bif wantVal v3 false then binR Prog .geq 3 v5 v11 h12 else Res.ok undef h12)).bind fun v13 h14 =>
 (condV (some v3) (Res.ok (.bool true) h14) (Res.ok v13 h14)).bind fun v15 h16 =>
 condV (some v15) (
 .ok (.tuple #[(.int .i64 0), (.bool false)]) h16)
 (
 (loadR Prog 55 v1 h16).bind fun v17 h18 =>
 (binR Prog .mul 3 (.int .i64 2) a1 h18).bind fun v19 h20 =>
 (call F.ζc [v17, v19] h20).bind fun v21 h22 =>
 .ok (.tuple #[v21, (.bool true)]) h22)
theorem ζi6 (k : Nat) (a0 a1 : Value) (h : Heap) : R (T k) F.ζ46 [a0, a1] h = nrm .gc h (ζ46 k (R (T k)) a0 a1 h) :=
 (R_body (t := T k) (T_scott k) (by kernel_rfl) (by kernel_rfl) _ _).trans (by kernel_rfl)
def ζ6e (k : Nat) (call : Caller) (a0 : Value) (h : Heap) : Res Value :=
 (convR Prog 3 117 a0 h).bind fun v1 h2 =>
 (binR Prog .shl 117 v1 (.int .u64 2) h2).bind fun v3 h4 =>
 (convR Prog 117 21 v3 h4).bind fun v5 h6 =>
 (convR Prog 21 3 v5 h6).bind fun v7 h8 =>
 (binR Prog .shr 3 v7 (.int .u64 2) h8).bind fun v9 h10 =>
 .ok v9 h10
theorem ζh9 (k : Nat) (a0 : Value) (h : Heap) : R (T k) F.ζ6e [a0] h = nrm .gc h (ζ6e k (R (T k)) a0 h) :=
 (R_body (t := T k) (T_scott k) (by kernel_rfl) (by kernel_rfl) _ _).trans (by kernel_rfl)
def ζ45 (k : Nat) (call : Caller) : Env → Heap → Res (AExit × Env) := loopB (C k) call F.ζ15 [1, 1, 1, 1, 1, 0, 1, 0, 0]
def ζ6h (k : Nat) (call : Caller) : Kont Value := kBlock 0 (kSeq (pieceK (C k) call F.ζ15 [1, 1, 1, 1, 1, 1]) (kDone Prog (resOf Prog F.ζ15)))
def ζ15 (k : Nat) (call : Caller) (a0 a1 a2 a3 a4 : Value) (h : Heap) : Res Value :=
 (nilR a0 h).bind fun v1 h2 =>
 (fieldAddrR Prog 243 v1 3 h2).bind fun v3 h4 =>
 (loadR Prog 55 v3 h4).bind fun v5 h6 =>
 (call F.ζ46 [v5, a3] h6).bind fun v7 h8 =>
 (extractR v7 0 h8).bind fun v9 h10 =>
 (extractR v7 1 h10).bind fun v11 h12 =>
 (unR .not v11 h12).bind fun v13 h14 =>
 condV (some v13) (
 .ok (.bool false) h14)
 (
 (call F.ζ2i [a1, a2, v9] h14).bind fun v15 h16 =>
 (call F.ζz [a1, a2, a4] h16).bind fun v17 h18 =>
 (builtinV Prog .len [27] [a4] h18).bind fun v19 h20 =>
 (loopN (ζ45 k call) loopFuel [(1, a1), (34, a4), (35, v19), (36, (.int .i64 0))] h20).bind fun r21 h22 =>
 ζ6h k call r21.1 r21.2 h22)
theorem ζbz (k : Nat) (a0 a1 a2 a3 a4 : Value) (h : Heap) : R (T k) F.ζ15 [a0, a1, a2, a3, a4] h = nrm .no h (ζ15 k (R (T k)) a0 a1 a2 a3 a4 h) :=
 (R_body (t := T k) (T_scott k) (by kernel_rfl) (by kernel_rfl) _ _).trans (by kernel_rfl)
theorem ζ57 (k : Nat) (call : Caller) (a1 a34 a35 a36 : Value) (h : Heap) : ζ45 k call [(1, a1), (34, a34), (35, a35), (36, a36)] h =
 (binR Prog .lss 3 a36 a35 h).bind fun v23 h24 =>
 condV (some v23) (
 (indexAddrR Prog 27 a34 a36 h24).bind fun v25 h26 =>
 (loadR Prog 3 v25 h26).bind fun v27 h28 =>
 (call F.ζ2i [a1, v27, (.int .i64 65535)] h28).bind fun v29 h30 =>
 (binR Prog .add 3 a36 (.int .i64 1) h30).bind fun v31 h32 =>
 .ok (.normal, [(1, a1), (34, a34), (35, a35), (36, v31)]) h32)
 (
 .ok ((.exit 0), [(1, a1), (34, a34), (35, a35), (36, a36), (37, v23)]) h24) :=
 (loopB_eq _ _).trans (by kernel_rfl)
theorem ζ94 (k : Nat) (call : Caller) (a1 a34 a35 a36 a37 : Value) (h : Heap) : ζ6h k call (.exit 0) [(1, a1), (34, a34), (35, a35), (36, a36), (37, a37)] h =
 .ok (.bool true) h := by kernel_rfl
end
end Go.Sw
end
section
namespace Go.Sw
open Go.RowKit
abbrev ligaC (t : LTab) : List Value := [machV t.m, lv encB t.acts, lv encB t.comps, lv encB t.ligs]
abbrev ligaV (t : LTab) : Value := boxV (ligaC t).toArray
theorem Flat.liga (t : LTab) : Flat (ligaV t) := .boxV (.cons (Flat.mach t.m) (.cons (Flat.B _) (.cons (Flat.B _) (.cons (Flat.B _) .nil))))
theorem ζjv (k : Nat) {vs : List Int} (hb : Byt vs) (hl : vs.length < 2 ^ 31) {p : Nat} (a : Int) (ha : 0 ≤ a ∧ a < 65536) {m c2 c3 : Value} (a30 a31 a32 : Value) {H : Heap} (hp : H.get p = some ⟨[m, lv encB vs, c2, c3], 1, false⟩) :
  (∃ z, loopN (ζ6j k (R (T k))) loopFuel [(5, ptrV p), (8, .int .i64 a), (30, a30), (31, a31), (32, a32)] H = .ok (.exit 2, [(5, ptrV p), (8, z), (30, a30), (31, a31), (32, a32), (50, .bool false)]) H ∧ lastB vs a = true) ∨
  (loopN (ζ6j k (R (T k))) loopFuel [(5, ptrV p), (8, .int .i64 a), (30, a30), (31, a31), (32, a32)] H = .panic failV H ∧ lastB vs a = false) := by
 have hU := fun i H' => U32_run k (H := H') (Sl.lv H' 1 vs) hb i (by omega)
 rcases loop_upP (body := ζ6j k (R (T k))) vs.length
  (fun j e' H' => e' = [(5, ptrV p), (8, .int .i64 (a + j)), (30, a30), (31, a31), (32, a32)] ∧ H' = H ∧ ∀ i : Nat, a ≤ i → (i : Int) < a + j → ¬ gU vs (4 * (i : Int)) 4 ≥ 2147483648)
  (fun xx e' H' => xx = .exit 2 ∧ (∃ z, e' = [(5, ptrV p), (8, z), (30, a30), (31, a31), (32, a32), (50, .bool false)]) ∧ H' = H ∧ lastB vs a = true)
  (fun v H' => v = failV ∧ H' = H ∧ lastB vs a = false)
  (fun j e' H' hj ⟨he', hH, hno⟩ => by
   subst he' hH;cases hu : uS vs (4 * (a + j)) 4 with
   | none =>
    have h32 := hU (4 * (a + j)) H';rw [hu] at h32;refine .inr (.inr ⟨failV, H', ?_, rfl, rfl, ?_⟩)
    ·rw [ζ54];simp -implicitDefEqProofs (disch := omega) [hp, h32, orF]
    ·rw [Bool.eq_false_iff];intro ho;obtain ⟨i, i1, i2, i3⟩ := ζ7d.1 ho;by_cases hij : (i : Int) < a + j
     ·exact hno i i1 hij i3
     ·unfold uS pieceS at hu;rw [if_pos ⟨by omega, by omega, by omega, by omega⟩] at hu;simp at hu
   | some x =>
    have h32 := hU (4 * (a + j)) H';rw [hu] at h32;have hg := gU_some hu;have hxb := uS_four hb hu;have an := fun H => and31 Prog 3 H hxb.1 hxb.2;by_cases d : x ≥ 2147483648
    ·rw [if_pos d] at an;refine .inr (.inl ⟨.exit 2, _, H', ?_, by simp, rfl, ⟨.int .i64 (a + j), rfl⟩, rfl, ?_⟩)
     ·rw [ζ54];simp -implicitDefEqProofs (disch := omega) [hp, h32, orF, an]
     ·refine ζ7d.2 ⟨(a + j).toNat, by omega, ?_, ?_⟩
      ·have := uS_fits hu;omega
      ·rw [show (((a + j).toNat : Nat) : Int) = a + j by omega, hg];exact d
    ·rw [if_neg d] at an;have hj1 : a + ((j + 1 : Nat) : Int) = a + j + 1 := by omega
     refine .inl ⟨_, H', ?_, rfl, rfl, fun i i1 i2 => ?_⟩
     ·rw [ζ54, hj1];simp -implicitDefEqProofs (disch := omega) [hp, h32, orF, an]
     ·by_cases hij : (i : Int) < a + j
      ·exact hno i i1 hij
      ·rw [show (i : Int) = a + j by omega, hg];exact d)
  (fun e' H' ⟨he', hH, hno⟩ => by
   subst he' hH;have hu : uS vs (4 * (a + vs.length)) 4 = none := by
    cases h : uS vs (4 * (a + vs.length)) 4 with
    | none => rfl
    | some x =>
     have := uS_fits h;omega
   have h32 := hU (4 * (a + vs.length)) H';rw [hu] at h32;refine .inr ⟨failV, H', ?_, rfl, rfl, ?_⟩
   ·rw [ζ54];simp -implicitDefEqProofs (disch := omega) [hp, h32, orF]
   ·rw [Bool.eq_false_iff];intro ho;obtain ⟨i, i1, i2, i3⟩ := ζ7d.1 ho;exact hno i i1 (by omega) i3) loopFuel 0 [(5, ptrV p), (8, .int .i64 a), (30, a30), (31, a31), (32, a32)] H (Nat.zero_le _) (by unfold loopFuel; omega) ⟨by simp, rfl, fun i i1 i2 => by omega⟩ with ⟨xx, e', H1, hr, rfl, ⟨z, rfl⟩, rfl, hE⟩ | ⟨v, H1, hr, rfl, rfl, hE⟩
 ·exact .inl ⟨z, hr, hE⟩
 ·exact .inr ⟨hr, hE⟩
theorem ζju (k : Nat) {vs : List Int} (hb : Byt vs) (hl : vs.length < 2 ^ 31) {p : Nat} {es : List En} (hes : ∀ e, e ∈ es → (0 ≤ e.a ∧ e.a < 65536) ∧ 0 ≤ e.flags ∧ e.flags < 65536) (hel : es.length < 2 ^ 40) {m c2 c3 : Value} {H : Heap} (hp : H.get p = some ⟨[m, lv encB vs, c2, c3], 1, false⟩) :
  (∃ z H', loopN (ζ6i k (R (T k))) loopFuel [(5, ptrV p), (30, lv encEn es), (31, .int .i64 es.length), (32, .int .i64 0)] H = .ok (.exit 0, [(5, ptrV p), (30, lv encEn es), (31, .int .i64 es.length), (32, z), (33, .bool false)]) H' ∧ Ext H H' ∧ es.all (entLast vs) = true) ∨
  (∃ H', loopN (ζ6i k (R (T k))) loopFuel [(5, ptrV p), (30, lv encEn es), (31, .int .i64 es.length), (32, .int .i64 0)] H = .panic failV H' ∧ Ext H H' ∧ es.all (entLast vs) = false) := by
 rcases loop_upP (body := ζ6i k (R (T k))) es.length
  (fun j e' H' => e' = [(5, ptrV p), (30, lv encEn es), (31, .int .i64 es.length), (32, .int .i64 j)] ∧ Ext H H' ∧ (es.take j).all (entLast vs) = true)
  (fun xx e' H' => xx = .exit 0 ∧ (∃ z, e' = [(5, ptrV p), (30, lv encEn es), (31, .int .i64 es.length), (32, z), (33, .bool false)]) ∧ Ext H H' ∧ es.all (entLast vs) = true)
  (fun v H' => v = failV ∧ Ext H H' ∧ es.all (entLast vs) = false)
  (fun j e' H' hj ⟨he', hx, hall⟩ => by
   subst he';have hjl : (j : Int) < es.length := by omega
   obtain ⟨en, hen⟩ : ∃ en, es[j]? = some en := ⟨_, List.getElem?_eq_getElem hj⟩
   have hmem := List.mem_of_getElem? hen;obtain ⟨hea, hf0, hf1⟩ := hes en hmem;have i1 := fun H' => ixS_lvN ζ39 es .i64 j en hen H';have hx2 : Ext H (H'.push ⟨encEn en, 1, false⟩) := hx.push _;have an := fun H => and13 Prog 3 H hf0 hf1;by_cases c : en.flags / 8192 % 2 = 1
   ·rw [if_pos c] at an;have hEv : entLast vs en = lastB vs en.a := by unfold entLast; rw [decide_eq_false (fun hh => hh c)]; rfl
    rcases ζjv k hb hl en.a hea (p := p) (m := m) (c2 := c2) (c3 := c3) (lv encEn es) (.int .i64 es.length) (.int .i64 j) (hx2.get hp) with ⟨z, e2, hE⟩ | ⟨e2, hE⟩
    ·refine .inl ⟨_, _, ?_, rfl, hx2, ?_⟩
     ·rw [ζ53];simp -implicitDefEqProofs (disch := omega) [hjl, i1, an, e2, ζe0, ζf4]
     ·rw [ζ1b hen, List.all_append, hall];simp [hEv, hE]
    ·refine .inr (.inr ⟨failV, _, ?_, rfl, hx2, ?_⟩)
     ·rw [ζ53];simp -implicitDefEqProofs (disch := omega) [hjl, i1, an, e2]
     ·rw [Bool.eq_false_iff];intro h;have := List.all_eq_true.1 h en hmem;rw [hEv, hE] at this;cases this
   ·rw [if_neg c] at an;have hEv : entLast vs en = true := by unfold entLast; rw [decide_eq_true c]; rfl
    refine .inl ⟨_, _, ?_, rfl, hx2, ?_⟩
    ·rw [ζ53];simp -implicitDefEqProofs (disch := omega) [hjl, i1, an, ζf3]
    ·rw [ζ1b hen, List.all_append, hall];simp [hEv])
  (fun e' H' ⟨he', hx, hall⟩ => by
   subst he';rw [List.take_length] at hall;refine .inl ⟨.exit 0, _, H', ?_, by simp, rfl, ⟨.int .i64 es.length, rfl⟩, hx, hall⟩;rw [ζ53];simp -implicitDefEqProofs) loopFuel 0 [(5, ptrV p), (30, lv encEn es), (31, .int .i64 es.length), (32, .int .i64 0)] H (Nat.zero_le _) (by unfold loopFuel; omega) ⟨rfl, Ext.refl _, rfl⟩ with ⟨xx, e', H1, hr, rfl, ⟨z, rfl⟩, hx, hE⟩ | ⟨v, H1, hr, rfl, hx, hE⟩
 ·exact .inl ⟨z, H1, hr, hx, hE⟩
 ·exact .inr ⟨H1, hr, hx, hE⟩
theorem ζi5 (k : Nat) (hk : k < 1000000) (b : List Int) (hb : Byt b) (g : Int) (hg : 1 ≤ g ∧ g ≤ 65535) (hl : b.length < 2 ^ 31) (H : Heap) : R (T k) F.ζ1u [vwB b, .int .i64 g] H = orF (ligaS b g) ligaV H := by
 rw [ζjx];have hx : Ext H (H.push ⟨[lv encB b], 1, false⟩) := (Ext.refl H).push _;have hvb : veq (vwB b) (vwB b) = true := veq_agg (l := [lv encB b]) fun u hu => by simp at hu; subst hu; exact veq_B b
 refine fz_orF ?_ fun _ _ => (Flat.liga _).alive;unfold ligaS listAt;simp only [Option.bind_assoc];simp -implicitDefEqProofs (disch := omega) [ζ1u];refine Cp.callT (ζht k (Sl.lv _ 1 b) hb g 1 hg.1 hg.2 (.inr (.inl rfl)) hl) (fun _ => ⟨_, by simp -implicitDefEqProofs (disch := omega) [hvb], hx⟩) fun m hm => ?_;have hok := machS_ok hb hg.1 hg.2 (by omega) hm;simp -implicitDefEqProofs (disch := omega) [hvb];refine Cp.callT (U32_run k (Sl.lv _ 1 b) hb 16 (by omega)) (fun _ => ⟨_, by simp -implicitDefEqProofs (disch := omega) [hvb], hx⟩) fun p hp => ?_;have hp := uS_four hb hp;simp -implicitDefEqProofs (disch := omega) [hvb];refine Cp.callT (Rest_lv k b p (by omega) (by omega) _) (fun _ => ⟨_, by simp -implicitDefEqProofs (disch := omega) [hvb], hx⟩) fun sa hsa => ?_;have lsa := ζ8q hsa;simp -implicitDefEqProofs (disch := omega) [hvb];refine Cp.callT (U32_run k (Sl.lv _ 1 b) hb 20 (by omega)) (fun _ => ⟨_, by simp -implicitDefEqProofs (disch := omega) [hvb], hx⟩) fun p2 hp2 => ?_;have hp2 := uS_four hb hp2;simp -implicitDefEqProofs (disch := omega) [hvb];refine Cp.callT (Rest_lv k b p2 (by omega) (by omega) _) (fun _ => ⟨_, by simp -implicitDefEqProofs (disch := omega) [hvb], hx⟩) fun sc hsc => ?_;have lsc := ζ8q hsc;simp -implicitDefEqProofs (disch := omega) [hvb];refine Cp.callT (U32_run k (Sl.lv _ 1 b) hb 24 (by omega)) (fun _ => ⟨_, by simp -implicitDefEqProofs (disch := omega) [hvb], hx⟩) fun p3 hp3 => ?_;have hp3 := uS_four hb hp3;simp -implicitDefEqProofs (disch := omega) [hvb];refine Cp.callT (Rest_lv k b p3 (by omega) (by omega) _) (fun _ => ⟨_, by simp -implicitDefEqProofs (disch := omega) [hvb], hx⟩) fun sl hsl => ?_;have lsl := ζ8q hsl;have hent := fun H' => ζjf k hk m hok.elen H';have hes : ∀ e, e ∈ m.ents → (0 ≤ e.a ∧ e.a < 65536) ∧ 0 ≤ e.flags ∧ e.flags < 65536 := fun e he => by have := hok.ent e he; omega
 have hx2 : Ext H ((H.push ⟨[lv encB b], 1, false⟩).push ⟨[machV m, lv encB sa, lv encB sc, lv encB sl], 1, false⟩) := hx.push _;have hpg : ((H.push ⟨[lv encB b], 1, false⟩).push ⟨[machV m, lv encB sa, lv encB sc, lv encB sl], 1, false⟩).get (H.n + 1) = some ⟨[machV m, lv encB sa, lv encB sc, lv encB sl], 1, false⟩ := ζe _ _ _ (by simp);simp -implicitDefEqProofs (disch := omega) [hvb, hent];rcases ζju k (hb.rest hsa) (by omega) hes (by have := hok.elen; omega) hpg with ⟨z, H2, e2, hx3, hall⟩ | ⟨H2, e2, hx3, hall⟩
 ·rw [if_pos (List.all_eq_true.1 hall)];simp -implicitDefEqProofs (disch := omega) [e2, ζdz];refine .ok (hx2.trans hx3) ?_;exact ⟨_, fz_box (by omega) (hx3.get hpg) (ζ1d (v := machV m) (u := machV m) (L1 := []) rfl (ζ1d (v := lv encB sa) (u := lv encB sa) (L1 := []) rfl (ζ1d (v := lv encB sc) (u := lv encB sc) (L1 := []) rfl (mapF_one (v := lv encB sl) (u := lv encB sl) (L := []) rfl))))⟩
 ·rw [if_neg (fun hc => by rw [List.all_eq_true.2 hc] at hall; cases hall)];simp -implicitDefEqProofs (disch := omega) [e2];exact ⟨H2, rfl, hx2.trans hx3⟩
end Go.Sw
end
section
namespace Go.Sw
open Go.RowKit
def ligaP (o : Option LTab) : Value := match o with | some t => ligaV t | none => .pointer none
theorem ζl2 (o : Option LTab) : Flat (ligaP o) := by
 cases o with
 | none => exact .nilPtr
 | some t => exact Flat.liga t
theorem ζi7 (k : Nat) {H : Heap} (b : List Int) (hb : Byt b) (g : Int) (hg : 1 ≤ g ∧ g ≤ 65535) (hl : b.length < 2 ^ 31) (p2 p3 p4 : Nat) (old : Value)
  (h2 : H.get p2 = some ⟨[lv encB b], 1, false⟩) (h3 : H.get p3 = some ⟨[.int .i64 g], 1, false⟩) (h4 : H.get p4 = some ⟨[old], 1, false⟩) (ht : ∀ H', R (T k) F.ζ1u [vwB b, .int .i64 g] H' = orF (ligaS b g) ligaV H') :
  R (T k) F.ζ1y [ptrV p2, ptrV p3, ptrV p4] H = match ligaS b g with
   | some t => .ok (.tuple #[]) (H.set p4 (some ⟨[ligaV t], 1, false⟩))
   | none => .panic failV H := by
 rw [ζf2];have ht := ht H;cases h : ligaS b g with
 | none =>
  rw [h] at ht;refine ζ13 ⟨H, ?_, Ext.refl H⟩ Flat.fail.alive;simp -implicitDefEqProofs (disch := omega) [ζ1y, h2, h3, ht]
 | some x =>
  rw [h] at ht;simp -implicitDefEqProofs (disch := omega) [ζ1y, h2, h3, h4, ht]
def ligaO (b : List Int) (g : Int) : Option LTab := if 1 ≤ g ∧ g ≤ 65535 then ligaS b g else none
def ligaN (b : List Int) (g : Int) : Int := if 1 ≤ g ∧ g ≤ 65535 then (if (ligaS b g).isSome then 0 else 2) else 1
theorem ζi3 (k : Nat) {H : Heap} {v : Value} {b : List Int} (hv : Sl H 1 v encB b) (hb : Byt b) (g : Int) (hl : b.length ≤ 2 ^ 30) (ht : (1 ≤ g ∧ g ≤ 65535) → ∀ H', R (T k) F.ζ1u [vwB b, .int .i64 g] H' = orF (ligaS b g) ligaV H') :
  R (T k) F.ζ68 [v, .int .i64 g] H = .ok (.tuple #[ligaP (ligaO b g), .int .i64 (ligaN b g)]) H := by
 rw [ζjw];have hx2 := (Ext.refl H).push ⟨[.int .i64 g], 1, false⟩;have al : ∀ o n, Alive H (.tuple #[ligaP o, .int .i64 n]) := fun o n => (Flat.tupleL (l := [ligaP o, .int .i64 n]) (.cons (ζl2 o) (.cons (.int _ _) .nil))).alive;have fz : ∀ H' o n, fzV H.n H' fzDepth (.tuple #[ligaP o, .int .i64 n]) = some (.tuple #[ligaP o, .int .i64 n], []) := fun H' o n => by
  cases o <;> rfl
 by_cases hgg : 1 ≤ g ∧ g ≤ 65535
 ·have c1 : ¬ g < 1 := by omega
  have c2 : ¬ g > 65535 := by omega
  have hx3 := hx2.push ⟨[.pointer none], 1, false⟩;have o3 := Of_run k (hv.up hx3);have by3 := ζls k (hv.up hx3) hl;have o4 := fun H => Of_lv k b H;have hin := ζi7 k (H := ((H.push ⟨[.int .i64 g], 1, false⟩).push ⟨[.pointer none], 1, false⟩).push ⟨[lv encB b], 1, false⟩) b hb g hgg (by omega) (H.n + 2) H.n (H.n + 1) (.pointer none) (by simp) (by simp) (by simp) (ht hgg);cases hlk : ligaS b g with
  | none =>
   rw [hlk] at hin;have ht := Try_no k F.ζ1y #[ptrV (H.n + 2), ptrV H.n, ptrV (H.n + 1)] hin;refine nrm_fz (H' := ((H.push ⟨[.int .i64 g], 1, false⟩).push ⟨[.pointer none], 1, false⟩).push ⟨[lv encB b], 1, false⟩) (v := .tuple #[ligaP none, .int .i64 2]) ?_ (by unfold ligaO ligaN; rw [if_pos hgg, if_pos hgg, hlk]; exact fz _ _ _) (hx3.push _) (al _ _);simp -implicitDefEqProofs (disch := omega) [ζ68, c1, c2, o3, by3, o4, ht, ligaP]
  | some x =>
   rw [hlk] at hin;have ht := Try_ok k F.ζ1y #[ptrV (H.n + 2), ptrV H.n, ptrV (H.n + 1)] hin;refine nrm_fz (H' := ((H.push ⟨[.int .i64 g], 1, false⟩).push ⟨[ligaV x], 1, false⟩).push ⟨[lv encB b], 1, false⟩) (v := .tuple #[ligaP (some x), .int .i64 0]) ?_ (by unfold ligaO ligaN; rw [if_pos hgg, if_pos hgg, hlk]; exact fz _ _ _) ((hx2.push _).push _) (al _ _);simp at ht;simp -implicitDefEqProofs (disch := omega) [ζ68, c1, c2, o3, by3, o4, ht, ligaP]
 ·refine nrm_fz (H' := (H.push ⟨[.int .i64 g], 1, false⟩).push ⟨[.pointer none], 1, false⟩) (v := .tuple #[ligaP none, .int .i64 1]) ?_ (by unfold ligaO ligaN; rw [if_neg hgg, if_neg hgg]; exact fz _ _ _) (hx2.push _) (al _ _);by_cases c1 : g < 1
  ·simp -implicitDefEqProofs (disch := omega) [ζ68, c1, ligaP]
  ·have c2 : g > 65535 := by omega
   simp -implicitDefEqProofs (disch := omega) [ζ68, c1, c2, ligaP]
end Go.Sw
end
section
namespace Go.Sw
open Go.RowKit
end Go.Sw
end
section
namespace Go.Sw
open Go.RowKit
theorem ζld (k : Nat) (ids : List Int) (hl : ids.length < 2 ^ 30) (H : Heap) : R (T k) F.ζ1n [lv encI ids] H = .ok (lv encG (newG ids)) H := by
 rw [ζes];have g := (Star.nil H).more_row (Ext.refl _) (OwnO.bare encG _ 2) (fun b hb => by cases hb);simp only [List.nil_append] at g
 obtain ⟨x, e', H1, hr1, rfl, z, s, o, rfl, g⟩ := loop_up (body := ζ5x k (R (T k))) ids.length
  (fun j e H' => ∃ s o, e = [(0, lv encI ids), (3, s), (4, .int .i64 j)] ∧ Star H H' [itRow o 2 s encG (newG (ids.take j))])
  (fun x e H' => x = .exit 0 ∧ ∃ z s o, e = [(0, lv encI ids), (3, s), (4, z), (9, .bool false)] ∧ Star H H' [itRow o 2 s encG (newG ids)])
  (e0 := [(0, lv encI ids), (3, bareV), (4, .int .i64 0)]) (H0 := H) ⟨bareV, none, rfl, g⟩ (by omega)
  (fun j e H' hj ⟨s, o, he, g⟩ => by
   subst he;have hlt : (j : Int) < ids.length := by omega
   obtain ⟨x, hx⟩ : ∃ x, ids[j]? = some x := ⟨_, List.getElem?_eq_getElem hj⟩
   have i1 := fun H' => ixS_lvN encI_len ids .i64 j x hx H';have hlen : (ids.take j).length = j := by rw [List.length_take]; omega
   obtain ⟨s', o', H2, e2, g2⟩ := g.append1 (bytes := 16) 0 encG_len rfl (⟨x, j⟩ : Gl) (by rw [newG_len]; omega) (by decide);simp only [List.set_cons_zero] at g2;simp only [encG] at e2;refine .inl ⟨_, H2, ?_, s', o', rfl, by rw [ζ1b hx, ζj2, hlen]; exact g2⟩;rw [ζ77];simp -implicitDefEqProofs (disch := omega) [hlt, i1, e2])
  (fun e H' ⟨s, o, he, g⟩ => by
   subst he;rw [List.take_length] at g;refine ⟨.exit 0, _, H', ?_, by simp, rfl, .int .i64 ids.length, s, o, rfl, g⟩;rw [ζ77];simp -implicitDefEqProofs)
 obtain ⟨L, hf⟩ := (g.own 0 rfl).freeze encG_len (ζh2 _) 6;refine nrm_fz (v := s) (H' := H1) ?_ hf g.ext (Flat.Gls _).alive;simp -implicitDefEqProofs (disch := omega) [ζ1n, hr1, ζal]
end Go.Sw
end
section
set_option maxRecDepth 100000
set_option linter.unusedVariables false
namespace Go.Sw
noncomputable section
end
end Go.Sw
end
section
namespace Go.Sw
open Go.RowKit
end Go.Sw
end
section
namespace Go.Sw
open Go.RowKit
end Go.Sw
end
section
namespace Go.Sw
open Go.RowKit
end Go.Sw
end
section
namespace Go.Sw
open Go.RowKit
variable {σ : Type}
end Go.Sw
end
section
namespace Go.Sw
open Go.RowKit
end Go.Sw
end
section
namespace Go.Sw
open Go.RowKit
end Go.Sw
end
section
namespace Go.Sw
open Go.RowKit
abbrev rmC (r : RMach) : List Value := rmCells r.b r.cl r.rowsAt r.entsAt r.states r.n r.words r.tb r.parts
end Go.Sw
end
section
set_option maxRecDepth 100000
set_option linter.unusedVariables false
namespace Go.Sw
noncomputable section
end
end Go.Sw
end
section
namespace Go.Sw
open Go.RowKit
theorem ζn3 {b : List Int} : restS b (-1) = none := by unfold restS; rw [if_neg (by omega)]
end Go.Sw
end
section
namespace Go.Sw
open Go.RowKit
theorem ζ7b : ∀ l : List Int, rows encI l = l.map (Value.int .i64)
 | [] => rfl
 | a :: l => by rw [List.map_cons, ← ζ7b l]; rfl
end Go.Sw
end
section
namespace Go.Sw
open Go.RowKit
end Go.Sw
end
section
namespace Go.Sw
open Go.RowKit
end Go.Sw
end
section
namespace Go.Sw
open Go.RowKit
end Go.Sw
end
section
namespace Go.Sw
open Go.RowKit
end Go.Sw
end
section
namespace Go.Sw
open Go.RowKit
structure CPlan where
 m : Plan
 subs : List (List Int)
def CPlan.ok (p : CPlan) : Prop := (p.m.ok ∧ p.subs.length < 2 ^ 63) ∧ ∀ s, s ∈ p.subs → ∀ n, n ∈ s → 0 ≤ n ∧ n < 65536
def CSmall (p : CPlan) (n : Nat) : Prop := (∀ s, s ∈ p.subs → s.length ≤ 60) ∧ p.m.cls.length ≤ 40 ∧ p.m.rows.length ≤ 20 ∧ p.m.ents.length ≤ 40 ∧ p.subs.length ≤ 20 ∧ n ≤ 60
instance (p : CPlan) (n : Nat) : Decidable (CSmall p n) := by unfold CSmall; infer_instance
end Go.Sw
end
section
namespace Go.Sw
open Go.RowKit
end Go.Sw
end
section
namespace Go.Sw
open Go.RowKit
theorem Sl.blk {α : Type} {enc : α → List Value} {H : Heap} {m b : Nat} {k : Blk} (l : List α) (hg : H.get b = some k) (hk : k.cells = rows enc l) (he : ∀ x, (enc x).length = m) : Sl H m (.slice (some ⟨b, 0, none⟩) l.length l.length) enc l :=
 .inr (.inr ⟨b, 0, _, _, rfl, Nat.le_refl _, hg, by rw [List.drop_zero, hk, List.take_of_length_le (by rw [ζi he]; exact Nat.le_refl _)]⟩)
end Go.Sw
end
