/-
  Functions' forms, and what is proved of them, part 8.
-/
import Derived.Test.YtnaodjnimkndbabSwW7
import Derived.Test.YtnaodjnimkndbabSwW4
import Derived.Test.YtnaodjnimkndbabSwLib8
import Derived.Test.YtnaodjnimkndbabSwW5
import Derived.Test.YtnaodjnimkndbabSwW6
import Derived.Test.YtnaodjnimkndbabSwCfg
set_option linter.unusedSimpArgs false
set_option linter.unusedVariables false
set_option linter.unusedSectionVars false
section
namespace Go.Sw
def newPl (l : List Int) : List Pl := l.map fun n => ⟨clampI n, 0, 0⟩
theorem ζlk (k : Nat) (l : List Int) (hl : l.length ≤ 1000) (H : Heap) : R (T k) F.ζ2n [lv encI l] H = .ok (lv encP (newPl l)) H := by
 rw [ζib]
 obtain ⟨x, e', H1, hr, s, v, rfl, rfl, ho, hx⟩ := loop_up (body := ζ6l k (R (T k))) l.length
  (fun i e H' => ∃ s, e = [(0, lv encI l), (3, s), (4, .int .i64 i)] ∧ Own H H' 3 s encP (newPl (l.take i)) ∧ Ext H H')
  (fun x e H' => ∃ s v, x = .exit 0 ∧ e = [(0, lv encI l), (3, s), (4, .int .i64 l.length), (9, v)] ∧ Own H H' 3 s encP (newPl l) ∧ Ext H H')
  (e0 := [(0, lv encI l), (3, bareV), (4, .int .i64 0)]) (H0 := H) ⟨bareV, rfl, Own.bare _ _ _, Ext.refl H⟩ (by omega)
  (fun i e H' hi ⟨s, he, ho, hx⟩ => by
   subst he
   obtain ⟨n, hg⟩ : ∃ n, l[i]? = some n := ⟨l[i], List.getElem?_eq_getElem hi⟩
   obtain ⟨s', H2, e1, o1, x1⟩ := ap1_own (bytes := 12) encP_len ho hx ⟨clampI n, 0, 0⟩ (by simp [newPl]; omega) (by decide)
   rw [ζ7l]
   have h1 := ζa6 n
   have h2 := ζa5 n
   have hlt : (i : Int) < l.length := by omega
   simp only [encP] at e1
   have : newPl (l.take (i + 1)) = newPl (l.take i) ++ [⟨clampI n, 0, 0⟩] := by simp [newPl, List.take_add_one, hg]
   exact .inl ⟨_, H2, by simp -implicitDefEqProofs (disch := omega) [hlt, ixS_lvN encI_len l _ i _ hg, encI, e1], s', rfl, by rw [this]; exact o1, x1⟩)
  (fun e H' ⟨s, he, ho, hx⟩ => by
   subst he
   rw [ζ7l]
   exact ⟨.exit 0, _, H', by simp; rfl, by simp, s, _, rfl, rfl, by simpa using ho, hx⟩)
 obtain ⟨L, hf⟩ := ho.freeze encP_len (ζ81 _) 6
 refine nrm_fz (v := s) (H' := H1) ?_ hf hx (Flat.alive (Flat.lv (ζ7p _)))
 simp -implicitDefEqProofs [ζ2n, hr, ζay]
theorem Pl.eqb (p q : Pl) : ([p.adv, p.x, p.y] == [q.adv, q.x, q.y]) = decide (p = q) := by
 obtain ⟨a, b, c⟩ := p
 obtain ⟨d, e, f⟩ := q
 by_cases h : a = d <;> by_cases h1 : b = e <;> by_cases h2 : c = f <;> simp [h, h1, h2]
theorem ζou (k : Nat) {H : Heap} {sa sb : Value} {a b : List Pl} (ra : Rd H 3 sa encP a) (rb : Rd H 3 sb encP b) (ha : a.length ≤ 2 ^ 31) : R (T k) F.ζ1j [sa, sb] H = .ok (.bool (decide (a = b))) H := by
 rw [ζgn]
 refine nrm_gc (Pure.of ?_) (.bool _)
 by_cases hl : a.length = b.length
 ·obtain ⟨x, e', H1, hr, rfl, hq⟩ := loop_up (body := ζ60 k (R (T k))) a.length
   (fun i e H' => e = [(0, sa), (1, sb), (5, .int .i64 i)] ∧ H' = H ∧ a.take i = b.take i)
   (fun x e H' => H' = H ∧ ((x = .ret ∧ e = [(4, .bool false)] ∧ a ≠ b) ∨ ∃ v, x = .exit 0 ∧ e = [(0, sa), (1, sb), (5, .int .i64 a.length), (14, v)] ∧ a = b))
   (e0 := [(0, sa), (1, sb), (5, .int .i64 0)]) (H0 := H) ⟨rfl, rfl, by simp⟩ (by omega)
   (fun i e H' hi ⟨he, hH, ht⟩ => by
    subst he hH
    obtain ⟨p, hp⟩ : ∃ p, a[i]? = some p := ⟨a[i], List.getElem?_eq_getElem hi⟩
    obtain ⟨q, hq⟩ : ∃ q, b[i]? = some q := ⟨b[i], List.getElem?_eq_getElem (by omega)⟩
    have hlt : (i : Int) < a.length := by omega
    obtain ⟨pa, x1, y1⟩ := ra.2 i p hp
    obtain ⟨pb, x2, y2⟩ := rb.2 i q hq
    have x1 := x1 .i64
    have x2 := x2 .i64
    rw [ζ6w]
    by_cases hpq : p = q
    ·subst hpq
     exact .inl ⟨_, H', by simp -implicitDefEqProofs (disch := omega) [hlt, ra.1, x1, x2, y1, y2], rfl, rfl, by rw [List.take_add_one, List.take_add_one, ht, hp, hq]⟩
    ·refine .inr ⟨.ret, _, H', by simp -implicitDefEqProofs (disch := omega) [hlt, ra.1, x1, x2, y1, y2, Pl.eqb, hpq, -List.cons_beq_cons, -List.cons.injEq], by simp, rfl, .inl ⟨rfl, rfl, ?_⟩⟩
     intro hab
     subst hab
     rw [hp] at hq
     exact hpq (Option.some.inj hq))
   (fun e H' ⟨he, hH, ht⟩ => by
    subst he hH
    rw [ζ6w]
    refine ⟨.exit 0, _, H', by simp [ra.1]; rfl, by simp, rfl, .inr ⟨_, rfl, rfl, ?_⟩⟩
    rw [List.take_length, hl, List.take_length] at ht
    exact ht)
  have hbeq : ((a.length : Int) != (b.length : Int)) = false := by simp [hl]
  rcases hq with ⟨rfl, rfl, hne⟩ | ⟨v, rfl, rfl, heq⟩
  ·simp -implicitDefEqProofs [ζ1j, ra.1, rb.1, hbeq, hr, ζaz, hne]
  ·subst heq; simp -implicitDefEqProofs [ζ1j, ra.1, rb.1, hr, ζa0]
 ·have hne : ¬ a = b := fun h => hl (by rw [h])
  have : ((a.length : Int) != (b.length : Int)) = true := by simp; omega
  simp -implicitDefEqProofs [ζ1j, ra.1, rb.1, this, hne]
theorem ζnh (k : Nat) (a b : List Pl) (ha : a.length ≤ 2 ^ 31) (H : Heap) : R (T k) F.ζ1j [lv encP a, lv encP b] H = .ok (.bool (decide (a = b))) H :=
 ζou k (.lv encP_len H a) (.lv encP_len H b) ha
def updPl (l : List Pl) (i : Int) (f : Pl → Pl) : List Pl := if 0 ≤ i then l.modify i.toNat f else l
theorem ζd5 (k : Nat) (l : List Pl) (i a x y : Int) (hl : l.length ≤ 2 ^ 20) (hok : ∀ p, p ∈ l → p.ok) (H : Heap) :
  R (T k) F.ζf [lv encP l, .int .i64 i, .int .i64 a, .int .i64 x, .int .i64 y] H = .ok (lv encP (updPl l i fun p => ⟨addI p.adv a, addI p.x x, addI p.y y⟩)) H := by
 rw [ζgm]
 obtain ⟨s, H1, e1, o1, x1, _⟩ := apR_own (bytes := 12) encP_len (Own.bare H H 3) (Ext.refl H) (b := lv encP l) (l2 := l) rfl (lv_first encP_len l H) (by simp; omega) (by decide)
 rw [List.nil_append] at o1
 by_cases hi : 0 ≤ i ∧ i < l.length
 ·obtain ⟨n, rfl⟩ : ∃ n : Nat, i = n := ⟨i.toNat, by omega⟩
  have hn : n < l.length := by omega
  obtain ⟨p, hp⟩ : ∃ p, l[n]? = some p := ⟨l[n], List.getElem?_eq_getElem hn⟩
  have hpo := hok p (List.mem_of_getElem? hp)
  obtain ⟨b, rfl, hb, hg, _⟩ := ixS_own o1 .i64 n hn H1
  have hix : ∀ H' : Heap, ixS 3 (.slice (some ⟨b, 0, none⟩) l.length l.length) (.int .i64 n) H' = .ok (.pointer (some ⟨b, n * 3, none⟩)) H' := fun H' => by
   obtain ⟨b', he, _, _, h⟩ := ixS_own o1 .i64 n hn H'
   injection he with he; injection he with he; injection he with he
   subst he; exact h
  have r1 := ld1_row encP_len hg (c := 0) hp (by decide) rfl
  obtain ⟨H2, s1, g1, k1, n1⟩ := st_row encP_len hg (c := 0) (n := 1) ⟨addI p.adv a, p.x, p.y⟩ (v := .int .i32 (addI p.adv a)) hp rfl rfl (by decide) rfl
  have hp2 : (l.set n ⟨addI p.adv a, p.x, p.y⟩)[n]? = some ⟨addI p.adv a, p.x, p.y⟩ := by rw [List.getElem?_set_self hn]
  have r2 := ld1_row encP_len g1 (c := 1) hp2 (by decide) rfl
  obtain ⟨H3, s2, g2, k2, n2⟩ := st_row encP_len g1 (c := 1) (n := 1) ⟨addI p.adv a, addI p.x x, p.y⟩ (v := .int .i32 (addI p.x x)) hp2 rfl rfl (by decide) rfl
  rw [List.set_set] at g2
  have hp3 : (l.set n ⟨addI p.adv a, addI p.x x, p.y⟩)[n]? = some ⟨addI p.adv a, addI p.x x, p.y⟩ := by rw [List.getElem?_set_self hn]
  have r3 := ld1_row encP_len g2 (c := 2) hp3 (by decide) rfl
  obtain ⟨H4, s3, g3, k3, n3⟩ := st_row encP_len g2 (c := 2) (n := 1) ⟨addI p.adv a, addI p.x x, addI p.y y⟩ (v := .int .i32 (addI p.y y)) hp3 rfl rfl (by decide) rfl
  rw [List.set_set] at g3
  have hupd : updPl l n (fun p => ⟨addI p.adv a, addI p.x x, addI p.y y⟩) = l.set n ⟨addI p.adv a, addI p.x x, addI p.y y⟩ := by
   unfold updPl
   rw [if_pos (by omega)]
   rw [Int.toNat_natCast, ζ9q _ l n p hp]
  have hx4 : Ext H H4 := ⟨by rw [n3, n2, n1]; exact x1.n, fun c hc hs => by
   rw [k3 c (by omega), k2 c (by omega), k1 c (by omega)]; exact x1.2 c hc hs⟩
  have o4 : Own H H4 3 (.slice (some ⟨b, 0, none⟩) l.length l.length) encP (updPl l n fun p => ⟨addI p.adv a, addI p.x x, addI p.y y⟩) := by
   rw [hupd]
   exact .inr ⟨b, by simp, hb, g3⟩
  obtain ⟨L, hf⟩ := o4.freeze encP_len (ζ81 _) 6
  refine nrm_fz (v := .slice (some ⟨b, 0, none⟩) l.length l.length) (H' := H4) ?_ hf hx4 (Flat.alive (Flat.lv (ζ7p _)))
  have hlt : (n : Int) < l.length := hi.2
  simp only [Nat.add_zero] at r1 s1
  simp -implicitDefEqProofs [-ld1_ptr, -stR_ptr, ζf, e1, hlt, hix, r1, s1, r2, s2, r3, s3, ζhs _ _ _ hpo.1.1 hpo.1.2, ζhs _ _ _ hpo.2.1.1 hpo.2.1.2, ζhs _ _ _ hpo.2.2.1 hpo.2.2.2, ζax]
 ·have hupd : updPl l i (fun p => ⟨addI p.adv a, addI p.x x, addI p.y y⟩) = l := by
   unfold updPl
   split
   ·exact ζab _ _ _ (by omega)
   ·rfl
  rw [hupd]
  obtain ⟨L, hf⟩ := o1.freeze encP_len (ζ81 _) 6
  refine nrm_fz (v := s) (H' := H1) ?_ hf x1 (Flat.alive (Flat.lv (ζ7p _)))
  by_cases h0 : 0 ≤ i
  ·have hlt : ¬ i < l.length := fun h => hi ⟨h0, h⟩
   simp -implicitDefEqProofs [ζf, e1, h0, o1.len, hlt, ζ6v]
  ·simp -implicitDefEqProofs [ζf, e1, h0, ζ6v]
def acrossPl (l : List Pl) (down : Bool) (i n : Int) : List Pl := if down then updPl l i fun p => ⟨addI p.adv 0, addI p.x n, addI p.y 0⟩ else updPl l i fun p => ⟨addI p.adv 0, addI p.x 0, addI p.y n⟩
theorem ζkw (k : Nat) (l : List Pl) (down : Bool) (i n : Int) (hl : l.length ≤ 2 ^ 20) (hok : ∀ p, p ∈ l → p.ok) (H : Heap) :
  R (T k) F.ζ13 [lv encP l, .bool down, .int .i64 i, .int .i64 n] H = .ok (lv encP (acrossPl l down i n)) H := by
 rw [ζch]
 have hflat : ∀ l : List Pl, Alive H (lv encP l) := fun l => Flat.alive (Flat.lv (ζ7p l))
 have hst : ∀ l : List Pl, fzV H.n H fzDepth (lv encP l) = some (lv encP l, []) := fun l => rfl
 cases down
 ·exact nrm_fz (by simp -implicitDefEqProofs [ζ13, ζd5 k l i 0 0 n hl hok, acrossPl]) (hst _) (Ext.refl H) (hflat _)
 ·exact nrm_fz (by simp -implicitDefEqProofs [ζ13, ζd5 k l i 0 n 0 hl hok, acrossPl]) (hst _) (Ext.refl H) (hflat _)
def levelPl (l : List Pl) (down : Bool) (i : Int) : List Pl := updPl l i fun p => if down then ⟨p.adv, 0, p.y⟩ else ⟨p.adv, p.x, 0⟩
theorem ζlm (k : Nat) (l : List Pl) (down : Bool) (i : Int) (hl : l.length ≤ 2 ^ 20) (H : Heap) :
  R (T k) F.ζe [lv encP l, .bool down, .int .i64 i] H = .ok (lv encP (levelPl l down i)) H := by
 rw [ζdf]
 obtain ⟨s, H1, e1, o1, x1, _⟩ := apR_own (bytes := 12) encP_len (Own.bare H H 3) (Ext.refl H) (b := lv encP l) (l2 := l) rfl (lv_first encP_len l H) (by simp; omega) (by decide)
 rw [List.nil_append] at o1
 by_cases hi : 0 ≤ i ∧ i < l.length
 ·obtain ⟨n, rfl⟩ : ∃ n : Nat, i = n := ⟨i.toNat, by omega⟩
  have hn : n < l.length := by omega
  obtain ⟨p, hp⟩ : ∃ p, l[n]? = some p := ⟨l[n], List.getElem?_eq_getElem hn⟩
  obtain ⟨b, rfl, hb, hg, _⟩ := ixS_own o1 .i64 n hn H1
  have hix : ∀ H' : Heap, ixS 3 (.slice (some ⟨b, 0, none⟩) l.length l.length) (.int .i64 n) H' = .ok (.pointer (some ⟨b, n * 3, none⟩)) H' := fun H' => by
   obtain ⟨b', he, _, _, h⟩ := ixS_own o1 .i64 n hn H'
   injection he with he; injection he with he; injection he with he
   subst he; exact h
  have hlt : (n : Int) < l.length := hi.2
  have fin : ∀ (H2 : Heap) (q : Pl), H2.get b = some ⟨rows encP (l.set n q), 3, false⟩ → (∀ d, d ≠ b → H2.get d = H1.get d) → H2.n = H1.n → ∀ r, r = .ok (.slice (some ⟨b, 0, none⟩) l.length l.length) H2 → nrm .fz H r = .ok (lv encP (l.set n q)) H := by
   intro H2 q g1 k1 n1 r hr
   have hx2 : Ext H H2 := ⟨by rw [n1]; exact x1.n, fun c hc hs => by rw [k1 c (by omega)]; exact x1.2 c hc hs⟩
   have o2 : Own H H2 3 (.slice (some ⟨b, 0, none⟩) l.length l.length) encP (l.set n q) := .inr ⟨b, by simp, hb, g1⟩
   obtain ⟨L, hf⟩ := o2.freeze encP_len (ζ81 _) 6
   exact nrm_fz hr hf hx2 (Flat.alive (Flat.lv (ζ7p _)))
  cases down
  ·obtain ⟨H2, s1, g1, k1, n1⟩ := st_row encP_len hg (c := 2) (n := 1) ⟨p.adv, p.x, 0⟩ (v := .int .i32 0) hp rfl rfl (by decide) rfl
   have hup : levelPl l false n = l.set n ⟨p.adv, p.x, 0⟩ := by
    unfold levelPl updPl
    rw [if_pos (by omega), Int.toNat_natCast, ζ9q _ l n p hp]; rfl
   rw [hup]
   refine fin H2 _ g1 k1 n1 _ ?_
   simp -implicitDefEqProofs [-ld1_ptr, -stR_ptr, ζe, e1, hlt, hix, s1, ζ6h]
  ·obtain ⟨H2, s1, g1, k1, n1⟩ := st_row encP_len hg (c := 1) (n := 1) ⟨p.adv, 0, p.y⟩ (v := .int .i32 0) hp rfl rfl (by decide) rfl
   have hup : levelPl l true n = l.set n ⟨p.adv, 0, p.y⟩ := by
    unfold levelPl updPl
    rw [if_pos (by omega), Int.toNat_natCast, ζ9q _ l n p hp]; rfl
   rw [hup]
   refine fin H2 _ g1 k1 n1 _ ?_
   simp -implicitDefEqProofs [-ld1_ptr, -stR_ptr, ζe, e1, hlt, hix, s1, ζ6h]
 ·have hupd : levelPl l down i = l := by
   unfold levelPl updPl
   split
   ·exact ζab _ _ _ (by omega)
   ·rfl
  rw [hupd]
  obtain ⟨L, hf⟩ := o1.freeze encP_len (ζ81 _) 6
  refine nrm_fz (v := s) (H' := H1) ?_ hf x1 (Flat.alive (Flat.lv (ζ7p _)))
  by_cases h0 : 0 ≤ i
  ·have hlt : ¬ i < l.length := fun h => hi ⟨h0, h⟩
   simp -implicitDefEqProofs [ζe, e1, h0, o1.len, hlt, ζ6i]
  ·simp -implicitDefEqProofs [ζe, e1, h0, ζ6i]
end Go.Sw
end
section
namespace Go.Sw
def PlAt (H : Heap) (p : Nat) (o : Option Nat) (down : Bool) (l : List Pl) : Prop :=
 (∀ b, o = some b → b ≠ p) ∧ ∃ s, H.get p = some ⟨[.bool down, s], 1, false⟩ ∧ OwnO H o 3 s encP l
theorem PlAt.up {H H' : Heap} {p : Nat} {o : Option Nat} {down : Bool} {l : List Pl} (h : PlAt H p o down l) (hp : H'.get p = H.get p) (ho : ∀ b, o = some b → H'.get b = H.get b) : PlAt H' p o down l := by
 obtain ⟨h1, s, h2, h3⟩ := h
 exact ⟨h1, s, by rw [hp]; exact h2, h3.up ho⟩
theorem PlAt.lt {H : Heap} {p : Nat} {o : Option Nat} {down : Bool} {l : List Pl} (h : PlAt H p o down l) : p < H.n := by
 obtain ⟨_, s, h2, _⟩ := h
 exact Heap.get_lt h2
theorem PlAt.lto {H : Heap} {p : Nat} {o : Option Nat} {down : Bool} {l : List Pl} (h : PlAt H p o down l) : ∀ b, o = some b → b < H.n := by
 obtain ⟨_, s, _, h3⟩ := h
 intro b hb
 rcases h3 with ⟨h4, _⟩ | ⟨c, h4, _, h5⟩
 ·rw [h4] at hb; cases hb
 ·rw [h4] at hb; injection hb with hb; subst hb; exact Heap.get_lt h5
theorem PlAt.ext {H H' : Heap} {p : Nat} {o : Option Nat} {down : Bool} {l : List Pl} (h : PlAt H p o down l) (hx : Ext H H') : PlAt H' p o down l :=
 h.up (hx.2 p h.lt (by simp)) fun b hb => hx.2 b (h.lto b hb) (by simp)
def fpP (p : Nat) (o : Option Nat) : List Nat := p :: o.toList
theorem plAt_run (k : Nat) {H : Heap} {p : Nat} {o : Option Nat} {down : Bool} {l : List Pl} (h : PlAt H p o down l) (hok : ∀ q, q ∈ l → q.ok) (i : Int) :
  ∃ H1 b j l' q e, R (T k) F.ζ27 [.pointer (some ⟨p, 0, none⟩), .int .i64 i] H = .ok (.pointer (some ⟨b, j * 3, none⟩)) H1 ∧ b ≠ p ∧ H1.get b = some ⟨rows encP l', e, false⟩ ∧ l'[j]? = some q ∧ q.ok ∧ H1.get p = H.get p ∧
   ∀ (H2 : Heap) (f : Pl → Pl), H2.get b = some ⟨rows encP (l'.set j (f q)), e, false⟩ → (∀ c, c ≠ b → H2.get c = H1.get c) → H2.n = H1.n → PlAt H2 p o down (updPl l i f) ∧ Keeps (fpP p o) H H2 := by
 have hh := h
 have hlt := h.lt
 have hlto := h.lto
 obtain ⟨hne, s, h2, h3⟩ := h
 rw [ζg6]
 by_cases hi : 0 ≤ i ∧ i < l.length
 ·obtain ⟨n, rfl⟩ : ∃ n : Nat, i = n := ⟨i.toNat, by omega⟩
  have hn : n < l.length := by omega
  obtain ⟨q, hq⟩ : ∃ q, l[n]? = some q := ⟨l[n], List.getElem?_eq_getElem hn⟩
  obtain ⟨b, rfl, rfl, hb, hix⟩ := h3.ix .i64 n hn
  have h0 : ¬ (n : Int) < 0 := by omega
  have h1 : ¬ (l.length : Int) ≤ n := by omega
  refine ⟨H, b, n, l, q, 3, by simp -implicitDefEqProofs [ζ27, h2, h0, h1, hix], hne b rfl, hb, hq, hok q (List.mem_of_getElem? hq), rfl, fun H2 f g1 g2 g3 => ⟨⟨hne, _, by rw [g2 p (fun e => hne b rfl e.symm)]; exact h2, ?_⟩, by rw [g3]; exact Nat.le_refl _, fun c hc hs => g2 c fun e => hs (by simp [fpP, e])⟩⟩
  have : updPl l n f = l.set n (f q) := by
   unfold updPl
   rw [if_pos (by omega), Int.toNat_natCast, ζ9q _ l n q hq]
  rw [this]
  exact .inr ⟨b, rfl, by simp, g1⟩
 ·refine ⟨H.push ⟨[.int .i32 0, .int .i32 0, .int .i32 0], 1, false⟩, H.n, 0, [⟨0, 0, 0⟩], ⟨0, 0, 0⟩, 1, ?_, by omega, by rw [Heap.get_push, if_pos rfl]; rfl, rfl, by unfold Pl.ok; simp, ζ2d _ _ _ hlt, fun H2 f g1 g2 g3 => ?_⟩
  ·by_cases h0 : i < 0
   ·simp -implicitDefEqProofs [ζ27, h0]
   ·have h1 : (l.length : Int) ≤ i := by omega
    simp -implicitDefEqProofs [ζ27, h0, h2, h3.len, h1]
  ·have : updPl l i f = l := by
    unfold updPl
    split
    ·exact ζab _ _ _ (by omega)
    ·rfl
   rw [this]
   have hx : Ext H H2 := ⟨by rw [g3]; simp, fun c hc hs => by rw [g2 c (by omega)]; exact ζ2d _ _ _ hc⟩
   exact ⟨hh.ext hx, hx.1, fun c hc _ => hx.2 c hc (by simp)⟩
theorem ζp6 (k : Nat) {H : Heap} {p : Nat} {o : Option Nat} {down : Bool} {l : List Pl} (h : PlAt H p o down l) (hok : ∀ q, q ∈ l → q.ok) (i n : Int) :
  ∃ H2, R (T k) F.ζ1s [.pointer (some ⟨p, 0, none⟩), .int .i64 i, .int .i64 n] H = .ok (.tuple #[]) H2 ∧ PlAt H2 p o down (updPl l i fun q => ⟨addI q.adv n, q.x, q.y⟩) ∧ Keeps (fpP p o) H H2 := by
 obtain ⟨H1, b, j, l', q, e, a1, _, a2, a3, a4, _, a5⟩ := plAt_run k h hok i
 have r1 := ld1_row encP_len a2 (c := 0) a3 (by decide) rfl
 obtain ⟨H2, s1, g1, k1, n1⟩ := st_row encP_len a2 (c := 0) (n := 1) ⟨addI q.adv n, q.x, q.y⟩ (v := .int .i32 (addI q.adv n)) a3 rfl rfl (by decide) rfl
 obtain ⟨b1, b2⟩ := a5 H2 (fun q => ⟨addI q.adv n, q.x, q.y⟩) g1 k1 n1
 refine ⟨H2, ?_, b1, b2⟩
 simp only [Nat.add_zero] at r1 s1
 rw [ζbg]
 simp -implicitDefEqProofs [-ld1_ptr, -stR_ptr, ζ1s, a1, r1, s1, Add_run _ _ _ a4.1.1 a4.1.2]
theorem side_run (k : Nat) {H : Heap} {p : Nat} {o : Option Nat} {down : Bool} {l : List Pl} (h : PlAt H p o down l) (hok : ∀ q, q ∈ l → q.ok) (i : Int) :
  ∃ H1 b j l' q e, R (T k) F.ζ2i [.pointer (some ⟨p, 0, none⟩), .int .i64 i] H = .ok (.pointer (some ⟨b, j * 3 + (if down then 1 else 2), none⟩)) H1 ∧ H1.get b = some ⟨rows encP l', e, false⟩ ∧ l'[j]? = some q ∧ q.ok ∧
   ∀ (H2 : Heap) (f : Pl → Pl), H2.get b = some ⟨rows encP (l'.set j (f q)), e, false⟩ → (∀ c, c ≠ b → H2.get c = H1.get c) → H2.n = H1.n → PlAt H2 p o down (updPl l i f) ∧ Keeps (fpP p o) H H2 := by
 obtain ⟨H1, b, j, l', q, e, a1, a0, a2, a3, a4, ap, a5⟩ := plAt_run k h hok i
 obtain ⟨_, s, h2, _⟩ := h
 refine ⟨H1, b, j, l', q, e, ?_, a2, a3, a4, a5⟩
 rw [ζc2]
 rw [← ap] at h2
 cases down <;> simp -implicitDefEqProofs [ζ2i, a1, h2]
theorem ζns (k : Nat) {H : Heap} {p : Nat} {o : Option Nat} {down : Bool} {l : List Pl} (h : PlAt H p o down l) (hok : ∀ q, q ∈ l → q.ok) (i n : Int) :
  ∃ H2, R (T k) F.ζ1c [.pointer (some ⟨p, 0, none⟩), .int .i64 i, .int .i64 n] H = .ok (.tuple #[]) H2 ∧ PlAt H2 p o down (updPl l i fun q => if down then ⟨q.adv, addI q.x n, q.y⟩ else ⟨q.adv, q.x, addI q.y n⟩) ∧ Keeps (fpP p o) H H2 := by
 obtain ⟨H1, b, j, l', q, e, a1, a2, a3, a4, a5⟩ := side_run k h hok i
 rw [ζai]
 cases down
 ·have r1 := ld1_row encP_len a2 (c := 2) a3 (by decide) rfl
  obtain ⟨H2, s1, g1, k1, n1⟩ := st_row encP_len a2 (c := 2) (n := 1) ⟨q.adv, q.x, addI q.y n⟩ (v := .int .i32 (addI q.y n)) a3 rfl rfl (by decide) rfl
  obtain ⟨b1, b2⟩ := a5 H2 (fun q => ⟨q.adv, q.x, addI q.y n⟩) g1 k1 n1
  refine ⟨H2, ?_, by simpa using b1, b2⟩
  simp only [Bool.false_eq_true, if_false] at a1
  simp -implicitDefEqProofs [-ld1_ptr, -stR_ptr, ζ1c, a1, r1, s1, Add_run _ _ _ a4.2.2.1 a4.2.2.2]
 ·have r1 := ld1_row encP_len a2 (c := 1) a3 (by decide) rfl
  obtain ⟨H2, s1, g1, k1, n1⟩ := st_row encP_len a2 (c := 1) (n := 1) ⟨q.adv, addI q.x n, q.y⟩ (v := .int .i32 (addI q.x n)) a3 rfl rfl (by decide) rfl
  obtain ⟨b1, b2⟩ := a5 H2 (fun q => ⟨q.adv, addI q.x n, q.y⟩) g1 k1 n1
  refine ⟨H2, ?_, by simpa using b1, b2⟩
  simp only [if_true] at a1
  simp -implicitDefEqProofs [-ld1_ptr, -stR_ptr, ζ1c, a1, r1, s1, Add_run _ _ _ a4.2.1.1 a4.2.1.2]
theorem ζpb (k : Nat) {H : Heap} {p : Nat} {o : Option Nat} {down : Bool} {l : List Pl} (h : PlAt H p o down l) (hok : ∀ q, q ∈ l → q.ok) (i : Int) :
  ∃ H2, R (T k) F.ζ1l [.pointer (some ⟨p, 0, none⟩), .int .i64 i] H = .ok (.tuple #[]) H2 ∧ PlAt H2 p o down (levelPl l down i) ∧ Keeps (fpP p o) H H2 := by
 obtain ⟨H1, b, j, l', q, e, a1, a2, a3, a4, a5⟩ := side_run k h hok i
 rw [ζbh]
 cases down
 ·obtain ⟨H2, s1, g1, k1, n1⟩ := st_row encP_len a2 (c := 2) (n := 1) ⟨q.adv, q.x, 0⟩ (v := .int .i32 0) a3 rfl rfl (by decide) rfl
  obtain ⟨b1, b2⟩ := a5 H2 (fun q => ⟨q.adv, q.x, 0⟩) g1 k1 n1
  refine ⟨H2, ?_, by simpa [levelPl] using b1, b2⟩
  simp only [Bool.false_eq_true, if_false] at a1
  simp -implicitDefEqProofs [-ld1_ptr, -stR_ptr, ζ1l, a1, s1]
 ·obtain ⟨H2, s1, g1, k1, n1⟩ := st_row encP_len a2 (c := 1) (n := 1) ⟨q.adv, 0, q.y⟩ (v := .int .i32 0) a3 rfl rfl (by decide) rfl
  obtain ⟨b1, b2⟩ := a5 H2 (fun q => ⟨q.adv, 0, q.y⟩) g1 k1 n1
  refine ⟨H2, ?_, by simpa [levelPl] using b1, b2⟩
  simp only [if_true] at a1
  simp -implicitDefEqProofs [-ld1_ptr, -stR_ptr, ζ1l, a1, s1]
end Go.Sw
end
section
namespace Go.Sw
theorem cloneP_R (k : Nat) (a : Value) (H : Heap) : R (T k) F.ζa [a] H = nrm .no H (cloneV 3 12 [a] H) :=
 R_sp (t := T k) (T_scott k) (s := fun _ args H => cloneV 3 12 args H) (by kernel_rfl) _ _
theorem All_run (k : Nat) (hk : k < 1000000) {H : Heap} {p : Nat} {o : Option Nat} {down : Bool} {l : List Pl} (h : PlAt H p o down l) (hl : l.length ≤ 2 ^ 20) : R (T k) F.ζ2u [.pointer (some ⟨p, 0, none⟩)] H = .ok (lv encP l) H := by
 obtain ⟨_, s, h2, h3⟩ := h
 obtain ⟨s', H', e1, o1, x1⟩ := ζpr (bytes := 12) encP_len h3 (by omega) (by decide)
 have ho : own k = .fz := by unfold own; rw [show Nat.blt k 1000000 = true from Nat.ble_eq_true_of_le hk]; rfl
 rw [ζd4, ho]
 obtain ⟨L, hf⟩ := o1.freeze encP_len (ζ81 _) 6
 refine nrm_fz (v := s') (H' := H') ?_ hf x1 (Flat.alive (Flat.lv (ζ7p _)))
 simp -implicitDefEqProofs [ζ2u, h2, cloneP_R, e1]
theorem New_runG (k : Nat) (dir : Int) (l : List Int) (hl : l.length ≤ 2 ^ 20) (H : Heap) {av : Value} (hv : Sl H 1 av encI l) :
  ∃ H' o, R (T k) F.ζ56 [.int .i64 dir, av] H = .ok (.pointer (some ⟨H.n, 0, none⟩)) H' ∧ PlAt H' H.n o (dir == 2) (newPl l) ∧ (∀ b, o = some b → H.n < b) ∧ Ext H H' := by
 rw [ζnd]
 obtain ⟨x, e', H1, hr, v, rfl, rfl, o, ho, hf, hx⟩ := loop_up (body := ζbf k (R (T k))) l.length
  (fun i e H' => e = [(5, .pointer (some ⟨H.n, 0, none⟩)), (12, av), (13, .int .i64 l.length), (14, .int .i64 i)] ∧ ∃ o, PlAt H' H.n o (dir == 2) (newPl (l.take i)) ∧ (∀ b, o = some b → H.n < b) ∧ Ext H H')
  (fun x e H' => ∃ v, x = .exit 0 ∧ e = [(5, .pointer (some ⟨H.n, 0, none⟩)), (12, av), (13, .int .i64 l.length), (14, .int .i64 l.length), (15, v)] ∧ ∃ o, PlAt H' H.n o (dir == 2) (newPl l) ∧ (∀ b, o = some b → H.n < b) ∧ Ext H H')
  (e0 := [(5, .pointer (some ⟨H.n, 0, none⟩)), (12, av), (13, .int .i64 l.length), (14, .int .i64 0)]) (H0 := H.push ⟨[.bool (dir == 2), .slice none 0 0], 1, false⟩)
  ⟨rfl, none, ⟨(fun b hb => by cases hb), .slice none 0 0, by rw [Heap.get_push, if_pos rfl], .inl ⟨rfl, rfl, .inl rfl⟩⟩, (fun b hb => by cases hb), (Ext.refl H).push _⟩ (by omega)
  (fun i e H' hi ⟨he, o, ⟨hne, s, h2, h3⟩, hof, hx⟩ => by
   subst he
   obtain ⟨n, hg⟩ : ∃ n, l[i]? = some n := ⟨l[i], List.getElem?_eq_getElem hi⟩
   have hlt : (i : Int) < l.length := by omega
   have hpn : H.n < H'.n := Heap.get_lt h2
   have hlto : ∀ b, o = some b → b < H'.n := fun b hb => by
    rcases h3 with ⟨h4, _⟩ | ⟨c, h4, _, h5⟩
    ·rw [h4] at hb; cases hb
    ·rw [h4] at hb; injection hb with hb; subst hb; exact Heap.get_lt h5
   have hlen : (newPl (l.take i)).length < 2 ^ 31 := by simp [newPl]; omega
   obtain ⟨s', H2, e1, o1, n1, k1⟩ := ap1_ownO (bytes := 12) encP_len h3 hlto ⟨clampI n, 0, 0⟩ hlen (by decide)
   have k2 := k1 H.n hpn fun e => hne H.n e rfl
   rw [h2] at k2
   have hne2 : ¬ H.n = H'.n := by omega
   obtain ⟨pt, hix, hld⟩ := hv.ix1 encI_len i n hg _ rfl
   have hld := hld H' hx
   refine .inl ⟨_, H2.set H.n (some ⟨[.bool (dir == 2), s'], 1, false⟩), ?_, rfl, some (H'.n + 1), ⟨fun b hb => by injection hb; omega, s', by rw [Heap.get_set k2, if_pos rfl], ?_⟩, fun b hb => by injection hb; omega, ?_⟩
   ·rw [ζb6]
    simp -implicitDefEqProofs (disch := omega) [hlt, hix, hld, h2, e1, k2, hne2, h3.veq, o1.storable, o1.cells]
   ·have := o1.up (H' := H2.set H.n (some ⟨[.bool (dir == 2), s'], 1, false⟩)) fun b hb => by
     injection hb with hb
     exact ζ3b _ _ _ _ (by omega)
    have e : newPl (l.take (i + 1)) = newPl (l.take i) ++ [⟨clampI n, 0, 0⟩] := by
     rw [List.take_add_one, hg]; simp [newPl]
    rw [e]
    exact this
   ·refine ⟨by rw [Heap.n_set, n1]; have := hx.n; omega, fun c hc hs => ?_⟩
    rw [ζ3b _ _ _ _ (by omega), k1 c (by omega) (fun e => by have := hof c e; omega)]
    exact hx.2 c hc hs)
  (fun e H' ⟨he, o, ho, hof, hx⟩ => by
   subst he
   rw [ζb6]
   exact ⟨.exit 0, _, H', by simp -implicitDefEqProofs <;> rfl, by simp, _, rfl, rfl, o, by simpa using ho, hof, hx⟩)
 have hln := fun H' => hv.len H'
 refine ⟨H1, o, ?_, ho, hf, hx⟩
 simp -implicitDefEqProofs [ζ56, hln, hr, ζhr]
end Go.Sw
end
section
namespace Go.Sw
open Go.RowKit
end Go.Sw
end
section
namespace Go.Sw
open Go.RowKit
theorem newPl_ok (l : List Int) : ∀ q, q ∈ newPl l → q.ok := by
 intro q hq
 obtain ⟨n, _, rfl⟩ := List.mem_map.1 hq
 have := ζa6 n
 have := ζa5 n
 unfold Pl.ok
 dsimp only
 omega
@[simp] theorem ζmi (l : List Int) : (newPl l).length = l.length := by simp [newPl]
theorem addI_0 {a : Int} (h : -2147483648 ≤ a ∧ a ≤ 2147483647) : addI a 0 = a := by
 unfold addI clampI
 omega
theorem addI_ok (a n : Int) : -2147483648 ≤ addI a n ∧ addI a n ≤ 2147483647 := ⟨addI_lo _ _, addI_hi _ _⟩
theorem updPl_ok {l : List Pl} (h : ∀ q, q ∈ l → q.ok) (i : Int) {f : Pl → Pl} (hf : ∀ q, q.ok → (f q).ok) : ∀ q, q ∈ updPl l i f → q.ok := by
 unfold updPl
 split
 ·intro q hq
  obtain ⟨j, hj⟩ := List.getElem?_of_mem hq
  rw [List.getElem?_modify] at hj
  cases hg : l[j]? with
  | none => rw [hg] at hj; simp at hj
  | some x =>
   have hx := h x (List.mem_of_getElem? hg)
   rw [hg] at hj
   simp at hj
   subst hj
   split
   ·exact hf x hx
   ·exact hx
 ·exact h
theorem ζfy {l : List Pl} (h : ∀ q, q ∈ l → q.ok) (i : Int) {f g : Pl → Pl} (hf : ∀ q, q.ok → f q = g q) : updPl l i f = updPl l i g := by
 unfold updPl
 split
 ·apply List.ext_getElem?
  intro j
  rw [List.getElem?_modify, List.getElem?_modify]
  cases hg : l[j]? with
  | none => rfl
  | some x =>
   have := hf x (h x (List.mem_of_getElem? hg))
   simp [this]
 ·rfl
end Go.Sw
end
section
namespace Go.Sw
open Go.RowKit
def oddB (vs : List Int) (a : Int) : Bool := (List.range (vs.length / 2)).any fun i => decide (a ≤ (i : Int) ∧ gU vs (2 * (i : Int)) 2 % 2 = 1)
theorem oddB_iff {vs : List Int} {a : Int} : oddB vs a = true ↔ ∃ i : Nat, a ≤ i ∧ 2 * i + 2 ≤ vs.length ∧ gU vs (2 * (i : Int)) 2 % 2 = 1 := by
 unfold oddB
 rw [List.any_eq_true]
 constructor
 ·rintro ⟨i, hi, h⟩
  have := of_decide_eq_true h
  have hi := List.mem_range.1 hi
  exact ⟨i, this.1, by omega, this.2⟩
 ·rintro ⟨i, h1, h2, h3⟩
  exact ⟨i, List.mem_range.2 (by omega), decide_eq_true ⟨h1, h3⟩⟩
structure STab where
 m : Mach
 vals : List Int
def entOdd (vs : List Int) (e : En) : Bool := decide (e.a = 65535) || oddB vs e.a
def stackS (b : List Int) (g : Int) : Option STab := (machS b g 1).bind fun m => (uS b 16 4).bind fun p => (restS b p).bind fun vs => if m.ents.all (entOdd vs) then some ⟨m, vs⟩ else none
structure STab.ok (t : STab) : Prop where
 m : t.m.ok
 byt : Byt t.vals
 len : t.vals.length < 2 ^ 31
 has : ∀ e, e ∈ t.m.ents → e.a = 65535 ∨ oddB t.vals e.a = true
theorem ζqn {b : List Int} (hb : Byt b) {g : Int} (h1 : 1 ≤ g) (h2 : g ≤ 65535) (hl : b.length < 2 ^ 31) {t : STab} (h : stackS b g = some t) : t.ok := by
 unfold stackS at h
 obtain ⟨m, hm, h⟩ := Option.bind_eq_some_iff.1 h
 obtain ⟨p, hp, h⟩ := Option.bind_eq_some_iff.1 h
 obtain ⟨vs, hv, h⟩ := Option.bind_eq_some_iff.1 h
 split at h
 ·rename_i hc
  injection h with h
  subst h
  have := ζ91 hv
  refine ⟨machS_ok hb h1 h2 (by omega) hm, hb.rest hv, by dsimp only; omega, fun e he => ?_⟩
  have := List.all_eq_true.1 hc e he
  unfold entOdd at this
  rw [Bool.or_eq_true, decide_eq_true_eq] at this
  exact this
 ·cases h
def valV (vs : List Int) (a : Int) : Int := s16 (gU vs (2 * a) 2) - s16 (gU vs (2 * a) 2) % 2
def lastS (vs : List Int) (a : Int) : Bool := decide (s16 (gU vs (2 * a) 2) % 2 = 1)
def onePl (down cross : Bool) (l : List Pl) (i v : Int) : List Pl := if cross = false then updPl l i fun p => ⟨addI p.adv v, p.x, p.y⟩ else if v = -32768 then levelPl l down i else updPl l i fun p => if down then ⟨p.adv, addI p.x v, p.y⟩ else ⟨p.adv, p.x, addI p.y v⟩
def moveS (vs : List Int) (down cross : Bool) : List Int → Int → List Pl → List Pl × List Int
 | [], _, l => (l, [])
 | i :: ks, a, l => if lastS vs a then (onePl down cross l i (valV vs a), ks) else moveS vs down cross ks (a + 1) (onePl down cross l i (valV vs a))
theorem ζjy (down cross : Bool) (l : List Pl) (i v : Int) : (onePl down cross l i v).length = l.length := by
 unfold onePl levelPl updPl
 split <;> split <;> (try split) <;> simp
theorem ζmf (vs : List Int) (down cross : Bool) : ∀ (ks : List Int) (a : Int) (l : List Pl), (moveS vs down cross ks a l).1.length = l.length
 | [], _, _ => rfl
 | i :: ks, a, l => by
  unfold moveS
  split
  ·exact ζjy _ _ _ _ _
  ·rw [ζmf vs down cross ks, ζjy]
theorem ζkm (vs : List Int) (down cross : Bool) : ∀ (ks : List Int) (a : Int) (l : List Pl), ∃ n, (moveS vs down cross ks a l).2 = ks.drop n
 | [], _, _ => ⟨0, rfl⟩
 | i :: ks, a, l => by
  unfold moveS
  split
  ·exact ⟨1, rfl⟩
  ·obtain ⟨n, hn⟩ := ζkm vs down cross ks (a + 1) (onePl down cross l i (valV vs a))
   exact ⟨n + 1, hn⟩
def doSt (t : STab) (n : Int) (down cross : Bool) (s : List Pl × List Int) (i : Int) (e : En) : List Pl × List Int :=
 let k1 := if e.flags / 8192 % 2 = 1 then [] else s.2
 let k2 := if e.flags ≥ 32768 ∧ i < n then (i :: k1).take 8 else k1
 if e.a = 65535 then (s.1, k2) else moveS t.vals down cross k2 e.a s.1
theorem doSt_len (t : STab) (n : Int) (down cross : Bool) (s : List Pl × List Int) (i : Int) (e : En) : (doSt t n down cross s i e).1.length = s.1.length := by
 unfold doSt
 dsimp only
 split
 ·rfl
 ·exact ζmf _ _ _ _ _ _
theorem onePl_ok {l : List Pl} (h : ∀ q, q ∈ l → q.ok) (down cross : Bool) (i v : Int) : ∀ q, q ∈ onePl down cross l i v → q.ok := by
 unfold onePl levelPl
 split
 ·exact updPl_ok h i fun q hq => ⟨addI_ok _ _, hq.2⟩
 ·split
  ·refine updPl_ok h i fun q hq => ?_
   split
   ·exact ⟨hq.1, by dsimp only; omega, hq.2.2⟩
   ·exact ⟨hq.1, hq.2.1, by dsimp only; omega⟩
  ·refine updPl_ok h i fun q hq => ?_
   split
   ·exact ⟨hq.1, addI_ok _ _, hq.2.2⟩
   ·exact ⟨hq.1, hq.2.1, addI_ok _ _⟩
theorem moveS_ok (vs : List Int) (down cross : Bool) : ∀ (ks : List Int) (a : Int) {l : List Pl}, (∀ q, q ∈ l → q.ok) → ∀ q, q ∈ (moveS vs down cross ks a l).1 → q.ok
 | [], _, _, h => h
 | i :: ks, a, l, h => by
  unfold moveS
  split
  ·exact onePl_ok h _ _ _ _
  ·exact moveS_ok vs down cross ks (a + 1) (onePl_ok h _ _ _ _)
theorem doSt_ok (t : STab) (n : Int) (down cross : Bool) {s : List Pl × List Int} (h : ∀ q, q ∈ s.1 → q.ok) (i : Int) (e : En) : ∀ q, q ∈ (doSt t n down cross s i e).1 → q.ok := by
 unfold doSt
 dsimp only
 split
 ·exact h
 ·exact moveS_ok _ _ _ _ _ h
end Go.Sw
end
section
namespace Go.Sw
open Go.RowKit
def itPl (p : Nat) (o : Option Nat) (down : Bool) (l : List Pl) : It :=
 ⟨fpP p o, fun H => PlAt H p o down l, fun _ _ h hk => h.up (hk p (by simp [fpP])) fun b hb => hk b (by simp [fpP, hb])⟩
theorem Star.pl {H0 H : Heap} {L : List It} (h : Star H0 H L) (i : Nat) {p : Nat} {o : Option Nat} {down : Bool} {l : List Pl} (hi : L[i]? = some (itPl p o down l)) : PlAt H p o down l := h.at i hi
theorem Star.plStep {H0 H H2 : Heap} {L : List It} (h : Star H0 H L) (i : Nat) {p : Nat} {o : Option Nat} {down : Bool} {l l2 : List Pl} (hi : L[i]? = some (itPl p o down l)) (hp : PlAt H2 p o down l2) (hk : Keeps (fpP p o) H H2) : Star H0 H2 (L.set i (itPl p o down l2)) :=
 h.step i hi hk.1 (fun c hc hs => hk.2 c hc hs) _ hp fun b hb => .inl hb
theorem ζnu (k : Nat) {H0 H : Heap} {L : List It} (h : Star H0 H L) (i : Nat) {p : Nat} {o : Option Nat} {down : Bool} {l : List Pl} (hi : L[i]? = some (itPl p o down l)) (hok : ∀ q, q ∈ l → q.ok) (j n : Int) :
  ∃ H2, R (T k) F.ζ1s [ptrV p, .int .i64 j, .int .i64 n] H = .ok (.tuple #[]) H2 ∧ Star H0 H2 (L.set i (itPl p o down (updPl l j fun q => ⟨addI q.adv n, q.x, q.y⟩))) := by
 obtain ⟨H2, e, h1, h2⟩ := ζp6 k (h.pl i hi) hok j n
 exact ⟨H2, e, h.plStep i hi h1 h2⟩
theorem ζmw (k : Nat) {H0 H : Heap} {L : List It} (h : Star H0 H L) (i : Nat) {p : Nat} {o : Option Nat} {down : Bool} {l : List Pl} (hi : L[i]? = some (itPl p o down l)) (hok : ∀ q, q ∈ l → q.ok) (j n : Int) :
  ∃ H2, R (T k) F.ζ1c [ptrV p, .int .i64 j, .int .i64 n] H = .ok (.tuple #[]) H2 ∧ Star H0 H2 (L.set i (itPl p o down (updPl l j fun q => if down then ⟨q.adv, addI q.x n, q.y⟩ else ⟨q.adv, q.x, addI q.y n⟩))) := by
 obtain ⟨H2, e, h1, h2⟩ := ζns k (h.pl i hi) hok j n
 exact ⟨H2, e, h.plStep i hi h1 h2⟩
theorem ζog (k : Nat) {H0 H : Heap} {L : List It} (h : Star H0 H L) (i : Nat) {p : Nat} {o : Option Nat} {down : Bool} {l : List Pl} (hi : L[i]? = some (itPl p o down l)) (hok : ∀ q, q ∈ l → q.ok) (j : Int) :
  ∃ H2, R (T k) F.ζ1l [ptrV p, .int .i64 j] H = .ok (.tuple #[]) H2 ∧ Star H0 H2 (L.set i (itPl p o down (levelPl l down j))) := by
 obtain ⟨H2, e, h1, h2⟩ := ζpb k (h.pl i hi) hok j
 exact ⟨H2, e, h.plStep i hi h1 h2⟩
theorem ζk1 (k : Nat) {H0 H : Heap} {L : List It} (h : Star H0 H L) (dir : Int) (l : List Int) (hl : l.length ≤ 2 ^ 20) {av : Value} (hv : Sl H 1 av encI l) :
  ∃ o H', R (T k) F.ζ56 [.int .i64 dir, av] H = .ok (ptrV H.n) H' ∧ Star H0 H' (L ++ [itPl H.n o (dir == 2) (newPl l)]) := by
 obtain ⟨H', o, e, h1, h2, h3⟩ := New_runG k dir l hl H hv
 refine ⟨o, H', e, h.more h3 _ h1 fun b hb => ?_⟩
 have hlt := h1.lt
 rcases List.mem_cons.1 hb with rfl | hb
 ·omega
 ·have := h2 b (Option.mem_toList.1 hb)
  have := h1.lto b (Option.mem_toList.1 hb)
  omega
theorem ζkt (k : Nat) {H0 H : Heap} {L : List It} (h : Star H0 H L) (dir : Int) (l : List Int) (hl : l.length ≤ 2 ^ 20) :
  ∃ o H', R (T k) F.ζ56 [.int .i64 dir, lv encI l] H = .ok (ptrV H.n) H' ∧ Star H0 H' (L ++ [itPl H.n o (dir == 2) (newPl l)]) := ζk1 k h dir l hl (Sl.lv H 1 l)
theorem ζlj (k : Nat) (hk : k < 1000000) {H0 H : Heap} {L : List It} (h : Star H0 H L) (i : Nat) {p : Nat} {o : Option Nat} {down : Bool} {l : List Pl} (hi : L[i]? = some (itPl p o down l)) (hl : l.length ≤ 2 ^ 20) : R (T k) F.ζ2u [ptrV p] H = .ok (lv encP l) H := All_run k hk (h.pl i hi) hl
end Go.Sw
end
section
namespace Go.Sw
open Go.RowKit
theorem and_pow (n k : Nat) : n &&& 2 ^ k = if n.testBit k then 2 ^ k else 0 := by
 apply Nat.eq_of_testBit_eq
 intro i
 rw [Nat.testBit_and, Nat.testBit_two_pow]
 by_cases h : k = i
 ·subst h
  cases hb : n.testBit k
  ·simp
  ·simp
 ·cases hb : n.testBit k
  ·simp [h]
  ·simp only [h, decide_false, Bool.and_false, if_true, Nat.testBit_two_pow]
theorem bin_andP (P : Program) (t : TypeId) (H : Heap) (k : Nat) (hk : k < 62) {a : Int} (h0 : 0 ≤ a) (h1 : a < 2 ^ 62) (m : Int) (hm : m = ((2 ^ k : Nat) : Int)) :
  binR P .and t (.int .i64 a) (.int .i64 m) H = .ok (.int .i64 (if a / m % 2 = 1 then m else 0)) H := by
 obtain ⟨n, rfl⟩ := Int.eq_ofNat_of_zero_le h0
 have hp : 2 ^ k ≤ 2 ^ 61 := Nat.pow_le_pow_right (by decide) (by omega)
 have hp0 : 0 < 2 ^ k := Nat.two_pow_pos k
 have e : (BitVec.ofInt 64 (n : Int) &&& BitVec.ofInt 64 m).toNat = if n.testBit k then 2 ^ k else 0 := by
  rw [BitVec.toNat_and, BitVec.toNat_ofInt, BitVec.toNat_ofInt, hm]
  rw [show (((n : Int)) % ((2 ^ 64 : Nat) : Int)).toNat = n by omega, show ((((2 ^ k : Nat) : Int)) % ((2 ^ 64 : Nat) : Int)).toNat = 2 ^ k by omega, and_pow]
 have e1 : binV P .and t (.int .i64 (n : Int)) (.int .i64 m) = some (.int .i64 (IntKind.i64.wrap (BitVec.ofInt 64 (n : Int) &&& BitVec.ofInt 64 m).toNat)) := rfl
 unfold binR
 rw [e1, e, Nat.testBit_eq_decide_div_mod_eq]
 have hd : (n : Int) / m = ((n / 2 ^ k : Nat) : Int) := by rw [hm, Int.natCast_ediv]
 rw [hd]
 by_cases h : n / 2 ^ k % 2 = 1
 ·rw [decide_eq_true h, if_pos rfl, if_pos (by omega), wrap_i64 (by omega) (by omega), hm]; rfl
 ·rw [decide_eq_false h, if_neg (by simp), if_neg (by omega)]; rfl
theorem and13 (P : Program) (t : TypeId) (H : Heap) {a : Int} (h0 : 0 ≤ a) (h1 : a < 65536) : binR P .and t (.int .i64 a) (.int .i64 8192) H = .ok (.int .i64 (if a / 8192 % 2 = 1 then 8192 else 0)) H := bin_andP P t H 13 (by decide) h0 (by omega) 8192 rfl
end Go.Sw
end
section
set_option maxRecDepth 100000
set_option linter.unusedVariables false
namespace Go.Sw
noncomputable section
def ζ59 (k : Nat) (call : Caller) (a0 a1 : Value) (h : Heap) : Res Value :=
 (boxR a1 h).bind fun v1 h2 =>
 (allocR Prog 72 h2).bind fun v3 h4 =>
 (loadR Prog 3 v1 h4).bind fun v5 h6 =>
 (binR Prog .lss 3 v5 (.int .i64 1) h6).bind fun v7 h8 =>
 ((bif wantVal v7 false then loadR Prog 3 v1 h8 else Res.ok undef h8)).bind fun v9 h10 =>
 ((bif wantVal v7 false then binR Prog .gtr 3 v9 (.int .i64 65535) h10 else Res.ok undef h10)).bind fun v11 h12 =>
 (condV (some v7) (Res.ok (.bool true) h12) (Res.ok v11 h12)).bind fun v13 h14 =>
 condV (some v13) (
 (storeR Prog 72 v3 (.pointer none) h14).bind fun _v15 h16 =>
 (loadR Prog 72 v3 h16).bind fun v17 h18 =>
 .ok (.tuple #[v17, (.int .i64 1)]) h18)
 (
 (call F.view_Of [a0] h14).bind fun v19 h20 =>
 (call F.ζ3t [v19] h20).bind fun v21 h22 =>
 (call F.view_Of [v21] h22).bind fun v23 h24 =>
 (allocR Prog 55 h24).bind fun v25 h26 =>
 (storeR Prog 55 v25 v23 h26).bind fun _v27 h28 =>
 (call F.view_Try [(.func (.func F.ζ2l) #[] #[v25, v1, v3])] h28).bind fun v29 h30 =>
 (unR .not v29 h30).bind fun v31 h32 =>
 condV (some v31) (
 (storeR Prog 72 v3 (.pointer none) h32).bind fun _v33 h34 =>
 (loadR Prog 72 v3 h34).bind fun v35 h36 =>
 .ok (.tuple #[v35, (.int .i64 2)]) h36)
 (
 (loadR Prog 72 v3 h32).bind fun v37 h38 =>
 (storeR Prog 72 v3 v37 h38).bind fun _v39 h40 =>
 (loadR Prog 72 v3 h40).bind fun v41 h42 =>
 .ok (.tuple #[v41, (.int .i64 0)]) h42))
theorem ζlr (k : Nat) (a0 a1 : Value) (h : Heap) : R (T k) F.ζ59 [a0, a1] h = nrm .fz h (ζ59 k (R (T k)) a0 a1 h) :=
 (R_body (t := T k) (T_scott k) (by kernel_rfl) (by kernel_rfl) _ _).trans (by kernel_rfl)
def ζ3s (k : Nat) (call : Caller) (a0 a1 a2 a3 : Value) (h : Heap) : Res Value :=
 (boxR a0 h).bind fun v1 h2 =>
 (boxR a1 h2).bind fun v3 h4 =>
 (boxR a2 h4).bind fun v5 h6 =>
 (boxR a3 h6).bind fun v7 h8 =>
 (allocR Prog 225 h8).bind fun v9 h10 =>
 (loadR Prog 72 v1 h10).bindN fun v11 h12 =>
 (nilR v11 h12).bindN fun v13 h14 =>
 (fieldAddrR Prog 227 v13 0 h14).bindN fun v15 h16 =>
 (loadR Prog 180 v15 h16).bindN fun v17 h18 =>
 (loadR Prog 44 v3 h18).bindN fun v19 h20 =>
 (call F.ζ5o [(.func (.func F.ζ6) #[] #[v9, v3, v1, v5, v7])] h20).bindT (fun p23 h24 => .panic p23 h24) fun v21 h22 =>
 (call F.ζ53 [v17, v19, v21] h22).bindT (fun p27 h28 => chkR ((okVal (loadR Prog 72 v1 h22) v11 && true) && ((okVal (loadR Prog 180 v15 h22) v17 && true) && ((okVal (loadR Prog 44 v3 h22) v19 && true) && true))) (.panic p27 h28)) fun v25 h26 =>
 (extractR v25 0 h26).bindN fun v29 h30 =>
 (extractR v25 1 h30).bindN fun v31 h32 =>
 chkR ((okVal (loadR Prog 72 v1 h22) v11 && true) && ((okVal (loadR Prog 180 v15 h22) v17 && true) && ((okVal (loadR Prog 44 v3 h22) v19 && true) && true))) (
 .ok v31 h32)
theorem ζg8 (k : Nat) (a0 a1 a2 a3 : Value) (h : Heap) : R (T k) F.ζ3s [a0, a1, a2, a3] h = nrm .no h (ζ3s k (R (T k)) a0 a1 a2 a3 h) :=
 (R_body (t := T k) (T_scott k) (by kernel_rfl) (by kernel_rfl) _ _).trans (by kernel_rfl)
def ζ64 (k : Nat) (call : Caller) : Env → Heap → Res (AExit × Env) := loopB (C k) call F.ζ30 [1, 1, 0, 1, 0, 0]
def ζcd (k : Nat) (call : Caller) : Kont Value := kBlock 0 (kSeq (pieceK (C k) call F.ζ30 [1, 1, 1]) (kDone Prog (resOf Prog F.ζ30)))
def ζ4y (k : Nat) (call : Caller) : Env → Heap → Res (AExit × Env) := loopB (C k) call F.ζ30 [1, 1, 0, 1, 0, 0, 1, 1, 0, 0, 1, 1, 0, 0]
def ζce (k : Nat) (call : Caller) : Kont (AExit × Env) := kBlock 2 (kBlock 1 (kSeq (pieceK (C k) call F.ζ30 [1, 1, 0, 1, 0, 0, 1, 1, 1]) (kRound (ownOf (C k) F.ζ30 [1, 1, 0, 1, 0, 0]))))
def ζ30 (k : Nat) (call : Caller) (a0 a1 : Value) (h : Heap) : Res Value :=
 (boxR a0 h).bind fun v1 h2 =>
 (loadR Prog 55 v1 h2).bindN fun v3 h4 =>
 (call F.ζ31 [v3, a1, (.int .i64 1)] h4).bindT (fun p7 h8 => (loadR Prog 55 v1 h4).bindN fun v9 h10 => (loadR Prog 55 v1 h10).bindN fun v11 h12 => chkR ((okVal (loadR Prog 55 v1 h2) v9 && true) && ((okVal (loadR Prog 55 v1 h2) v11 && true) && true)) (.panic p7 h8)) fun v5 h6 =>
 (loadR Prog 55 v1 h6).bindN fun v13 h14 =>
 (loadR Prog 55 v1 h14).bindN fun v15 h16 =>
 (call F.ζ20 [v15, (.int .i64 16)] h16).bindT (fun p19 h20 => chkR ((okVal (loadR Prog 55 v1 h2) v13 && true) && ((okVal (loadR Prog 55 v1 h2) v15 && true) && true)) (.panic p19 h20)) fun v17 h18 =>
 (call F.ζ1w [v13, v17] h18).bindT (fun p23 h24 => chkR ((okVal (loadR Prog 55 v1 h2) v13 && (okVal (loadR Prog 55 v1 h18) v13 && true)) && ((okVal (loadR Prog 55 v1 h2) v15 && true) && true)) (.panic p23 h24)) fun v21 h22 =>
 (buildR Prog 227 [(0, v5), (1, v21)] h22).bindN fun v25 h26 =>
 (boxR v25 h26).bindN fun v27 h28 =>
 chkR ((okVal (loadR Prog 55 v1 h2) v13 && (okVal (loadR Prog 55 v1 h18) v13 && true)) && ((okVal (loadR Prog 55 v1 h2) v15 && true) && true)) (
 (nilR v27 h28).bind fun v29 h30 =>
 (fieldAddrR Prog 227 v29 0 h30).bind fun v31 h32 =>
 (loadR Prog 180 v31 h32).bind fun v33 h34 =>
 (call F.ζ1x [v33] h34).bind fun v35 h36 =>
 (builtinV Prog .len [24] [v35] h36).bind fun v37 h38 =>
 (loopN (ζ64 k call) loopFuel [(5, v27), (22, v35), (23, v37), (24, (.int .i64 0))] h38).bind fun r39 h40 =>
 ζcd k call r39.1 r39.2 h40)
theorem ζls (k : Nat) (a0 a1 : Value) (h : Heap) : R (T k) F.ζ30 [a0, a1] h = nrm .fz h (ζ30 k (R (T k)) a0 a1 h) :=
 (R_body (t := T k) (T_scott k) (by kernel_rfl) (by kernel_rfl) _ _).trans (by kernel_rfl)
theorem ζ7c (k : Nat) (call : Caller) (a5 a22 a23 a24 : Value) (h : Heap) : ζ64 k call [(5, a5), (22, a22), (23, a23), (24, a24)] h =
 (binR Prog .lss 3 a24 a23 h).bind fun v41 h42 =>
 condV (some v41) (
 (indexAddrR Prog 24 a22 a24 h42).bind fun v43 h44 =>
 (loadR Prog 31 v43 h44).bind fun v45 h46 =>
 (allocR Prog 31 h46).bind fun v47 h48 =>
 (storeR Prog 31 v47 v45 h48).bind fun _v49 h50 =>
 (fieldAddrR Prog 31 v47 2 h50).bind fun v51 h52 =>
 (loadR Prog 3 v51 h52).bind fun v53 h54 =>
 (loopN (ζ4y k call) loopFuel [(5, a5), (7, v47), (8, v53), (22, a22), (23, a23), (24, a24)] h54).bind fun r55 h56 =>
 ζce k call r55.1 r55.2 h56)
 (
 .ok ((.exit 0), [(5, a5), (22, a22), (23, a23), (24, a24), (25, v41)]) h42) :=
 (loopB_eq _ _).trans (by kernel_rfl)
theorem ζ46 (k : Nat) (call : Caller) (a5 a7 a8 a22 a23 a24 : Value) (h : Heap) : ζ4y k call [(5, a5), (7, a7), (8, a8), (22, a22), (23, a23), (24, a24)] h =
 (fieldAddrR Prog 31 a7 2 h).bind fun v57 h58 =>
 (loadR Prog 3 v57 h58).bind fun v59 h60 =>
 (binR Prog .neq 3 v59 (.int .i64 65535) h60).bind fun v61 h62 =>
 ((bif wantVal v61 true then Res.ok a5 h62 else Res.ok undef h62)).bind fun v63 h64 =>
 ((bif wantVal v61 true then nilR v63 h64 else Res.ok undef h64)).bind fun v65 h66 =>
 ((bif wantVal v61 true then fieldAddrR Prog 227 v65 1 h66 else Res.ok undef h66)).bind fun v67 h68 =>
 ((bif wantVal v61 true then loadR Prog 55 v67 h68 else Res.ok undef h68)).bind fun v69 h70 =>
 ((bif wantVal v61 true then Res.ok a8 h70 else Res.ok undef h70)).bind fun v71 h72 =>
 ((bif wantVal v61 true then binR Prog .mul 3 (.int .i64 2) v71 h72 else Res.ok undef h72)).bind fun v73 h74 =>
 ((bif wantVal v61 true then call F.ζ9 [v69, v73] h74 else Res.ok undef h74)).bind fun v75 h76 =>
 ((bif wantVal v61 true then binR Prog .and 3 v75 (.int .i64 1) h76 else Res.ok undef h76)).bind fun v77 h78 =>
 ((bif wantVal v61 true then binR Prog .eql 3 v77 (.int .i64 0) h78 else Res.ok undef h78)).bind fun v79 h80 =>
 (condV (some v61) (Res.ok v79 h80) (Res.ok (.bool false) h80)).bind fun v81 h82 =>
 condV (some v81) (
 (binR Prog .add 3 a8 (.int .i64 1) h82).bind fun v83 h84 =>
 .ok (.normal, [(5, a5), (7, a7), (8, v83), (22, a22), (23, a23), (24, a24)]) h84)
 (
 .ok ((.exit 2), [(5, a5), (7, a7), (8, a8), (22, a22), (23, a23), (24, a24), (43, v81)]) h82) :=
 (loopB_eq _ _).trans (by kernel_rfl)
theorem ζg9 (k : Nat) (call : Caller) (a5 a22 a23 a24 a25 : Value) (h : Heap) : ζcd k call (.exit 0) [(5, a5), (22, a22), (23, a23), (24, a24), (25, a25)] h =
 .ok a5 h := by kernel_rfl
theorem ζga (k : Nat) (call : Caller) (a5 a7 a8 a22 a23 a24 a43 : Value) (h : Heap) : ζce k call (.exit 2) [(5, a5), (7, a7), (8, a8), (22, a22), (23, a23), (24, a24), (43, a43)] h =
 (binR Prog .add 3 a24 (.int .i64 1) h).bind fun v85 h86 =>
 .ok (.normal, [(5, a5), (22, a22), (23, a23), (24, v85)]) h86 := by kernel_rfl
def ζ2l (k : Nat) (call : Caller) (a0 a1 a2 : Value) (h : Heap) : Res Value :=
 (loadR Prog 55 a0 h).bind fun v1 h2 =>
 (loadR Prog 3 a1 h2).bind fun v3 h4 =>
 (call F.ζ30 [v1, v3] h4).bind fun v5 h6 =>
 (storeR Prog 72 a2 v5 h6).bind fun _v7 h8 =>
 .ok (.tuple #[]) h8
theorem ζi3 (k : Nat) (a0 a1 a2 : Value) (h : Heap) : R (T k) F.ζ2l [a0, a1, a2] h = nrm .no h (ζ2l k (R (T k)) a0 a1 a2 h) :=
 (R_body (t := T k) (T_scott k) (by kernel_rfl) (by kernel_rfl) _ _).trans (by kernel_rfl)
def ζ43 (k : Nat) (call : Caller) (a0 a2 a3 a4 a5 a6 a8 : Value) (h : Heap) : Res Value :=
 kSeq (pieceK (C k) call F.ζ6 [1, 1]) (kDone Prog (resOf Prog F.ζ6)) .normal [(0, a0), (2, a2), (3, a3), (4, a4), (5, a5), (6, a6), (8, a8)] h
def ζ44 (k : Nat) (call : Caller) (a0 a2 a3 a4 a5 a6 a8 a12 : Value) (h : Heap) : Res Value :=
 kSeq (pieceK (C k) call F.ζ6 [1, 1]) (kDone Prog (resOf Prog F.ζ6)) .normal [(0, a0), (2, a2), (3, a3), (4, a4), (5, a5), (6, a6), (8, a8), (12, a12)] h
def ζ2a (k : Nat) (call : Caller) (a2 a4 a5 a6 a8 : Value) (h : Heap) : Res Value :=
 kSeq (pieceK (C k) call F.ζ6 [1, 1, 1]) (kDone Prog (resOf Prog F.ζ6)) .normal [(2, a2), (4, a4), (5, a5), (6, a6), (8, a8)] h
def ζ2b (k : Nat) (call : Caller) (a0 a2 a4 a5 a6 a8 a23 : Value) (h : Heap) : Res Value :=
 kSeq (pieceK (C k) call F.ζ6 [1, 1, 1]) (kDone Prog (resOf Prog F.ζ6)) .normal [(0, a0), (2, a2), (4, a4), (5, a5), (6, a6), (8, a8), (23, a23)] h
def ζ6 (k : Nat) (call : Caller) (a0 a1 a2 a3 a4 a5 a6 : Value) (h : Heap) : Res Value :=
 (boxR a1 h).bind fun v1 h2 =>
 (fieldAddrR Prog 31 v1 1 h2).bind fun v3 h4 =>
 (loadR Prog 3 v3 h4).bind fun v5 h6 =>
 (binR Prog .and 3 v5 (.int .i64 8192) h6).bind fun v7 h8 =>
 (binR Prog .neq 3 v7 (.int .i64 0) h8).bind fun v9 h10 =>
 condV (some v9) (
 (buildR Prog 225 [] h10).bind fun v11 h12 =>
 (storeR Prog 225 a2 v11 h12).bind fun _v13 h14 =>
 ζ43 k call a0 a2 a3 a4 a5 a6 v1 h14)
 (
 ζ44 k call a0 a2 a3 a4 a5 a6 v1 v9 h10)
theorem ζ6m (k : Nat) (a0 a1 a2 a3 a4 a5 a6 : Value) (h : Heap) : R (T k) F.ζ6 [a0, a1, a2, a3, a4, a5, a6] h = nrm .no h (ζ6 k (R (T k)) a0 a1 a2 a3 a4 a5 a6 h) :=
 (R_body (t := T k) (T_scott k) (by kernel_rfl) (by kernel_rfl) _ _).trans (by kernel_rfl)
theorem ζ3g (k : Nat) (call : Caller) (a0 a2 a3 a4 a5 a6 a8 : Value) (h : Heap) : ζ43 k call a0 a2 a3 a4 a5 a6 a8 h =
 (fieldAddrR Prog 31 a8 1 h).bind fun v15 h16 =>
 (loadR Prog 3 v15 h16).bind fun v17 h18 =>
 (binR Prog .and 3 v17 (.int .i64 32768) h18).bind fun v19 h20 =>
 (binR Prog .neq 3 v19 (.int .i64 0) h20).bind fun v21 h22 =>
 ((bif wantVal v21 true then Res.ok a0 h22 else Res.ok undef h22)).bind fun v23 h24 =>
 ((bif wantVal v21 true then loadR Prog 44 a3 h24 else Res.ok undef h24)).bind fun v25 h26 =>
 ((bif wantVal v21 true then call F.ζ2z [v25] h26 else Res.ok undef h26)).bind fun v27 h28 =>
 ((bif wantVal v21 true then binR Prog .lss 3 v23 v27 h28 else Res.ok undef h28)).bind fun v29 h30 =>
 (condV (some v21) (Res.ok v29 h30) (Res.ok (.bool false) h30)).bind fun v31 h32 =>
 condV (some v31) (
 (call F.ζ1h [a2, a0] h32).bind fun v33 h34 =>
 ζ2a k call a2 a4 a5 a6 a8 h34)
 (
 ζ2b k call a0 a2 a4 a5 a6 a8 v31 h32) := by kernel_rfl
theorem ζ3h (k : Nat) (call : Caller) (a0 a2 a3 a4 a5 a6 a8 a12 : Value) (h : Heap) : ζ44 k call a0 a2 a3 a4 a5 a6 a8 a12 h =
 (fieldAddrR Prog 31 a8 1 h).bind fun v35 h36 =>
 (loadR Prog 3 v35 h36).bind fun v37 h38 =>
 (binR Prog .and 3 v37 (.int .i64 32768) h38).bind fun v39 h40 =>
 (binR Prog .neq 3 v39 (.int .i64 0) h40).bind fun v41 h42 =>
 ((bif wantVal v41 true then Res.ok a0 h42 else Res.ok undef h42)).bind fun v43 h44 =>
 ((bif wantVal v41 true then loadR Prog 44 a3 h44 else Res.ok undef h44)).bind fun v45 h46 =>
 ((bif wantVal v41 true then call F.ζ2z [v45] h46 else Res.ok undef h46)).bind fun v47 h48 =>
 ((bif wantVal v41 true then binR Prog .lss 3 v43 v47 h48 else Res.ok undef h48)).bind fun v49 h50 =>
 (condV (some v41) (Res.ok v49 h50) (Res.ok (.bool false) h50)).bind fun v51 h52 =>
 condV (some v51) (
 (call F.ζ1h [a2, a0] h52).bind fun v53 h54 =>
 ζ2a k call a2 a4 a5 a6 a8 h54)
 (
 ζ2b k call a0 a2 a4 a5 a6 a8 v51 h52) := by kernel_rfl
theorem ζ4w (k : Nat) (call : Caller) (a2 a4 a5 a6 a8 : Value) (h : Heap) : ζ2a k call a2 a4 a5 a6 a8 h =
 (fieldAddrR Prog 31 a8 2 h).bind fun v55 h56 =>
 (loadR Prog 3 v55 h56).bind fun v57 h58 =>
 (binR Prog .neq 3 v57 (.int .i64 65535) h58).bind fun v59 h60 =>
 condV (some v59) (
 (loadR Prog 72 a4 h60).bind fun v61 h62 =>
 (loadR Prog 62 a5 h62).bind fun v63 h64 =>
 (fieldAddrR Prog 31 a8 2 h64).bind fun v65 h66 =>
 (loadR Prog 3 v65 h66).bind fun v67 h68 =>
 (loadR Prog 4 a6 h68).bind fun v69 h70 =>
 (call F.ζ15 [v61, a2, v63, v67, v69] h70).bind fun v71 h72 =>
 .ok (.tuple #[]) h72)
 (
 .ok (.tuple #[]) h60) := by kernel_rfl
theorem ζ4x (k : Nat) (call : Caller) (a0 a2 a4 a5 a6 a8 a23 : Value) (h : Heap) : ζ2b k call a0 a2 a4 a5 a6 a8 a23 h =
 (fieldAddrR Prog 31 a8 2 h).bind fun v73 h74 =>
 (loadR Prog 3 v73 h74).bind fun v75 h76 =>
 (binR Prog .neq 3 v75 (.int .i64 65535) h76).bind fun v77 h78 =>
 condV (some v77) (
 (loadR Prog 72 a4 h78).bind fun v79 h80 =>
 (loadR Prog 62 a5 h80).bind fun v81 h82 =>
 (fieldAddrR Prog 31 a8 2 h82).bind fun v83 h84 =>
 (loadR Prog 3 v83 h84).bind fun v85 h86 =>
 (loadR Prog 4 a6 h86).bind fun v87 h88 =>
 (call F.ζ15 [v79, a2, v81, v85, v87] h88).bind fun v89 h90 =>
 .ok (.tuple #[]) h90)
 (
 .ok (.tuple #[]) h78) := by kernel_rfl
def ζ89 (k : Nat) (call : Caller) (a0 a1 : Value) (h : Heap) : Res Value :=
 kSeq (pieceK (C k) call F.ζ1h [1]) (kDone Prog (resOf Prog F.ζ1h)) .normal [(0, a0), (1, a1)] h
def ζ8a (k : Nat) (call : Caller) (a0 a1 a8 : Value) (h : Heap) : Res Value :=
 kSeq (pieceK (C k) call F.ζ1h [1]) (kDone Prog (resOf Prog F.ζ1h)) .normal [(0, a0), (1, a1), (8, a8)] h
def ζ1h (k : Nat) (call : Caller) (a0 a1 : Value) (h : Heap) : Res Value :=
 (nilR a0 h).bind fun v1 h2 =>
 (fieldAddrR Prog 225 v1 1 h2).bind fun v3 h4 =>
 (loadR Prog 3 v3 h4).bind fun v5 h6 =>
 (binR Prog .eql 3 v5 (.int .i64 8) h6).bind fun v7 h8 =>
 condV (some v7) (
 (nilR a0 h8).bindN fun v9 h10 =>
 (fieldAddrR Prog 225 v9 0 h10).bindN fun v11 h12 =>
 (sliceR Prog 223 v11 none none none h12).bindN fun v13 h14 =>
 (nilR a0 h14).bindN fun v15 h16 =>
 (fieldAddrR Prog 225 v15 0 h16).bindN fun v17 h18 =>
 (sliceR Prog 223 v17 (some (.int .i64 1)) none none h18).bindN fun v19 h20 =>
 (builtinV Prog .copy [27, 27] [v13, v19] h20).bindN fun v21 h22 =>
 (nilR a0 h22).bind fun v23 h24 =>
 (fieldAddrR Prog 225 v23 1 h24).bind fun v25 h26 =>
 (loadR Prog 3 v25 h26).bind fun v27 h28 =>
 (binR Prog .sub 3 v27 (.int .i64 1) h28).bind fun v29 h30 =>
 (nilR a0 h30).bind fun v31 h32 =>
 (fieldAddrR Prog 225 v31 1 h32).bind fun v33 h34 =>
 (storeR Prog 3 v33 v29 h34).bind fun _v35 h36 =>
 ζ89 k call a0 a1 h36)
 (
 ζ8a k call a0 a1 v7 h8)
theorem ζgb (k : Nat) (a0 a1 : Value) (h : Heap) : R (T k) F.ζ1h [a0, a1] h = nrm .no h (ζ1h k (R (T k)) a0 a1 h) :=
 (R_body (t := T k) (T_scott k) (by kernel_rfl) (by kernel_rfl) _ _).trans (by kernel_rfl)
theorem ζaj (k : Nat) (call : Caller) (a0 a1 : Value) (h : Heap) : ζ89 k call a0 a1 h =
 (nilR a0 h).bindN fun v37 h38 =>
 (fieldAddrR Prog 225 v37 1 h38).bindN fun v39 h40 =>
 (loadR Prog 3 v39 h40).bindN fun v41 h42 =>
 (nilR a0 h42).bindN fun v43 h44 =>
 (fieldAddrR Prog 225 v43 0 h44).bindN fun v45 h46 =>
 (indexAddrR Prog 223 v45 v41 h46).bindN fun v47 h48 =>
 (storeR Prog 3 v47 a1 h48).bindN fun _v49 h50 =>
 (nilR a0 h50).bind fun v51 h52 =>
 (fieldAddrR Prog 225 v51 1 h52).bind fun v53 h54 =>
 (loadR Prog 3 v53 h54).bind fun v55 h56 =>
 (binR Prog .add 3 v55 (.int .i64 1) h56).bind fun v57 h58 =>
 (nilR a0 h58).bind fun v59 h60 =>
 (fieldAddrR Prog 225 v59 1 h60).bind fun v61 h62 =>
 (storeR Prog 3 v61 v57 h62).bind fun _v63 h64 =>
 .ok (.tuple #[]) h64 := by kernel_rfl
theorem ζak (k : Nat) (call : Caller) (a0 a1 a8 : Value) (h : Heap) : ζ8a k call a0 a1 a8 h =
 (nilR a0 h).bindN fun v65 h66 =>
 (fieldAddrR Prog 225 v65 1 h66).bindN fun v67 h68 =>
 (loadR Prog 3 v67 h68).bindN fun v69 h70 =>
 (nilR a0 h70).bindN fun v71 h72 =>
 (fieldAddrR Prog 225 v71 0 h72).bindN fun v73 h74 =>
 (indexAddrR Prog 223 v73 v69 h74).bindN fun v75 h76 =>
 (storeR Prog 3 v75 a1 h76).bindN fun _v77 h78 =>
 (nilR a0 h78).bind fun v79 h80 =>
 (fieldAddrR Prog 225 v79 1 h80).bind fun v81 h82 =>
 (loadR Prog 3 v81 h82).bind fun v83 h84 =>
 (binR Prog .add 3 v83 (.int .i64 1) h84).bind fun v85 h86 =>
 (nilR a0 h86).bind fun v87 h88 =>
 (fieldAddrR Prog 225 v87 1 h88).bind fun v89 h90 =>
 (storeR Prog 3 v89 v85 h90).bind fun _v91 h92 =>
 .ok (.tuple #[]) h92 := by kernel_rfl
def ζ5a (k : Nat) (call : Caller) : Env → Heap → Res (AExit × Env) := loopB (C k) call F.ζ15 [0, 0]
def ζ4m (k : Nat) (call : Caller) : Kont Value := kBlock 0 (kDone Prog (resOf Prog F.ζ15))
def ζ3v (k : Nat) (call : Caller) (a0 a1 a2 a3 a4 a12 : Value) (h : Heap) : Res (AExit × Env) :=
 kSeq (pieceK (C k) call F.ζ15 [0, 0, 0, 0, 1, 1, 1, 1]) (kBlock 1 (kSeq (pieceK (C k) call F.ζ15 [0, 0, 1]) (kRound (ownOf (C k) F.ζ15 [0, 0])))) .normal [(0, a0), (1, a1), (2, a2), (3, a3), (4, a4), (12, a12)] h
def ζ15 (k : Nat) (call : Caller) (a0 a1 a2 a3 a4 : Value) (h : Heap) : Res Value :=
 (loopN (ζ5a k call) loopFuel [(0, a0), (1, a1), (2, a2), (3, a3), (4, a4)] h).bind fun r1 h2 =>
 ζ4m k call r1.1 r1.2 h2
theorem ζd7 (k : Nat) (a0 a1 a2 a3 a4 : Value) (h : Heap) : R (T k) F.ζ15 [a0, a1, a2, a3, a4] h = nrm .no h (ζ15 k (R (T k)) a0 a1 a2 a3 a4 h) :=
 (R_body (t := T k) (T_scott k) (by kernel_rfl) (by kernel_rfl) _ _).trans (by kernel_rfl)
theorem ζ45 (k : Nat) (call : Caller) (a0 a1 a2 a3 a4 : Value) (h : Heap) : ζ5a k call [(0, a0), (1, a1), (2, a2), (3, a3), (4, a4)] h =
 (call F.ζ3l [a1] h).bind fun v3 h4 =>
 (extractR v3 0 h4).bind fun v5 h6 =>
 (extractR v3 1 h6).bind fun v7 h8 =>
 (unR .not v7 h8).bind fun v9 h10 =>
 condV (some v9) (
 .ok (.ret, [(0, a0), (1, a1), (2, a2), (3, a3), (4, a4), (10, v5), (22, v9)]) h10)
 (
 (nilR a0 h10).bind fun v11 h12 =>
 (fieldAddrR Prog 227 v11 1 h12).bind fun v13 h14 =>
 (loadR Prog 55 v13 h14).bind fun v15 h16 =>
 (binR Prog .mul 3 (.int .i64 2) a3 h16).bind fun v17 h18 =>
 (call F.ζ3k [v15, v17] h18).bind fun v19 h20 =>
 (binR Prog .andNot 3 v19 (.int .i64 1) h20).bind fun v21 h22 =>
 (unR .not a4 h22).bind fun v23 h24 =>
 condV (some v23) (
 (call F.ζ1s [a2, v5, v21] h24).bind fun v25 h26 =>
 ζ3v k call a0 a1 a2 a3 a4 v19 h26)
 (
 (binR Prog .eql 3 v21 (.int .i64 (-32768)) h24).bind fun v27 h28 =>
 condV (some v27) (
 (call F.ζ1l [a2, v5] h28).bind fun v29 h30 =>
 ζ3v k call a0 a1 a2 a3 a4 v19 h30)
 (
 (call F.ζ1c [a2, v5, v21] h28).bind fun v31 h32 =>
 ζ3v k call a0 a1 a2 a3 a4 v19 h32))) :=
 (loopB_eq _ _).trans (by kernel_rfl)
theorem ζ1t (k : Nat) (call : Caller) (a0 a1 a2 a3 a4 a12 : Value) (h : Heap) : ζ3v k call a0 a1 a2 a3 a4 a12 h =
 (binR Prog .and 3 a12 (.int .i64 1) h).bind fun v33 h34 =>
 (binR Prog .eql 3 v33 (.int .i64 1) h34).bind fun v35 h36 =>
 condV (some v35) (
 .ok (.ret, [(0, a0), (1, a1), (2, a2), (3, a3), (4, a4), (51, v35)]) h36)
 (
 (binR Prog .add 3 a3 (.int .i64 1) h36).bind fun v37 h38 =>
 .ok (.normal, [(0, a0), (1, a1), (2, a2), (3, v37), (4, a4)]) h38) := by kernel_rfl
theorem ζ9t (k : Nat) (call : Caller) (a0 a1 a2 a3 a4 a10 a22 : Value) (h : Heap) : ζ4m k call .ret [(0, a0), (1, a1), (2, a2), (3, a3), (4, a4), (10, a10), (22, a22)] h =
 .ok (.tuple #[]) h := by kernel_rfl
theorem ζ95 (k : Nat) (call : Caller) (a0 a1 a2 a3 a4 a51 : Value) (h : Heap) : ζ4m k call .ret [(0, a0), (1, a1), (2, a2), (3, a3), (4, a4), (51, a51)] h =
 .ok (.tuple #[]) h := by kernel_rfl
def ζ3l (k : Nat) (call : Caller) (a0 : Value) (h : Heap) : Res Value :=
 (nilR a0 h).bind fun v1 h2 =>
 (fieldAddrR Prog 225 v1 1 h2).bind fun v3 h4 =>
 (loadR Prog 3 v3 h4).bind fun v5 h6 =>
 (binR Prog .eql 3 v5 (.int .i64 0) h6).bind fun v7 h8 =>
 condV (some v7) (
 .ok (.tuple #[(.int .i64 0), (.bool false)]) h8)
 (
 (nilR a0 h8).bind fun v9 h10 =>
 (fieldAddrR Prog 225 v9 1 h10).bind fun v11 h12 =>
 (loadR Prog 3 v11 h12).bind fun v13 h14 =>
 (binR Prog .sub 3 v13 (.int .i64 1) h14).bind fun v15 h16 =>
 (nilR a0 h16).bind fun v17 h18 =>
 (fieldAddrR Prog 225 v17 1 h18).bind fun v19 h20 =>
 (storeR Prog 3 v19 v15 h20).bind fun _v21 h22 =>
 (nilR a0 h22).bindN fun v23 h24 =>
 (fieldAddrR Prog 225 v23 1 h24).bindN fun v25 h26 =>
 (loadR Prog 3 v25 h26).bindN fun v27 h28 =>
 (nilR a0 h28).bindN fun v29 h30 =>
 (fieldAddrR Prog 225 v29 0 h30).bindN fun v31 h32 =>
 (indexAddrR Prog 223 v31 v27 h32).bindN fun v33 h34 =>
 (loadR Prog 3 v33 h34).bindN fun v35 h36 =>
 .ok (.tuple #[v35, (.bool true)]) h36)
theorem ζi4 (k : Nat) (a0 : Value) (h : Heap) : R (T k) F.ζ3l [a0] h = nrm .no h (ζ3l k (R (T k)) a0 h) :=
 (R_body (t := T k) (T_scott k) (by kernel_rfl) (by kernel_rfl) _ _).trans (by kernel_rfl)
end
end Go.Sw
end
section
namespace Go.Sw
open Go.RowKit
theorem Star.same {H0 H : Heap} {L : List It} (h : Star H0 H L) (i : Nat) {x : It} (hi : L[i]? = some x) (y : It) (hy : y.P H) (ho : ∀ b, b ∈ y.o → b ∈ x.o) : Star H0 H (L.set i y) :=
 h.step i hi (Nat.le_refl _) (fun _ _ _ => rfl) y hy fun b hb => .inl (ho b hb)
abbrev keptC (xs : List Int) (n : Nat) : List Value := xs.map (fun x => Value.int .i64 x) ++ [.int .i64 n]
def itKept (c : Nat) (ks : List Int) : It :=
 ⟨[c], fun H => ∃ xs : List Int, xs.length = 8 ∧ ks.length ≤ 8 ∧ xs.take ks.length = ks.reverse ∧ H.get c = some ⟨keptC xs ks.length, 1, false⟩, fun _ _ h hk => by
  obtain ⟨xs, h1, h2, h3, h4⟩ := h
  exact ⟨xs, h1, h2, h3, by rw [hk c (List.mem_singleton.2 rfl)]; exact h4⟩⟩
theorem ldCell {H : Heap} {c i : Nat} {cells : List Value} {v : Value} (hg : H.get c = some ⟨cells, 1, false⟩) (h : cells[i]? = some v) : ld1 (.pointer (some ⟨c, i, none⟩)) H = .ok v H := by
 simp [hg, h]
theorem keptC_at {xs : List Int} (h : xs.length = 8) (n : Nat) : (keptC xs n)[8]? = some (.int .i64 n) := by
 unfold keptC
 rw [List.getElem?_append_right (by simp; omega)]
 simp [h]
theorem ζq2 {xs : List Int} {n i : Nat} {x : Int} (h : xs[i]? = some x) : (keptC xs n)[i]? = some (.int .i64 x) := by
 have hi := (List.getElem?_eq_some_iff.1 h).1
 unfold keptC
 rw [List.getElem?_append_left (by simpa using hi), List.getElem?_map, h]
 rfl
theorem keptC_n {xs : List Int} (h : xs.length = 8) (n m : Nat) : (keptC xs n).set 8 (.int .i64 m) = keptC xs m := by
 unfold keptC
 rw [List.set_append_right _ _ (by simp; omega)]
 simp [h]
theorem ζq3 {xs : List Int} (n i : Nat) (x : Int) (h : i < xs.length) : (keptC xs n).set i (.int .i64 x) = keptC (xs.set i x) n := by
 unfold keptC
 rw [List.set_append_left _ _ (by simpa using h), List.map_set]
theorem ζhj (k : Nat) {H0 H : Heap} {L : List It} (g : Star H0 H L) (i : Nat) {c : Nat} {ks : List Int} (hi : L[i]? = some (itKept c ks)) :
  ∃ H', R (T k) F.ζ3l [ptrV c] H = .ok (.tuple #[.int .i64 (ks.head?.getD 0), .bool (!ks.isEmpty)]) H' ∧ Star H0 H' (L.set i (itKept c ks.tail)) := by
 have hlt := (List.getElem?_eq_some_iff.1 hi).1
 obtain ⟨xs, h1, h2, h3, h4⟩ := g.at i hi
 rw [ζi4]
 have l8 := ldCell h4 (keptC_at h1 ks.length)
 cases ks with
 | nil =>
  refine ⟨H, nrm_of ?_, ?_⟩
  ·simp only [List.length_nil] at l8
   simp -implicitDefEqProofs (disch := omega) [-ld1_ptr, ζ3l, l8]
  ·exact g.same i hi _ ⟨xs, h1, h2, h3, h4⟩ fun b hb => hb
 | cons j r =>
  have g1 := g.same i hi (itBlk c ⟨keptC xs (j :: r).length, 1, false⟩) h4 fun b hb => hb
  have hi1 : (L.set i (itBlk c ⟨keptC xs (j :: r).length, 1, false⟩))[i]? = some (itBlk c ⟨keptC xs (j :: r).length, 1, false⟩) := List.getElem?_set_self hlt
  obtain ⟨H', e1, g2, _⟩ := g1.stCell i hi1 8 (v := .int .i64 (r.length : Nat)) rfl rfl (by simp; omega)
  rw [List.set_set, keptC_n h1] at g2
  have hi2 : (L.set i (itBlk c ⟨keptC xs r.length, 1, false⟩))[i]? = some (itBlk c ⟨keptC xs r.length, 1, false⟩) := List.getElem?_set_self hlt
  have b2 := g2.get i hi2
  have m8 := ldCell b2 (keptC_at h1 r.length)
  have hx : xs[r.length]? = some j := by
   have := congrArg (fun l => l[r.length]?) h3
   simp only [List.length_cons] at this
   rw [List.getElem?_take, if_pos (by omega)] at this
   rw [this]
   simp
  have mj := ldCell b2 (ζq2 (n := r.length) hx)
  have g3 := g2.same i hi2 (itKept c r) ⟨xs, h1, by simp at h2; omega, by
   have := congrArg (List.take r.length) h3
   simp only [List.length_cons] at this
   rw [List.take_take, Nat.min_eq_left (by omega)] at this
   rw [this]
   simp, b2⟩ fun b hb => hb
  rw [List.set_set] at g3
  refine ⟨H', nrm_of ?_, g3⟩
  simp only [List.length_cons] at l8
  have hr8 : r.length < 8 := by simp at h2; omega
  have hix : ∀ H', ixA 8 1 (.pointer (some ⟨c, 0, none⟩)) (.int .i64 (r.length : Nat)) H' = .ok (.pointer (some ⟨c, r.length, none⟩)) H' := fun H' => by
   unfold ixA
   dsimp only
   rw [if_pos ⟨by omega, by omega⟩]
   simp
  have hne : ((r.length : Int) + 1 == 0) = false := by rw [beq_eq_false_iff_ne]; omega
  have hsub : (r.length : Int) + 1 - 1 = ((r.length : Nat) : Int) := by omega
  simp -implicitDefEqProofs (disch := omega) [-ld1_ptr, -stR_ptr, ζ3l, l8, hne, hsub, e1, m8, hix, mj]
theorem ζkh (k : Nat) {H0 H : Heap} {L : List It} (g : Star H0 H L) (i : Nat) {c : Nat} {ks : List Int} (hi : L[i]? = some (itKept c ks)) (x : Int) :
  ∃ H', R (T k) F.ζ1h [ptrV c, .int .i64 x] H = .ok (.tuple #[]) H' ∧ Star H0 H' (L.set i (itKept c ((x :: ks).take 8))) := by
 have hlt := (List.getElem?_eq_some_iff.1 hi).1
 obtain ⟨xs, h1, h2, h3, h4⟩ := g.at i hi
 rw [ζgb]
 have l8 := ldCell h4 (keptC_at h1 ks.length)
 have g1 := g.same i hi (itBlk c ⟨keptC xs ks.length, 1, false⟩) h4 fun b hb => hb
 have self : ∀ kk : Blk, (L.set i (itBlk c kk))[i]? = some (itBlk c kk) := fun kk => List.getElem?_set_self hlt
 have hix : ∀ (n : Nat) H', n < 8 → ixA 8 1 (.pointer (some ⟨c, 0, none⟩)) (.int .i64 n) H' = .ok (.pointer (some ⟨c, n, none⟩)) H' := fun n H' hn => by
  unfold ixA
  dsimp only
  rw [if_pos ⟨by omega, by omega⟩]
  simp
 by_cases c8 : ks.length = 8
 ·have h8 : ((ks.length : Int) == 8) = true := by rw [beq_iff_eq]; omega
  have hrev : xs = ks.reverse := by rw [← h3, List.take_of_length_le (by omega)]
  obtain ⟨x0, x1, x2, x3, x4, x5, x6, x7, hxs⟩ : ∃ x0 x1 x2 x3 x4 x5 x6 x7 : Int, xs = [x0, x1, x2, x3, x4, x5, x6, x7] := by
   match xs, h1 with
   | [x0, x1, x2, x3, x4, x5, x6, x7], _ => exact ⟨x0, x1, x2, x3, x4, x5, x6, x7, rfl⟩
  have hs1 : ∀ H', slA 8 1 (.pointer (some ⟨c, 0, none⟩)) none none none H' = .ok (.slice (some ⟨c, 0, none⟩) 8 8) H' := fun H' => by simp [slA, boundOf]
  have hs2 : ∀ H', slA 8 1 (.pointer (some ⟨c, 0, none⟩)) (some (.int .i64 1)) none none H' = .ok (.slice (some ⟨c, 1, none⟩) 7 7) H' := fun H' => by simp [slA, boundOf]
  rw [c8] at h4 l8 g1
  have hcp : cpR 1 (.slice (some ⟨c, 0, none⟩) 8 8) (.slice (some ⟨c, 1, none⟩) 7 7) H = .ok (.int .i64 7) (H.set c (some ⟨keptC [x1, x2, x3, x4, x5, x6, x7, x7] 8, 1, false⟩)) := by
   rw [hxs] at h4
   unfold cpR
   simp [lenV, firstV, cellsAt, h4, keptC, putCells, splice] <;> rfl
  have g2 := g1.setBlk i (self _) ⟨keptC [x1, x2, x3, x4, x5, x6, x7, x7] 8, 1, false⟩
  rw [List.set_set] at g2
  generalize H.set c (some ⟨keptC [x1, x2, x3, x4, x5, x6, x7, x7] 8, 1, false⟩) = H1 at hcp g2
  have b2 := g2.get i (self _)
  have m8 := ldCell b2 (keptC_at rfl 8)
  obtain ⟨H2, e2, g3, _⟩ := g2.stCell i (self _) 8 (v := .int .i64 7) rfl rfl (by simp)
  rw [List.set_set, show (keptC [x1, x2, x3, x4, x5, x6, x7, x7] 8).set 8 (.int .i64 7) = keptC [x1, x2, x3, x4, x5, x6, x7, x7] 7 from rfl] at g3
  have b3 := g3.get i (self _)
  have n8 := ldCell b3 (keptC_at rfl 7)
  obtain ⟨H3, e3, g4, _⟩ := g3.stCell i (self _) 7 (v := .int .i64 x) rfl rfl (by simp)
  rw [List.set_set, show (keptC [x1, x2, x3, x4, x5, x6, x7, x7] 7).set 7 (.int .i64 x) = keptC [x1, x2, x3, x4, x5, x6, x7, x] 7 from rfl] at g4
  have b4 := g4.get i (self _)
  have o8 := ldCell b4 (keptC_at rfl 7)
  obtain ⟨H4, e4, g5, _⟩ := g4.stCell i (self _) 8 (v := .int .i64 8) rfl rfl (by simp)
  rw [List.set_set, show (keptC [x1, x2, x3, x4, x5, x6, x7, x] 7).set 8 (.int .i64 8) = keptC [x1, x2, x3, x4, x5, x6, x7, x] 8 from rfl] at g5
  have b5 := g5.get i (self _)
  have hks : ks = [x7, x6, x5, x4, x3, x2, x1, x0] := by
   have := congrArg List.reverse hrev
   rw [List.reverse_reverse, hxs] at this
   rw [← this]
   rfl
  have g6 := g5.same i (self _) (itKept c ((x :: ks).take 8)) ⟨[x1, x2, x3, x4, x5, x6, x7, x], rfl, by simp; omega, by rw [hks]; rfl, by rw [hks]; exact b5⟩ fun b hb => hb
  rw [List.set_set] at g6
  refine ⟨H4, nrm_of ?_, g6⟩
  have hx7 := fun H' => hix 7 H' (by omega)
  have hx7 : ∀ H', ixA 8 1 (.pointer (some ⟨c, 0, none⟩)) (.int .i64 7) H' = .ok (.pointer (some ⟨c, 7, none⟩)) H' := hx7
  have l8 : ld1 (.pointer (some ⟨c, 8, none⟩)) H = .ok (.int .i64 8) H := l8
  have m8 : ld1 (.pointer (some ⟨c, 8, none⟩)) H1 = .ok (.int .i64 8) H1 := m8
  have n8 : ld1 (.pointer (some ⟨c, 8, none⟩)) H2 = .ok (.int .i64 7) H2 := n8
  have o8 : ld1 (.pointer (some ⟨c, 8, none⟩)) H3 = .ok (.int .i64 7) H3 := o8
  simp -implicitDefEqProofs (disch := omega) [-ld1_ptr, -stR_ptr, ζ1h, l8, hs1, hs2, hcp, m8, e2, ζaj, n8, hx7, e3, o8, e4]
 ·have hne : ((ks.length : Int) == 8) = false := by rw [beq_eq_false_iff_ne]; omega
  have hx := hix ks.length
  obtain ⟨H1, e1, g2, _⟩ := g1.stCell i (self _) ks.length (v := .int .i64 x) rfl rfl (by simp; omega)
  rw [List.set_set, ζq3 _ _ _ (by omega)] at g2
  have b2 := g2.get i (self _)
  have m8 := ldCell b2 (keptC_at (by simpa using h1) ks.length)
  obtain ⟨H2, e2, g3, _⟩ := g2.stCell i (self _) 8 (v := .int .i64 ((ks.length + 1 : Nat) : Int)) rfl rfl (by simp; omega)
  rw [List.set_set, keptC_n (by simpa using h1)] at g3
  have b3 := g3.get i (self _)
  have htk : (x :: ks).take 8 = x :: ks := List.take_of_length_le (by simp; omega)
  have g4 := g3.same i (self _) (itKept c ((x :: ks).take 8)) ⟨xs.set ks.length x, by simpa using h1, by simp; omega, by
   rw [htk, List.length_cons, List.take_add_one, List.getElem?_set_self (by omega), List.take_set_of_le (Nat.le_refl _), h3]
   simp, by rw [htk]; exact b3⟩ fun b hb => hb
  rw [List.set_set] at g4
  refine ⟨H2, nrm_of ?_, g4⟩
  rw [show ((ks.length + 1 : Nat) : Int) = (ks.length : Int) + 1 by omega] at e2
  simp -implicitDefEqProofs (disch := omega) [-ld1_ptr, -stR_ptr, ζ1h, l8, hne, ζak, hx, e1, m8, e2]
end Go.Sw
end
