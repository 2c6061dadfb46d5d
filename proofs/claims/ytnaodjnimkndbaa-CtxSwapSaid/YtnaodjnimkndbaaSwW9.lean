/-
  Functions' forms, and what is proved of them, part 9.
-/
import Derived.Test.YtnaodjnimkndbaaSwW7
import Derived.Test.YtnaodjnimkndbaaSwW8
import Derived.Test.YtnaodjnimkndbaaSwW4
import Derived.Test.YtnaodjnimkndbaaSwLib8
import Derived.Eval
set_option linter.unusedSimpArgs false
set_option linter.unusedVariables false
set_option linter.unusedSectionVars false
section
namespace Go.Sw
open Go.RowKit
theorem mapO_takeL {β : Type} {f : Nat → Option β} {l : List β} (h : ∀ (i : Nat) y, l[i]? = some y → f i = some y) {n : Nat} (hn : n ≤ l.length) : mapO f (List.range n) = some (l.take n) := by
 refine mapO_some (by simp; omega) fun i x y hx hy => ?_
 rw [List.getElem?_take] at hy
 split at hy
 ·rename_i hi
  rw [List.getElem?_range hi] at hx
  injection hx with hx
  subst hx
  exact h i y hy
 ·cases hy
theorem needE_of {es : List En} {S : Int} (h2 : 2 ≤ S) (h : ∀ e, e ∈ es → e.next < S) : needE es ≤ S := by
 have := needL_lt (l := es.map En.next) (n := S) (by omega) fun x hx => by
  obtain ⟨e, he, rfl⟩ := List.mem_map.1 hx
  exact h e he
 unfold needE
 omega
theorem close_plan {n : Nat} (hn : 0 < n) {w : Int} (hw : w = 0 ∨ w = 1 ∨ w = 2) {rs : List (List Int)} {es : List En} (hb : ∀ r, r ∈ rs → Byt r) (hcell : ∀ r, r ∈ rs → ∀ x, x ∈ rowL n r → x < (es.length : Int)) (hnx : ∀ e, e ∈ es → m16 e.next < (rs.length : Int)) (x y : List Int) :
  ∀ (f s : Nat), 2 ≤ s → s ≤ rs.length → 65537 - s ≤ f → s ≤ 65536 → ∃ r, closeS (rowsL n rs ++ x) (entsB w es ++ y) n w f s = some r ∧ r.1.length ≤ rs.length ∧ (∃ s', r.1 = (rs.map (rowL n)).take s') ∧ (∃ N, r.2 = (es.map (entM w)).take N)
 | 0, s, _, _, h1, h2 => by omega
 | f + 1, s, h2, hs, hf, h6 => by
  have e1 : rowsTo (rowsL n rs ++ x) n s = some ((rs.map (rowL n)).take s) := mapO_takeL (fun i r hr => by
   rw [List.getElem?_map] at hr
   obtain ⟨q, hq, rfl⟩ := Option.map_eq_some_iff.1 hr
   exact rowK_plan hn hb x hq) (by simpa using hs)
  have hneed : needR ((rs.map (rowL n)).take s) ≤ (es.length : Int) := by
   refine needL_lt (by omega) fun y hy => ?_
   obtain ⟨r, hr, hyr⟩ := List.mem_flatten.1 hy
   obtain ⟨q, hq, rfl⟩ := List.mem_map.1 (List.mem_of_mem_take hr)
   exact hcell q hq y hyr
  have h0 := needR_nonneg ((rs.map (rowL n)).take s)
  have e2 : entsTo (entsB w es ++ y) w (needR ((rs.map (rowL n)).take s)).toNat = some ((es.map (entM w)).take (needR ((rs.map (rowL n)).take s)).toNat) := mapO_takeL (fun i r hr => by
   rw [List.getElem?_map] at hr
   obtain ⟨q, hq, rfl⟩ := Option.map_eq_some_iff.1 hr
   exact entK_plan hw y hq) (by simp; omega)
  have h3 : needE ((es.map (entM w)).take (needR ((rs.map (rowL n)).take s)).toNat) ≤ (rs.length : Int) := needE_of (by omega) fun e he => by
   obtain ⟨q, hq, rfl⟩ := List.mem_map.1 (List.mem_of_mem_take he)
   exact hnx q hq
  simp only [closeS]
  rw [e1, Option.bind_some, e2, Option.bind_some]
  split
  ·exact ⟨_, rfl, by simp; omega, ⟨s, rfl⟩, ⟨_, rfl⟩⟩
  ·rename_i hgt
   exact close_plan hn hw hb hcell hnx x y f _ (by omega) (by omega) (by omega) (by
    have : 2 ≤ needE ((es.map (entM w)).take (needR ((rs.map (rowL n)).take s)).toNat) := by unfold needE; omega
    by_cases hle : (rs.length : Nat) ≤ 65536
    ·omega
    ·have hlt : needE ((es.map (entM w)).take (needR ((rs.map (rowL n)).take s)).toNat) ≤ 65536 := needE_of (by omega) fun e he => by
      obtain ⟨q, hq, rfl⟩ := List.mem_map.1 (List.mem_of_mem_take he)
      exact (m16_bound q.next).2
     omega)
structure Reads (p : Plan) (w : Int) (m : Mach) : Prop where
 classes : m.classes = planN p
 tab : m.tab = tabOf p.cls
 few : m.rows.length ≤ p.rows.length
 row : ∀ (s : Nat) r, m.rows[s]? = some r → ∃ q, p.rows[s]? = some q ∧ r = rowL (planN p) q
 ent : ∀ (i : Nat) e, m.ents[i]? = some e → ∃ q, p.ents[i]? = some q ∧ e = entM w q
theorem plan_closed {p : Plan} (hp : p.ok) {w : Int} (hw : w = 0 ∨ w = 1 ∨ w = 2) {rm more : List Int} (hrm : rm.length ≤ 1000) (h1 : p.cls.length ≤ 1000) (h2 : p.rows.length ≤ 1000) (hS : 2 ≤ p.rows.length)
  (hcell : ∀ r, r ∈ p.rows → ∀ x, x ∈ rowL (planN p) r → x < (p.ents.length : Int)) (hnx : ∀ e, e ∈ p.ents → m16 e.next < (p.rows.length : Int)) (g : Int) : ∃ m, machS (planRoom p w rm ++ more) g w = some m ∧ Reads p w m := by
 have e1 := plan_mach p hp w rm more hrm h1 h2 g
 obtain ⟨r, hr, h3, ⟨s', h4⟩, ⟨N, h5⟩⟩ := close_plan (n := planN p) (by unfold planN; omega) hw hp.2.1 hcell hnx (entsB w p.ents ++ more) more (65538 - 2) 2 (Nat.le_refl _) hS (by omega) (by omega)
 unfold closeA at e1
 rw [hr, Option.map_some] at e1
 refine ⟨_, e1, rfl, rfl, h3, fun s q hq => ?_, fun i e he => ?_⟩
 ·dsimp only at hq
  rw [h4, List.getElem?_take] at hq
  split at hq
  ·rw [List.getElem?_map] at hq
   obtain ⟨q', hq', rfl⟩ := Option.map_eq_some_iff.1 hq
   exact ⟨q', hq', rfl⟩
  ·cases hq
 ·dsimp only at he
  rw [h5, List.getElem?_take] at he
  split at he
  ·rw [List.getElem?_map] at he
   obtain ⟨q', hq', rfl⟩ := Option.map_eq_some_iff.1 he
   exact ⟨q', hq', rfl⟩
  ·cases he
theorem Reads.step {p : Plan} {w : Int} {m : Mach} (h : Reads p w m) (hm : m.ok) {s c : Nat} (hs : s < m.rows.length) (hc : c < planN p) {q : List Int} (hq : p.rows[s]? = some q) :
  ∃ e, p.ents[(q[c]?.getD 0).toNat]? = some e ∧ stepS m s c = some (entM w e) := by
 obtain ⟨r, hr⟩ : ∃ r, m.rows[s]? = some r := ⟨_, List.getElem?_eq_getElem hs⟩
 obtain ⟨q', hq', rfl⟩ := h.row s r hr
 rw [hq] at hq'
 injection hq' with hq'
 subst hq'
 obtain ⟨r', x, e, h1, h2, h3, h4, h5⟩ := stepS_some hm (s := (s : Int)) (c := (c : Int)) ⟨by omega, by omega, by omega, by rw [h.classes]; omega⟩
 rw [Int.toNat_natCast, hr] at h1
 injection h1 with h1
 subst h1
 rw [Int.toNat_natCast] at h2
 have hx : (rowL (planN p) q)[c]? = some (q[c]?.getD 0) := by
  unfold rowL
  rw [List.getElem?_map, List.getElem?_range hc]
  rfl
 rw [hx] at h2
 injection h2 with h2
 subst h2
 obtain ⟨e', he', rfl⟩ := h.ent _ e h4
 exact ⟨e', he', h5⟩
theorem Reads.entS {p : Plan} {w : Int} {m : Mach} (h : Reads p w m) (hm : m.ok) (l : List Gl) {st : Nat} (j x y : Int) (hst : st < m.rows.length) :
  ∃ q e, p.rows[st]? = some q ∧ p.ents[(q[(clsS m l j).1.toNat]?.getD 0).toNat]? = some e ∧ entS m l ⟨st, j, x, y⟩ = entM w e := by
 have hb := clsS_bound hm l j
 rw [h.classes] at hb
 obtain ⟨r, hr⟩ : ∃ r, m.rows[st]? = some r := ⟨_, List.getElem?_eq_getElem hst⟩
 obtain ⟨q, hq, _⟩ := h.row st r hr
 obtain ⟨e, he, hs⟩ := h.step hm (c := (clsS m l j).1.toNat) hst (by omega) hq
 refine ⟨q, e, hq, he, ?_⟩
 unfold Go.Sw.entS
 dsimp only
 rw [show (((clsS m l j).1.toNat : Nat) : Int) = (clsS m l j).1 by omega] at hs
 rw [hs]
 rfl
end Go.Sw
end
section
namespace Go.Sw
open Go.RowKit
theorem atG_new (ids : List Int) (j : Nat) {x : Int} (h : ids[j]? = some x) : atG (newG ids) j = some ⟨x, (j : Int)⟩ := by
 have hj := (List.getElem?_eq_some_iff.1 h).1
 unfold atG
 rw [if_pos ⟨by omega, by rw [newG_len]; omega⟩, Int.toNat_natCast]
 unfold newG
 rw [List.getElem?_map, List.getElem?_zipIdx, h]
 simp
def swapN (sub : List Int) (g : Gl) : Gl := if 0 ≤ g.id then (match sub[g.id.toNat]? with | some x => ⟨x, g.cl⟩ | none => g) else g
def swapTo (sub : List Int) (l : List Gl) (j : Nat) : List Gl := (l.take j).map (swapN sub) ++ l.drop j
theorem swapTo_len (sub : List Int) (l : List Gl) (j : Nat) : (swapTo sub l j).length = l.length := by unfold swapTo; simp; omega
theorem swapTo_get (sub : List Int) (l : List Gl) {j : Nat} {g : Gl} (h : l[j]? = some g) : (swapTo sub l j)[j]? = some g := map_at h
theorem swapC_step (t : CTab) (sub : List Int) (hsub : t.subs[0]? = some (tabOf sub)) (l : List Gl) {j : Nat} (hj : j < l.length) : swapC t (swapTo sub l j) j 0 = swapTo sub l (j + 1) := by
 obtain ⟨g, hg⟩ : ∃ g, l[j]? = some g := ⟨_, List.getElem?_eq_getElem hj⟩
 have hat : atG (swapTo sub l j) j = some g := by
  unfold atG
  rw [if_pos ⟨by omega, by rw [swapTo_len]; omega⟩, Int.toNat_natCast, swapTo_get sub l hg]
 unfold swapC
 rw [if_neg (by decide), hat]
 dsimp only
 rw [show (0 : Int).toNat = 0 from rfl, hsub, Option.bind_some, tab_get]
 by_cases h0 : 0 ≤ g.id
 ·rw [if_pos h0]
  cases hx : sub[g.id.toNat]? with
  | none =>
   dsimp only
   exact map_keep hg (by unfold swapN; rw [if_pos h0, hx])
  | some x =>
   dsimp only
   unfold setG
   rw [if_pos ⟨by omega, by rw [swapTo_len]; omega⟩, Int.toNat_natCast, modify_set _ _ _ _ (swapTo_get sub l hg)]
   have := map_step (f := swapN sub) hg
   unfold swapTo
   rw [← this]
   unfold swapN
   rw [if_pos h0, hx]
 ·rw [if_neg h0]
  dsimp only
  exact map_keep hg (by unfold swapN; rw [if_neg h0])
theorem swapC_end (t : CTab) (l : List Gl) (w : Int) : swapC t l (l.length : Int) w = l := by
 unfold swapC atG
 split
 ·rfl
 ·rw [if_neg (by omega)]
theorem runC_swap {t : CTab} (sub : List Int) (hsub : t.subs[0]? = some (tabOf sub)) (hent : ∀ (l : List Gl) (st : Int) (j : Nat), st = 0 → entS t.m l ⟨st, j, j, 0⟩ = ⟨0, 0, 65535, 0⟩) (l : List Gl) : runC t l = (l.map (swapN sub), 0) := by
 obtain ⟨s', st', hP, hr⟩ := runD_go t.m (fun s : List Gl × Int => s.1) (fun s i e => (doC t s i e, i, i + 1)) (2 * (l.length : Int) + 128) l.length (by omega) (fun j s st => s.1 = swapTo sub l j ∧ st = 0 ∧ s.2 = -1) (fun j s st h => by rw [h.1, swapTo_len])
  (fun j s st hj ⟨h1, h2, h3⟩ => by
   rw [hent s.1 st j h2]
   refine ⟨by decide, rfl, fun hlt => ⟨?_, rfl, ?_⟩⟩
   ·dsimp only [doC]
    rw [show swapC t s.1 s.2 65535 = s.1 from if_pos rfl, h1]
    exact swapC_step t sub hsub l hlt
   ·dsimp only [doC]
    rw [if_neg (fun hc => absurd hc.1 (by decide))]
    exact h3) l.length 0 (2 * l.length + 128) 0 (l, -1) 0 rfl (by omega) (by omega) ⟨by unfold swapTo; simp, rfl, rfl⟩
 obtain ⟨h1, h2, h3⟩ := hP
 unfold runC runCr
 rw [hr]
 dsimp only
 rw [hent s'.1 st' l.length h2]
 dsimp only [doC]
 rw [show swapC t s'.1 s'.2 65535 = s'.1 from if_pos rfl, h1]
 have e : swapTo sub l l.length = l.map (swapN sub) := by unfold swapTo; simp
 have hl := swapTo_len sub l l.length
 have := swapC_end t (swapTo sub l l.length) 0
 rw [hl] at this
 rw [this, e]
end Go.Sw
end
section
namespace Go.Sw
open Go.RowKit
structure CPlan where
 m : Plan
 subs : List (List Int)
def CPlan.ok (p : CPlan) : Prop := (p.m.ok ∧ p.subs.length < 2 ^ 63) ∧ ∀ s, s ∈ p.subs → ∀ n, n ∈ s → 0 ≤ n ∧ n < 65536
def CSmall (p : CPlan) (n : Nat) : Prop := (∀ s, s ∈ p.subs → s.length ≤ 60) ∧ p.m.cls.length ≤ 40 ∧ p.m.rows.length ≤ 20 ∧ p.m.ents.length ≤ 40 ∧ p.subs.length ≤ 20 ∧ n ≤ 60
instance (p : CPlan) (n : Nat) : Decidable (CSmall p n) := by unfold CSmall; infer_instance
theorem ctxBytes_byt {p : Plan} (hp : p.ok) (subs : List (List Int)) : Byt (ctxBytes p subs) := by
 unfold ctxBytes
 refine (planRoom_byt hp 2 (bytesOf_byt _ _)).app (Byt.app ?_ ?_)
 ·exact Byt.flat fun r hr => by obtain ⟨j, _, rfl⟩ := List.mem_map.1 hr; exact bytesOf_byt _ _
 ·exact Byt.flat fun r hr => by
   obtain ⟨s, _, rfl⟩ := List.mem_map.1 hr
   exact ((((bytesOf_byt _ _).app (bytesOf_byt _ _)).app (bytesOf_byt _ _)).app (Byt.flat fun r hr => by obtain ⟨x, _, rfl⟩ := List.mem_map.1 hr; exact bytesOf_byt _ _))
theorem ctxBytes_len {p : Plan} (hp : p.ok) (h1 : p.cls.length ≤ 1000) (h2 : p.rows.length ≤ 1000) (h3 : p.ents.length ≤ 1000) {subs : List (List Int)} (hs : ∀ s, s ∈ subs → s.length ≤ 60) (hn : subs.length ≤ 1000) : (ctxBytes p subs).length ≤ 300000 := by
 have hl := planRoom_len hp 2 (rm := bytesOf ((planRoom p 2 (List.replicate 4 0)).length : Int) 4) (by simp) h1 h2 h3
 have := offsB_len subs
 have := lksB_le subs hs
 unfold ctxBytes
 simp only [List.length_append]
 omega
end Go.Sw
end
section
namespace Go.Sw
open Go.RowKit
def swPlan : Plan := ⟨[], [[0], [0]], [⟨0, 0, 65535, 0⟩], 0⟩
theorem swPlan_ok : swPlan.ok := ⟨fun _ h => (nomatch h), fun r hr x hx => by
 have : r = [0] := by simp [swPlan] at hr; exact hr
 subst this
 have : x = 0 := by simpa using hx
 omega, by decide, by decide⟩
theorem sw_ents {m : Mach} (hr : Reads swPlan 2 m) (hm : m.ok) : m.ents = [⟨0, 0, 65535, 0⟩] := by
 have hall : ∀ (i : Nat) e, m.ents[i]? = some e → i = 0 ∧ e = ⟨0, 0, 65535, 0⟩ := fun i e he => by
  obtain ⟨q, hq, rfl⟩ := hr.ent i e he
  have hi := (List.getElem?_eq_some_iff.1 hq).1
  have hi : i = 0 := by simp [swPlan] at hi; exact hi
  subst hi
  have : q = ⟨0, 0, 65535, 0⟩ := by simp [swPlan] at hq; exact hq.symm
  subst this
  exact ⟨rfl, rfl⟩
 have h1 : m.ents.length ≤ 1 := Nat.le_of_not_lt fun h => by
  have := hall 1 _ (List.getElem?_eq_getElem h)
  omega
 have h2 : 1 ≤ m.ents.length := by
  obtain ⟨r, hrr⟩ : ∃ r, m.rows[0]? = some r := ⟨_, List.getElem?_eq_getElem (by have := hm.two; omega)⟩
  obtain ⟨h3, h4⟩ := hm.row r (List.mem_of_getElem? hrr)
  have hc := hm.cl
  obtain ⟨x, hx⟩ : ∃ x, r[0]? = some x := ⟨_, List.getElem?_eq_getElem (by omega)⟩
  have := h4 x (List.mem_of_getElem? hx)
  omega
 obtain ⟨e, he⟩ : ∃ e, m.ents[0]? = some e := ⟨_, List.getElem?_eq_getElem (by omega)⟩
 have := (hall 0 e he).2
 subst this
 cases hm2 : m.ents with
 | nil => rw [hm2] at h2; simp at h2
 | cons a l =>
  rw [hm2] at he h1
  simp at he h1
  rw [he, h1]
theorem ctx_one (sub : List Int) (hs : sub.length ≤ 60) (hb : ∀ x, x ∈ sub → 0 ≤ x ∧ x < 65536) (hcb : Byt (ctxBytes swPlan [sub])) : ∃ t, ctxS (ctxBytes swPlan [sub]) 40 = some t ∧ t.subs[0]? = some (tabOf sub) ∧ ∀ (l : List Gl) (st : Int) (j : Nat), st = 0 → entS t.m l ⟨st, j, j, 0⟩ = ⟨0, 0, 65535, 0⟩ := by
  obtain ⟨m, hm, hr⟩ := plan_closed (p := swPlan) swPlan_ok (w := 2) (by omega) (rm := bytesOf ((planRoom swPlan 2 (List.replicate 4 0)).length : Int) 4) (more := offsB [sub] ++ lksB [sub]) (by simp) (by decide) (by decide) (by decide)
    (fun r hr x hx => by
      have : r = [0] := by simp [swPlan] at hr; exact hr
      subst this
      obtain ⟨i, hi, rfl⟩ := List.mem_map.1 hx
      have : ([0] : List Int)[i]?.getD 0 = 0 := by cases i <;> rfl
      rw [this]
      decide)
    (fun e he => by
      have : e = ⟨0, 0, 65535, 0⟩ := by simp [swPlan] at he; exact he
      subst this
      decide) 40
  have hm : machS (ctxBytes swPlan [sub]) 40 2 = some m := hm
  have hok := machS_ok hcb (by omega) (by omega) (by omega) hm
  have hen := sw_ents hr hok
  obtain ⟨e1, e2⟩ := ctx_parts swPlan swPlan_ok (by decide) (by decide) (by decide) [sub]
  have h0 := sub_written [sub] (fun s h => by have : s = sub := by simpa using h
                                              subst this; exact ⟨hs, hb⟩) (by simp) 40 (j := 0) rfl
  have hss : subsS (offsB [sub] ++ lksB [sub]) 40 1 = some [tabOf sub] := by
    rw [subsS_succ, show subsS (offsB [sub] ++ lksB [sub]) 40 0 = some [] from rfl, Option.bind_some, h0]
    rfl
  have hmany : (manyS m.ents).toNat = 1 := by rw [hen]; decide
  refine ⟨⟨m, [tabOf sub]⟩, ?_, rfl, fun l st j hst => ?_⟩
  · unfold ctxS
    rw [hm, Option.bind_some, e1, Option.bind_some, e2, Option.bind_some, hmany, hss]
    rfl
  · subst hst
    obtain ⟨q, e, _, he, h⟩ := hr.entS hok l (st := 0) j j 0 (by have := hok.two; omega)
    have hq := List.mem_of_getElem? he
    have : e = ⟨0, 0, 65535, 0⟩ := by simp [swPlan] at hq; exact hq
    subst this
    exact h
end Go.Sw
end
section
namespace Go.Sw
open Go.RowKit
theorem Sl.blk {α : Type} {enc : α → List Value} {H : Heap} {m b : Nat} {k : Blk} (l : List α) (hg : H.get b = some k) (hk : k.cells = rows enc l) (he : ∀ x, (enc x).length = m) : Sl H m (.slice (some ⟨b, 0, none⟩) l.length l.length) enc l :=
 .inr (.inr ⟨b, 0, _, _, rfl, Nat.le_refl _, hg, by rw [List.drop_zero, hk, List.take_of_length_le (by rw [rows_length he]; exact Nat.le_refl _)]⟩)
set_option maxHeartbeats 2000000 in
theorem CtxSwap_run (sub ids : List Int) (hb : ∀ x, x ∈ sub → 0 ≤ x ∧ x < 65536) (hsl : sub.length < 2 ^ 63) : R (T F.swashlaw15_speaks) F.swashlaw15_CtxSwap [lv encU2 sub, lv encI ids] Heap.empty = .ok (.bool true) Heap.empty := by
  generalize hk : F.swashlaw15_speaks = k
  have hs := speaks15_run k (by subst hk; rfl)
  have hk6 : k < 1000000 := by subst hk; decide
  have hW : ownW k = .no := by subst hk; rfl
  clear hk
  rw [swashlaw15_CtxSwap_R]
  generalize Heap.empty = H
  by_cases c1 : sub.length > 60
  · have c1' : (sub.length : Int) > 60 := by omega
    refine nrm_gc ⟨H, ?_, Ext.refl _⟩ (.bool _)
    simp -implicitDefEqProofs (disch := omega) [swashlaw15_CtxSwap, hs, c1']
  have c1' : ¬ (sub.length : Int) > 60 := by omega
  by_cases c2 : ids.length > 60
  · have c2' : (ids.length : Int) > 60 := by omega
    refine nrm_gc ⟨H, ?_, Ext.refl _⟩ (.bool _)
    simp -implicitDefEqProofs (disch := omega) [swashlaw15_CtxSwap, hs, c1', c2']
  have c2' : ¬ (ids.length : Int) > 60 := by omega
  have g := (((((Star.nil H).push ⟨[.int .u8 0], 1, false⟩).push ⟨[.int .u8 0], 1, false⟩).push ⟨[.slice (some ⟨H.n, 0, none⟩) 1 1, .slice (some ⟨H.n + 1, 0, none⟩) 1 1], 1, false⟩).push ⟨[.int .i64 0, .int .i64 0, .int .i64 65535, .int .i64 0], 4, false⟩).push ⟨[.slice none 0 0, .slice (some ⟨H.n + 2, 0, none⟩) 2 2, .slice (some ⟨H.n + 3, 0, none⟩) 1 1, .int .u8 0], 1, false⟩
  have g := g.push ⟨[lv encU2 sub], 1, false⟩
  simp only [List.nil_append, List.cons_append, hn_push] at g
  generalize hH6 : (((((H.push ⟨[.int .u8 0], 1, false⟩).push ⟨[.int .u8 0], 1, false⟩).push ⟨[.slice (some ⟨H.n, 0, none⟩) 1 1, .slice (some ⟨H.n + 1, 0, none⟩) 1 1], 1, false⟩).push ⟨[.int .i64 0, .int .i64 0, .int .i64 65535, .int .i64 0], 4, false⟩).push ⟨[.slice none 0 0, .slice (some ⟨H.n + 2, 0, none⟩) 2 2, .slice (some ⟨H.n + 3, 0, none⟩) 1 1, .int .u8 0], 1, false⟩).push ⟨[lv encU2 sub], 1, false⟩ = H6 at g
  have s0 := Sl.blk (enc := encB) (m := 1) ([0] : List Int) (g.get 0 rfl) rfl encB_len
  have s1 := Sl.blk (enc := encB) (m := 1) ([0] : List Int) (g.get 1 rfl) rfl encB_len
  have s2 := Sl.blk (enc := encU) (m := 1) ([([0], .slice (some ⟨H.n, 0, none⟩) 1 1), ([0], .slice (some ⟨H.n + 1, 0, none⟩) 1 1)] : List (List Int × Value)) (g.get 2 rfl) rfl encU_len
  have s3 := Sl.blk (enc := encEn) (m := 4) ([⟨0, 0, 65535, 0⟩] : List En) (g.get 3 rfl) rfl encEn_len
  have s5 := Sl.blk (enc := encSu) (m := 1) ([(sub, lv encU2 sub)] : List (List Int × Value)) (g.get 5 rfl) rfl encSu_len
  have hP : PlanSl H6 swPlan (.slice none 0 0) (.slice (some ⟨H.n + 2, 0, none⟩) 2 2) (.slice (some ⟨H.n + 3, 0, none⟩) 1 1) [([0], .slice (some ⟨H.n, 0, none⟩) 1 1), ([0], .slice (some ⟨H.n + 1, 0, none⟩) 1 1)] :=
    ⟨Sl.nil _ _, rfl, fun x hx => by simp at hx; rcases hx with rfl | rfl; exact s0; exact s1, s2, s3⟩
  have hw := ctxWrite_runG k hW swPlan swPlan_ok (by decide) (by decide) (by decide) hP [(sub, lv encU2 sub)] (fun x hx => by
    have : x = (sub, lv encU2 sub) := by simpa using hx
    subst this
    exact ⟨Sl.lv _ 1 _, by show sub.length ≤ 60; omega, hb⟩) (by simp) (vS := .slice (some ⟨H.n + 5, 0, none⟩) 1 1) s5
  have hcb := ctxBytes_byt swPlan_ok [sub]
  have hcl := ctxBytes_len swPlan_ok (by decide) (by decide) (by decide) (subs := [sub]) (fun s h => by have : s = sub := by simpa using h
                                                                                                        subst this; omega) (by simp)
  obtain ⟨t, ht, hsub, hent⟩ := ctx_one sub (by omega) hb hcb
  have hw : R (T k) F.swashlaw15_Write [.agg #[.slice none 0 0, .slice (some ⟨H.n + 2, 0, none⟩) 2 2, .slice (some ⟨H.n + 3, 0, none⟩) 1 1, .int .u8 0], .slice (some ⟨H.n + 5, 0, none⟩) 1 1] H6 = .ok (lv encB (ctxBytes swPlan [sub])) H6 := hw
  generalize ctxBytes swPlan [sub] = b at hw hcb hcl ht
  have hrd := fun H' => ctxRead_run k hk6 b hcb 40 (by omega) (by omega) H'
  have hok := ctxS_ok hcb (by omega) (by omega) ht
  rw [ht] at hrd
  simp only [cV, Option.isSome_some, if_true] at hrd
  obtain ⟨c, o, H7, e7, g⟩ := lineNew_star k g ids (by omega)
  simp only [List.nil_append, List.cons_append] at g
  obtain ⟨H8, e8, g, hlen⟩ := ctxRun_star k t hok g 6 rfl (by simp; omega)
  simp only [List.set_cons_zero, List.set_cons_succ] at g
  have hres := runC_swap sub hsub hent (newG ids)
  rw [hres] at e8 g
  dsimp only at e8 g
  have gl := lineGlyphs_run k hk6 g 6 rfl (by simp; omega)
  have hln0 := lineLen_run k g 6 rfl
  obtain ⟨L, hL⟩ : ∃ L, L = (newG ids).map (swapN sub) := ⟨_, rfl⟩
  have hLl : L.length = ids.length := by rw [hL]; simp
  rw [← hL] at g gl
  have hln : R (T k) F.line_Line_Len [ptrV c] H8 = .ok (.int .i64 L.length) H8 := by rw [hL]; exact hln0
  obtain ⟨xx, e', H9, hr9, rfl, ⟨a, rfl⟩, hx9⟩ := loop_up (body := swashlaw15_CtxSwap_l1 k (R (T k))) ids.length
    (fun j e H' => e = [(0, lv encU2 sub), (1, lv encI ids), (8, ptrV c), (49, lv encG L), (50, .int .i64 ids.length), (51, .int .i64 j)] ∧ Ext H8 H')
    (fun xx e H' => xx = .exit 0 ∧ (∃ a, e = [(0, lv encU2 sub), (1, lv encI ids), (8, ptrV c), (49, lv encG L), (50, .int .i64 ids.length), (51, a), (52, .bool false)]) ∧ Ext H8 H')
    (e0 := [(0, lv encU2 sub), (1, lv encI ids), (8, ptrV c), (49, lv encG L), (50, .int .i64 ids.length), (51, .int .i64 0)]) (H0 := H8) ⟨rfl, Ext.refl _⟩ (by omega)
    (fun j e H' hj ⟨he, hx⟩ => by
      subst he
      have hlt : (j : Int) < ids.length := by omega
      obtain ⟨x, hxj⟩ : ∃ x, ids[j]? = some x := ⟨_, List.getElem?_eq_getElem hj⟩
      have hg : L[j]? = some (swapN sub ⟨x, (j : Int)⟩) := by
        rw [hL, List.getElem?_map]
        have := atG_new ids j hxj
        unfold atG at this
        rw [if_pos ⟨by omega, by rw [newG_len]; omega⟩, Int.toNat_natCast] at this
        rw [this]
        rfl
      have i1 := fun H' => ixS_lvN encG_len L .i64 j _ hg H'
      have i2 := fun H' => ixS_lvN encI_len ids .i64 j x hxj H'
      refine .inl ⟨_, H'.push ⟨encG (swapN sub ⟨x, (j : Int)⟩), 1, false⟩, ?_, rfl, hx.push _⟩
      rw [swashlaw15_CtxSwap_l1_eq]
      by_cases h0 : 0 ≤ x
      · by_cases h1 : x < (sub.length : Int)
        · obtain ⟨y, hy⟩ : ∃ y, sub[x.toNat]? = some y := ⟨_, List.getElem?_eq_getElem (by omega)⟩
          have hsw : swapN sub ⟨x, (j : Int)⟩ = ⟨y, (j : Int)⟩ := by
            unfold swapN
            rw [if_pos h0]
            dsimp only
            rw [hy]
          have i3 := fun H' => ixS_lvN encU2_len sub .i64 x.toNat y hy H'
          rw [Int.toNat_of_nonneg h0] at i3
          have hyb := hb y (List.mem_of_getElem? hy)
          rw [hsw] at i1 ⊢
          simp -implicitDefEqProofs (disch := omega) [hlt, i1, i2, h0, h1, i3, swashlaw15_CtxSwap_j1_eq]
        · have hsw : swapN sub ⟨x, (j : Int)⟩ = ⟨x, (j : Int)⟩ := by
            unfold swapN
            rw [if_pos h0]
            dsimp only
            rw [List.getElem?_eq_none (by omega)]
          rw [hsw] at i1 ⊢
          simp -implicitDefEqProofs (disch := omega) [hlt, i1, i2, h0, h1, swashlaw15_CtxSwap_j2_eq]
      · have hsw : swapN sub ⟨x, (j : Int)⟩ = ⟨x, (j : Int)⟩ := by
          unfold swapN
          rw [if_neg h0]
        rw [hsw] at i1 ⊢
        simp -implicitDefEqProofs (disch := omega) [hlt, i1, i2, h0, swashlaw15_CtxSwap_j2_eq])
    (fun e H' ⟨he, hx⟩ => by
      subst he
      refine ⟨.exit 0, _, H', ?_, by simp, rfl, ⟨.int .i64 ids.length, rfl⟩, hx⟩
      rw [swashlaw15_CtxSwap_l1_eq]
      simp -implicitDefEqProofs)
  have hln9 : R (T k) F.line_Line_Len [ptrV c] H9 = .ok (.int .i64 ids.length) H9 := by
    have := lineLen_run k (g.rest hx9) 6 rfl
    rw [hLl] at this
    exact this
  refine nrm_gc ⟨H9, ?_, (g.rest hx9).ext⟩ (.bool _)
  simp -implicitDefEqProofs (disch := omega) [swashlaw15_CtxSwap, hs, c1', c2', hH6, hw, hrd, e7, e8, gl, hLl, hr9, swashlaw15_CtxSwap_l1k_x0, hln9]
theorem CtxSwap_args (vs : List Value) (h : ArgsLay [.one (.slice [.int .u16]), .one (.slice [.int .i64])] vs) : ∃ H', R (T F.swashlaw15_speaks) F.swashlaw15_CtxSwap vs Heap.empty = .ok (.bool true) H' := by
 obtain ⟨v1, _, rfl, h1, h⟩ := h.head
 obtain ⟨v2, _, rfl, h2, h⟩ := h.head
 obtain rfl := h.done
 obtain ⟨ids, rfl, _⟩ := arg_I h2
 obtain ⟨d, h1⟩ := h1.cell
 ·obtain ⟨b, rfl, hn, hb⟩ := Lay.listN (enc := encU2) (ok := fun n => 0 ≤ n ∧ n < 65536) (fun r cs h => by
   obtain ⟨d, v, ds, vs, rfl, h1, h2⟩ := h.head
   obtain rfl := h2.done
   obtain ⟨n, rfl, w⟩ := h1.intv
   exact ⟨n, rfl, wf_u16 w⟩) h1
  exact ⟨_, CtxSwap_run b ids hb hn⟩
end Go.Sw
end
section
namespace Go.Sw
open Go.RowKit
theorem names_ok : NamesOk Prog := NamesOk.of (by kernel_rfl)
theorem mixed_ok : Prog.follows .mixedOrders = true := Checked.mixed Go.Proofs.Try.checked
theorem laid_ok : laidOutB Prog = true := by kernel_rfl
theorem cloneP_is : SpIs Prog F.slices_Clone_of_api_Place_api_Place fun _ args H => cloneV 3 12 args H :=
 clone_is (c := { P := Prog, kp := kpS, sp := fun _ => none }) names_ok mixed_ok (t := 31) (e := 34) (by kernel_rfl) fun call a H => (slices_Clone_of_api_Place_api_Place_body 0 _ call a H).trans (by
  unfold slices_Clone_of_api_Place_api_Place cloneF
  simp only [be_31_0, ap_31, beR_bare])
theorem cloneG_is : SpIs Prog F.slices_Clone_of_api_Glyph_api_Glyph fun _ args H => cloneV 2 16 args H :=
 clone_is (c := { P := Prog, kp := kpS, sp := fun _ => none }) names_ok mixed_ok (t := 50) (e := 55) (by kernel_rfl) fun call a H => (slices_Clone_of_api_Glyph_api_Glyph_body 0 _ call a H).trans (by
  unfold slices_Clone_of_api_Glyph_api_Glyph cloneF
  simp only [be_50_0, ap_50, beR_bare])
theorem more_is (f : FuncId) (s : Sp) (h : moreS f = some s) : SpIs Prog f s := by
 unfold moreS at h
 cases h1 : Nat.beq f 77 with
 | true => have := Nat.eq_of_beq_eq_true h1; subst this; rw [h1, cond_true] at h; injection h with h; subst h; exact try_is
 | false =>
 rw [h1, cond_false] at h
 cases h2 : Nat.beq f 147 with
 | true => have := Nat.eq_of_beq_eq_true h2; subst this; rw [h2, cond_true] at h; injection h with h; subst h; exact cloneP_is
 | false =>
 rw [h2, cond_false] at h
 cases h3 : Nat.beq f 151 with
 | true => have := Nat.eq_of_beq_eq_true h3; subst this; rw [h3, cond_true] at h; injection h with h; subst h; exact cloneG_is
 | false =>
 rw [h3, cond_false] at h
 cases h4 : Nat.beq f 152 with
 | true => rw [h4, cond_true] at h; injection h with h; subst h; exact SpIs.stuck _ _
 | false => rw [h4, cond_false] at h; cases h
theorem T_prog (k : Nat) : (T k).c.P = Prog := by unfold T C; rfl
theorem told_ok {k m : Nat} (hsp : okTrue (run (baseCfg Prog kpS moreS) m (k % 1000000) [] Heap.empty) = true) : SpOk (T k).c := by
 have h0 : CallOk Prog (run (baseCfg Prog kpS moreS) m) := run_ok (c := baseCfg Prog kpS moreS) names_ok mixed_ok (SpOk.base more_is) m
 have h1 : SpOk (C k) := by
  unfold C
  exact SpOk.of (P := Prog) (kp := kpS) (speaks := speaksT) (more := moreS) (k := k % 1000000) h0 hsp more_is
 exact h1
end Go.Sw
end
