/-
  Functions' forms, and what is proved of them, part 10.
-/
import Derived.Test.YtnaodjnimkndbabSwW9
import Derived.Test.YtnaodjnimkndbabSwW4
import Derived.Test.YtnaodjnimkndbabSwW5
import Derived.Test.YtnaodjnimkndbabSwW7
import Derived.Test.YtnaodjnimkndbabSwW8
import Derived.Test.YtnaodjnimkndbabSwCfg
set_option linter.unusedSimpArgs false
set_option linter.unusedVariables false
set_option linter.unusedSectionVars false
section
namespace Go.Sw
open Go.RowKit
def LPv (H : Heap) (c : Nat) (ob : Option Nat) (v : Value) (ps : List Int) : Prop :=
 (ob = none ∧ ps = [] ∧ v = .slice none 0 0) ∨ ∃ b off cap k, ob = some b ∧ b ≠ c ∧ v = .slice (some ⟨b, off, none⟩) ps.length cap ∧ ps.length ≤ cap ∧ H.get b = some k ∧ k.esz = 1 ∧ k.ro = false ∧ off + cap ≤ k.cells.length ∧ (k.cells.drop off).take ps.length = rows encI ps.reverse
theorem LPv.up {H H' : Heap} {c : Nat} {ob : Option Nat} {v : Value} {ps : List Int} (h : LPv H c ob v ps) (hk : ∀ b, ob = some b → H'.get b = H.get b) : LPv H' c ob v ps := by
 rcases h with h | ⟨b, off, cap, k, h0, h1, h2, h3, h4, h5⟩
 ·exact .inl h
 ·exact .inr ⟨b, off, cap, k, h0, h1, h2, h3, by rw [hk b h0]; exact h4, h5⟩
def itLP (c : Nat) (ob : Option Nat) (ps : List Int) : It :=
 ⟨c :: ob.toList, fun H => ∃ v, H.get c = some ⟨[v], 1, false⟩ ∧ LPv H c ob v ps, fun H H' ⟨v, h1, h2⟩ hk =>
  ⟨v, by rw [hk c (by simp)]; exact h1, h2.up fun b hb => hk b (by simp [hb])⟩⟩
theorem LPv.len {H : Heap} {c : Nat} {ob : Option Nat} {v : Value} {ps : List Int} (h : LPv H c ob v ps) (H' : Heap) : lnS v H' = .ok (.int .i64 ps.length) H' := by
 rcases h with ⟨_, rfl, rfl⟩ | ⟨b, off, cap, k, _, _, rfl, _⟩ <;> rfl
theorem LPv.sl {H : Heap} {c : Nat} {ob : Option Nat} {v : Value} {ps : List Int} (h : LPv H c ob v ps) : Sl H 1 v encI ps.reverse := by
 rcases h with ⟨_, rfl, rfl⟩ | ⟨b, off, cap, k, _, _, rfl, h3, h4, _, _, _, h5⟩
 ·exact Sl.nil _ _
 ·exact .inr (.inr ⟨b, off, cap, k, by rw [List.length_reverse], by rw [List.length_reverse]; exact h3, h4, by rw [List.length_reverse, Nat.mul_one]; exact h5⟩)
theorem LPv.pop {H : Heap} {c : Nat} {ob : Option Nat} {v : Value} {i : Int} {ps : List Int} (h : LPv H c ob v (i :: ps)) : ∃ b off cap, ob = some b ∧ v = .slice (some ⟨b, off, none⟩) (ps.length + 1) cap ∧ (∀ H', (H'.get b).map (fun k => k.esz) = some 1 → slS 1 v none (some (.int .i64 ps.length)) none H' = .ok (.slice (some ⟨b, off, none⟩) ps.length cap) H') ∧ LPv H c ob (.slice (some ⟨b, off, none⟩) ps.length cap) ps := by
 rcases h with ⟨_, h, _⟩ | ⟨b, off, cap, k, h0, h1, rfl, h3, h4, h5, h6, h7, h8⟩
 ·cases h
 ·rw [List.length_cons] at h3 h8 ⊢;refine ⟨b, off, cap, h0, rfl, fun H' hg => ?_, .inr ⟨b, off, cap, k, h0, h1, rfl, by omega, h4, h5, h6, h7, ?_⟩⟩
  ·have hb : boundOf (some (.int .i64 (ps.length : Int))) (ps.length + 1) = some ps.length := by simp [boundOf]
   unfold slS;dsimp only;rw [hb];simp only [boundOf];have ho : openOk H' b 1 none = true := by
    unfold openOk;cases hh : H'.get b with
    | none => rw [hh] at hg; cases hg
    | some k' =>
     rw [hh] at hg;have : k'.esz = 1 := by simpa using hg
     simp [this]
   rw [if_pos ⟨by omega, by omega, by omega, by simp⟩, if_pos ho];simp
  ·have := congrArg (List.take ps.length) h8;rw [ζ7b, List.reverse_cons, List.map_append, List.take_take, List.take_left' (by simp), Nat.min_eq_left (by omega)] at this;rw [ζ7b];exact this
theorem ζdv (k : Nat) {H0 H : Heap} {L : List It} (g : Star H0 H L) (n : Nat) {c : Nat} {ob : Option Nat} {ps : List Int} (hps : ps.length ≤ 1000) (hi : L[n]? = some (itLP c ob ps)) :
  ∃ H', R (T k) F.ζ23 [ptrV c] H = .ok (.tuple #[.int .i64 (ps.head?.getD 0), .bool (!ps.isEmpty)]) H' ∧ Star H0 H' (L.set n (itLP c ob ps.tail)) := by
 obtain ⟨v, h1, h2⟩ := g.at n hi;rw [ζcr];cases ps with
 | nil =>
  refine ⟨H, nrm_of ?_, ?_⟩
  ·have hl := h2.len;have hl : ∀ H', lnS v H' = .ok (.int .i64 0) H' := hl;simp -implicitDefEqProofs (disch := omega) [ζ23, h1, hl]
  ·exact g.step n hi (Nat.le_refl _) (fun _ _ _ => rfl) _ ⟨v, h1, h2⟩ fun b hb => .inl hb
 | cons i ps =>
  have hl := h2.len;have hl : ∀ H', lnS v H' = .ok (.int .i64 ((ps.length : Int) + 1)) H' := hl;obtain ⟨p, i1, i2⟩ := h2.sl.ix1 encI_len ps.length i (by rw [List.reverse_cons, List.getElem?_append_right (by simp)]; simp) _ rfl;have i2 := i2 H (Ext.refl _);obtain ⟨b, off, cap, hob, rfl, hs, h3⟩ := h2.pop;have hbk : ∃ k', H.get b = some k' ∧ k'.esz = 1 ∧ b ≠ c := by
   rcases h3 with ⟨_, _, hh⟩ | ⟨b', off', cap', k', e0, e1, e2, e3, e4, e5, _⟩
   ·cases hh
   ·rw [hob] at e0;injection e0 with e0;subst e0;exact ⟨k', e4, e5, e1⟩
  obtain ⟨k', hk', hk1, hbc⟩ := hbk;have hs := hs H (by rw [hk']; simp [hk1]);have hw : IntKind.i64.wrap (ps.length : Int) = ps.length := by
   rw [List.length_cons] at hps;exact wrap_i64 (by omega) (by omega)
  refine ⟨H.set c (some ⟨[.slice (some ⟨b, off, none⟩) ps.length cap], 1, false⟩), nrm_of ?_, ?_⟩
  ·rw [List.length_cons] at hps;have hne : ((ps.length : Int) + 1 == 0) = false := by rw [beq_eq_false_iff_ne]; omega
   simp -implicitDefEqProofs (disch := omega) [ζ23, h1, hl, hne, hw, i1, i2, hs]
  ·have hP : (itLP c ob ps).P (H.set c (some ⟨[.slice (some ⟨b, off, none⟩) ps.length cap], 1, false⟩)) := ⟨_, by rw [Heap.get_set h1, if_pos rfl], h3.up fun b' hb' => by
     rw [hob] at hb';injection hb' with hb';subst hb';rw [Heap.get_set h1, if_neg hbc]⟩
   exact g.step (H' := H.set c (some ⟨[.slice (some ⟨b, off, none⟩) ps.length cap], 1, false⟩)) n hi (by simp) (fun d _ hd => by
    rw [Heap.get_set h1, if_neg (fun h => hd (by subst h; simp [itLP]))]) (itLP c ob ps) hP fun d hd => .inl hd
theorem LPv.append {H : Heap} {c : Nat} {ob : Option Nat} {v : Value} {ps : List Int} (h : LPv H c ob v ps) (hl : ps.length ≤ 1000) (hc : c < H.n) (hob : ∀ b, ob = some b → b < H.n) (i : Int) :
  ∃ H', apR 1 8 v (.slice (some ⟨H.n, 0, none⟩) 1 1) (H.push ⟨[.int .i64 i], 1, false⟩) = .ok (.slice (some ⟨H.n + 1, 0, none⟩) (ps.length + 1) (ps.length + 1)) H' ∧ H'.n = H.n + 2 ∧ (∀ d, d < H.n → ob ≠ some d → H'.get d = H.get d) ∧
   LPv H' c (some (H.n + 1)) (.slice (some ⟨H.n + 1, 0, none⟩) (ps.length + 1) (ps.length + 1)) (i :: ps) := by
 have hf : firstV 1 1 (.slice (some ⟨H.n, 0, none⟩) 1 1) (H.push ⟨[.int .i64 i], 1, false⟩) = some [.int .i64 i] := by
  have := (Sl.first (enc := encI) (m := 1) encI_len (Sl.blk (enc := encI) (m := 1) [i] (ζe _ _ _ rfl : (H.push ⟨[.int .i64 i], 1, false⟩).get H.n = _) rfl encI_len))
  exact this
 have hlv : lenV (.slice (some ⟨H.n, 0, none⟩) 1 1) = some 1 := rfl;rcases h with ⟨rfl, rfl, rfl⟩ | ⟨b, off, cap, k, rfl, h1, rfl, h3, h4, h5, h6, h7, h8⟩
 ·refine ⟨(H.push ⟨[.int .i64 i], 1, false⟩).push ⟨[.int .i64 i], 1, false⟩, ?_, by simp, fun d hd _ => by rw [ζ18 _ _ _ (by simp; omega), ζ18 _ _ _ hd], .inr ⟨H.n + 1, 0, 1, ⟨[.int .i64 i], 1, false⟩, rfl, by omega, rfl, by simp, ζe _ _ _ (by simp), rfl, rfl, by simp, rfl⟩⟩;unfold apR;simp only [hlv];unfold appendK;rw [if_neg (by decide), if_pos ⟨by decide, by decide, rfl⟩, hf];rfl
 ·have hb : b < H.n := hob b rfl;have hg : (H.push ⟨[.int .i64 i], 1, false⟩).get b = some k := by rw [ζ18 _ _ _ hb]; exact h4
  refine ⟨((H.push ⟨[.int .i64 i], 1, false⟩).set b none).push ⟨((k.cells.drop off).take (ps.length * 1)) ++ [.int .i64 i], 1, false⟩, ?_, by simp, fun d hd hne => ?_, .inr ⟨H.n + 1, 0, ps.length + 1, ⟨((k.cells.drop off).take (ps.length * 1)) ++ [.int .i64 i], 1, false⟩, rfl, by omega, rfl, by simp, ζe _ _ _ (by simp), rfl, rfl, ?_, ?_⟩⟩
  ·unfold apR;simp only [hlv];unfold appendK;rw [if_neg (by decide), if_pos ⟨by omega, by decide, rfl⟩, hf];simp only [hg];rw [if_pos (by simp [h5, h6]; omega)];simp
  ·rw [ζ18 _ _ _ (by simp; omega), ζ1j _ _ _ _ (fun e => hne (by rw [e])), ζ18 _ _ _ hd]
  ·simp;omega
  ·rw [Nat.mul_one, h8, List.drop_zero, List.take_of_length_le (by rw [ζ7b]; simp), List.reverse_cons, ζ7b, ζ7b, List.map_append];rfl
theorem LPv.tail {H : Heap} {c b off m cap : Nat} {l : List Int} (h : LPv H c (some b) (.slice (some ⟨b, off, none⟩) (m + 1) cap) l) (hl : l.length = m + 1) :
  slS 1 (.slice (some ⟨b, off, none⟩) (m + 1) cap) (some (.int .i64 1)) none none H = .ok (.slice (some ⟨b, off + 1, none⟩) m (cap - 1)) H ∧ LPv H c (some b) (.slice (some ⟨b, off + 1, none⟩) m (cap - 1)) (l.take m) := by
 rcases h with ⟨h, _⟩ | ⟨b', off', cap', k, h0, h1, h2, h3, h4, h5, h6, h7, h8⟩
 ·cases h
 ·injection h0 with h0;subst h0;injection h2 with e1 e2 e3;injection e1 with e1;injection e1 with _ e4;subst e3 e4;have hb : boundOf (some (.int .i64 1)) 0 = some 1 := by simp [boundOf]
  refine ⟨?_, .inr ⟨b, off + 1, cap - 1, k, rfl, h1, by rw [List.length_take, Nat.min_eq_left (by omega)], by rw [List.length_take]; omega, h4, h5, h6, by omega, ?_⟩⟩
  ·unfold slS;dsimp only;rw [hb];simp only [boundOf];rw [if_pos ⟨by omega, by omega, by omega, by simp⟩, if_pos (by unfold openOk; rw [h4]; simp [h5])];simp
  ·rw [hl] at h8;have := congrArg (List.drop 1) h8;rw [List.drop_take, List.drop_drop, show m + 1 - 1 = m by omega] at this;rw [List.length_take, Nat.min_eq_left (by omega), this, ζ7b, ζ7b, List.drop_one];have hne : l ≠ [] := fun h => by rw [h] at hl; simp at hl
   have : l.take m = l.dropLast := by rw [List.dropLast_eq_take, hl]; rfl
   rw [this, List.map_reverse, List.map_reverse, List.tail_reverse, List.map_dropLast]
set_option maxHeartbeats 1000000 in
theorem ζcj (k : Nat) {H0 H : Heap} {L : List It} (g : Star H0 H L) (n : Nat) {c : Nat} {ob : Option Nat} {ps : List Int} (hps : ps.length ≤ 64) (hi : L[n]? = some (itLP c ob ps)) (i : Int) :
  ∃ ob' H', R (T k) F.ζv [ptrV c, .int .i64 i] H = .ok (.tuple #[]) H' ∧ Star H0 H' (L.set n (itLP c ob' (pushP i ps))) := by
 obtain ⟨v, h1, h2⟩ := g.at n hi;have hown := g.lt n hi;have hcn := Heap.get_lt h1;have hl := h2.len;rw [ζc0];have hlast : ∀ j, ps.head? = some j → ∃ p, (∀ H', ixS 1 v (.int .i64 ((ps.length : Int) - 1)) H' = .ok p H') ∧ ld1 p H = .ok (.int .i64 j) H := by
  intro j hj;cases ps with
  | nil => cases hj
  | cons a ps =>
   injection hj with hj;subst hj;obtain ⟨p, i1, i2⟩ := h2.sl.ix1 encI_len ps.length a (by rw [List.reverse_cons, List.getElem?_append_right (by simp)]; simp) _ rfl;exact ⟨p, fun H' => by rw [show (((a :: ps).length : Nat) : Int) - 1 = (ps.length : Int) by rw [List.length_cons]; omega]; exact i1 _ _, i2 H (Ext.refl _)⟩
 by_cases hhead : ps.head? = some i
 ·refine ⟨ob, H, nrm_of ?_, ?_⟩
  ·obtain ⟨p, i1, i2⟩ := hlast i hhead;have hpos : 0 < ps.length := by
    cases ps with
    | nil => cases hhead
    | cons a ps => rw [List.length_cons]; omega
   simp -implicitDefEqProofs (disch := omega) [ζv, h1, hl, hpos, i1, i2]
  ·have : pushP i ps = ps := by unfold pushP; rw [if_pos hhead]
   rw [this];exact g.step n hi (Nat.le_refl _) (fun _ _ _ => rfl) _ ⟨v, h1, h2⟩ fun b hb => .inl hb
 ·have hpp : pushP i ps = (i :: ps).take 64 := by unfold pushP; rw [if_neg hhead]
  obtain ⟨H1, e1, hn1, hk1, h3⟩ := h2.append (by omega) hcn (fun b hb => (hown b (by subst hb; simp [itLP])).2) i;have hoc : ob ≠ some c := by
   rcases h2 with ⟨rfl, _⟩ | ⟨b, _, _, _, rfl, hbc, _⟩
   ·simp
   ·exact fun h => hbc (by injection h)
  have h1' : H1.get c = some ⟨[v], 1, false⟩ := by rw [hk1 c hcn hoc]; exact h1
  have hs1 : (H1.get c).isSome = true := by rw [h1']; rfl
  have hcne : ¬ H.n + 1 = c := by omega
  have h3' : LPv (H1.set c (some ⟨[.slice (some ⟨H.n + 1, 0, none⟩) (ps.length + 1) (ps.length + 1)], 1, false⟩)) c (some (H.n + 1)) (.slice (some ⟨H.n + 1, 0, none⟩) (ps.length + 1) (ps.length + 1)) (i :: ps) := h3.up fun b hb => by
   injection hb with hb;subst hb;exact ζ1j _ _ _ _ hcne
  have hhd : (0 < ps.length) → ∃ j p, (∀ H', ixS 1 v (.int .i64 ((ps.length : Int) - 1)) H' = .ok p H') ∧ ld1 p H = .ok (.int .i64 j) H ∧ (j == i) = false := fun hp => by
   cases hps' : ps with
   | nil => rw [hps'] at hp; simp at hp
   | cons a qs =>
    rw [hps'] at hhead hlast;obtain ⟨p, i1, i2⟩ := hlast a rfl;exact ⟨a, p, i1, i2, by rw [beq_eq_false_iff_ne]; intro h; exact hhead (by rw [h]; rfl)⟩
  have fin : ∀ (X : Heap) (w : Value), X.n = H1.n → (∀ d, d < H.n → d ≠ c → X.get d = H1.get d) → (∃ k', X.get c = some ⟨[w], 1, false⟩ ∧ k' = w) → LPv X c (some (H.n + 1)) w ((i :: ps).take 64) → Star H0 X (L.set n (itLP c (some (H.n + 1)) (pushP i ps))) := fun X w hXn hX ⟨_, hXc, _⟩ hL => by
   rw [hpp];have hP : (itLP c (some (H.n + 1)) ((i :: ps).take 64)).P X := ⟨w, hXc, hL⟩
   exact g.step (H' := X) n hi (by omega) (fun d hd hdx => by
    have hdc : d ≠ c := fun h => hdx (by subst h; simp [itLP]);rw [hX d hd hdc, hk1 d hd (fun h => hdx (by rw [h]; simp [itLP]))]) _ hP fun b hb => by
     have hb : b = c ∨ b = H.n + 1 := by simpa [itLP] using hb
     rcases hb with rfl | rfl
     ·exact .inl (by simp [itLP])
     ·exact .inr ⟨by omega, by omega⟩
  have hw1 : (i :: ps).length = ps.length + 1 := rfl;by_cases h64 : ps.length = 64
  ·rw [h64] at h3' e1;obtain ⟨t1, t2⟩ := h3'.tail (by rw [hw1, h64]);refine ⟨some (H.n + 1), (H1.set c (some ⟨[.slice (some ⟨H.n + 1, 0 + 1, none⟩) 64 (64 + 1 - 1)], 1, false⟩)), nrm_of ?_, ?_⟩
   ·have hp : 0 < ps.length := by omega
    obtain ⟨j, p, i1, i2, hji⟩ := hhd hp;rw [h64] at hl i1;have hl : ∀ H', lnS v H' = .ok (.int .i64 64) H' := hl;have i1 : ∀ H', ixS 1 v (.int .i64 63) H' = .ok p H' := i1;simp -implicitDefEqProofs (disch := omega) [ζv, h1, hl, i1, i2, hji, e1, h1', hs1, t1]
   ·exact fin _ _ (by simp) (fun d hd hdc => ζ1j _ _ _ _ hdc) ⟨_, by rw [ζ56 _ _ _ (by rw [h1']; rfl)], rfl⟩ (t2.up fun b hb => by
     injection hb with hb;subst hb;rw [ζ1j _ _ _ _ hcne, ζ1j _ _ _ _ hcne])
  ·have h65 : ¬ (ps.length : Int) + 1 > 64 := by omega
   have ht : (i :: ps).take 64 = i :: ps := List.take_of_length_le (by rw [hw1]; omega);refine ⟨some (H.n + 1), (H1.set c (some ⟨[.slice (some ⟨H.n + 1, 0, none⟩) (ps.length + 1) (ps.length + 1)], 1, false⟩)), nrm_of ?_, ?_⟩
   ·by_cases hp : 0 < ps.length
    ·obtain ⟨j, p, i1, i2, hji⟩ := hhd hp;simp -implicitDefEqProofs (disch := omega) [ζv, h1, hl, hp, i1, i2, hji, e1, h1', hs1, h65]
    ·simp -implicitDefEqProofs (disch := omega) [ζv, h1, hl, hp, e1, h1', hs1, h65]
   ·exact fin _ _ (by simp) (fun d hd hdc => ζ1j _ _ _ _ hdc) ⟨_, by rw [ζ56 _ _ _ (by rw [h1']; rfl)], rfl⟩ (by rw [ht]; exact h3')
end Go.Sw
end
section
namespace Go.Sw
open Go.RowKit
theorem ζkd (k : Nat) (b : List Int) (H : Heap) : R (T k) F.ζ40 [vwB b] H = .ok (.int .i64 b.length) H := by
 rw [ζfc];have hx : Ext H (H.push ⟨[lv encB b], 1, false⟩) := (Ext.refl H).push _;refine nrm_gc ⟨_, ?_, hx⟩ (.int _ _);simp -implicitDefEqProofs (disch := omega) [ζ40]
theorem ζci (k : Nat) (b : List Int) (hb : Byt b) (hl : b.length < 2 ^ 31) (i : Int) (H : Heap) :
  R (T k) F.ζ46 [vwB b, .int .i64 i] H = .ok (.tuple #[.int .i64 ((entryS b i).getD 0), .bool (entryS b i).isSome]) H := by
 rw [ζi6];have hx : Ext H (H.push ⟨[lv encB b], 1, false⟩) := (Ext.refl H).push _;have hlen := fun H' => ζkd k b H';have q1 := fun H => bin_quo Prog 3 H .i64 b.length 2 (by decide);rw [Int.tdiv_eq_ediv_of_nonneg (by omega)] at q1;have fl : ∀ n x, Flat (.tuple #[.int .i64 n, .bool x]) := fun n x => Flat.tupleL (l := [.int .i64 n, .bool x]) (.cons (.int _ _) (.cons (.bool _) .nil));unfold entryS;by_cases c1 : i < 0
 ·rw [if_neg (by omega)];refine nrm_gc ⟨_, ?_, hx⟩ (fl _ _).alive;simp -implicitDefEqProofs (disch := omega) [ζ46, c1]
 by_cases c2 : i ≥ (b.length : Int) / 2
 ·rw [if_neg (by omega)];refine nrm_gc ⟨_, ?_, hx⟩ (fl _ _).alive;simp -implicitDefEqProofs (disch := omega) [ζ46, c1, hlen, q1, c2]
 rw [if_pos (by omega)];have hu := fun H' => U16_run k (H := H') (Sl.lv H' 1 b) hb (2 * i) (by omega);obtain ⟨x, hx2⟩ : ∃ x, uS b (2 * i) 2 = some x := uS_of_in (by unfold inS; rw [decide_eq_true_eq]; omega);rw [hx2] at hu;have hg := gU_some hx2;refine nrm_gc ⟨_, ?_, hx⟩ (fl _ _).alive;simp -implicitDefEqProofs (disch := omega) [ζ46, c1, hlen, q1, c2, hu, orF, hg]
theorem off_shl (P : Program) (t : TypeId) (H : Heap) (a : Int) : binR P .shl t (.int .u32 a) (.int .u64 2) H = .ok (.int .u32 (IntKind.u32.wrap (a * 4))) H := by
 rfl
theorem off_shr (P : Program) (t : TypeId) (H : Heap) (a : Int) : binR P .shr t (.int .i64 a) (.int .u64 2) H = .ok (.int .i64 (a / 4)) H := by
 have h : a / 4 = a.fdiv 4 := (Int.fdiv_eq_ediv_of_nonneg a (by decide)).symm;rw [h];rfl
theorem ζgi (k : Nat) (a : Int) (h0 : 0 ≤ a) (h1 : a < 4294967296) (H : Heap) : R (T k) F.ζ6e [.int .i64 a] H = .ok (.int .i64 (offS a)) H := by
 rw [ζh9];refine nrm_gc ⟨_, ?_, Ext.refl H⟩ (.int _ _);simp -implicitDefEqProofs (disch := omega) [ζ6e, off_shl, off_shr];unfold offS IntKind.wrap;simp [IntKind.signed, IntKind.bits];split <;> omega
end Go.Sw
end
section
namespace Go.Sw
open Go.RowKit
theorem set_same {L : List It} {i : Nat} {a : It} (h : L[i]? = some a) : L.set i a = L := by
 apply List.ext_getElem?;intro j;by_cases hj : i = j
 ·subst hj;rw [List.getElem?_set_self (List.getElem?_eq_some_iff.1 h).1, h]
 ·rw [List.getElem?_set_ne hj]
end Go.Sw
end
section
namespace Go.Sw
open Go.RowKit
theorem and_high (n : Nat) (h : n < 2 ^ 32) : n &&& 3221225472 = n / 1073741824 * 1073741824 := by
 have e : n / 1073741824 * 1073741824 = (n >>> 30) <<< 30 := by rw [Nat.shiftLeft_eq, Nat.shiftRight_eq_div_pow]
 rw [e];apply Nat.eq_of_testBit_eq;intro j;rw [Nat.testBit_and, Nat.testBit_shiftLeft, Nat.testBit_shiftRight, show (3221225472 : Nat) = 3 <<< 30 by rfl, Nat.testBit_shiftLeft];by_cases h1 : j ≥ 30
 ·rw [show 30 + (j - 30) = j by omega];by_cases h2 : j < 32
  ·have : j = 30 ∨ j = 31 := by omega
   have e1 : Nat.testBit 3 1 = true := by decide
   rcases this with rfl | rfl
   ·simp
   ·simp [e1]
  ·rw [Nat.testBit_lt_two_pow (Nat.lt_of_lt_of_le h (Nat.pow_le_pow_right (by decide) (by omega)))];simp
 ·simp [h1]
theorem and3031 (P : Program) (t : TypeId) (H : Heap) {a : Int} (h0 : 0 ≤ a) (h1 : a < 4294967296) : binR P .and t (.int .i64 a) (.int .i64 3221225472) H = .ok (.int .i64 (a / 1073741824 * 1073741824)) H := by
 obtain ⟨n, rfl⟩ := Int.eq_ofNat_of_zero_le h0;have e : (BitVec.ofInt 64 (n : Int) &&& BitVec.ofInt 64 3221225472).toNat = n / 1073741824 * 1073741824 := by
  rw [BitVec.toNat_and, BitVec.toNat_ofInt, BitVec.toNat_ofInt];rw [show (((n : Int)) % ((2 ^ 64 : Nat) : Int)).toNat = n by omega, show ((3221225472 : Int) % ((2 ^ 64 : Nat) : Int)).toNat = 3221225472 from by decide, and_high n (by omega)]
 have e1 : binV P .and t (.int .i64 (n : Int)) (.int .i64 3221225472) = some (.int .i64 (IntKind.i64.wrap (BitVec.ofInt 64 (n : Int) &&& BitVec.ofInt 64 3221225472).toNat)) := rfl;unfold binR;rw [e1, e, wrap_i64 (by omega) (by omega)];rfl
theorem ζmm {vs : List Int} (hb : Byt vs) {a : Int} (h0 : 0 ≤ a) (h : lastB vs a = true) : ∃ x, uS vs (4 * a) 4 = some x ∧ gU vs (4 * a) 4 = x ∧ 0 ≤ x ∧ x < 4294967296 ∧ 4 * a + 4 ≤ vs.length ∧ (¬ x ≥ 2147483648 → lastB vs (a + 1) = true) := by
 obtain ⟨i, i1, i2, i3⟩ := ζ7d.1 h;obtain ⟨x, hx⟩ : ∃ x, uS vs (4 * a) 4 = some x := uS_of_in (by unfold inS; rw [decide_eq_true_eq]; omega);have hxb := uS_four hb hx;refine ⟨x, hx, gU_some hx, hxb.1, hxb.2, by omega, fun hlt => ζ7d.2 ⟨i, ?_, i2, i3⟩⟩;by_cases hia : (i : Int) = a
 ·rw [hia, gU_some hx] at i3;exact absurd i3 hlt
 ·omega
theorem ζis {l : List Gl} {i : Int} (h : ¬ (0 ≤ i ∧ i < l.length)) : ∀ ks : List Int, joinG l i ks = l
 | [] => rfl
 | k :: ks => by
  have : join1 i l k = l := by
   unfold join1;split
   ·rw [if_neg h]
   ·rfl
  show joinG (join1 i l k) i ks = l;rw [this];exact ζis h ks
theorem ζl0 (l : List Gl) (i : Int) (ks : List Int) (k : Int) : joinG l i (ks ++ [k]) = join1 i (joinG l i ks) k := by unfold joinG; rw [List.foldl_append]; rfl
theorem ζm7 (l : List Gl) (ks : List Int) (k : Int) : delG l (ks ++ [k]) = setG (delG l ks) k 65535 := by unfold delG; rw [List.foldl_append]; rfl
set_option maxHeartbeats 1000000 in
theorem ζha (k : Nat) {H0 H : Heap} {L : List It} (h : Star H0 H L) (il ir : Nat) (hne : il ≠ ir) {c : Nat} {o : Option Nat} {l : List Gl} (hil : L[il]? = some (itLine c o l)) {og : Option Nat} {s : Value} {ks : List Int} (hir : L[ir]? = some (itRow og 1 s encI ks)) (hks : ks.length < 2 ^ 31) (i : Int) :
  ∃ H', R (T k) F.ζz [ptrV c, .int .i64 i, s] H = .ok (.tuple #[]) H' ∧ Star H0 H' (L.set il (itLine c o (joinG l i ks))) := by
 have hin := ζe2 k h il hil (Ext.refl H) i;rw [ζe4];by_cases hj : 0 ≤ i ∧ i < l.length;rotate_left
 ·rw [ζis hj, set_same hil];rw [decide_eq_false hj] at hin;refine ⟨H, nrm_of ?_, h⟩;simp -implicitDefEqProofs [ζz, hin]
 rw [decide_eq_true hj] at hin;obtain ⟨n, rfl⟩ := Int.eq_ofNat_of_zero_le hj.1;have hlt := (List.getElem?_eq_some_iff.1 hil).1;have hlr := (List.getElem?_eq_some_iff.1 hir).1;have hlen := (h.row ir hir).len
 obtain ⟨xx, e', H1, hr, rfl, rfl, g⟩ := loop_up (body := ζ5v k (R (T k))) ks.length
  (fun j e H' => e = [(0, ptrV c), (1, .int .i64 n), (14, s), (15, .int .i64 ks.length), (16, .int .i64 j)] ∧ Star H0 H' (L.set il (itLine c o (joinG l n (ks.take j)))))
  (fun xx e H' => xx = .exit 0 ∧ e = [(0, ptrV c), (1, .int .i64 n), (14, s), (15, .int .i64 ks.length), (16, .int .i64 ks.length), (17, .bool false)] ∧ Star H0 H' (L.set il (itLine c o (joinG l n ks))))
  (e0 := [(0, ptrV c), (1, .int .i64 n), (14, s), (15, .int .i64 ks.length), (16, .int .i64 0)]) (H0 := H) ⟨rfl, by rw [List.take_zero]; show Star H0 H (L.set il (itLine c o l)); rw [set_same hil]; exact h⟩ (by omega)
  (fun j e H' hj2 ⟨he, g⟩ => by
   subst he;have hjl : (j : Int) < ks.length := by omega
   obtain ⟨x, hx⟩ : ∃ x, ks[j]? = some x := ⟨_, List.getElem?_eq_getElem hj2⟩
   have hir2 : (L.set il (itLine c o (joinG l n (ks.take j))))[ir]? = some (itRow og 1 s encI ks) := by rw [List.getElem?_set_ne hne]; exact hir
   have hil2 : (L.set il (itLine c o (joinG l n (ks.take j))))[il]? = some (itLine c o (joinG l n (ks.take j))) := List.getElem?_set_self hlt;obtain ⟨p, i1, i2⟩ := ((g.row ir hir2).sl encI_len).ix1 encI_len j x hx _ rfl;have i2 := i2 H' (Ext.refl _);have hat := ζe1 k g il hil2 x;have hjn := ζgf (n : Int) (ks.take j) l;rw [ζ1b hx];have e2 := ζl0 l n (ks.take j) x;cases hq : atG (joinG l n (ks.take j)) x with
   | none =>
    rw [hq] at hat;have : joinG l n (ks.take j ++ [x]) = joinG l n (ks.take j) := by rw [e2]; unfold join1; rw [hq]
    rw [this];refine .inl ⟨_, H'.push ⟨[.int .i64 0, .int .i64 0], 1, false⟩, ?_, rfl, g.rest ((Ext.refl _).push _)⟩;rw [ζ3q];simp -implicitDefEqProofs (disch := omega) [hjl, i1, i2, hat, encA, ζb4]
   | some q =>
    rw [hq] at hat;have gp := g.push ⟨encG q, 1, false⟩;have hil3 : (L.set il (itLine c o (joinG l n (ks.take j))) ++ [itBlk H'.n ⟨encG q, 1, false⟩])[il]? = some (itLine c o (joinG l n (ks.take j))) := by rw [List.getElem?_append_left (by simpa using hlt)]; exact hil2
    obtain ⟨y, hy⟩ : ∃ y, (joinG l n (ks.take j))[n]? = some y := ⟨_, List.getElem?_eq_getElem (by omega)⟩
    obtain ⟨_, s3, h1, h2⟩ := gp.box il hil3;simp at h1;obtain ⟨b, rfl, hs, hb, ix⟩ := h2.ix .i64 n (by omega);have l1 := ld1_row encG_len hb (i := n) (c := 1) hy (by decide) rfl;obtain ⟨H3, e3, g3, _⟩ := gp.stBox il hil3 encG_len (c := 1) (n := 1) (⟨y.id, min y.cl q.cl⟩ : Gl) (v := .int .i64 (min y.cl q.cl)) hy rfl rfl (by decide) rfl;have hcn : ¬ c = H'.n := by
     have := (g.lt il hil2 c (by simp [itLine, itBox])).2;omega
    have hfin : joinG l n (ks.take j ++ [x]) = (joinG l n (ks.take j)).set n ⟨y.id, min y.cl q.cl⟩ := by
     rw [e2];unfold join1;rw [hq];dsimp only;rw [if_pos ⟨by omega, by omega⟩, Int.toNat_natCast, ζe8 _ _ _ _ hy]
    have hmin : (if q.cl < y.cl then q.cl else y.cl) = min y.cl q.cl := by rw [Int.min_def]; split <;> split <;> omega
    refine .inl ⟨_, H3, ?_, rfl, ?_⟩
    ·rw [ζ3q];have gq : (H'.push ⟨encG q, 1, false⟩).get H'.n = some ⟨encG q, 1, false⟩ := ζe _ _ _ rfl;rw [if_neg hcn] at h1;simp -implicitDefEqProofs (disch := omega) [-stR_ptr, stR_ptr 2 H'.n 0, -ld1_ptr, ld1_ptr H'.n 1, ld1_ptr c 0, hjl, i1, i2, hat, encA, h1, ix, l1, hmin, e3, gq, ζb3, hcn]
    ·rw [hfin];rw [List.set_append_left _ _ (by simpa using hlt), List.set_set] at g3;exact g3.ζbb)
  (fun e H' ⟨he, g⟩ => by
   subst he;rw [List.take_length] at g;refine ⟨.exit 0, _, H', ?_, by simp, rfl, rfl, g⟩;rw [ζ3q];simp -implicitDefEqProofs)
 refine ⟨H1, nrm_of ?_, g⟩;simp -implicitDefEqProofs [ζz, hin, hlen, hr, ζaa]
set_option maxHeartbeats 1000000 in
theorem ζgj (k : Nat) (t : LTab) (ht : t.ok) {H0 H : Heap} {L : List It} (h : Star H0 H L) (il ir : Nat) (hne : il ≠ ir) {c : Nat} {o : Option Nat} {l : List Gl} (hil : L[il]? = some (itLine c o l)) {og : Option Nat} {s : Value} {ks : List Int} (hir : L[ir]? = some (itRow og 1 s encI ks)) (hks : ks.length < 2 ^ 31) (i sum : Int) :
  ∃ H', R (T k) F.ζ15 [ligaV t, ptrV c, .int .i64 i, .int .i64 sum, s] H = .ok (.bool (entryS t.ligs sum).isSome) H' ∧ Star H0 H' (L.set il (itLine c o (match entryS t.ligs sum with | some id => storeG l i id ks | none => l))) := by
 have hen := fun H' => ζci k t.ligs ht.byt.2.2 ht.len.2.2 sum H';have hlt := (List.getElem?_eq_some_iff.1 hil).1;rw [ζbz];cases he : entryS t.ligs sum with
 | none =>
  rw [he] at hen;refine ⟨H, nrm_of ?_, by dsimp only; rw [set_same hil]; exact h⟩;simp -implicitDefEqProofs (disch := omega) [ζ15, hen]
 | some id =>
  rw [he] at hen;obtain ⟨H1, e1, g⟩ := ζe3 k h il hil i id;have hir2 : (L.set il (itLine c o (setG l i id)))[ir]? = some (itRow og 1 s encI ks) := by rw [List.getElem?_set_ne hne]; exact hir
  obtain ⟨H2, e2, g⟩ := ζha k g il ir hne (List.getElem?_set_self hlt) hir2 hks i;rw [List.set_set] at g;have hlen := (h.row ir hir).len
  obtain ⟨xx, e', H3, hr, rfl, rfl, g⟩ := loop_up (body := ζ45 k (R (T k))) ks.length
   (fun j e H' => e = [(1, ptrV c), (34, s), (35, .int .i64 ks.length), (36, .int .i64 j)] ∧ Star H0 H' (L.set il (itLine c o (delG (joinG (setG l i id) i ks) (ks.take j)))))
   (fun xx e H' => xx = .exit 0 ∧ e = [(1, ptrV c), (34, s), (35, .int .i64 ks.length), (36, .int .i64 ks.length), (37, .bool false)] ∧ Star H0 H' (L.set il (itLine c o (delG (joinG (setG l i id) i ks) ks))))
   (e0 := [(1, ptrV c), (34, s), (35, .int .i64 ks.length), (36, .int .i64 0)]) (H0 := H2) ⟨rfl, g⟩ (by omega)
   (fun j e H' hj2 ⟨he, g⟩ => by
    subst he;have hjl : (j : Int) < ks.length := by omega
    obtain ⟨x, hx⟩ : ∃ x, ks[j]? = some x := ⟨_, List.getElem?_eq_getElem hj2⟩
    have hir2 : (L.set il (itLine c o (delG (joinG (setG l i id) i ks) (ks.take j))))[ir]? = some (itRow og 1 s encI ks) := by rw [List.getElem?_set_ne hne]; exact hir
    obtain ⟨p, i1, i2⟩ := ((g.row ir hir2).sl encI_len).ix1 encI_len j x hx _ rfl;have i2 := i2 H' (Ext.refl _);obtain ⟨H4, e4, g4⟩ := ζe3 k g il (List.getElem?_set_self hlt) x 65535;rw [List.set_set, ← ζm7, ← ζ1b hx] at g4;refine .inl ⟨_, H4, ?_, rfl, g4⟩;rw [ζ57];simp -implicitDefEqProofs (disch := omega) [hjl, i1, i2, e4])
   (fun e H' ⟨he, g⟩ => by
    subst he;rw [List.take_length] at g;refine ⟨.exit 0, _, H', ?_, by simp, rfl, rfl, g⟩;rw [ζ57];simp -implicitDefEqProofs)
  refine ⟨H3, nrm_of ?_, g⟩;simp -implicitDefEqProofs (disch := omega) [ζ15, hen, e1, e2, hlen, hr, ζ94]
end Go.Sw
end
section
namespace Go.Sw
open Go.RowKit
variable {σ ω : Type}
def ActOkG (k : Nat) (m : Mach) (H0 : Heap) (W : σ → ω → List It) (Inv : σ → Prop) (a : Value) (f : σ → Int → En → σ × Int × Int) : Prop :=
 ∀ s w i e H X, Inv s → Star H0 H (W s w ++ X) → 0 ≤ i → i < 2 ^ 50 → e ∈ m.ents →
  ∃ H' w', callV (R (T k)) a [.int .i64 i, encE e] H = .ok (.tuple #[.int .i64 (f s i e).2.1, .int .i64 (f s i e).2.2]) H' ∧ Star H0 H' (W (f s i e).1 w' ++ X) ∧ Inv (f s i e).1 ∧ (f s i e).2.1 ≤ i + 128 ∧ (f s i e).2.2 ≤ i + 128
set_option maxHeartbeats 2000000 in
theorem ζf1 (k : Nat) (m : Mach) (hm : m.ok) {H0 H : Heap} (W : σ → ω → List It) (Inv : σ → Prop) (ln : σ → List Gl) (c : Nat) (hW : ∀ s w, ∃ (i : Nat) (o : Option Nat), (W s w)[i]? = some (itLine c o (ln s))) (a : Value) (f : σ → Int → En → σ × Int × Int) (ha : ActOkG k m H0 W Inv a f)
  (X : List It) (q : Nat) (s : σ) (w : ω) (d : Drv) (hI : Inv s) (h : Star H0 H (W s w ++ X ++ [itBlk q ⟨drvC m c d, 1, false⟩])) (hp : 0 ≤ d.pl ∧ d.pl < 2 ^ 50) (hst : 0 ≤ d.stp ∧ d.stp < 2 ^ 50) (hr : 0 ≤ d.rest ∧ d.rest < 2 ^ 50) (hse : 0 ≤ d.st ∧ d.st < m.rows.length) :
  ∃ H' w', R (T k) F.ζ1m [ptrV q, a] H = .ok (.bool (stepD m ln f (s, d)).2) H' ∧ Star H0 H' (W (stepD m ln f (s, d)).1.1 w' ++ X ++ [itBlk q ⟨drvC m c (stepD m ln f (s, d)).1.2, 1, false⟩]) ∧ Inv (stepD m ln f (s, d)).1.1 ∧ (stepD m ln f (s, d)).1.2.pl ≤ d.pl + 128 ∧ 0 ≤ (stepD m ln f (s, d)).1.2.st ∧ (stepD m ln f (s, d)).1.2.st < m.rows.length := by
 obtain ⟨i, o, ho⟩ := hW s w;have hq := h.memBlk (c := q) (k := ⟨drvC m c d, 1, false⟩) (by simp);have hline : (W s w ++ X ++ [itBlk q ⟨drvC m c d, 1, false⟩])[i]? = some (itLine c o (ln s)) := by
  have h0 : i < (W s w).length := (List.getElem?_eq_some_iff.1 ho).1;rw [List.append_assoc, List.getElem?_append_left h0];exact ho
 have hcls := ζf0 k m hm h i hline hq;have hstep := fun H' => Step_run k m hm d.st (clsS m (ln s) d.pl).1 H';have heb := ζkp hm (ln s) d;have hmem := entS_mem hm (ln s) d hse;have hnx := hm.ent _ hmem;have hee : encEA (stepS m d.st (clsS m (ln s) d.pl).1) = encE (entS m (ln s) d) := rfl;rw [hee] at hstep;have hx := ha s w d.pl (entS m (ln s) d);unfold stepD;dsimp only;generalize (stepS m d.st (clsS m (ln s) d.pl).1).isSome = z at hstep;generalize (clsS m (ln s) d.pl) = cl at hcls hstep;generalize entS m (ln s) d = e at hstep heb hx hmem hnx ⊢;dsimp only at heb;generalize f s d.pl e = r at hx ⊢;have g := h.push ⟨encEn e, 1, false⟩;rw [List.append_assoc, List.singleton_append] at g;have hqn : ¬ q = H.n := by have := Heap.get_lt hq; omega
 obtain ⟨H2, e2, g⟩ := g.stEnd 4 (v := .int .i64 (d.stp + 1)) rfl rfl (by simp);simp only [List.set_cons_zero, List.set_cons_succ] at g;have he2 := g.memBlk (c := H.n) (k := ⟨encEn e, 1, false⟩) (by simp);have hq2 := g.memBlk (c := q) (k := ⟨[machV m, ptrV c, .int .i64 d.st, .int .i64 d.pl, .int .i64 (d.stp + 1), .int .i64 d.rest], 1, false⟩) (by simp);obtain ⟨H3, e3, g⟩ := g.stEnd 2 (v := .int .i64 e.next) rfl rfl (by simp);simp only [List.set_cons_zero, List.set_cons_succ] at g;have hq3 := g.memBlk (c := q) (k := ⟨[machV m, ptrV c, .int .i64 e.next, .int .i64 d.pl, .int .i64 (d.stp + 1), .int .i64 d.rest], 1, false⟩) (by simp);have he3 := g.memBlk (c := H.n) (k := ⟨encEn e, 1, false⟩) (by simp);rw [List.append_assoc] at g;obtain ⟨H4, w4, e4, g4, hI4, hs4, ho4⟩ := hx H3 _ hI g hp.1 hp.2 hmem;rw [← List.append_assoc] at g4;have hq4 := g4.memBlk (c := q) (k := ⟨[machV m, ptrV c, .int .i64 e.next, .int .i64 d.pl, .int .i64 (d.stp + 1), .int .i64 d.rest], 1, false⟩) (by simp);have he4 := g4.memBlk (c := H.n) (k := ⟨encEn e, 1, false⟩) (by simp);have han := fun H => and14 Prog 3 H heb.2.2.1 heb.2.2.2.1;rw [List.append_assoc] at g4;by_cases hfl : e.flags / 16384 % 2 = 1
 ·rw [if_pos hfl];rw [if_pos hfl] at han;have hmx : (if 0 > r.2.1 then 0 else r.2.1) = max r.2.1 0 := by split <;> omega
  obtain ⟨H5, e5, g5⟩ := Star.stEnd (A := W r.1 w4 ++ X) (by simpa using g4) 3 (v := .int .i64 (max r.2.1 0)) rfl rfl (by simp);simp only [List.set_cons_zero, List.set_cons_succ] at g5;have hq5 := g5.memBlk (c := q) (k := ⟨[machV m, ptrV c, .int .i64 e.next, .int .i64 (max r.2.1 0), .int .i64 (d.stp + 1), .int .i64 d.rest], 1, false⟩) (by simp);obtain ⟨H6, e6, g6⟩ := g5.stEnd 5 (v := .int .i64 (d.rest + 1)) rfl rfl (by simp);simp only [List.set_cons_zero, List.set_cons_succ] at g6;refine ⟨H6, w4, ?_, ?_, hI4, by dsimp only; omega, hnx.1, hnx.2.1⟩
  ·rw [ζ7a];simp -implicitDefEqProofs (disch := omega) [-stR_ptr, ζ1m, hcls, hq, hqn, hstep, stR_ptr 4 H.n 0, e2, hq2, he2, e3, hq3, he3, e4, hq4, he4, han, hmx, e5, hq5, e6]
  ·have := g6.take ((W r.1 w4 ++ X).length + 1);rw [take_mid] at this;exact this
 ·rw [if_neg hfl];rw [if_neg hfl] at han;have hmx : (if 0 > r.2.2 then 0 else r.2.2) = max r.2.2 0 := by split <;> omega
  obtain ⟨H5, e5, g5⟩ := Star.stEnd (A := W r.1 w4 ++ X) (by simpa using g4) 3 (v := .int .i64 (max r.2.2 0)) rfl rfl (by simp);simp only [List.set_cons_zero, List.set_cons_succ] at g5;have hq5 := g5.memBlk (c := q) (k := ⟨[machV m, ptrV c, .int .i64 e.next, .int .i64 (max r.2.2 0), .int .i64 (d.stp + 1), .int .i64 d.rest], 1, false⟩) (by simp);obtain ⟨H6, e6, g6⟩ := g5.stEnd 5 (v := .int .i64 0) rfl rfl (by simp);simp only [List.set_cons_zero, List.set_cons_succ] at g6;refine ⟨H6, w4, ?_, ?_, hI4, by dsimp only; omega, hnx.1, hnx.2.1⟩
  ·rw [ζ7a];simp -implicitDefEqProofs (disch := omega) [-stR_ptr, ζ1m, hcls, hq, hqn, hstep, stR_ptr 4 H.n 0, e2, hq2, he2, e3, hq3, he3, e4, hq4, he4, han, hmx, bne, e5, hq5, e6]
  ·have := g6.take ((W r.1 w4 ++ X).length + 1);rw [take_mid] at this;exact this
set_option maxHeartbeats 1000000 in
theorem ζgb (k : Nat) (m : Mach) (hm : m.ok) {H0 H : Heap} (W : σ → ω → List It) (Inv : σ → Prop) (ln : σ → List Gl) (c : Nat) (hW : ∀ s w, ∃ (i : Nat) (o : Option Nat), (W s w)[i]? = some (itLine c o (ln s))) (a : Value) (f : σ → Int → En → σ × Int × Int) (ha : ActOkG k m H0 W Inv a f)
  (X : List It) (s : σ) (w : ω) (hI : Inv s) (h : Star H0 H (W s w ++ X)) (hl : (ln s).length < 2 ^ 40) :
  ∃ H' w', R (T k) F.ζ41 [machV m, ptrV c, a] H = .ok (.tuple #[.int .i64 (runD m ln f (2 * (ln s).length + 128) (2 * (ln s).length + 128) (s, ⟨0, 0, 0, 0⟩)).1, .int .i64 (runD m ln f (2 * (ln s).length + 128) (2 * (ln s).length + 128) (s, ⟨0, 0, 0, 0⟩)).2.1]) H' ∧
   Star H0 H' (W (runD m ln f (2 * (ln s).length + 128) (2 * (ln s).length + 128) (s, ⟨0, 0, 0, 0⟩)).2.2 w' ++ X) ∧ Inv (runD m ln f (2 * (ln s).length + 128) (2 * (ln s).length + 128) (s, ⟨0, 0, 0, 0⟩)).2.2 := by
 rw [ζjm];obtain ⟨N, hN⟩ : ∃ N, N = 2 * (ln s).length + 128 := ⟨_, rfl⟩
 have hNi : (2 * ((ln s).length : Int) + 128) = (N : Int) := by omega
 obtain ⟨x0, hx0⟩ : ∃ x0 : σ × Drv, x0 = (s, ⟨0, 0, 0, 0⟩) := ⟨_, rfl⟩
 rw [← hN, hNi, ← hx0];generalize hR0 : runD m ln f (N : Int) N x0 = R0;have g := h.push ⟨drvC m c ⟨0, 0, 0, 0⟩, 1, false⟩;obtain ⟨i, o, ho⟩ := hW s w;have hline : (W s w ++ X ++ [itBlk H.n ⟨drvC m c ⟨0, 0, 0, 0⟩, 1, false⟩])[i]? = some (itLine c o (ln s)) := by
  have h0 : i < (W s w).length := (List.getElem?_eq_some_iff.1 ho).1;rw [List.append_assoc, List.getElem?_append_left h0];exact ho
 have hlen := ζfr k g i hline
 obtain ⟨e, eE, H1, hr1, hQ⟩ := loop_up (body := ζaz k (R (T k))) N
  (fun j e H' => e = [(2, a), (8, ptrV H.n), (9, .int .i64 N)] ∧ ∃ (x : σ × Drv) (w : ω), Star H0 H' (W x.1 w ++ X ++ [itBlk H.n ⟨drvC m c x.2, 1, false⟩]) ∧ Inv x.1 ∧ x.2.stp = j ∧ 0 ≤ x.2.pl ∧ x.2.pl ≤ 128 * j ∧ 0 ≤ x.2.rest ∧ x.2.rest ≤ j ∧ (0 ≤ x.2.st ∧ x.2.st < m.rows.length) ∧ runD m ln f N (N - j) x = R0)
  (fun x' e H' => ∃ r : Int × Int × σ, r = R0 ∧ ∃ (d : Drv) (w : ω), Star H0 H' (W r.2.2 w ++ X ++ [itBlk H.n ⟨drvC m c d, 1, false⟩]) ∧ Inv r.2.2 ∧
   ((x' = .ret ∧ e = [(6, .int .i64 r.1), (7, .int .i64 0)] ∧ r.2.1 = 0) ∨ (x' = .exit 0 ∧ d.stp = r.1 ∧ r.2.1 = 4 ∧ (e = [(2, a), (8, ptrV H.n), (9, .int .i64 N), (35, .bool true)] ∨ e = [(2, a), (8, ptrV H.n), (9, .int .i64 N), (23, .bool false)]))))
  (e0 := [(2, a), (8, ptrV H.n), (9, .int .i64 N)]) (H0 := H.push ⟨drvC m c ⟨0, 0, 0, 0⟩, 1, false⟩)
  ⟨rfl, x0, w, by rw [hx0]; exact g, by rw [hx0]; exact hI, by rw [hx0]; rfl, by rw [hx0]; exact Int.le_refl _, by rw [hx0]; exact Int.le_refl _, by rw [hx0]; exact Int.le_refl _, by rw [hx0]; exact Int.le_refl _, by rw [hx0]; have := hm.two; dsimp only; omega, by rw [Nat.sub_zero]; exact hR0⟩ (by omega)
  (fun j e H' hj ⟨he, x, w, g, hI, h1, h2, h3, h4, h5, hse, hrun⟩ => by
   subst he;obtain ⟨H2, w2, e2, g2, hI2, h6, h7⟩ := ζf1 k m hm W Inv ln c hW a f ha X H.n x.1 w x.2 hI g (by omega) (by omega) (by omega) hse;have hq := g.memBlk (c := H.n) (k := ⟨drvC m c x.2, 1, false⟩) (by simp);have p1 := ζn8 m ln f x;have p2 := stepD_pl m ln f x;have p3 := ζll m ln f x h4;have hlt : x.2.stp < (N : Int) := by omega
   have hNj : N - j = (N - (j + 1)) + 1 := by omega
   rw [hNj] at hrun;unfold runD at hrun;rw [if_pos hlt] at hrun;have hxx : (x.1, x.2) = x := rfl;rw [hxx] at e2 g2 hI2 h6 h7;generalize stepD m ln f x = y at *;have hq2 := g2.memBlk (c := H.n) (k := ⟨drvC m c y.1.2, 1, false⟩) (by simp);cases hy : y.2 with
   | true =>
    rw [hy] at hrun e2;simp only [if_true] at hrun;refine .inr ⟨.ret, _, H2, ?_, by simp, _, hrun, y.1.2, w2, g2, hI2, .inl ⟨rfl, rfl, rfl⟩⟩;rw [ζ52];simp -implicitDefEqProofs (disch := omega) [hq, hlt, e2, hq2]
   | false =>
    rw [hy] at hrun e2;simp only [Bool.false_eq_true, if_false] at hrun;by_cases hr : y.1.2.rest > 64
    ·rw [if_pos hr] at hrun;refine .inr ⟨.exit 0, _, H2, ?_, by simp, _, hrun, y.1.2, w2, g2, hI2, .inr ⟨rfl, rfl, rfl, .inl rfl⟩⟩;rw [ζ52];simp -implicitDefEqProofs (disch := omega) [hq, hlt, e2, hq2, hr]
    ·rw [if_neg hr] at hrun;refine .inl ⟨_, H2, ?_, rfl, y.1, w2, g2, hI2, by omega, p2, by omega, p3.1, by omega, h7, hrun⟩;rw [ζ52];simp -implicitDefEqProofs (disch := omega) [hq, hlt, e2, hq2, hr])
  (fun e H' ⟨he, x, w, g, hI, h1, h2, h3, h4, h5, hse, hrun⟩ => by
   subst he;rw [Nat.sub_self] at hrun;have hq := g.memBlk (c := H.n) (k := ⟨drvC m c x.2, 1, false⟩) (by simp);refine ⟨.exit 0, _, H', ?_, by simp, _, hrun, x.2, w, g, hI, .inr ⟨rfl, rfl, rfl, .inr rfl⟩⟩;have hnl : ¬ x.2.stp < (N : Int) := by omega
   rw [ζ52];simp -implicitDefEqProofs (disch := omega) [hq, hnl])
 obtain ⟨r, hr, d, w3, g, hIr, hcase⟩ := hQ;subst hr;have hq := g.memBlk (c := H.n) (k := ⟨drvC m c d, 1, false⟩) (by simp);have gX : Star H0 H1 (W r.2.2 w3 ++ X) := g.ζbb;refine ⟨H1, w3, ?_, gX, hIr⟩;rcases hcase with ⟨rfl, rfl, hc⟩ | ⟨rfl, hd, hc, rfl | rfl⟩
 ·rw [hc];simp -implicitDefEqProofs (disch := omega) [ζ41, hlen, hNi, hr1, ζez]
 ·rw [hc];simp -implicitDefEqProofs (disch := omega) [ζ41, hlen, hNi, hr1, ζdo, hq, hd]
 ·rw [hc];simp -implicitDefEqProofs (disch := omega) [ζ41, hlen, hNi, hr1, ζby, hq, hd]
def DoOkG (k : Nat) (m : Mach) (H0 : Heap) (W : σ → ω → List It) (Inv : σ → Prop) (a : Value) (g : σ → Int → En → σ) : Prop :=
 ∀ s w i e H X, Inv s → Star H0 H (W s w ++ X) → 0 ≤ i → i < 2 ^ 50 → e ∈ m.ents →
  ∃ v H' w', callV (R (T k)) a [.int .i64 i, encE e] H = .ok v H' ∧ Star H0 H' (W (g s i e) w' ++ X) ∧ Inv (g s i e)
theorem ζmx (k : Nat) {m : Mach} {H0 : Heap} {W : σ → ω → List It} {Inv : σ → Prop} {a : Value} {g : σ → Int → En → σ} (h : DoOkG k m H0 W Inv a g) (p : Nat) :
  ActOkG k m H0 (fun s w => W s w ++ [itBlk p ⟨[a], 1, false⟩]) Inv (.func (.func F.ζ1f) #[] #[ptrV p]) (fun s i e => (g s i e, i, i + 1)) := by
 intro s w i e H X hI st h0 h1 he;have st2 := st.push ⟨encEn e, 1, false⟩;have hp := st2.memBlk (c := p) (k := ⟨[a], 1, false⟩) (by simp);have hpn : ¬ p = H.n := by have := Heap.get_lt (st.memBlk (c := p) (k := ⟨[a], 1, false⟩) (by simp)); omega
 obtain ⟨v, H', w', e1, st3, hI2⟩ := h s w i e (H.push ⟨encEn e, 1, false⟩) ([itBlk p ⟨[a], 1, false⟩] ++ X ++ [itBlk H.n ⟨encEn e, 1, false⟩]) hI (by simpa [List.append_assoc] using st2) h0 h1 he;have st4 : Star H0 H' (W (g s i e) w' ++ [itBlk p ⟨[a], 1, false⟩] ++ X) := by
  have : W (g s i e) w' ++ ([itBlk p ⟨[a], 1, false⟩] ++ X ++ [itBlk H.n ⟨encEn e, 1, false⟩]) = (W (g s i e) w' ++ [itBlk p ⟨[a], 1, false⟩] ++ X) ++ [itBlk H.n ⟨encEn e, 1, false⟩] := by simp
  rw [this] at st3;exact st3.ζbb
 refine ⟨H', w', ?_, st4, hI2, by dsimp only; omega, by dsimp only; omega⟩;simp only [callV, List.nil_append, List.cons_append];rw [ζcq, nrm_of];simp -implicitDefEqProofs (disch := omega) [ζ1f, hp, hpn, e1]
end Go.Sw
end
section
namespace Go.Sw
open Go.RowKit
set_option maxHeartbeats 4000000 in
theorem ζdu (k : Nat) (t : LTab) (ht : t.ok) {H0 H : Heap} {L : List It} (h : Star H0 H L) (il ip : Nat) (hne : il ≠ ip) {c cp : Nat} {o ob : Option Nat} {l : List Gl} {ps : List Int} (hil : L[il]? = some (itLine c o l)) (hip : L[ip]? = some (itLP cp ob ps)) (hps : ps.length ≤ 64) (a : Int) (ha : 0 ≤ a ∧ a < 65536) (hlast : lastB t.acts a = true) :
  ∃ ob' H', R (T k) F.ζ8 [ligaV t, ptrV c, ptrV cp, .int .i64 a] H = .ok (.tuple #[]) H' ∧ Star H0 H' ((L.set il (itLine c o (perfS t ps a 0 [] l).1)).set ip (itLP cp ob' (perfS t ps a 0 [] l).2)) := by
 have hltl := (List.getElem?_eq_some_iff.1 hil).1;have hltp := (List.getElem?_eq_some_iff.1 hip).1;obtain ⟨res, hres⟩ : ∃ res, res = perfS t ps a 0 [] l := ⟨_, rfl⟩
 rw [← hres];obtain ⟨S, hS⟩ : ∃ S : List Gl → Option Nat → List Int → Option Nat → Value → List Int → List It, S = fun l' ob' ps' og s gone => (L.set il (itLine c o l')).set ip (itLP cp ob' ps') ++ [itRow og 1 s encI gone] := ⟨_, rfl⟩
 have hSv : ∀ l' ob' ps' og s gone, S l' ob' ps' og s gone = (L.set il (itLine c o l')).set ip (itLP cp ob' ps') ++ [itRow og 1 s encI gone] := fun _ _ _ _ _ _ => by rw [hS]
 clear hS;have atl : ∀ l' ob' ps' og s gone, (S l' ob' ps' og s gone)[il]? = some (itLine c o l') := fun l' ob' ps' og s gone => by
  rw [hSv, List.getElem?_append_left (by simpa using hltl), List.getElem?_set_ne (fun h => hne h.symm), List.getElem?_set_self hltl]
 have atp : ∀ l' ob' ps' og s gone, (S l' ob' ps' og s gone)[ip]? = some (itLP cp ob' ps') := fun l' ob' ps' og s gone => by
  rw [hSv, List.getElem?_append_left (by simpa using hltp), List.getElem?_set_self (by simpa using hltp)]
 have atr : ∀ l' ob' ps' og s gone, (S l' ob' ps' og s gone)[L.length]? = some (itRow og 1 s encI gone) := fun l' ob' ps' og s gone => by
  rw [hSv, List.getElem?_append_right (by simp)];simp
 have setl : ∀ l' l2 ob' ps' og s gone, (S l' ob' ps' og s gone).set il (itLine c o l2) = S l2 ob' ps' og s gone := fun l' l2 ob' ps' og s gone => by
  rw [hSv, hSv, List.set_append_left _ _ (by simpa using hltl), List.set_comm _ _ (fun h => hne h.symm), List.set_set]
 have setp : ∀ l' ob' ps' ob2 ps2 og s gone, (S l' ob' ps' og s gone).set ip (itLP cp ob2 ps2) = S l' ob2 ps2 og s gone := fun l' ob' ps' ob2 ps2 og s gone => by
  rw [hSv, hSv, List.set_append_left _ _ (by simpa using hltp), List.set_set]
 have setr : ∀ l' ob' ps' og s gone og2 s2 gone2, (S l' ob' ps' og s gone).set L.length (itRow og2 1 s2 encI gone2) = S l' ob' ps' og2 s2 gone2 := fun l' ob' ps' og s gone og2 s2 gone2 => by
  rw [hSv, hSv, List.set_append_right _ _ (by simp)];simp
 have fin : ∀ {H' : Heap} {l' ob' ps' og s gone}, Star H0 H' (S l' ob' ps' og s gone) → (l', ps') = res → ∃ ob', Star H0 H' ((L.set il (itLine c o res.1)).set ip (itLP cp ob' res.2)) := fun {H' l' ob' ps' og s gone} g he => by
  rw [hSv] at g;subst he;exact ⟨ob', g.ζbb⟩
 have h1 : Star H0 H (S l ob ps none (.slice none 0 0) []) := by
  rw [hSv, set_same hil, set_same hip];exact h.more_row (Ext.refl _) (OwnO.nil encI _ 1) (fun b hb => by cases hb)
 have hvb : veq (vwB t.comps) (vwB t.comps) = true := veq_agg (l := [lv encB t.comps]) fun u hu => by simp at hu; subst hu; exact veq_B t.comps
 obtain ⟨xx, e', H1, hr, hE, g⟩ := loop_up (body := ζ3g k (R (T k))) ps.length
  (fun j e H' => ∃ (sum : Int) (gone : List Int) (l' : List Gl) (og ob' : Option Nat) (s : Value), e = [(0, ligaV t), (1, ptrV c), (2, ptrV cp), (3, .int .i64 (a + j)), (8, .int .i64 sum), (9, s)] ∧ Star H0 H' (S l' ob' (ps.drop j) og s gone) ∧ lastB t.acts (a + j) = true ∧ 0 ≤ sum ∧ sum ≤ 65535 * j ∧ gone.length ≤ j ∧ perfS t (ps.drop j) (a + j) sum gone l' = res)
  (fun xx e H' => (xx = .ret ∧ ((∃ b0 b8 b9 b10 b24, e = [(0, b0), (1, ptrV c), (2, ptrV cp), (3, .int .i64 (a + ps.length)), (8, b8), (9, b9), (10, b10), (24, b24)]) ∨ (∃ b0 b3 b8 b9 b10 b12 b15 b52, e = [(0, b0), (1, ptrV c), (2, ptrV cp), (3, b3), (8, b8), (9, b9), (10, b10), (12, b12), (15, b15), (52, b52)]) ∨ (∃ b0 b3 b8 b10 b12 b65, e = [(0, b0), (1, ptrV c), (2, ptrV cp), (3, b3), (8, b8), (10, b10), (12, b12), (65, b65)]) ∨ e = [])) ∧ ∃ ob', Star H0 H' ((L.set il (itLine c o res.1)).set ip (itLP cp ob' res.2)))
  (e0 := [(0, ligaV t), (1, ptrV c), (2, ptrV cp), (3, .int .i64 a), (8, .int .i64 0), (9, .slice none 0 0)]) (H0 := H) ⟨0, [], l, none, ob, .slice none 0 0, by simp, by simpa using h1, by simpa using hlast, Int.le_refl _, Int.le_refl _, Nat.le_refl _, by simpa using hres.symm⟩ (by omega)
  (fun j e H' hj ⟨sum, gone, l', og, ob', s, he, g, hl, hs0, hs1, hgl, hp⟩ => by
   subst he;have hd : ps.drop j = ps[j] :: ps.drop (j + 1) := List.drop_eq_getElem_cons hj;obtain ⟨x, hx⟩ : ∃ x, x = ps[j] := ⟨_, rfl⟩
   rw [← hx] at hd;have hdl : (ps.drop (j + 1)).length ≤ 63 := by rw [List.length_drop]; omega
   rw [hd] at hp g;obtain ⟨H2, e2, g⟩ := ζdv k g ip (by rw [List.length_cons]; omega) (atp _ _ _ _ _ _);rw [setp] at g;simp only [List.head?_cons, Option.getD_some, List.isEmpty_cons, Bool.not_false, List.tail_cons] at e2 g;obtain ⟨y, hy, hgy, hy0, hy1, hyl, hyn⟩ := ζmm ht.byt.1 (by omega) hl;have hU := fun H' => U32_run k (H := H') (Sl.lv H' 1 t.acts) ht.byt.1 (4 * (a + j)) (by have := ht.len.1; omega);rw [hy] at hU;have hat := ζe1 k g il (atl _ _ _ _ _ _) x;obtain ⟨q, hq⟩ : ∃ q, q = (atG l' x).getD ⟨0, 0⟩ := ⟨_, rfl⟩
   have hatA : encA (atG l' x) = .agg (encG q).toArray := by rw [hq]; rfl
   rw [hatA] at hat;have hoff := fun H' => ζgi k y hy0 hy1 H';have hen := fun H' => ζci k t.comps ht.byt.2.1 ht.len.2.1 (IntKind.i64.wrap (q.id + offS y)) H';have hx2 : Ext H2 (H2.push ⟨encG q, 1, false⟩) := (Ext.refl H2).push _;have gq : (H2.push ⟨encG q, 1, false⟩).get H2.n = some ⟨encG q, 1, false⟩ := ζe _ _ _ rfl;unfold perfS at hp;rw [hgy, ← hq] at hp;have gp := g.rest hx2;cases hc : entryS t.comps (IntKind.i64.wrap (q.id + offS y)) with
   | none =>
    rw [hc] at hp hen;dsimp only at hp;refine .inr ⟨.ret, _, _, ?_, by simp, ⟨rfl, .inr (.inl ⟨ligaV t, .int .i64 (a + j), .int .i64 sum, s, .int .i64 x, .int .i64 y, .int .i64 0, .bool true, rfl⟩)⟩, fin gp hp⟩;rw [ζy];simp -implicitDefEqProofs (disch := omega) [e2, hU, orF, hat, hoff, hen, gq, hvb]
   | some part =>
    rw [hc] at hp hen;dsimp only at hp;have hpart : 0 ≤ part ∧ part < 65536 := by
     unfold entryS at hc;split at hc
     ·injection hc with hc;subst hc;obtain ⟨z, hz⟩ : ∃ z, uS t.comps (2 * IntKind.i64.wrap (q.id + offS y)) 2 = some z := uS_of_in (by unfold inS; rw [decide_eq_true_eq]; omega);rw [gU_some hz];exact uS_two ht.byt.2.1 hz
     ·cases hc
    have hw : IntKind.i64.wrap (sum + part) = sum + part := wrap_i64 (by omega) (by omega);have an := fun H => and3031 Prog 3 H hy0 hy1;have an2 := fun H => and31 Prog 3 H hy0 hy1;have hgl2 : gone.length < 2 ^ 31 := by omega
    have hj1 : a + ((j + 1 : Nat) : Int) = a + j + 1 := by omega
    by_cases d1 : y ≥ 1073741824
    ·rw [if_pos d1] at hp;have hne0 : (y / 1073741824 * 1073741824 == 0) = false := by rw [beq_eq_false_iff_ne]; omega
     obtain ⟨H3, e3, g3⟩ := ζgj k t ht gp il L.length (by omega) (atl _ _ _ _ _ _) (atr _ _ _ _ _ _) hgl2 x (sum + part);rw [setl] at g3;cases hlg : entryS t.ligs (sum + part) with
     | none =>
      rw [hlg] at hp e3 g3;dsimp only at hp g3;refine .inr ⟨.ret, _, _, ?_, by simp, ⟨rfl, .inr (.inr (.inl ⟨ligaV t, .int .i64 (a + j), .int .i64 (sum + part), .int .i64 x, .int .i64 y, .bool true, rfl⟩))⟩, fin g3 hp⟩;rw [ζy];simp -implicitDefEqProofs (disch := omega) [e2, hU, orF, hat, hoff, hen, gq, hvb, hw, an, bne, hne0, e3]
     | some id =>
      rw [hlg] at hp e3 g3;dsimp only at hp g3;by_cases d2 : y ≥ 2147483648
      ·rw [if_pos d2] at hp an2;obtain ⟨ob2, H4, e4, g4⟩ := ζcj k g3 ip (by omega) (atp _ _ _ _ _ _) x;rw [setp] at g4;refine .inr ⟨.ret, _, _, ?_, by simp, ⟨rfl, .inr (.inr (.inr rfl))⟩, fin g4 hp⟩;rw [ζy];simp -implicitDefEqProofs (disch := omega) [e2, hU, orF, hat, hoff, hen, gq, hvb, hw, an, hne0, e3, ζ44, an2, bne, e4]
      ·rw [if_neg d2] at hp an2;have g3 := g3.same L.length (atr _ _ _ _ _ _) (itRow none 1 (.slice none 0 0) encI []) (OwnO.nil encI _ 1) (fun b hb => by simp [itRow] at hb);rw [setr] at g3;obtain ⟨s5, o5, H5, e5, g5⟩ := g3.append1 (bytes := 8) L.length encI_len (atr _ _ _ _ _ _) x (by simp) (by decide);rw [setr] at g5;refine .inl ⟨_, H5, ?_, sum + part, [x], storeG l' x id gone, o5, ob', s5, rfl, g5, by rw [hj1]; exact hyn d2, by omega, by omega, by simp, by rw [hj1]; exact hp⟩;rw [ζy, hj1];simp -implicitDefEqProofs (disch := omega) [e2, hU, orF, hat, hoff, hen, gq, hvb, hw, an, hne0, e3, ζ44, an2, bne, e5]
    ·rw [if_neg d1] at hp;have hne0 : (y / 1073741824 * 1073741824 == 0) = true := by rw [beq_iff_eq]; omega
     rw [if_neg (show ¬ y ≥ 2147483648 by omega)] at an2;obtain ⟨s5, o5, H5, e5, g5⟩ := gp.append1 (bytes := 8) L.length encI_len (atr _ _ _ _ _ _) x (by omega) (by decide);rw [setr] at g5;simp only [hn_push] at e5;refine .inl ⟨_, H5, ?_, sum + part, gone ++ [x], l', o5, ob', s5, rfl, g5, by rw [hj1]; exact hyn (by omega), by omega, by omega, by simp; omega, by rw [hj1]; exact hp⟩;rw [ζy, hj1];simp -implicitDefEqProofs (disch := omega) [e2, hU, orF, hat, hoff, hen, gq, hvb, hw, an, hne0, ζ8k, an2, bne, e5])
  (fun e H' ⟨sum, gone, l', og, ob', s, he, g, hl, hs0, hs1, hgl, hp⟩ => by
   subst he;rw [List.drop_length] at g hp;obtain ⟨H2, e2, g⟩ := ζdv k g ip (by simp) (atp _ _ _ _ _ _);rw [setp] at g;simp only [List.head?_nil, Option.getD_none, List.isEmpty_nil, Bool.not_true, List.tail_nil] at e2 g;refine ⟨.ret, _, H2, ?_, by simp, ⟨rfl, .inl ⟨ligaV t, .int .i64 sum, s, .int .i64 0, .bool true, rfl⟩⟩, fin g hp⟩;rw [ζy];simp -implicitDefEqProofs [e2])
 obtain ⟨ob', g⟩ := g;obtain ⟨rfl, hE⟩ := hE;refine ⟨ob', H1, ?_, g⟩;rw [ζb2, nrm_of];rcases hE with ⟨b0, b8, b9, b10, b24, rfl⟩ | ⟨b0, b3, b8, b9, b10, b12, b15, b52, rfl⟩ | ⟨b0, b3, b8, b10, b12, b65, rfl⟩ | rfl
 ·simp -implicitDefEqProofs [ζ8, hr, ζ8l]
 ·simp -implicitDefEqProofs [ζ8, hr, ζ7o]
 ·simp -implicitDefEqProofs [ζ8, hr, ζ7p]
 ·simp -implicitDefEqProofs [ζ8, hr, ζ7q]
end Go.Sw
end
section
namespace Go.Sw
open Go.RowKit
theorem veq_liga (t : LTab) : veq (ligaV t) (ligaV t) = true := veq_boxV (l := ligaC t) fun v hv => by
 simp [ligaC] at hv;rcases hv with rfl | rfl | rfl | rfl
 ·exact veq_mach _
 ·exact veq_B _
 ·exact veq_B _
 ·exact veq_B _
def ligaW (t : LTab) (L : List It) (il c p3 p4 cp : Nat) (o : Option Nat) (s : List Gl × List Int) (ob : Option Nat) : List It :=
 L.set il (itLine c o s.1) ++ [itLP cp ob s.2, itBlk p3 ⟨[ptrV c], 1, false⟩, itBlk p4 ⟨[ligaV t], 1, false⟩]
set_option maxHeartbeats 2000000 in
theorem liga_do (k : Nat) (t : LTab) (ht : t.ok) (L : List It) (il c p3 p4 cp : Nat) (o : Option Nat) (hil : il < L.length) (n : Int) {H0 : Heap} :
  DoOkG k t.m H0 (ligaW t L il c p3 p4 cp o) (fun s => (s.1.length : Int) = n ∧ KeptOk n s.2) (.func (.func F.ζg) #[] #[ptrV p3, ptrV cp, ptrV p4]) (doLi t) := by
 intro s w j e H X hI st h0 h1 he;have hlen' := doLi_len t s j e;have hkept' := ζm8 t hI.1 hI.2 h0 e;obtain ⟨l, ps⟩ := s;dsimp only at hI hlen' hkept';have heb := ht.m.ent e he;have hhas := ht.has e he;unfold ligaW at st;dsimp only at st;obtain ⟨B, hB⟩ : ∃ B : List It, B = [itBlk p3 ⟨[ptrV c], 1, false⟩, itBlk p4 ⟨[ligaV t], 1, false⟩] ++ (X ++ [itBlk H.n ⟨encEn e, 1, false⟩]) := ⟨_, rfl⟩
 obtain ⟨S, hS⟩ : ∃ S : List Gl → Option Nat → List Int → List It, S = fun l' ob' ps' => L.set il (itLine c o l') ++ itLP cp ob' ps' :: B := ⟨_, rfl⟩
 have hSv : ∀ l' ob' ps', S l' ob' ps' = L.set il (itLine c o l') ++ itLP cp ob' ps' :: B := fun _ _ _ => by rw [hS]
 clear hS;have hpx : ∀ l' ob' ps', (S l' ob' ps')[L.length]? = some (itLP cp ob' ps') := fun l' ob' ps' => by
  rw [hSv, List.getElem?_append_right (by simp)];simp
 have hlx : ∀ l' ob' ps', (S l' ob' ps')[il]? = some (itLine c o l') := fun l' ob' ps' => by
  rw [hSv, List.getElem?_append_left (by simpa using hil), List.getElem?_set_self hil]
 have setP : ∀ l' ob' ps' ob2 ps2, (S l' ob' ps').set L.length (itLP cp ob2 ps2) = S l' ob2 ps2 := fun l' ob' ps' ob2 ps2 => by
  rw [hSv, hSv, List.set_append_right _ _ (by simp)];simp
 have setL : ∀ l' ob' ps' l2, (S l' ob' ps').set il (itLine c o l2) = S l2 ob' ps' := fun l' ob' ps' l2 => by
  rw [hSv, hSv, List.set_append_left _ _ (by simpa using hil), List.set_set]
 have look : ∀ {H' : Heap} {l' ob' ps'}, Star H0 H' (S l' ob' ps') → H'.get p3 = some ⟨[ptrV c], 1, false⟩ ∧ H'.get p4 = some ⟨[ligaV t], 1, false⟩ ∧ H'.get H.n = some ⟨encEn e, 1, false⟩ ∧ R (T k) F.ζ2h [ptrV c] H' = .ok (.int .i64 l'.length) H' := fun {H' l' ob' ps'} h => by
  have hl := ζfr k h il (hlx _ _ _);rw [hSv, hB] at h;exact ⟨h.memBlk (by simp), h.memBlk (by simp), h.memBlk (by simp), hl⟩
 have st2 : Star H0 (H.push ⟨encEn e, 1, false⟩) (S l w ps) := by
  have := st.push ⟨encEn e, 1, false⟩;rw [hSv, hB];simpa using this
 have fin : ∀ {H' : Heap} {l' ob' ps'}, Star H0 H' (S l' ob' ps') → Star H0 H' (ligaW t L il c p3 p4 cp o (l', ps') ob' ++ X) := fun {H' l' ob' ps'} h => by
  rw [hSv, hB] at h;have e1 : L.set il (itLine c o l') ++ itLP cp ob' ps' :: ([itBlk p3 ⟨[ptrV c], 1, false⟩, itBlk p4 ⟨[ligaV t], 1, false⟩] ++ (X ++ [itBlk H.n ⟨encEn e, 1, false⟩])) = (ligaW t L il c p3 p4 cp o (l', ps') ob' ++ X) ++ [itBlk H.n ⟨encEn e, 1, false⟩] := by
   unfold ligaW;simp
  rw [e1] at h;exact h.ζbb
 have ha15 := fun H => and15 Prog 3 H heb.2.2.1 heb.2.2.2.1;have ha13 := fun H => and13 Prog 3 H heb.2.2.1 heb.2.2.2.1;obtain ⟨v3, v4, v7, v8⟩ := look st2;clear st;obtain ⟨k1, hk1⟩ : ∃ k1, k1 = if e.flags ≥ 32768 ∧ j < (l.length : Int) then pushP j ps else ps := ⟨_, rfl⟩
 have hdo : doLi t (l, ps) j e = if e.flags / 8192 % 2 = 1 then perfS t k1 e.a 0 [] l else (l, k1) := by
  unfold doLi;rw [hk1]
 have hk64 : k1.length ≤ 64 := by
  rw [hk1];split
  ·rename_i hc;exact (pushP_ok hI.2 ⟨h0, by rw [← hI.1]; exact hc.2⟩).1
  ·exact hI.2.1
 -- the second part
 have tail : ∀ {H' : Heap} {ob1}, Star H0 H' (S l ob1 k1) → ∃ H'' w', ζ3e k (R (T k)) (ptrV p3) (ptrV cp) (ptrV p4) (ptrV H.n) H' = .ok (.tuple #[]) H'' ∧ (∀ a0 a16, ζ3f k (R (T k)) a0 (ptrV p3) (ptrV cp) (ptrV p4) (ptrV H.n) a16 H' = .ok (.tuple #[]) H'') ∧ Star H0 H'' (ligaW t L il c p3 p4 cp o (doLi t (l, ps) j e) w' ++ X) := fun {H' ob1} h => by
  obtain ⟨w3, w4, w7, _⟩ := look h;rw [hdo];by_cases d : e.flags / 8192 % 2 = 1
  ·rw [if_pos d] at ha13 ⊢;obtain ⟨ob2, H2, e2, g2⟩ := ζdu k t ht h il L.length (by omega) (hlx _ _ _) (hpx _ _ _) hk64 e.a (by omega) (hhas.resolve_left (fun hh => hh d));rw [setL, setP] at g2;refine ⟨H2, ob2, ?_, fun a0 a16 => ?_, fin g2⟩
   ·rw [ζ42];simp -implicitDefEqProofs (disch := omega) [w7, ha13, bne, w3, w4, e2]
   ·rw [ζ43];simp -implicitDefEqProofs (disch := omega) [w7, ha13, bne, w3, w4, e2]
  ·rw [if_neg d] at ha13 ⊢;refine ⟨H', ob1, ?_, fun a0 a16 => ?_, fin h⟩
   ·rw [ζ42];simp -implicitDefEqProofs (disch := omega) [w7, ha13, bne]
   ·rw [ζ43];simp -implicitDefEqProofs (disch := omega) [w7, ha13, bne]
 by_cases d2 : e.flags ≥ 32768
 ·rw [if_pos d2] at ha15;by_cases d3 : j < (l.length : Int)
  ·rw [if_pos ⟨d2, d3⟩] at hk1;obtain ⟨ob1, H2, e2, g2⟩ := ζcj k st2 L.length hI.2.1 (hpx _ _ _) j;rw [setP, ← hk1] at g2;obtain ⟨H3, w', t1, _, t3⟩ := tail g2;refine ⟨.tuple #[], H3, w', ?_, t3, ⟨by rw [hlen']; exact hI.1, hkept'⟩⟩;simp only [callV, List.nil_append, List.cons_append];rw [ζ3p, nrm_of];simp -implicitDefEqProofs (disch := omega) [ζg, v7, ha15, bne, v3, v8, d3, e2, t1]
  ·rw [if_neg fun h => d3 h.2] at hk1;rw [← hk1] at st2;obtain ⟨H3, w', _, t1, t3⟩ := tail st2;refine ⟨.tuple #[], H3, w', ?_, t3, ⟨by rw [hlen']; exact hI.1, hkept'⟩⟩;simp only [callV, List.nil_append, List.cons_append];rw [ζ3p, nrm_of];simp -implicitDefEqProofs (disch := omega) [ζg, v7, ha15, bne, v3, v8, d3, t1]
 ·rw [if_neg d2] at ha15;rw [if_neg fun h => d2 h.1] at hk1;rw [← hk1] at st2;obtain ⟨H3, w', _, t1, t3⟩ := tail st2;refine ⟨.tuple #[], H3, w', ?_, t3, ⟨by rw [hlen']; exact hI.1, hkept'⟩⟩;simp only [callV, List.nil_append, List.cons_append];rw [ζ3p, nrm_of];simp -implicitDefEqProofs (disch := omega) [ζg, v7, ha15, bne, t1]
set_option maxRecDepth 20000 in
set_option maxHeartbeats 1000000 in
theorem ζi4 (k : Nat) (t : LTab) (ht : t.ok) {H0 H : Heap} {L : List It} (h : Star H0 H L) (il : Nat) {c : Nat} {o : Option Nat} {l : List Gl} (hil : L[il]? = some (itLine c o l)) (hl : l.length < 2 ^ 40) :
  ∃ H', R (T k) F.ζ3a [ligaV t, ptrV c] H = .ok (.int .i64 (runL t l).2) H' ∧ Star H0 H' (L.set il (itLine c o (runL t l).1)) := by
 have hll := (List.getElem?_eq_some_iff.1 hil).1;have st := ((h.push ⟨[ligaV t], 1, false⟩).push ⟨[ptrV c], 1, false⟩).push ⟨[.slice none 0 0], 1, false⟩;simp only [hn_push] at st;obtain ⟨H3, hH3⟩ : ∃ H3, H3 = ((H.push ⟨[ligaV t], 1, false⟩).push ⟨[ptrV c], 1, false⟩).push ⟨[.slice none 0 0], 1, false⟩ := ⟨_, rfl⟩
 rw [← hH3] at st;have ik : (L ++ [itBlk H.n ⟨[ligaV t], 1, false⟩] ++ [itBlk (H.n + 1) ⟨[ptrV c], 1, false⟩] ++ [itBlk (H.n + 1 + 1) ⟨[.slice none 0 0], 1, false⟩])[L.length + 2]? = some (itBlk (H.n + 1 + 1) ⟨[.slice none 0 0], 1, false⟩) := by
  rw [List.getElem?_append_right (by simp)];simp
 have st := st.same (L.length + 2) ik (itLP (H.n + 1 + 1) none []) ⟨_, st.get _ ik, .inl ⟨rfl, rfl, rfl⟩⟩ fun b hb => by simpa [itLP, itBlk] using hb
 have eset : ∀ (x1 x2 x3 y : It), (L ++ [x1] ++ [x2] ++ [x3]).set (L.length + 2) y = L ++ ([x1, x2] ++ [y]) := fun x1 x2 x3 y => by
  rw [List.set_append_right _ _ (by simp)];simp
 rw [eset] at st;have st : Star H0 H3 (ligaW t L il c (H.n + 1) H.n (H.n + 1 + 1) o (l, []) none) := by
  refine st.perm ?_;unfold ligaW;dsimp only;rw [set_same hil];refine List.Perm.append_left L ?_;exact List.perm_append_comm.trans (List.Perm.cons _ (List.Perm.swap _ _ _))
 have ePl := plainNew k (.func F.ζg) #[] #[ptrV (H.n + 1), ptrV (H.n + 1 + 1), ptrV H.n] H3;have st4 := st.push ⟨[.func (.func F.ζg) #[] #[ptrV (H.n + 1), ptrV (H.n + 1 + 1), ptrV H.n]], 1, false⟩;have hact := ζmx k (liga_do k t ht L il c (H.n + 1) H.n (H.n + 1 + 1) o hll (l.length : Int) (H0 := H0)) H3.n
 obtain ⟨H7, w7, eR, st5, _⟩ := ζgb k t.m ht.m (fun (s : List Gl × List Int) (ob : Option Nat) => ligaW t L il c (H.n + 1) H.n (H.n + 1 + 1) o s ob ++ [itBlk H3.n ⟨[.func (.func F.ζg) #[] #[ptrV (H.n + 1), ptrV (H.n + 1 + 1), ptrV H.n]], 1, false⟩]) (fun s => (s.1.length : Int) = (l.length : Int) ∧ KeptOk (l.length : Int) s.2) (fun s => s.1) c
  (fun s ob => ⟨il, o, by
   unfold ligaW;rw [List.append_assoc, List.getElem?_append_left (by simpa using hll), List.getElem?_set_self hll]⟩) _ _ hact [] (l, []) none ⟨rfl, by simp, fun x hx => by simp at hx⟩ (by simpa [List.append_assoc] using st4) hl
 have hr : runD t.m (fun s : List Gl × List Int => s.1) (fun s i e => (doLi t s i e, i, i + 1)) (2 * (l.length : Int) + 128) (2 * l.length + 128) ((l, []), ⟨0, 0, 0, 0⟩) = runLr t l := by unfold runLr; rfl
 rw [hr] at eR st5;have b0 := st4.memBlk (c := H.n) (k := ⟨[ligaV t], 1, false⟩) (by unfold ligaW; simp);have b1 := st4.memBlk (c := H.n + 1) (k := ⟨[ptrV c], 1, false⟩) (by unfold ligaW; simp);refine ⟨H7, ?_, ?_⟩
 ·rw [ζdw, nrm_of];have v1 := veq_liga t;have v2 := veq_mach t.m;unfold runL;generalize runLr t l = r at eR ⊢;rw [hH3] at ePl eR b0 b1;simp only [hn_push] at ePl eR;simp -implicitDefEqProofs (disch := omega) [ζ3a, ePl, eR, v1, v2]
 ·unfold runL;generalize runLr t l = r at st5 ⊢;unfold ligaW at st5;have := st5.take L.length;rw [List.append_assoc, List.append_assoc, List.take_append_of_le_length (by simp), List.take_of_length_le (by simp)] at this;exact this
end Go.Sw
end
section
namespace Go.Sw
open Go.RowKit
theorem wf_u32 {n : Int} (h : (Lit.int .u32 n).wf = true) : 0 ≤ n ∧ n < 4294967296 := by
 simp [Lit.wf, IntKind.min, IntKind.max, IntKind.signed, IntKind.bits] at h;omega
abbrev lplSh : ASh := .agg [.slice [.int .u8], .slice [.slice [.int .u8]], .slice [.int .i64, .int .i64, .int .i64, .int .i64], .int .u8, .slice [.int .u32], .slice [.int .u16], .slice [.int .u16]]
theorem row_F {r : List Da} {cs : List Value} (h : LayRow [.int .u32] r cs) : ∃ n : Int, cs = encF n ∧ (0 ≤ n ∧ n < 4294967296) := by
 obtain ⟨_, v1, _, _, rfl, h1, h⟩ := h.head;obtain rfl := h.done;obtain ⟨n, rfl, w⟩ := h1.intv;exact ⟨n, rfl, wf_u32 w⟩
theorem row_H {r : List Da} {cs : List Value} (h : LayRow [.int .u16] r cs) : ∃ n : Int, cs = encH n ∧ (0 ≤ n ∧ n < 65536) := by
 obtain ⟨_, v1, _, _, rfl, h1, h⟩ := h.head;obtain rfl := h.done;obtain ⟨n, rfl, w⟩ := h1.intv;exact ⟨n, rfl, wf_u16 w⟩
theorem arg_lpl {v : Value} (h : ArgLay lplSh v) : ∃ x, v = lplV x ∧ x.ok := by
 cases h with
 | agg ss ds vs h =>
  obtain ⟨_, v1, _, _, rfl, h1, h⟩ := h.head;obtain ⟨_, v2, _, _, rfl, h2, h⟩ := h.head;obtain ⟨_, v3, _, _, rfl, h3, h⟩ := h.head;obtain ⟨_, v4, _, _, rfl, h4, h⟩ := h.head;obtain ⟨_, v5, _, _, rfl, h5, h⟩ := h.head;obtain ⟨_, v6, _, _, rfl, h6, h⟩ := h.head;obtain ⟨_, v7, _, _, rfl, h7, h⟩ := h.head;obtain rfl := h.done;obtain ⟨a, rfl, wa⟩ := Lay.list (enc := encB) (ok := fun n => 0 ≤ n ∧ n < 256) (fun r cs h => row_B h) h1;obtain ⟨b, rfl, wb⟩ := Lay.list (enc := encBR) (ok := Byt) (fun r cs h => row_BR h) h2;obtain ⟨c, rfl, wc⟩ := Lay.list (enc := encEn) (ok := fun _ => True) (fun r cs h => row_En h) h3;obtain ⟨d, rfl, wd⟩ := h4.intv;obtain ⟨f, rfl, wf⟩ := Lay.list (enc := encF) (ok := fun n => 0 ≤ n ∧ n < 4294967296) (fun r cs h => row_F h) h5;obtain ⟨p, rfl, wp⟩ := Lay.list (enc := encH) (ok := fun n => 0 ≤ n ∧ n < 65536) (fun r cs h => row_H h) h6;obtain ⟨q, rfl, wq⟩ := Lay.list (enc := encH) (ok := fun n => 0 ≤ n ∧ n < 65536) (fun r cs h => row_H h) h7;exact ⟨⟨⟨a, b, c, d⟩, f, p, q⟩, rfl, ⟨⟨wa, wb, wf_u8 wd⟩, wf, wp, wq⟩⟩
end Go.Sw
end
section
set_option maxRecDepth 100000
set_option linter.unusedVariables false
namespace Go.Sw
noncomputable section
def ζ3d (k : Nat) (call : Caller) : Env → Heap → Res (AExit × Env) := loopB (C k) call F.ζb [1, 1, 1, 1, 0, 1, 0, 0]
def ζ4m (k : Nat) (call : Caller) : Kont Value := kBlock 0 (kSeq (pieceK (C k) call F.ζb [1, 1, 1, 1, 1]) (kDone Prog (resOf Prog F.ζb)))
def ζ1t (k : Nat) (call : Caller) : Env → Heap → Res (AExit × Env) := loopB (C k) call F.ζb [1, 1, 1, 1, 1, 1, 1, 1, 1, 0, 1, 0, 0]
def ζ2y (k : Nat) (call : Caller) : Kont Value := kBlock 2 (kSeq (pieceK (C k) call F.ζb [1, 1, 1, 1, 1, 1, 1, 1, 1, 1]) (kDone Prog (resOf Prog F.ζb)))
def ζ8h (k : Nat) (call : Caller) (a4 a6 a8 a13 a14 a75 : Value) (h : Heap) : Res (AExit × Env) :=
 kSeq (pieceK (C k) call F.ζb [1, 1, 1, 1, 1, 1, 1, 1, 1, 0, 1, 0, 0, 1, 1]) (kRound (ownOf (C k) F.ζb [1, 1, 1, 1, 1, 1, 1, 1, 1, 0, 1, 0, 0])) .normal [(4, a4), (6, a6), (8, a8), (13, a13), (14, a14), (75, a75)] h
def ζ2g (k : Nat) (call : Caller) : Env → Heap → Res (AExit × Env) := loopB (C k) call F.ζb [1, 1, 1, 1, 1, 1, 1, 1, 1, 0, 1, 0, 0, 1, 0, 0, 1, 1, 1, 0, 0]
def ζ4n (k : Nat) (call : Caller) : Kont (AExit × Env) := kBlock 4 (kBlock 3 (kSeq (pieceK (C k) call F.ζb [1, 1, 1, 1, 1, 1, 1, 1, 1, 0, 1, 0, 0, 1, 1]) (kRound (ownOf (C k) F.ζb [1, 1, 1, 1, 1, 1, 1, 1, 1, 0, 1, 0, 0]))))
def ζ8i (k : Nat) (call : Caller) (a4 a6 a8 a13 a15 a84 : Value) (h : Heap) : Res (AExit × Env) :=
 kSeq (pieceK (C k) call F.ζb [1, 1, 1, 1, 1, 1, 1, 1, 1, 0, 1, 0, 0, 1, 1]) (kRound (ownOf (C k) F.ζb [1, 1, 1, 1, 1, 1, 1, 1, 1, 0, 1, 0, 0])) .normal [(4, a4), (6, a6), (8, a8), (13, a13), (15, a15), (84, a84)] h
def ζb (k : Nat) (call : Caller) (a0 a1 : Value) (h : Heap) : Res Value :=
 (allocR Prog 103 h).bind fun v1 h2 =>
 (call F.ζ4 [a0, a1, (.int .i64 1)] h2).bind fun v3 h4 =>
 (extractR v3 0 h4).bind fun v5 h6 =>
 (extractR v3 1 h6).bind fun v7 h8 =>
 (allocR Prog 41 h8).bind fun v9 h10 =>
 (storeR Prog 41 v9 v5 h10).bind fun _v11 h12 =>
 (loadR Prog 41 v9 h12).bind fun v13 h14 =>
 (buildR Prog 103 [(0, v13)] h14).bind fun v15 h16 =>
 (allocR Prog 103 h16).bind fun v17 h18 =>
 (storeR Prog 103 v17 v15 h18).bind fun _v19 h20 =>
 (buildSliceR Prog 23 0 [] h20).bind fun v21 h22 =>
 (loopN (ζ3d k call) loopFuel [(0, a0), (4, v1), (6, v9), (7, v7), (8, v17), (9, v21), (10, (.int .i64 0))] h22).bind fun r23 h24 =>
 ζ4m k call r23.1 r23.2 h24
theorem ζd3 (k : Nat) (a0 a1 : Value) (b0 b1 : Value) (h : Heap) (L : List Nat) (hf : mapF (fzV 0 h fzDepth) [a0, a1] = some ([b0, b1], L)) : R (T k) F.ζb [a0, a1] h = nrm .fz (killAll h L) (ζb k (R (T k)) b0 b1 (killAll h L)) :=
 (R_bodyA (t := T k) (T_scott k) (by kernel_rfl) (by kernel_rfl) hf).trans (by kernel_rfl)
theorem ζ3j (k : Nat) (call : Caller) (a0 a4 a6 a7 a8 a9 a10 : Value) (h : Heap) : ζ3d k call [(0, a0), (4, a4), (6, a6), (7, a7), (8, a8), (9, a9), (10, a10)] h =
 (binR Prog .lss 3 a10 (.int .i64 3) h).bind fun v25 h26 =>
 ((bif wantVal v25 true then Res.ok a7 h26 else Res.ok undef h26)).bind fun v27 h28 =>
 (condV (some v25) (Res.ok v27 h28) (Res.ok (.bool false) h28)).bind fun v29 h30 =>
 condV (some v29) (
 (binR Prog .mul 3 (.int .i64 4) a10 h30).bind fun v31 h32 =>
 (binR Prog .add 3 (.int .i64 16) v31 h32).bind fun v33 h34 =>
 (call F.ζ1 [a0, v33, (.int .i64 4)] h34).bind fun v35 h36 =>
 (call F.ζ1p [a0, v35] h36).bind fun v37 h38 =>
 (extractR v37 0 h38).bind fun v39 h40 =>
 (extractR v37 1 h40).bind fun v41 h42 =>
 (buildSliceR Prog 23 1 [(0, v39)] h42).bind fun v43 h44 =>
 (builtinV Prog .append [23, 23] [a9, v43] h44).bind fun v45 h46 =>
 (binR Prog .add 3 a10 (.int .i64 1) h46).bind fun v47 h48 =>
 .ok (.normal, [(0, a0), (4, a4), (6, a6), (7, v41), (8, a8), (9, v45), (10, v47)]) h48)
 (
 .ok ((.exit 0), [(0, a0), (4, a4), (6, a6), (7, a7), (8, a8), (9, a9), (10, a10), (29, v29)]) h30) :=
 (loopB_eq _ _).trans (by kernel_rfl)
theorem ζ5u (k : Nat) (call : Caller) (a0 a4 a6 a7 a8 a9 a10 a29 : Value) (h : Heap) : ζ4m k call (.exit 0) [(0, a0), (4, a4), (6, a6), (7, a7), (8, a8), (9, a9), (10, a10), (29, a29)] h =
 (unR .not a7 h).bind fun v49 h50 =>
 condV (some v49) (
 (buildR Prog 103 [] h50).bind fun v51 h52 =>
 (storeR Prog 103 a4 v51 h52).bind fun _v53 h54 =>
 (loadR Prog 103 a4 h54).bind fun v55 h56 =>
 .ok (.tuple #[v55, (.bool false)]) h56)
 (
 (indexAddrR Prog 23 a9 (.int .i64 0) h50).bind fun v57 h58 =>
 (loadR Prog 22 v57 h58).bind fun v59 h60 =>
 (fieldAddrR Prog 103 a8 1 h60).bind fun v61 h62 =>
 (storeR Prog 22 v61 v59 h62).bind fun _v63 h64 =>
 (indexAddrR Prog 23 a9 (.int .i64 1) h64).bind fun v65 h66 =>
 (loadR Prog 22 v65 h66).bind fun v67 h68 =>
 (fieldAddrR Prog 103 a8 2 h68).bind fun v69 h70 =>
 (storeR Prog 22 v69 v67 h70).bind fun _v71 h72 =>
 (indexAddrR Prog 23 a9 (.int .i64 2) h72).bind fun v73 h74 =>
 (loadR Prog 22 v73 h74).bind fun v75 h76 =>
 (fieldAddrR Prog 103 a8 3 h76).bind fun v77 h78 =>
 (storeR Prog 22 v77 v75 h78).bind fun _v79 h80 =>
 (loopN (ζ1t k call) loopFuel [(4, a4), (6, a6), (8, a8), (13, (.int .i64 0))] h80).bind fun r81 h82 =>
 ζ2y k call r81.1 r81.2 h82) := by kernel_rfl
theorem ζ28 (k : Nat) (call : Caller) (a4 a6 a8 a13 : Value) (h : Heap) : ζ1t k call [(4, a4), (6, a6), (8, a8), (13, a13)] h =
 (fieldAddrR Prog 41 a6 5 h).bind fun v83 h84 =>
 (loadR Prog 3 v83 h84).bind fun v85 h86 =>
 (binR Prog .lss 3 a13 v85 h86).bind fun v87 h88 =>
 condV (some v87) (
 (loadR Prog 41 a6 h88).bind fun v89 h90 =>
 (call F.ζh [v89, a13] h90).bind fun v91 h92 =>
 (allocR Prog 31 h92).bind fun v93 h94 =>
 (storeR Prog 31 v93 v91 h94).bind fun _v95 h96 =>
 (fieldAddrR Prog 31 v93 1 h96).bind fun v97 h98 =>
 (loadR Prog 3 v97 h98).bind fun v99 h100 =>
 (binR Prog .quo 3 v99 (.int .i64 8192) h100).bind fun v101 h102 =>
 (binR Prog .rem 3 v101 (.int .i64 2) h102).bind fun v103 h104 =>
 (binR Prog .eql 3 v103 (.int .i64 0) h104).bind fun v105 h106 =>
 condV (some v105) (
 ζ8h k call a4 a6 a8 a13 v93 v105 h106)
 (
 (fieldAddrR Prog 31 v93 2 h106).bind fun v107 h108 =>
 (loadR Prog 3 v107 h108).bind fun v109 h110 =>
 (loopN (ζ2g k call) loopFuel [(4, a4), (6, a6), (8, a8), (13, a13), (15, v109)] h110).bind fun r111 h112 =>
 ζ4n k call r111.1 r111.2 h112))
 (
 .ok ((.exit 2), [(4, a4), (6, a6), (8, a8), (13, a13), (65, v87)]) h88) :=
 (loopB_eq _ _).trans (by kernel_rfl)
theorem ζan (k : Nat) (call : Caller) (a4 a6 a8 a13 a14 a75 : Value) (h : Heap) : ζ8h k call a4 a6 a8 a13 a14 a75 h =
 (binR Prog .add 3 a13 (.int .i64 1) h).bind fun v113 h114 =>
 .ok (.normal, [(4, a4), (6, a6), (8, a8), (13, v113)]) h114 := by kernel_rfl
theorem ζ29 (k : Nat) (call : Caller) (a4 a6 a8 a13 a15 : Value) (h : Heap) : ζ2g k call [(4, a4), (6, a6), (8, a8), (13, a13), (15, a15)] h =
 (fieldAddrR Prog 103 a8 1 h).bind fun v115 h116 =>
 (loadR Prog 22 v115 h116).bind fun v117 h118 =>
 (binR Prog .mul 3 (.int .i64 4) a15 h118).bind fun v119 h120 =>
 (call F.ζ1 [v117, v119, (.int .i64 4)] h120).bind fun v121 h122 =>
 (call F.ζ2p [v121] h122).bind fun v123 h124 =>
 (unR .not v123 h124).bind fun v125 h126 =>
 condV (some v125) (
 (fieldAddrR Prog 103 a8 1 h126).bind fun v127 h128 =>
 (loadR Prog 22 v127 h128).bind fun v129 h130 =>
 (binR Prog .mul 3 (.int .i64 4) a15 h130).bind fun v131 h132 =>
 (call F.ζ1 [v129, v131, (.int .i64 4)] h132).bind fun v133 h134 =>
 (binR Prog .lss 3 v133 (.int .i64 0) h134).bind fun v135 h136 =>
 condV (some v135) (
 (buildR Prog 103 [] h136).bind fun v137 h138 =>
 (storeR Prog 103 a4 v137 h138).bind fun _v139 h140 =>
 .ok (.ret, [(4, a4), (5, (.bool false))]) h140)
 (
 (binR Prog .add 3 a15 (.int .i64 1) h136).bind fun v141 h142 =>
 .ok (.normal, [(4, a4), (6, a6), (8, a8), (13, a13), (15, v141)]) h142))
 (
 .ok ((.exit 4), [(4, a4), (6, a6), (8, a8), (13, a13), (15, a15), (84, v125)]) h126) :=
 (loopB_eq _ _).trans (by kernel_rfl)
theorem ζ9z (k : Nat) (call : Caller) (a4 a6 a8 a13 a65 : Value) (h : Heap) : ζ2y k call (.exit 2) [(4, a4), (6, a6), (8, a8), (13, a13), (65, a65)] h =
 (loadR Prog 103 a8 h).bind fun v143 h144 =>
 (storeR Prog 103 a4 v143 h144).bind fun _v145 h146 =>
 (loadR Prog 103 a4 h146).bind fun v147 h148 =>
 .ok (.tuple #[v147, (.bool true)]) h148 := by kernel_rfl
theorem ζaq (k : Nat) (call : Caller) (a4 a5 : Value) (h : Heap) : ζ4n k call .ret [(4, a4), (5, a5)] h =
 .ok (.ret, [(4, a4), (5, a5)]) h := by kernel_rfl
theorem ζa0 (k : Nat) (call : Caller) (a4 a6 a8 a13 a15 a84 : Value) (h : Heap) : ζ4n k call (.exit 4) [(4, a4), (6, a6), (8, a8), (13, a13), (15, a15), (84, a84)] h =
 ζ8i k call a4 a6 a8 a13 a15 a84 h := by kernel_rfl
theorem ζao (k : Nat) (call : Caller) (a4 a6 a8 a13 a15 a84 : Value) (h : Heap) : ζ8i k call a4 a6 a8 a13 a15 a84 h =
 (binR Prog .add 3 a13 (.int .i64 1) h).bind fun v149 h150 =>
 .ok (.normal, [(4, a4), (6, a6), (8, a8), (13, v149)]) h150 := by kernel_rfl
theorem ζap (k : Nat) (call : Caller) (a4 a5 : Value) (h : Heap) : ζ2y k call .ret [(4, a4), (5, a5)] h =
 (loadR Prog 103 a4 h).bind fun v151 h152 =>
 .ok (.tuple #[v151, a5]) h152 := by kernel_rfl
def ζ2p (k : Nat) (call : Caller) (a0 : Value) (h : Heap) : Res Value :=
 (binR Prog .geq 3 a0 (.int .i64 2147483648) h).bind fun v1 h2 =>
 .ok v1 h2
theorem ζd4 (k : Nat) (a0 : Value) (h : Heap) : R (T k) F.ζ2p [a0] h = nrm .gc h (ζ2p k (R (T k)) a0 h) :=
 (R_body (t := T k) (T_scott k) (by kernel_rfl) (by kernel_rfl) _ _).trans (by kernel_rfl)
end
end Go.Sw
end
