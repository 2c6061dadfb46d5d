/-
  Functions' forms, and what is proved of them, part 10.
-/
import Derived.Test.YtnaodjnimkndbabSwW9
import Derived.Test.YtnaodjnimkndbabSwW8
set_option linter.unusedSimpArgs false
set_option linter.unusedVariables false
set_option linter.unusedSectionVars false
section
namespace Go.Sw
open Go.RowKit
set_option maxHeartbeats 4000000 in
theorem ζha (k : Nat) (t : LTab) (ht : t.ok) {H0 H : Heap} {L : List It} (h : Star H0 H L) (il ip : Nat) (hne : il ≠ ip) {c cp : Nat} {o ob : Option Nat} {l : List Gl} {ps : List Int} (hil : L[il]? = some (itLine c o l)) (hip : L[ip]? = some (itLP cp ob ps)) (hps : ps.length ≤ 64) (a : Int) (ha : 0 ≤ a ∧ a < 65536) (hlast : lastB t.acts a = true) :
  ∃ ob' H', R (T k) F.ζ7 [ligaV t, ptrV c, ptrV cp, .int .i64 a] H = .ok (.tuple #[]) H' ∧ Star H0 H' ((L.set il (itLine c o (perfS t ps a 0 [] l).1)).set ip (itLP cp ob' (perfS t ps a 0 [] l).2)) := by
 have hltl := (List.getElem?_eq_some_iff.1 hil).1;have hltp := (List.getElem?_eq_some_iff.1 hip).1;obtain ⟨res, hres⟩ : ∃ res, res = perfS t ps a 0 [] l := ⟨_, rfl⟩
 rw [← hres];obtain ⟨S, hS⟩ : ∃ S : List Gl → Option Nat → List Int → Option Nat → Value → List Int → List It, S = fun l' ob' ps' og s gone => (L.set il (itLine c o l')).set ip (itLP cp ob' ps') ++ [itRow og 1 s encI gone] := ⟨_, rfl⟩
 have hSv : ∀ l' ob' ps' og s gone, S l' ob' ps' og s gone = (L.set il (itLine c o l')).set ip (itLP cp ob' ps') ++ [itRow og 1 s encI gone] := fun _ _ _ _ _ _ => by rw [hS]
 clear hS;have atl : ∀ l' ob' ps' og s gone, (S l' ob' ps' og s gone)[il]? = some (itLine c o l') := fun l' ob' ps' og s gone => by
  rw [hSv, List.getElem?_append_left (by simpa using hltl), List.getElem?_set_ne (fun h => hne h.symm), List.getElem?_set_self hltl]
 have atp : ∀ l' ob' ps' og s gone, (S l' ob' ps' og s gone)[ip]? = some (itLP cp ob' ps') := fun l' ob' ps' og s gone => by
  rw [hSv, List.getElem?_append_left (by simpa using hltp), List.getElem?_set_self (by simpa using hltp)]
 have atr : ∀ l' ob' ps' og s gone, (S l' ob' ps' og s gone)[L.length]? = some (itRow og 1 s encI gone) := fun l' ob' ps' og s gone => by
  rw [hSv, List.getElem?_append_right (by simp)];simp
 have setl : ∀ l' l2 ob' ps' og s gone, (S l' ob' ps' og s gone).set il (itLine c o l2) = S l2 ob' ps' og s gone := fun l' l2 ob' ps' og s gone => by
  rw [hSv, hSv, List.set_append_left _ _ (by simpa using hltl), List.set_comm _ _ (fun h => hne h.symm), List.set_set]
 have setp : ∀ l' ob' ps' ob2 ps2 og s gone, (S l' ob' ps' og s gone).set ip (itLP cp ob2 ps2) = S l' ob2 ps2 og s gone := fun l' ob' ps' ob2 ps2 og s gone => by
  rw [hSv, hSv, List.set_append_left _ _ (by simpa using hltp), List.set_set]
 have setr : ∀ l' ob' ps' og s gone og2 s2 gone2, (S l' ob' ps' og s gone).set L.length (itRow og2 1 s2 encI gone2) = S l' ob' ps' og2 s2 gone2 := fun l' ob' ps' og s gone og2 s2 gone2 => by
  rw [hSv, hSv, List.set_append_right _ _ (by simp)];simp
 have fin : ∀ {H' : Heap} {l' ob' ps' og s gone}, Star H0 H' (S l' ob' ps' og s gone) → (l', ps') = res → ∃ ob', Star H0 H' ((L.set il (itLine c o res.1)).set ip (itLP cp ob' res.2)) := fun {H' l' ob' ps' og s gone} g he => by
  rw [hSv] at g;subst he;exact ⟨ob', g.ζel⟩
 have h1 : Star H0 H (S l ob ps none (.slice none 0 0) []) := by
  rw [hSv, set_same hil, set_same hip];exact h.more_row (Ext.refl _) (OwnO.nil encI _ 1) (fun b hb => by cases hb)
 have hvb : veq (vwB t.comps) (vwB t.comps) = true := veq_agg (l := [lv encB t.comps]) fun u hu => by simp at hu; subst hu; exact veq_B t.comps
 obtain ⟨xx, e', H1, hr, hE, g⟩ := loop_up (body := ζ3y k (R (T k))) ps.length
  (fun j e H' => ∃ (sum : Int) (gone : List Int) (l' : List Gl) (og ob' : Option Nat) (s : Value), e = [(0, ligaV t), (1, ptrV c), (2, ptrV cp), (3, .int .i64 (a + j)), (8, .int .i64 sum), (9, s)] ∧ Star H0 H' (S l' ob' (ps.drop j) og s gone) ∧ lastB t.acts (a + j) = true ∧ 0 ≤ sum ∧ sum ≤ 65535 * j ∧ gone.length ≤ j ∧ perfS t (ps.drop j) (a + j) sum gone l' = res)
  (fun xx e H' => (xx = .ret ∧ ((∃ b0 b8 b9 b10 b24, e = [(0, b0), (1, ptrV c), (2, ptrV cp), (3, .int .i64 (a + ps.length)), (8, b8), (9, b9), (10, b10), (24, b24)]) ∨ (∃ b0 b3 b8 b9 b10 b12 b15 b52, e = [(0, b0), (1, ptrV c), (2, ptrV cp), (3, b3), (8, b8), (9, b9), (10, b10), (12, b12), (15, b15), (52, b52)]) ∨ (∃ b0 b3 b8 b10 b12 b65, e = [(0, b0), (1, ptrV c), (2, ptrV cp), (3, b3), (8, b8), (10, b10), (12, b12), (65, b65)]) ∨ e = [])) ∧ ∃ ob', Star H0 H' ((L.set il (itLine c o res.1)).set ip (itLP cp ob' res.2)))
  (e0 := [(0, ligaV t), (1, ptrV c), (2, ptrV cp), (3, .int .i64 a), (8, .int .i64 0), (9, .slice none 0 0)]) (H0 := H) ⟨0, [], l, none, ob, .slice none 0 0, by simp, by simpa using h1, by simpa using hlast, Int.le_refl _, Int.le_refl _, Nat.le_refl _, by simpa using hres.symm⟩ (by omega)
  (fun j e H' hj ⟨sum, gone, l', og, ob', s, he, g, hl, hs0, hs1, hgl, hp⟩ => by
   subst he;have hd : ps.drop j = ps[j] :: ps.drop (j + 1) := List.drop_eq_getElem_cons hj;obtain ⟨x, hx⟩ : ∃ x, x = ps[j] := ⟨_, rfl⟩
   rw [← hx] at hd;have hdl : (ps.drop (j + 1)).length ≤ 63 := by rw [List.length_drop]; omega
   rw [hd] at hp g;obtain ⟨H2, e2, g⟩ := ζhb k g ip (by rw [List.length_cons]; omega) (atp _ _ _ _ _ _);rw [setp] at g;simp only [List.head?_cons, Option.getD_some, List.isEmpty_cons, Bool.not_false, List.tail_cons] at e2 g;obtain ⟨y, hy, hgy, hy0, hy1, hyl, hyn⟩ := ζpt ht.byt.1 (by omega) hl;have hU := fun H' => U32_run k (H := H') (Sl.lv H' 1 t.acts) ht.byt.1 (4 * (a + j)) (by have := ht.len.1; omega);rw [hy] at hU;have hat := ζhh k g il (atl _ _ _ _ _ _) x;obtain ⟨q, hq⟩ : ∃ q, q = (atG l' x).getD ⟨0, 0⟩ := ⟨_, rfl⟩
   have hatA : encA (atG l' x) = .agg (encG q).toArray := by rw [hq]; rfl
   rw [hatA] at hat;have hoff := fun H' => ζjx k y hy0 hy1 H';have hen := fun H' => ζfv k t.comps ht.byt.2.1 ht.len.2.1 (IntKind.i64.wrap (q.id + offS y)) H';have hx2 : Ext H2 (H2.push ⟨encG q, 1, false⟩) := (Ext.refl H2).push _;have gq : (H2.push ⟨encG q, 1, false⟩).get H2.n = some ⟨encG q, 1, false⟩ := ζb _ _ _ rfl;unfold perfS at hp;rw [hgy, ← hq] at hp;have gp := g.rest hx2;cases hc : entryS t.comps (IntKind.i64.wrap (q.id + offS y)) with
   | none =>
    rw [hc] at hp hen;dsimp only at hp;refine .inr ⟨.ret, _, _, ?_, by simp, ⟨rfl, .inr (.inl ⟨ligaV t, .int .i64 (a + j), .int .i64 sum, s, .int .i64 x, .int .i64 y, .int .i64 0, .bool true, rfl⟩)⟩, fin gp hp⟩;rw [ζ1d];simp -implicitDefEqProofs (disch := omega) [e2, hU, orF, hat, hoff, hen, gq, hvb]
   | some part =>
    rw [hc] at hp hen;dsimp only at hp;have hpart : 0 ≤ part ∧ part < 65536 := by
     unfold entryS at hc;split at hc
     ·injection hc with hc;subst hc;obtain ⟨z, hz⟩ : ∃ z, uS t.comps (2 * IntKind.i64.wrap (q.id + offS y)) 2 = some z := uS_of_in (by unfold inS; rw [decide_eq_true_eq]; omega);rw [gU_some hz];exact uS_two ht.byt.2.1 hz
     ·cases hc
    have hw : IntKind.i64.wrap (sum + part) = sum + part := wrap_i64 (by omega) (by omega);have an := fun H => and3031 Prog 3 H hy0 hy1;have an2 := fun H => and31 Prog 3 H hy0 hy1;have hgl2 : gone.length < 2 ^ 31 := by omega
    have hj1 : a + ((j + 1 : Nat) : Int) = a + j + 1 := by omega
    by_cases d1 : y ≥ 1073741824
    ·rw [if_pos d1] at hp;have hne0 : (y / 1073741824 * 1073741824 == 0) = false := by rw [beq_eq_false_iff_ne]; omega
     obtain ⟨H3, e3, g3⟩ := ζjy k t ht gp il L.length (by omega) (atl _ _ _ _ _ _) (atr _ _ _ _ _ _) hgl2 x (sum + part);rw [setl] at g3;cases hlg : entryS t.ligs (sum + part) with
     | none =>
      rw [hlg] at hp e3 g3;dsimp only at hp g3;refine .inr ⟨.ret, _, _, ?_, by simp, ⟨rfl, .inr (.inr (.inl ⟨ligaV t, .int .i64 (a + j), .int .i64 (sum + part), .int .i64 x, .int .i64 y, .bool true, rfl⟩))⟩, fin g3 hp⟩;rw [ζ1d];simp -implicitDefEqProofs (disch := omega) [e2, hU, orF, hat, hoff, hen, gq, hvb, hw, an, bne, hne0, e3]
     | some id =>
      rw [hlg] at hp e3 g3;dsimp only at hp g3;by_cases d2 : y ≥ 2147483648
      ·rw [if_pos d2] at hp an2;obtain ⟨ob2, H4, e4, g4⟩ := ζfw k g3 ip (by omega) (atp _ _ _ _ _ _) x;rw [setp] at g4;refine .inr ⟨.ret, _, _, ?_, by simp, ⟨rfl, .inr (.inr (.inr rfl))⟩, fin g4 hp⟩;rw [ζ1d];simp -implicitDefEqProofs (disch := omega) [e2, hU, orF, hat, hoff, hen, gq, hvb, hw, an, hne0, e3, ζ4p, an2, bne, e4]
      ·rw [if_neg d2] at hp an2;have g3 := g3.same L.length (atr _ _ _ _ _ _) (itRow none 1 (.slice none 0 0) encI []) (OwnO.nil encI _ 1) (fun b hb => by simp [itRow] at hb);rw [setr] at g3;obtain ⟨s5, o5, H5, e5, g5⟩ := g3.append1 (bytes := 8) L.length encI_len (atr _ _ _ _ _ _) x (by simp) (by decide);rw [setr] at g5;refine .inl ⟨_, H5, ?_, sum + part, [x], storeG l' x id gone, o5, ob', s5, rfl, g5, by rw [hj1]; exact hyn d2, by omega, by omega, by simp, by rw [hj1]; exact hp⟩;rw [ζ1d, hj1];simp -implicitDefEqProofs (disch := omega) [e2, hU, orF, hat, hoff, hen, gq, hvb, hw, an, hne0, e3, ζ4p, an2, bne, e5]
    ·rw [if_neg d1] at hp;have hne0 : (y / 1073741824 * 1073741824 == 0) = true := by rw [beq_iff_eq]; omega
     rw [if_neg (show ¬ y ≥ 2147483648 by omega)] at an2;obtain ⟨s5, o5, H5, e5, g5⟩ := gp.append1 (bytes := 8) L.length encI_len (atr _ _ _ _ _ _) x (by omega) (by decide);rw [setr] at g5;simp only [hn_push] at e5;refine .inl ⟨_, H5, ?_, sum + part, gone ++ [x], l', o5, ob', s5, rfl, g5, by rw [hj1]; exact hyn (by omega), by omega, by omega, by simp; omega, by rw [hj1]; exact hp⟩;rw [ζ1d, hj1];simp -implicitDefEqProofs (disch := omega) [e2, hU, orF, hat, hoff, hen, gq, hvb, hw, an, hne0, ζ8y, an2, bne, e5])
  (fun e H' ⟨sum, gone, l', og, ob', s, he, g, hl, hs0, hs1, hgl, hp⟩ => by
   subst he;rw [List.drop_length] at g hp;obtain ⟨H2, e2, g⟩ := ζhb k g ip (by simp) (atp _ _ _ _ _ _);rw [setp] at g;simp only [List.head?_nil, Option.getD_none, List.isEmpty_nil, Bool.not_true, List.tail_nil] at e2 g;refine ⟨.ret, _, H2, ?_, by simp, ⟨rfl, .inl ⟨ligaV t, .int .i64 sum, s, .int .i64 0, .bool true, rfl⟩⟩, fin g hp⟩;rw [ζ1d];simp -implicitDefEqProofs [e2])
 obtain ⟨ob', g⟩ := g;obtain ⟨rfl, hE⟩ := hE;refine ⟨ob', H1, ?_, g⟩;rw [ζea, nrm_of];rcases hE with ⟨b0, b8, b9, b10, b24, rfl⟩ | ⟨b0, b3, b8, b9, b10, b12, b15, b52, rfl⟩ | ⟨b0, b3, b8, b10, b12, b65, rfl⟩ | rfl
 ·simp -implicitDefEqProofs [ζ7, hr, ζ8z]
 ·simp -implicitDefEqProofs [ζ7, hr, ζ7v]
 ·simp -implicitDefEqProofs [ζ7, hr, ζ7w]
 ·simp -implicitDefEqProofs [ζ7, hr, ζ7x]
end Go.Sw
end
section
namespace Go.Sw
open Go.RowKit
theorem veq_liga (t : LTab) : veq (ligaV t) (ligaV t) = true := veq_boxV (l := ligaC t) fun v hv => by
 simp [ligaC] at hv;rcases hv with rfl | rfl | rfl | rfl
 ·exact veq_mach _
 ·exact veq_B _
 ·exact veq_B _
 ·exact veq_B _
def ligaW (t : LTab) (L : List It) (il c p3 p4 cp : Nat) (o : Option Nat) (s : List Gl × List Int) (ob : Option Nat) : List It :=
 L.set il (itLine c o s.1) ++ [itLP cp ob s.2, itBlk p3 ⟨[ptrV c], 1, false⟩, itBlk p4 ⟨[ligaV t], 1, false⟩]
set_option maxHeartbeats 2000000 in
theorem liga_do (k : Nat) (t : LTab) (ht : t.ok) (L : List It) (il c p3 p4 cp : Nat) (o : Option Nat) (hil : il < L.length) (n : Int) {H0 : Heap} :
  DoOkG k t.m H0 (ligaW t L il c p3 p4 cp o) (fun s => (s.1.length : Int) = n ∧ KeptOk n s.2) (.func (.func F.ζg) #[] #[ptrV p3, ptrV cp, ptrV p4]) (doLi t) := by
 intro s w j e H X hI st h0 h1 he;have hlen' := doLi_len t s j e;have hkept' := ζly t hI.1 hI.2 h0 e;obtain ⟨l, ps⟩ := s;dsimp only at hI hlen' hkept';have heb := ht.m.ent e he;have hhas := ht.has e he;unfold ligaW at st;dsimp only at st;obtain ⟨B, hB⟩ : ∃ B : List It, B = [itBlk p3 ⟨[ptrV c], 1, false⟩, itBlk p4 ⟨[ligaV t], 1, false⟩] ++ (X ++ [itBlk H.n ⟨encEn e, 1, false⟩]) := ⟨_, rfl⟩
 obtain ⟨S, hS⟩ : ∃ S : List Gl → Option Nat → List Int → List It, S = fun l' ob' ps' => L.set il (itLine c o l') ++ itLP cp ob' ps' :: B := ⟨_, rfl⟩
 have hSv : ∀ l' ob' ps', S l' ob' ps' = L.set il (itLine c o l') ++ itLP cp ob' ps' :: B := fun _ _ _ => by rw [hS]
 clear hS;have hpx : ∀ l' ob' ps', (S l' ob' ps')[L.length]? = some (itLP cp ob' ps') := fun l' ob' ps' => by
  rw [hSv, List.getElem?_append_right (by simp)];simp
 have hlx : ∀ l' ob' ps', (S l' ob' ps')[il]? = some (itLine c o l') := fun l' ob' ps' => by
  rw [hSv, List.getElem?_append_left (by simpa using hil), List.getElem?_set_self hil]
 have setP : ∀ l' ob' ps' ob2 ps2, (S l' ob' ps').set L.length (itLP cp ob2 ps2) = S l' ob2 ps2 := fun l' ob' ps' ob2 ps2 => by
  rw [hSv, hSv, List.set_append_right _ _ (by simp)];simp
 have setL : ∀ l' ob' ps' l2, (S l' ob' ps').set il (itLine c o l2) = S l2 ob' ps' := fun l' ob' ps' l2 => by
  rw [hSv, hSv, List.set_append_left _ _ (by simpa using hil), List.set_set]
 have look : ∀ {H' : Heap} {l' ob' ps'}, Star H0 H' (S l' ob' ps') → H'.get p3 = some ⟨[ptrV c], 1, false⟩ ∧ H'.get p4 = some ⟨[ligaV t], 1, false⟩ ∧ H'.get H.n = some ⟨encEn e, 1, false⟩ ∧ R (T k) F.ζ39 [ptrV c] H' = .ok (.int .i64 l'.length) H' := fun {H' l' ob' ps'} h => by
  have hl := ζj9 k h il (hlx _ _ _);rw [hSv, hB] at h;exact ⟨h.memBlk (by simp), h.memBlk (by simp), h.memBlk (by simp), hl⟩
 have st2 : Star H0 (H.push ⟨encEn e, 1, false⟩) (S l w ps) := by
  have := st.push ⟨encEn e, 1, false⟩;rw [hSv, hB];simpa using this
 have fin : ∀ {H' : Heap} {l' ob' ps'}, Star H0 H' (S l' ob' ps') → Star H0 H' (ligaW t L il c p3 p4 cp o (l', ps') ob' ++ X) := fun {H' l' ob' ps'} h => by
  rw [hSv, hB] at h;have e1 : L.set il (itLine c o l') ++ itLP cp ob' ps' :: ([itBlk p3 ⟨[ptrV c], 1, false⟩, itBlk p4 ⟨[ligaV t], 1, false⟩] ++ (X ++ [itBlk H.n ⟨encEn e, 1, false⟩])) = (ligaW t L il c p3 p4 cp o (l', ps') ob' ++ X) ++ [itBlk H.n ⟨encEn e, 1, false⟩] := by
   unfold ligaW;simp
  rw [e1] at h;exact h.ζel
 have ha15 := fun H => and15 Prog 3 H heb.2.2.1 heb.2.2.2.1;have ha13 := fun H => and13 Prog 3 H heb.2.2.1 heb.2.2.2.1;obtain ⟨v3, v4, v7, v8⟩ := look st2;clear st;obtain ⟨k1, hk1⟩ : ∃ k1, k1 = if e.flags ≥ 32768 ∧ j < (l.length : Int) then pushP j ps else ps := ⟨_, rfl⟩
 have hdo : doLi t (l, ps) j e = if e.flags / 8192 % 2 = 1 then perfS t k1 e.a 0 [] l else (l, k1) := by
  unfold doLi;rw [hk1]
 have hk64 : k1.length ≤ 64 := by
  rw [hk1];split
  ·rename_i hc;exact (pushP_ok hI.2 ⟨h0, by rw [← hI.1]; exact hc.2⟩).1
  ·exact hI.2.1
 -- the second part
 have tail : ∀ {H' : Heap} {ob1}, Star H0 H' (S l ob1 k1) → ∃ H'' w', ζ3w k (R (T k)) (ptrV p3) (ptrV cp) (ptrV p4) (ptrV H.n) H' = .ok (.tuple #[]) H'' ∧ (∀ a0 a16, ζ3x k (R (T k)) a0 (ptrV p3) (ptrV cp) (ptrV p4) (ptrV H.n) a16 H' = .ok (.tuple #[]) H'') ∧ Star H0 H'' (ligaW t L il c p3 p4 cp o (doLi t (l, ps) j e) w' ++ X) := fun {H' ob1} h => by
  obtain ⟨w3, w4, w7, _⟩ := look h;rw [hdo];by_cases d : e.flags / 8192 % 2 = 1
  ·rw [if_pos d] at ha13 ⊢;obtain ⟨ob2, H2, e2, g2⟩ := ζha k t ht h il L.length (by omega) (hlx _ _ _) (hpx _ _ _) hk64 e.a (by omega) (hhas.resolve_left (fun hh => hh d));rw [setL, setP] at g2;refine ⟨H2, ob2, ?_, fun a0 a16 => ?_, fin g2⟩
   ·rw [ζ4n];simp -implicitDefEqProofs (disch := omega) [w7, ha13, bne, w3, w4, e2]
   ·rw [ζ4o];simp -implicitDefEqProofs (disch := omega) [w7, ha13, bne, w3, w4, e2]
  ·rw [if_neg d] at ha13 ⊢;refine ⟨H', ob1, ?_, fun a0 a16 => ?_, fin h⟩
   ·rw [ζ4n];simp -implicitDefEqProofs (disch := omega) [w7, ha13, bne]
   ·rw [ζ4o];simp -implicitDefEqProofs (disch := omega) [w7, ha13, bne]
 by_cases d2 : e.flags ≥ 32768
 ·rw [if_pos d2] at ha15;by_cases d3 : j < (l.length : Int)
  ·rw [if_pos ⟨d2, d3⟩] at hk1;obtain ⟨ob1, H2, e2, g2⟩ := ζfw k st2 L.length hI.2.1 (hpx _ _ _) j;rw [setP, ← hk1] at g2;obtain ⟨H3, w', t1, _, t3⟩ := tail g2;refine ⟨.tuple #[], H3, w', ?_, t3, ⟨by rw [hlen']; exact hI.1, hkept'⟩⟩;simp only [callV, List.nil_append, List.cons_append];rw [ζ48, nrm_of];simp -implicitDefEqProofs (disch := omega) [ζg, v7, ha15, bne, v3, v8, d3, e2, t1]
  ·rw [if_neg fun h => d3 h.2] at hk1;rw [← hk1] at st2;obtain ⟨H3, w', _, t1, t3⟩ := tail st2;refine ⟨.tuple #[], H3, w', ?_, t3, ⟨by rw [hlen']; exact hI.1, hkept'⟩⟩;simp only [callV, List.nil_append, List.cons_append];rw [ζ48, nrm_of];simp -implicitDefEqProofs (disch := omega) [ζg, v7, ha15, bne, v3, v8, d3, t1]
 ·rw [if_neg d2] at ha15;rw [if_neg fun h => d2 h.1] at hk1;rw [← hk1] at st2;obtain ⟨H3, w', _, t1, t3⟩ := tail st2;refine ⟨.tuple #[], H3, w', ?_, t3, ⟨by rw [hlen']; exact hI.1, hkept'⟩⟩;simp only [callV, List.nil_append, List.cons_append];rw [ζ48, nrm_of];simp -implicitDefEqProofs (disch := omega) [ζg, v7, ha15, bne, t1]
set_option maxRecDepth 20000 in
set_option maxHeartbeats 1000000 in
theorem ζli (k : Nat) (t : LTab) (ht : t.ok) {H0 H : Heap} {L : List It} (h : Star H0 H L) (il : Nat) {c : Nat} {o : Option Nat} {l : List Gl} (hil : L[il]? = some (itLine c o l)) (hl : l.length < 2 ^ 40) :
  ∃ H', R (T k) F.ζ3s [ligaV t, ptrV c] H = .ok (.int .i64 (runL t l).2) H' ∧ Star H0 H' (L.set il (itLine c o (runL t l).1)) := by
 have hll := (List.getElem?_eq_some_iff.1 hil).1;have st := ((h.push ⟨[ligaV t], 1, false⟩).push ⟨[ptrV c], 1, false⟩).push ⟨[.slice none 0 0], 1, false⟩;simp only [hn_push] at st;obtain ⟨H3, hH3⟩ : ∃ H3, H3 = ((H.push ⟨[ligaV t], 1, false⟩).push ⟨[ptrV c], 1, false⟩).push ⟨[.slice none 0 0], 1, false⟩ := ⟨_, rfl⟩
 rw [← hH3] at st;have ik : (L ++ [itBlk H.n ⟨[ligaV t], 1, false⟩] ++ [itBlk (H.n + 1) ⟨[ptrV c], 1, false⟩] ++ [itBlk (H.n + 1 + 1) ⟨[.slice none 0 0], 1, false⟩])[L.length + 2]? = some (itBlk (H.n + 1 + 1) ⟨[.slice none 0 0], 1, false⟩) := by
  rw [List.getElem?_append_right (by simp)];simp
 have st := st.same (L.length + 2) ik (itLP (H.n + 1 + 1) none []) ⟨_, st.get _ ik, .inl ⟨rfl, rfl, rfl⟩⟩ fun b hb => by simpa [itLP, itBlk] using hb
 have eset : ∀ (x1 x2 x3 y : It), (L ++ [x1] ++ [x2] ++ [x3]).set (L.length + 2) y = L ++ ([x1, x2] ++ [y]) := fun x1 x2 x3 y => by
  rw [List.set_append_right _ _ (by simp)];simp
 rw [eset] at st;have st : Star H0 H3 (ligaW t L il c (H.n + 1) H.n (H.n + 1 + 1) o (l, []) none) := by
  refine st.perm ?_;unfold ligaW;dsimp only;rw [set_same hil];refine List.Perm.append_left L ?_;exact List.perm_append_comm.trans (List.Perm.cons _ (List.Perm.swap _ _ _))
 have ePl := plainNew k (.func F.ζg) #[] #[ptrV (H.n + 1), ptrV (H.n + 1 + 1), ptrV H.n] H3;have st4 := st.push ⟨[.func (.func F.ζg) #[] #[ptrV (H.n + 1), ptrV (H.n + 1 + 1), ptrV H.n]], 1, false⟩;have hact := ζq1 k (liga_do k t ht L il c (H.n + 1) H.n (H.n + 1 + 1) o hll (l.length : Int) (H0 := H0)) H3.n
 obtain ⟨H7, w7, eR, st5, _⟩ := ζjs k t.m ht.m (fun (s : List Gl × List Int) (ob : Option Nat) => ligaW t L il c (H.n + 1) H.n (H.n + 1 + 1) o s ob ++ [itBlk H3.n ⟨[.func (.func F.ζg) #[] #[ptrV (H.n + 1), ptrV (H.n + 1 + 1), ptrV H.n]], 1, false⟩]) (fun s => (s.1.length : Int) = (l.length : Int) ∧ KeptOk (l.length : Int) s.2) (fun s => s.1) c
  (fun s ob => ⟨il, o, by
   unfold ligaW;rw [List.append_assoc, List.getElem?_append_left (by simpa using hll), List.getElem?_set_self hll]⟩) _ _ hact [] (l, []) none ⟨rfl, by simp, fun x hx => by simp at hx⟩ (by simpa [List.append_assoc] using st4) hl
 have hr : runD t.m (fun s : List Gl × List Int => s.1) (fun s i e => (doLi t s i e, i, i + 1)) (2 * (l.length : Int) + 128) (2 * l.length + 128) ((l, []), ⟨0, 0, 0, 0⟩) = runLr t l := by unfold runLr; rfl
 rw [hr] at eR st5;have b0 := st4.memBlk (c := H.n) (k := ⟨[ligaV t], 1, false⟩) (by unfold ligaW; simp);have b1 := st4.memBlk (c := H.n + 1) (k := ⟨[ptrV c], 1, false⟩) (by unfold ligaW; simp);refine ⟨H7, ?_, ?_⟩
 ·rw [ζhc, nrm_of];have v1 := veq_liga t;have v2 := veq_mach t.m;unfold runL;generalize runLr t l = r at eR ⊢;rw [hH3] at ePl eR b0 b1;simp only [hn_push] at ePl eR;simp -implicitDefEqProofs (disch := omega) [ζ3s, ePl, eR, v1, v2]
 ·unfold runL;generalize runLr t l = r at st5 ⊢;unfold ligaW at st5;have := st5.take L.length;rw [List.append_assoc, List.append_assoc, List.take_append_of_le_length (by simp), List.take_of_length_le (by simp)] at this;exact this
end Go.Sw
end
section
namespace Go.Sw
open Go.RowKit
end Go.Sw
end
