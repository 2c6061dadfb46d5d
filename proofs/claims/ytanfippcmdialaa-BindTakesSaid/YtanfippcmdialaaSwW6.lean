/-
  Functions' forms, and what is proved of them, part 6.
-/
import Derived.Test.YtanfippcmdialaaSwW5
import Derived.Test.YtanfippcmdialaaSwW3
import Derived.Test.YtanfippcmdialaaSwCfg
import Derived.Test.YtanfippcmdialaaSwW4
import Derived.Test.YtanfippcmdialaaSwLib10
import Derived.RangeFuncKeeps
import Derived.RangeFuncLeaves
import Derived.Shelf.Abstract
import Derived.WalkKit
import Derived.OwnWalkIn
import Derived.TacticsInMore
import Derived.LoopNIn
import Derived.LoopIn
import Derived.Tactics
import Derived.Tactics2
import Derived.Defers
import Derived.Recover
import Derived.Laws.Pointers
import Derived.Laws.IdiomCopy
import Derived.Lib.Walk
import Derived.Lib.SliceRun
import Derived.Lib.JoinLaws
import Derived.Lib.AppendZeros
import Derived.Lib.AppendZerosOnto
import Derived.Lib.Overlaps
import Derived.Laws.Externs
import Derived.Laws.NewBlocks
import Derived.Deep.RegionLaw
import Derived.Test.YtanfippcmdialaaSwLib9
set_option linter.unusedSimpArgs false
set_option linter.unusedVariables false
set_option linter.unusedSectionVars false
section
namespace Go.Sw
open Go.RowKit
theorem Star.memB {H0 H : Heap} {L : List It} (h : Star H0 H L) {c : Nat} {k : Blk} (hm : itBlk c k ∈ L) : H.get c = some k := by
 obtain ⟨j, hj⟩ := List.getElem?_of_mem hm;exact h.get j hj
def bindW (t : BTab) (L : List It) (ip p : Nat) (op : Option Nat) (down : Bool) (c an mb lb tb pb qb : Nat) (s : List Pl × Int) : List It :=
 L.set ip (itPl p op down s.1) ++ [itBlk mb ⟨[.int .i64 s.2], 1, false⟩, itBlk lb ⟨[ptrV c], 1, false⟩, itBlk tb ⟨[bindV t], 1, false⟩, itBlk pb ⟨[ptrV an], 1, false⟩, itBlk qb ⟨[ptrV p], 1, false⟩]
set_option maxHeartbeats 2000000 in
theorem bind_do (k : Nat) (t : BTab) (ht : t.ok) (L : List It) (il ip ia c p an mb lb tb pb qb : Nat) (o op : Option Nat) (down : Bool) (hip : ip < L.length) (gl : List Gl) (hil : L[il]? = some (itLine c o gl)) (hne : il ≠ ip) (hia : L[ia]? = some (itBlk an ⟨nilAnk, 1, false⟩)) (hna : ia ≠ ip) {H0 : Heap} :
  DoOk k t.m H0 (bindW t L ip p op down c an mb lb tb pb qb) (fun s => ∀ q, q ∈ s.1 → q.ok) (.func (.func F.bind_Table_Run_in1) #[] #[ptrV lb, ptrV mb, ptrV tb, ptrV pb, ptrV qb]) (doBi t noPg gl) := by
 intro s j e H X hI st h0 h1 he;obtain ⟨l, mark⟩ := s;dsimp only at hI;have hok' : ∀ q, q ∈ (doBi t noPg gl (l, mark) j e).1 → q.ok := bindPl_ok t noPg gl hI j mark e;have heb := ht.m.ent e he;have hill := (List.getElem?_eq_some_iff.1 hil).1;have hial := (List.getElem?_eq_some_iff.1 hia).1;unfold bindW at st;dsimp only at st;obtain ⟨S, hS⟩ : ∃ S : List Pl → Int → List It, S = fun l' m' => L.set ip (itPl p op down l') ++ itBlk mb ⟨[.int .i64 m'], 1, false⟩ :: ([itBlk lb ⟨[ptrV c], 1, false⟩, itBlk tb ⟨[bindV t], 1, false⟩, itBlk pb ⟨[ptrV an], 1, false⟩, itBlk qb ⟨[ptrV p], 1, false⟩] ++ (X ++ [itBlk H.n ⟨encEn e, 1, false⟩])) := ⟨_, rfl⟩
 have hSv : ∀ l' m', S l' m' = L.set ip (itPl p op down l') ++ itBlk mb ⟨[.int .i64 m'], 1, false⟩ :: ([itBlk lb ⟨[ptrV c], 1, false⟩, itBlk tb ⟨[bindV t], 1, false⟩, itBlk pb ⟨[ptrV an], 1, false⟩, itBlk qb ⟨[ptrV p], 1, false⟩] ++ (X ++ [itBlk H.n ⟨encEn e, 1, false⟩])) := fun _ _ => by rw [hS]
 have hmx : ∀ l' m', (S l' m')[L.length]? = some (itBlk mb ⟨[.int .i64 m'], 1, false⟩) := fun l' m' => by
  rw [hSv, List.getElem?_append_right (by simp)];simp
 have hpx : ∀ l' m', (S l' m')[ip]? = some (itPl p op down l') := fun l' m' => by
  rw [hSv, List.getElem?_append_left (by simpa using hip), List.getElem?_set_self hip]
 have hlx : ∀ l' m', (S l' m')[il]? = some (itLine c o gl) := fun l' m' => by
  rw [hSv, List.getElem?_append_left (by simpa using hill), List.getElem?_set_ne (fun h => hne h.symm)];exact hil
 have hax : ∀ l' m', (S l' m')[ia]? = some (itBlk an ⟨nilAnk, 1, false⟩) := fun l' m' => by
  rw [hSv, List.getElem?_append_left (by simpa using hial), List.getElem?_set_ne (fun h => hna h.symm)];exact hia
 have setM : ∀ l' m' m'', (S l' m').set L.length (itBlk mb ⟨[.int .i64 m''], 1, false⟩) = S l' m'' := fun l' m' m'' => by
  rw [hSv, hSv, List.set_append_right _ _ (by simp)];simp
 have setP : ∀ l' l'' m', (S l' m').set ip (itPl p op down l'') = S l'' m' := fun l' l'' m' => by
  rw [hSv, hSv, List.set_append_left _ _ (by simpa using hip), List.set_set]
 have look : ∀ {H' : Heap} {l' m'}, Star H0 H' (S l' m') → H'.get mb = some ⟨[.int .i64 m'], 1, false⟩ ∧ H'.get lb = some ⟨[ptrV c], 1, false⟩ ∧ H'.get tb = some ⟨[bindV t], 1, false⟩ ∧ H'.get pb = some ⟨[ptrV an], 1, false⟩ ∧ H'.get qb = some ⟨[ptrV p], 1, false⟩ ∧ H'.get H.n = some ⟨encEn e, 1, false⟩ := fun {H' l' m'} h => by
  rw [hSv] at h;exact ⟨h.memB (by simp), h.memB (by simp), h.memB (by simp), h.memB (by simp), h.memB (by simp), h.memB (by simp)⟩
 have st2 : Star H0 (H.push ⟨encEn e, 1, false⟩) (S l mark) := by
  have := st.push ⟨encEn e, 1, false⟩;rw [hSv];simpa using this
 have fin : ∀ {H' : Heap} {l' m'}, Star H0 H' (S l' m') → Star H0 H' (bindW t L ip p op down c an mb lb tb pb qb (l', m') ++ X) := fun {H' l' m'} h => by
  rw [hSv] at h;have e1 : L.set ip (itPl p op down l') ++ itBlk mb ⟨[.int .i64 m'], 1, false⟩ :: ([itBlk lb ⟨[ptrV c], 1, false⟩, itBlk tb ⟨[bindV t], 1, false⟩, itBlk pb ⟨[ptrV an], 1, false⟩, itBlk qb ⟨[ptrV p], 1, false⟩] ++ (X ++ [itBlk H.n ⟨encEn e, 1, false⟩])) = (bindW t L ip p op down c an mb lb tb pb qb (l', m') ++ X) ++ [itBlk H.n ⟨encEn e, 1, false⟩] := by
   unfold bindW;simp
  rw [e1] at h;exact h.drop_last
 have ha15 := fun H => and15 Prog 3 H heb.2.2.1 heb.2.2.2.1;have nq : ∀ b, b < H.n → ¬ b = H.n ∧ ¬ b = H.n + 1 ∧ ¬ b = H.n + 1 + 1 ∧ ¬ b = H.n + 1 + 1 + 1 ∧ ¬ b = H.n + 1 + 1 + 1 + 1 := fun b hb => by omega
 obtain ⟨n11, n12, n13, n14, n15⟩ := nq mb (Heap.get_lt (st.memB (c := mb) (k := ⟨[.int .i64 mark], 1, false⟩) (by simp)));obtain ⟨n21, n22, n23, n24, n25⟩ := nq lb (Heap.get_lt (st.memB (c := lb) (k := ⟨[ptrV c], 1, false⟩) (by simp)));obtain ⟨n31, n32, n33, n34, n35⟩ := nq tb (Heap.get_lt (st.memB (c := tb) (k := ⟨[bindV t], 1, false⟩) (by simp)));obtain ⟨n41, n42, n43, n44, n45⟩ := nq pb (Heap.get_lt (st.memB (c := pb) (k := ⟨[ptrV an], 1, false⟩) (by simp)));obtain ⟨n51, n52, n53, n54, n55⟩ := nq qb (Heap.get_lt (st.memB (c := qb) (k := ⟨[ptrV p], 1, false⟩) (by simp)));have z1 := st.memB (c := mb) (k := ⟨[.int .i64 mark], 1, false⟩) (by simp);have z2 := st.memB (c := lb) (k := ⟨[ptrV c], 1, false⟩) (by simp);have z3 := st.memB (c := tb) (k := ⟨[bindV t], 1, false⟩) (by simp);have z4 := st.memB (c := pb) (k := ⟨[ptrV an], 1, false⟩) (by simp);have z5 := st.memB (c := qb) (k := ⟨[ptrV p], 1, false⟩) (by simp);clear st;obtain ⟨here, hhere⟩ : ∃ x, x = atG gl j := ⟨_, rfl⟩
 obtain ⟨mkd, hmkd⟩ : ∃ x, x = atG gl mark := ⟨_, rfl⟩
 -- the mark
 have tail : ∀ {H' : Heap} {l'}, Star H0 H' (S l' mark) → ∃ H'', (∀ a10, a10 = Value.bool here.isSome → bind_Table_Run_in1_j1 k (R (T k)) (.int .i64 j) (ptrV mb) (ptrV H.n) a10 H' = .ok (.tuple #[]) H'') ∧
   Star H0 H'' (bindW t L ip p op down c an mb lb tb pb qb (l', if e.flags ≥ 32768 ∧ here.isSome = true then j else mark) ++ X) := fun {H' l'} h => by
  obtain ⟨w1, w2, w3, w4, w5, w6⟩ := look h;by_cases d1 : e.flags ≥ 32768
  ·cases hh : here.isSome with
   | true =>
    have := h.setBlk L.length (hmx _ _) ⟨[.int .i64 j], 1, false⟩;rw [setM] at this;refine ⟨_, fun a10 ha => ?_, by rw [if_pos ⟨d1, rfl⟩]; exact fin this⟩;subst ha;rw [bind_Table_Run_in1_j1_eq];rw [if_pos d1] at ha15;simp -implicitDefEqProofs (disch := omega) [w1, w6, ha15, bne]
   | false =>
    refine ⟨H', fun a10 ha => ?_, by rw [if_neg (fun h => by cases h.2)]; exact fin h⟩;subst ha;rw [bind_Table_Run_in1_j1_eq];rw [if_pos d1] at ha15;simp -implicitDefEqProofs (disch := omega) [w1, w6, ha15, bne]
  ·refine ⟨H', fun a10 ha => ?_, by rw [if_neg (fun h => d1 h.1)]; exact fin h⟩;subst ha;rw [bind_Table_Run_in1_j1_eq];rw [if_neg d1] at ha15;simp -implicitDefEqProofs (disch := omega) [w1, w6, ha15, bne]
 have j21 : ∀ {H' : Heap} (a6 a13 a14 a48 a10 : Value), bind_Table_Run_in1_j2 k (R (T k)) (.int .i64 j) (ptrV mb) a6 (ptrV H.n) a10 a13 a14 a48 H' = bind_Table_Run_in1_j1 k (R (T k)) (.int .i64 j) (ptrV mb) (ptrV H.n) a10 H' := fun a6 a13 a14 a48 a10 => by rw [bind_Table_Run_in1_j2_eq, bind_Table_Run_in1_j1_eq]
 have j31 : ∀ {H' : Heap} (a4 a5 a6 a9 a11 a36 a10 : Value), bind_Table_Run_in1_j3 k (R (T k)) (.int .i64 j) (ptrV mb) a4 a5 a6 (ptrV H.n) a9 a10 a11 a36 H' = bind_Table_Run_in1_j1 k (R (T k)) (.int .i64 j) (ptrV mb) (ptrV H.n) a10 H' := fun a4 a5 a6 a9 a11 a36 a10 => by rw [bind_Table_Run_in1_j3_eq, bind_Table_Run_in1_j1_eq]
 have hat1 := lineAt_run k st2 il (hlx _ _) j;rw [← hhere] at hat1;have st3 := st2.rest ((Ext.refl _).push ⟨(encG (here.getD ⟨0, 0⟩)), 1, false⟩);have hat2 := lineAt_run k st3 il (hlx _ _) mark;rw [← hmkd] at hat2;have st4 := st3.rest ((Ext.refl _).push ⟨(encG (mkd.getD ⟨0, 0⟩)), 1, false⟩);obtain ⟨y1, y2, y3, y4, y5, y6⟩ := look st2;obtain ⟨x1, x2, x3, x4, x5, x6⟩ := look st4
 have fini : ∀ {R0 : Res Value} {l'}, bindPl t noPg gl l j mark e = l' → (∃ H'', R0 = .ok (.tuple #[]) H'' ∧ Star H0 H'' (bindW t L ip p op down c an mb lb tb pb qb (l', if e.flags ≥ 32768 ∧ here.isSome = true then j else mark) ++ X)) →
   ∃ v H', R0 = .ok v H' ∧ Star H0 H' (bindW t L ip p op down c an mb lb tb pb qb (doBi t noPg gl (l, mark) j e) ++ X) ∧ ∀ q, q ∈ (doBi t noPg gl (l, mark) j e).1 → q.ok := fun {R0 l'} hb ⟨H'', h1, h2⟩ => by
  refine ⟨_, H'', h1, ?_, hok'⟩;unfold doBi;rw [hb, ← hhere];exact h2
 simp only [callV, List.nil_append, List.cons_append];rw [bind_Table_Run_in1_R];by_cases c1 : e.a = 65535
 ·have c1' : (e.a != 65535) = false := by rw [c1]; rfl
  refine fini (l' := l) (by unfold bindPl; rw [if_pos c1]) ?_;obtain ⟨H'', t1, t2⟩ := tail st4;refine ⟨H'', nrm_of ?_, t2⟩;have t1 := t1 _ rfl;unfold encA at hat1 hat2;simp -implicitDefEqProofs (disch := omega) [bind_Table_Run_in1, n11, n12, n13, n14, n15, n21, n22, n23, n24, n25, n31, n32, n33, n34, n35, n41, n42, n43, n44, n45, n51, n52, n53, n54, n55, z1, z2, z3, z4, z5, hat1, hat2, c1', j31, t1]
 have c1' : (e.a != 65535) = true := by rw [bne_iff_ne]; exact c1
 cases hh : here with
 | none =>
  refine fini (l' := l) (by unfold bindPl; rw [if_neg c1, ← hhere, hh]) ?_;obtain ⟨H'', t1, t2⟩ := tail st4;refine ⟨H'', nrm_of ?_, t2⟩;have t1 := t1 _ rfl;unfold encA at hat1 hat2;rw [hh] at hat1 t1 hat2;simp only [Option.getD_none, Option.isSome_none] at hat1 t1 hat2;simp -implicitDefEqProofs (disch := omega) [bind_Table_Run_in1, n11, n12, n13, n14, n15, n21, n22, n23, n24, n25, n31, n32, n33, n34, n35, n41, n42, n43, n44, n45, n51, n52, n53, n54, n55, z1, z2, z3, z4, z5, hat1, hat2, c1', j31, t1]
 | some own =>
  cases hm : mkd with
  | none =>
   refine fini (l' := l) (by unfold bindPl; rw [if_neg c1, ← hhere, ← hmkd, hh, hm]) ?_;obtain ⟨H'', t1, t2⟩ := tail st4;refine ⟨H'', nrm_of ?_, t2⟩;have t1 := t1 _ rfl;unfold encA at hat1 hat2;rw [hh, hm] at t1;rw [hh] at hat1;rw [hm, hh] at hat2;simp only [Option.getD_none, Option.isSome_none, Option.getD_some, Option.isSome_some] at hat1 t1 hat2;simp -implicitDefEqProofs (disch := omega) [bind_Table_Run_in1, n11, n12, n13, n14, n15, n21, n22, n23, n24, n25, n31, n32, n33, n34, n35, n41, n42, n43, n44, n45, n51, n52, n53, n54, n55, z1, z2, z3, z4, z5, hat1, hat2, c1', j31, t1]
  | some mk =>
   have han := st4.get ia (hax _ _);obtain ⟨P, Q, ep, hpr, hPb, hQb⟩ := points_run k t ht e.a ⟨heb.2.2.2.2.1, heb.2.2.2.2.2.1⟩ (fun hk => (ht.has hk e he).resolve_left c1) mk own han;have st5 := st4.rest (((Ext.refl _).push ⟨[.int .i64 P.1, .int .i64 P.2], 1, false⟩).push ⟨[.int .i64 Q.1, .int .i64 Q.2], 1, false⟩);unfold encA at hat1 hat2 ep;unfold ptV at ep;rw [hh, hm] at ep st5;rw [hh] at hat1;rw [hm, hh] at hat2;simp only [Option.getD_some, Option.isSome_some] at hat1 hat2 ep st5;cases hps : ptsS t noPg e.a mk.id own.id with
   | none =>
    rw [hps] at ep;refine fini (l' := l) (by unfold bindPl; rw [if_neg c1, ← hhere, ← hmkd, hh, hm]; dsimp only; rw [hps]) ?_;obtain ⟨H'', t1, t2⟩ := tail st5;refine ⟨H'', nrm_of ?_, t2⟩;have t1 := t1 _ rfl;rw [hh] at t1;simp only [Option.isSome_some, Option.isSome_none] at t1 ep;simp -implicitDefEqProofs (disch := omega) [bind_Table_Run_in1, n11, n12, n13, n14, n15, n21, n22, n23, n24, n25, n31, n32, n33, n34, n35, n41, n42, n43, n44, n45, n51, n52, n53, n54, n55, z1, z2, z3, z4, z5, hat1, hat2, c1', j21, t1, ep]
   | some r =>
    obtain rfl := hpr r hps;rw [hps] at ep;obtain ⟨H6, es, st6⟩ := shift_star k st5 ip (hpx _ _) hI j (P.1 - Q.1) (P.2 - Q.2);rw [setP] at st6;refine fini (l' := shiftPl l j (P.1 - Q.1) (P.2 - Q.2)) (by unfold bindPl; rw [if_neg c1, ← hhere, ← hmkd, hh, hm]; dsimp only; rw [hps]) ?_;obtain ⟨H'', t1, t2⟩ := tail st6;refine ⟨H'', nrm_of ?_, t2⟩;have t1 := t1 _ rfl;rw [hh] at t1;simp only [Option.isSome_some, Option.isSome_none] at t1 ep;have w1 : IntKind.i64.wrap (P.1 - Q.1) = P.1 - Q.1 := wrap_i64 (by omega) (by omega);have w2 : IntKind.i64.wrap (P.2 - Q.2) = P.2 - Q.2 := wrap_i64 (by omega) (by omega);simp -implicitDefEqProofs (disch := omega) [bind_Table_Run_in1, n11, n12, n13, n14, n15, n21, n22, n23, n24, n25, n31, n32, n33, n34, n35, n41, n42, n43, n44, n45, n51, n52, n53, n54, n55, z1, z2, z3, z4, z5, hat1, hat2, c1', t1, ep, es, w1, w2]
end Go.Sw
end
section
namespace Go.Sw
open Go.RowKit
theorem perm5 {α : Type} (a b c d e : α) : [a, b, c, d, e].Perm [e, b, a, d, c] :=
 (List.perm_append_comm (l₁ := [a, b, c, d]) (l₂ := [e])).trans (.cons e ((List.Perm.swap b a [c, d]).trans (.cons b (.cons a (.swap d c [])))))
theorem veq_bind (t : BTab) : veq (bindV t) (bindV t) = true := veq_boxV (l := bindC t) fun v hv => by
 simp [bindC] at hv;rcases hv with rfl | rfl | rfl
 ·exact veq_mach _
 ·simp
 ·exact veq_B _
set_option maxHeartbeats 1000000 in
theorem bindRun_star (k : Nat) (t : BTab) (ht : t.ok) {H0 H : Heap} {L : List It} (h : Star H0 H L) (il ip ia : Nat) (hne : il ≠ ip) (hna : ia ≠ ip) {c p an : Nat} {o op : Option Nat} {down : Bool} {gl : List Gl} {l : List Pl} (hil : L[il]? = some (itLine c o gl)) (hip : L[ip]? = some (itPl p op down l)) (hia : L[ia]? = some (itBlk an ⟨nilAnk, 1, false⟩)) (hl : gl.length < 2 ^ 40) (hok : ∀ q, q ∈ l → q.ok) :
  ∃ H', R (T k) F.bind_Table_Run [bindV t, ptrV c, ptrV p, ptrV an] H = .ok (.int .i64 (runB t noPg gl l).2) H' ∧ Star H0 H' (L.set ip (itPl p op down (runB t noPg gl l).1)) ∧ ∀ q, q ∈ (runB t noPg gl l).1 → q.ok := by
 have hlt := (List.getElem?_eq_some_iff.1 hip).1;have hll := (List.getElem?_eq_some_iff.1 hil).1;have same : L.set ip (itPl p op down l) = L := by
  obtain ⟨hlt, hx⟩ := List.getElem?_eq_some_iff.1 hip;rw [← hx, List.set_getElem_self]
 have st := ((((h.push ⟨[bindV t], 1, false⟩).push ⟨[ptrV c], 1, false⟩).push ⟨[ptrV p], 1, false⟩).push ⟨[ptrV an], 1, false⟩).push ⟨[.int .i64 (-1)], 1, false⟩;simp only [hn_push] at st;obtain ⟨H5, hH5⟩ : ∃ H5, H5 = ((((H.push ⟨[bindV t], 1, false⟩).push ⟨[ptrV c], 1, false⟩).push ⟨[ptrV p], 1, false⟩).push ⟨[ptrV an], 1, false⟩).push ⟨[.int .i64 (-1)], 1, false⟩ := ⟨_, rfl⟩
 rw [← hH5] at st;have st : Star H0 H5 (bindW t L ip p op down c an (H.n + 4) (H.n + 1) H.n (H.n + 3) (H.n + 2) (l, -1)) := by
  refine st.perm ?_;unfold bindW;dsimp only;rw [same];simp only [List.append_assoc, List.cons_append, List.nil_append];refine List.Perm.append_left L ?_;exact perm5 _ _ _ _ _
 have ePl := plainNew k (.func F.bind_Table_Run_in1) #[] #[ptrV (H.n + 1), ptrV (H.n + 4), ptrV H.n, ptrV (H.n + 3), ptrV (H.n + 2)] H5;have st4 := st.push ⟨[.func (.func F.bind_Table_Run_in1) #[] #[ptrV (H.n + 1), ptrV (H.n + 4), ptrV H.n, ptrV (H.n + 3), ptrV (H.n + 2)]], 1, false⟩;have hact := plain_ok k (bind_do k t ht L il ip ia c p an (H.n + 4) (H.n + 1) H.n (H.n + 3) (H.n + 2) o op down hlt gl hil hne hia hna (H0 := H0)) H5.n
 obtain ⟨H7, eR, st5, hokR⟩ := driveRun_star k t.m ht.m (fun s : List Pl × Int => bindW t L ip p op down c an (H.n + 4) (H.n + 1) H.n (H.n + 3) (H.n + 2) s ++ [itBlk H5.n ⟨[.func (.func F.bind_Table_Run_in1) #[] #[ptrV (H.n + 1), ptrV (H.n + 4), ptrV H.n, ptrV (H.n + 3), ptrV (H.n + 2)]], 1, false⟩]) (fun s => ∀ q, q ∈ s.1 → q.ok) (fun _ => gl) c
  (fun s => ⟨il, o, by
   unfold bindW;rw [List.append_assoc, List.getElem?_append_left (by simpa using hll), List.getElem?_set_ne (fun h => hne h.symm)];exact hil⟩) _ _ hact [] (l, -1) hok (by simpa [List.append_assoc] using st4) hl
 have hr : runD t.m (fun _ : List Pl × Int => gl) (fun s i e => (doBi t noPg gl s i e, i, i + 1)) (2 * (gl.length : Int) + 128) (2 * gl.length + 128) ((l, -1), ⟨0, 0, 0, 0⟩) = runBr t noPg gl l := by unfold runBr; rfl
 rw [hr] at eR st5 hokR;have b0 := st4.memB (c := H.n) (k := ⟨[bindV t], 1, false⟩) (by unfold bindW; simp);have b1 := st4.memB (c := H.n + 1) (k := ⟨[ptrV c], 1, false⟩) (by unfold bindW; simp);refine ⟨H7, ?_, ?_, ?_⟩
 ·rw [bind_Table_Run_R, nrm_of];have v1 := veq_bind t;have v2 := veq_mach t.m;unfold runB;generalize runBr t noPg gl l = r at eR ⊢;rw [hH5] at ePl eR b0 b1;simp only [hn_push] at ePl eR;have n2 : H.n + 1 + 1 = H.n + 2 := rfl;have n3 : H.n + 2 + 1 = H.n + 3 := rfl;have n4 : H.n + 3 + 1 = H.n + 4 := rfl;simp -implicitDefEqProofs (disch := omega) [bind_Table_Run, n2, n3, n4, ePl, eR, v1, v2]
 ·unfold runB;generalize runBr t noPg gl l = r at st5 ⊢;unfold bindW at st5;have := st5.take L.length;rw [List.append_assoc, List.append_assoc, List.take_append_of_le_length (by simp), List.take_of_length_le (by simp)] at this;exact this
 ·unfold runB;generalize runBr t noPg gl l = r at hokR ⊢;exact hokR
end Go.Sw
end
section
namespace Go.Sw
open Go.RowKit
variable {σ : Type}
theorem runD_inv (m : Mach) (hm : m.ok) (ln : σ → List Gl) (f : σ → Int → En → σ × Int × Int) (P : σ → Prop) (hf : ∀ s i e, P s → 0 ≤ i → e ∈ m.ents → P (f s i e).1) (most : Int) :
  ∀ (n : Nat) (x : σ × Drv), P x.1 → 0 ≤ x.2.pl → 0 ≤ x.2.st → x.2.st < m.rows.length → P (runD m ln f most n x).2.2
 | 0, x, h, _, _, _ => h
 | n + 1, x, h, hp, h0, h1 => by
  have hmem := entS_mem hm (ln x.1) x.2 ⟨h0, h1⟩;have hent := hm.ent _ hmem;have hP : P (stepD m ln f x).1.1 := by unfold stepD; split <;> exact hf _ _ _ h hp hmem
  have hst : 0 ≤ (stepD m ln f x).1.2.st ∧ (stepD m ln f x).1.2.st < m.rows.length := by unfold stepD; split <;> exact ⟨hent.1, hent.2.1⟩
  have hpl := stepD_pl m ln f x;unfold runD;split
  ·split
   ·exact hP
   ·split
    ·exact hP
    ·exact runD_inv m hm ln f P hf most n _ hP hpl hst.1 hst.2
  ·exact h
end Go.Sw
end
section
namespace Go.Sw
open Go.RowKit
end Go.Sw
end
section
set_option maxRecDepth 100000
set_option linter.unusedVariables false
namespace Go.Sw
noncomputable section
def swashlaw25_BindTakes (k : Nat) (call : Caller) (a0 a1 : Value) (h : Heap) : Res Value :=
 (boxR a0 h).bind fun v1 h2 =>
 (call F.swashlaw25_speaks [] h2).bind fun v3 h4 =>
 (unR .not v3 h4).bind fun v5 h6 =>
 condV (some v5) (
 .ok (.bool false) h6)
 (
 (loadR Prog 31 v1 h6).bind fun v7 h8 =>
 (builtinV Prog .len [31] [v7] h8).bind fun v9 h10 =>
 (binR Prog .gtr 3 v9 (.int .i64 800) h10).bind fun v11 h12 =>
 ((bif wantVal v11 false then Res.ok a1 h12 else Res.ok undef h12)).bind fun v13 h14 =>
 ((bif wantVal v11 false then builtinV Prog .len [23] [v13] h14 else Res.ok undef h14)).bind fun v15 h16 =>
 ((bif wantVal v11 false then binR Prog .gtr 3 v15 (.int .i64 40) h16 else Res.ok undef h16)).bind fun v17 h18 =>
 (condV (some v11) (Res.ok (.bool true) h18) (Res.ok v17 h18)).bind fun v19 h20 =>
 condV (some v19) (
 .ok (.bool true) h20)
 (
 (allocR Prog 90 h20).bind fun v21 h22 =>
 (call F.view_Try [(.func (.func F.swashlaw25_BindTakes_in1) #[] #[v1, v21])] h22).bind fun v23 h24 =>
 (loadR Prog 31 v1 h24).bind fun v25 h26 =>
 (call F.bind_Read [v25, (.int .i64 40)] h26).bind fun v27 h28 =>
 (extractR v27 0 h28).bind fun v29 h30 =>
 (extractR v27 1 h30).bind fun v31 h32 =>
 (binR Prog .eql 33 v31 (.int .i64 0) h32).bind fun v33 h34 =>
 (binR Prog .neq 4 v23 v33 h34).bind fun v35 h36 =>
 ((bif wantVal v35 false then Res.ok v23 h36 else Res.ok undef h36)).bind fun v37 h38 =>
 ((bif wantVal v35 false then loadR Prog 90 v21 h38 else Res.ok undef h38)).bind fun v39 h40 =>
 ((bif wantVal v35 false then binR Prog .neq 90 v39 (.pointer none) h40 else Res.ok undef h40)).bind fun v41 h42 =>
 ((bif wantVal v35 false then binR Prog .neq 4 v37 v41 h42 else Res.ok undef h42)).bind fun v43 h44 =>
 (condV (some v35) (Res.ok (.bool true) h44) (Res.ok v43 h44)).bind fun v45 h46 =>
 ((bif wantVal v45 false then Res.ok v23 h46 else Res.ok undef h46)).bind fun v47 h48 =>
 ((bif wantVal v45 false then Res.ok v29 h48 else Res.ok undef h48)).bind fun v49 h50 =>
 ((bif wantVal v45 false then binR Prog .neq 90 v49 (.pointer none) h50 else Res.ok undef h50)).bind fun v51 h52 =>
 ((bif wantVal v45 false then binR Prog .neq 4 v47 v51 h52 else Res.ok undef h52)).bind fun v53 h54 =>
 (condV (some v45) (Res.ok (.bool true) h54) (Res.ok v53 h54)).bind fun v55 h56 =>
 condV (some v55) (
 .ok (.bool false) h56)
 (
 (unR .not v23 h56).bind fun v57 h58 =>
 condV (some v57) (
 .ok (.bool true) h58)
 (
 (builtinV Prog .len [23] [a1] h58).bind fun v59 h60 =>
 (makeSliceV Prog 23 v59 v59 h60).bind fun v61 h62 =>
 (call F.place_New [(.int .i64 0), v61] h62).bind fun v63 h64 =>
 (call F.place_New [(.int .i64 0), v61] h64).bind fun v65 h66 =>
 (loadR Prog 90 v21 h66).bindN fun v67 h68 =>
 (call F.line_New [a1] h68).bindT (fun p71 h72 => (buildR Prog 77 [] h68).bindN fun v73 h74 => (boxR v73 h74).bindN fun v75 h76 => (buildR Prog 77 [] h76).bindN fun v77 h78 => (boxR v77 h78).bindN fun v79 h80 => chkR ((okVal (loadR Prog 90 v21 h76) v67 && true) && true) (.panic p71 h72)) fun v69 h70 =>
 (buildR Prog 77 [] h70).bindN fun v81 h82 =>
 (boxR v81 h82).bindN fun v83 h84 =>
 (call F.bind_Table_Run [v67, v69, v63, v83] h84).bindT (fun p87 h88 => (buildR Prog 77 [] h84).bindN fun v89 h90 => (boxR v89 h90).bindN fun v91 h92 => chkR ((okVal (loadR Prog 90 v21 h70) v67 && (okVal (loadR Prog 90 v21 h84) v67 && true)) && true) (.panic p87 h88)) fun v85 h86 =>
 (call F.line_New [a1] h86).bindT (fun p95 h96 => (buildR Prog 77 [] h86).bindN fun v97 h98 => (boxR v97 h98).bindN fun v99 h100 => chkR ((okVal (loadR Prog 90 v21 h70) v67 && (okVal (loadR Prog 90 v21 h84) v67 && true)) && true) (.panic p95 h96)) fun v93 h94 =>
 (buildR Prog 77 [] h94).bindN fun v101 h102 =>
 (boxR v101 h102).bindN fun v103 h104 =>
 (call F.bind_Table_Run [v29, v93, v65, v103] h104).bindT (fun p107 h108 => chkR ((okVal (loadR Prog 90 v21 h70) v67 && (okVal (loadR Prog 90 v21 h84) v67 && true)) && true) (.panic p107 h108)) fun v105 h106 =>
 (binR Prog .eql 33 v85 v105 h106).bindN fun v109 h110 =>
 ((bif wantVal v109 true then Res.ok v63 h110 else Res.ok undef h110)).bindN fun v111 h112 =>
 ((bif wantVal v109 true then call F.place_Places_All [v111] h112 else Res.ok undef h112)).bindT (fun p115 h116 => ((bif wantVal v109 true then Res.ok v65 h112 else Res.ok undef h112)).bindN fun v117 h118 => chkR ((okVal (loadR Prog 90 v21 h70) v67 && (okVal (loadR Prog 90 v21 h84) v67 && true)) && true) (.panic p115 h116)) fun v113 h114 =>
 ((bif wantVal v109 true then Res.ok v65 h114 else Res.ok undef h114)).bindN fun v119 h120 =>
 ((bif wantVal v109 true then call F.place_Places_All [v119] h120 else Res.ok undef h120)).bindT (fun p123 h124 => chkR ((okVal (loadR Prog 90 v21 h70) v67 && (okVal (loadR Prog 90 v21 h84) v67 && true)) && true) (.panic p123 h124)) fun v121 h122 =>
 ((bif wantVal v109 true then call F.swashref21_Same [v113, v121] h122 else Res.ok undef h122)).bindT (fun p127 h128 => chkR ((okVal (loadR Prog 90 v21 h70) v67 && (okVal (loadR Prog 90 v21 h84) v67 && true)) && true) (.panic p127 h128)) fun v125 h126 =>
 (condV (some v109) (Res.ok v125 h126) (Res.ok (.bool false) h126)).bindN fun v129 h130 =>
 chkR ((okVal (loadR Prog 90 v21 h70) v67 && (okVal (loadR Prog 90 v21 h84) v67 && true)) && true) (
 .ok v129 h130)))))
theorem swashlaw25_BindTakes_R (k : Nat) (a0 a1 : Value) (h : Heap) : R (T k) F.swashlaw25_BindTakes [a0, a1] h = nrm .gc h (swashlaw25_BindTakes k (R (T k)) a0 a1 h) :=
 (R_body (t := T k) (T_scott k) (by kernel_rfl) (by kernel_rfl) _ _).trans (by kernel_rfl)
def swashlaw25_BindTakes_in1 (k : Nat) (call : Caller) (a0 a1 : Value) (h : Heap) : Res Value :=
 (loadR Prog 31 a0 h).bind fun v1 h2 =>
 (call F.view_Of [v1] h2).bind fun v3 h4 =>
 (call F.bind_Take [v3, (.int .i64 40)] h4).bind fun v5 h6 =>
 (storeR Prog 90 a1 v5 h6).bind fun _v7 h8 =>
 .ok (.tuple #[]) h8
theorem swashlaw25_BindTakes_in1_R (k : Nat) (a0 a1 : Value) (h : Heap) : R (T k) F.swashlaw25_BindTakes_in1 [a0, a1] h = nrm .no h (swashlaw25_BindTakes_in1 k (R (T k)) a0 a1 h) :=
 (R_body (t := T k) (T_scott k) (by kernel_rfl) (by kernel_rfl) _ _).trans (by kernel_rfl)
end
end Go.Sw
end
section
namespace Go.Sw
open Go.RowKit
theorem speaks25_run (k : Nat) (hk : k % 1000000 = F.swashlaw25_speaks) (H : Heap) : R (T k) F.swashlaw25_speaks [] H = .ok (.bool true) H :=
 (R_sp (t := T k) (T_scott k) (s := constSp (.bool true)) (by unfold T C; dsimp only; rw [hk]; kernel_rfl) [] H).trans (nrm_gc (Pure.of rfl) (.bool _))
theorem nought_rows : ∀ n : Nat, repeatCells [Value.int .i64 0] n = rows encI (List.replicate n 0)
 | 0 => rfl
 | n + 1 => by
  have ih := nought_rows n;show [Value.int .i64 0] ++ repeatCells [Value.int .i64 0] n = _;rw [ih, List.replicate_succ];rfl
theorem nought_sl {H : Heap} {b n : Nat} (hg : H.get b = some ⟨repeatCells [Value.int .i64 0] n, 1, false⟩) : Sl H 1 (.slice (some ⟨b, 0, none⟩) n n) encI (List.replicate n 0) :=
 .inr (.inr ⟨b, 0, n, _, by rw [List.length_replicate], by rw [List.length_replicate]; exact Nat.le_refl _, hg, by rw [List.drop_zero, nought_rows, List.take_of_length_le (by rw [rows_length encI_len]; exact Nat.le_refl _)]⟩)
set_option maxRecDepth 10000 in
theorem runB_len (t : BTab) (ht : t.m.ok) (gl : List Gl) (l : List Pl) : (runB t noPg gl l).1.length = l.length := by
 unfold runB runBr;exact runD_inv t.m ht (fun _ : List Pl × Int => gl) (fun s i e => (doBi t noPg gl s i e, i, i + 1)) (fun s : List Pl × Int => s.1.length = l.length) (fun s i e hs _ _ => by
  dsimp only;unfold doBi;rw [bindPl_len];exact hs) (2 * (gl.length : Int) + 128) (2 * gl.length + 128) ((l, -1), ⟨0, 0, 0, 0⟩) rfl (Int.le_refl _) (Int.le_refl _) (by have := ht.two; dsimp only; omega)
theorem BindTakes_in1 (k : Nat) (hk : k < 1000000) {H : Heap} (b : List Int) (hb : Byt b) (hl : b.length < 2 ^ 31) (p2 p3 : Nat) (old : Value)
  (h2 : H.get p2 = some ⟨[lv encB b], 1, false⟩) (h3 : H.get p3 = some ⟨[old], 1, false⟩) :
  R (T k) F.swashlaw25_BindTakes_in1 [ptrV p2, ptrV p3] H = match bindS b 40 with
   | some x => .ok (.tuple #[]) (H.set p3 (some ⟨[bindV x], 1, false⟩))
   | none => .panic failV H := by
 rw [swashlaw25_BindTakes_in1_R];have ht := bindTake_run k hk b hb 40 (by omega) hl H;have ho := fun H => Of_lv k b H;cases h : bindS b 40 with
 | none =>
  rw [h] at ht;refine nrm_throw ⟨H, ?_, Ext.refl H⟩ Flat.fail.alive;simp -implicitDefEqProofs (disch := omega) [swashlaw25_BindTakes_in1, h2, ho, ht]
 | some x =>
  rw [h] at ht;simp -implicitDefEqProofs (disch := omega) [swashlaw25_BindTakes_in1, h2, h3, ho, ht]
set_option maxHeartbeats 2000000 in
theorem BindTakes_run (b : List Int) (hb : Byt b) (ids : List Int) : R (T F.swashlaw25_speaks) F.swashlaw25_BindTakes [lv encB b, lv encI ids] Heap.empty = .ok (.bool true) Heap.empty := by
 generalize hk : F.swashlaw25_speaks = k;have hs := speaks25_run k (by subst hk; rfl);have hk6 : k < 1000000 := by subst hk; decide
 clear hk;rw [swashlaw25_BindTakes_R];generalize Heap.empty = H;have hx1 : Ext H (H.push ⟨[lv encB b], 1, false⟩) := (Ext.refl H).push _;by_cases hl : b.length > 800
 ·have hl' : (b.length : Int) > 800 := by omega
  refine nrm_gc ⟨_, ?_, hx1⟩ (.bool _);simp -implicitDefEqProofs (disch := omega) [swashlaw25_BindTakes, hs, hl']
 have hl' : ¬ (b.length : Int) > 800 := by omega
 by_cases hi : ids.length > 40
 ·have hi' : (ids.length : Int) > 40 := by omega
  refine nrm_gc ⟨_, ?_, hx1⟩ (.bool _);simp -implicitDefEqProofs (disch := omega) [swashlaw25_BindTakes, hs, hl', hi']
 have hi' : ¬ (ids.length : Int) > 40 := by omega
 have hin := BindTakes_in1 k hk6 (H := (H.push ⟨[lv encB b], 1, false⟩).push ⟨[.pointer none], 1, false⟩) b hb (by omega) H.n (H.n + 1) (.pointer none) (by simp) (by simp);have hrd := fun H' => bindRead_run k (H := H') (Sl.lv H' 1 b) hb 40 (by omega) (fun _ H' => bindTake_run k hk6 b hb 40 (by omega) (by omega) H');unfold bindO bindN at hrd;rw [if_pos (by omega), if_pos (by omega)] at hrd;cases h : bindS b 40 with
 | none =>
  rw [h] at hin hrd;simp only [bindP, Option.isSome_none, Bool.false_eq_true, if_false] at hrd;have ht := Try_no k F.swashlaw25_BindTakes_in1 #[ptrV H.n, ptrV (H.n + 1)] hin;refine nrm_gc ⟨_, ?_, hx1.push ⟨[.pointer none], 1, false⟩⟩ (.bool _);simp -implicitDefEqProofs (disch := omega) [swashlaw25_BindTakes, hs, hl', hi', ht, hrd]
 | some t =>
  rw [h] at hin hrd;simp only [bindP, Option.isSome_some, if_true] at hrd;have ht := Try_ok k F.swashlaw25_BindTakes_in1 #[ptrV H.n, ptrV (H.n + 1)] hin;simp at ht;have hok := bindS_ok hb (by omega) (by omega) (by omega) h;have g := (((Star.nil H).push ⟨[lv encB b], 1, false⟩).push ⟨[bindV t], 1, false⟩).push ⟨repeatCells [Value.int .i64 0] ids.length, 1, false⟩;simp only [List.nil_append, List.cons_append, hn_push] at g;have hmk := fun (h : Heap) => mkR_nat 1 8 [Value.int .i64 0] .i64 .i64 ids.length h (by omega) (by decide);have hz := nought_sl (g.get 2 rfl);obtain ⟨o1, H1, e1, g⟩ := placeNew_starG k g 0 (List.replicate ids.length 0) (by simp; omega) hz;simp only [List.nil_append, List.cons_append, hn_push] at g e1;have hz := nought_sl (g.get 2 rfl);obtain ⟨o2, H2, e2, g⟩ := placeNew_starG k g 0 (List.replicate ids.length 0) (by simp; omega) hz;simp only [List.nil_append, List.cons_append] at g;have b2 := g.get 1 rfl;obtain ⟨c1, o3, H3, e3, g⟩ := lineNew_star k g ids (by omega);simp only [List.nil_append, List.cons_append] at g;have b3 := g.get 1 rfl;have g := g.push ⟨nilAnk, 1, false⟩;simp only [List.nil_append, List.cons_append] at g;have b3' := g.get 1 rfl;obtain ⟨H4, e4, g, _⟩ := bindRun_star k t hok g 5 3 6 (by decide) (by decide) rfl rfl rfl (by simp; omega) (newPl_ok _);simp only [List.set_cons_zero, List.set_cons_succ] at g;have b4 := g.get 1 rfl;obtain ⟨c2, o4, H5, e5, g⟩ := lineNew_star k g ids (by omega);simp only [List.nil_append, List.cons_append] at g;have b5 := g.get 1 rfl;have g := g.push ⟨nilAnk, 1, false⟩;simp only [List.nil_append, List.cons_append] at g;have b5' := g.get 1 rfl;obtain ⟨H6, e6, g, _⟩ := bindRun_star k t hok g 7 4 8 (by decide) (by decide) rfl rfl rfl (by simp; omega) (newPl_ok _);simp only [List.set_cons_zero, List.set_cons_succ] at g;have hlen := runB_len t hok.m (newG ids) (newPl (List.replicate ids.length 0));rw [newPl_len, List.length_replicate] at hlen;generalize runB t noPg (newG ids) (newPl (List.replicate ids.length 0)) = r at e4 e6 g hlen;have v1 := veq_bind t;have a1 := placeAll_run k hk6 g 3 rfl (by omega);have a2 := placeAll_run k hk6 g 4 rfl (by omega);have hsame := refSame_run k r.1 r.1 (by omega) H6;unfold nilAnk at e4 e6 b3' b5';refine nrm_gc ⟨H6, ?_, g.ext⟩ (.bool _);simp -implicitDefEqProofs (disch := omega) [swashlaw25_BindTakes, hs, hl', hi', ht, hrd, hmk, e1, e2, b2, b3, b3', e3, e4, b4, b5, b5', e5, e6, v1, a1, a2, hsame]
theorem BindTakes_args (vs : List Value) (h : ArgsLay [.one (.slice [.int .u8]), .one (.slice [.int .i64])] vs) : ∃ H', R (T F.swashlaw25_speaks) F.swashlaw25_BindTakes vs Heap.empty = .ok (.bool true) H' := by
 obtain ⟨v1, _, rfl, h1, h⟩ := h.head;obtain ⟨v2, _, rfl, h2, h⟩ := h.head;obtain rfl := h.done;obtain ⟨b, rfl, hb⟩ := arg_B h1;obtain ⟨ids, rfl, _⟩ := arg_I h2;exact ⟨_, BindTakes_run b hb ids⟩
end Go.Sw
end
section
namespace Go.Sw
open Go.RowKit Go.Proofs Go.Shelf
attribute [local go_sem] Oper.semAt_some
set_option maxRecDepth 100000 in
set_option maxHeartbeats 1000000 in
theorem it_at_in (W : World) (f l id x : Int) (blk off m cap : Nat) (hf : 0 ≤ f) (hid : f ≤ id) (hil : id < 4294967296) (hm : 0 < m) (hm2 : m < 2 ^ 60)
  (hc : W.cell? ⟨blk, off + min (id - f).toNat (m - 1), none⟩ = some (.int .i64 x)) (hb : blk < W.heap.size) :
  CallsIn Fence.wide 1 Prog 81 #[.agg #[.int .i64 f, .int .i64 l, .slice (some ⟨blk, off, none⟩) m cap], .int .i64 id] W fun e W' => e = .returned (.int .i64 x) ∧ W' = W.alloc (.cells #[.int .i64 f, .int .i64 l, .slice (some ⟨blk, off, none⟩) m cap] 179) := by
 refine callsIn_of_wp Try.func81 rfl trivial ?_ rfl;simp only [Try.ntmps81, List.size_toArray, List.length_cons, List.length_nil, Nat.reduceAdd, Nat.reduceSub, Array.replicate_succ, Array.replicate_zero, List.push_toArray, List.append_toArray, List.nil_append, List.cons_append];have hw' : W.cell? ⟨blk, off + (min (id - f) ((m : Int) - 1)).toNat, none⟩ = some (.int .i64 x) := by
  rw [← hc, show (min (id - f) ((m : Int) - 1)).toNat = min (id - f).toNat (m - 1) by omega]
 by_cases hlt : (m : Int) - 1 < id - f
 ·have hw : W.cell? ⟨blk, off + (m - 1), none⟩ = some (.int .i64 x) := by
   rw [← hc, show min (id - f).toNat (m - 1) = m - 1 by omega]
  gi_wp2
  go_ret
  exact ⟨rfl, rfl⟩
 ·have hw : W.cell? ⟨blk, off + (id - f).toNat, none⟩ = some (.int .i64 x) := by
   rw [← hc, show min (id - f).toNat (m - 1) = (id - f).toNat by omega]
  gi_wp2
  go_ret
  exact ⟨rfl, rfl⟩
structure Pa where
 f : Int
 l : Int
 m : Nat
 x : Nat → Int
def paN (p : Pa) : Nat := (p.l - p.f + 1).toNat
def PaZ (z : Nat → Option Obj) (cs : Array Value) (o : Nat) (p : Pa) : Prop :=
 ∃ a cap, cs[o]? = some (.int .i64 p.f) ∧ cs[o + 1]? = some (.int .i64 p.l) ∧ cs[o + 2]? = some (.slice a p.m cap) ∧
  (0 < p.m → ∃ blk off ws el fz, a = some ⟨blk, off, none⟩ ∧ z blk = some (.cells ws el fz) ∧ ∀ j, j < paN p → ws[off + min j (p.m - 1)]? = some (.int .i64 (p.x j)))
def cntP (ps : List Pa) : Nat := (ps.map paN).sum
set_option maxRecDepth 100000 in
set_option maxHeartbeats 4000000 in
theorem it_all_in (z : Nat → Option Obj) (l0 : Nat) (J : Nat → (Nat → Prop) → World → Prop) (Jx : World → Prop) (Jp : List PanicEntry → World → Prop) (ps : List Pa)
  (hal : ∀ i T W o, J i T W → J i (fun k => T k ∨ k = W.heap.size) (W.alloc o))
  (htn : ∀ i T W W', J i T W → W.heap.size = W'.heap.size → W'.os = W.os → W'.tape = W.tape → W'.output = W.output → (∀ k, ¬ T k → W'.heap[k]? = W.heap[k]?) → J i T W')
  (hfz : ∀ i T W, J i T W → ∀ k o, z k = some o → W.heap[k]? = some o)
  (hY : ∀ (a : Nat) (p : Pa) (j : Nat) T W, ps[a]? = some p → j < paN p → J (cntP (ps.take a) + j) T W → YieldAt Fence.wide 0 Prog l0 #[.int .i64 (p.f + j), .int .i64 (p.x j)] W fun e W' =>
   (e = .returned (.bool true) ∧ J (cntP (ps.take a) + (j + 1)) T W' ∧ (∀ k, T k → W'.heap[k]? = W.heap[k]?) ∧ W.heap.size ≤ W'.heap.size) ∨ (e = .returned (.bool false) ∧ Jx W') ∨ ∃ ch, e = .panicked ch ∧ Jp ch W')
  (hok : ∀ p, p ∈ ps → 0 ≤ p.f ∧ p.l < 4294967296 ∧ p.m < 2 ^ 60 ∧ (p.f ≤ p.l → 0 < p.m))
  (W : World) (h0 : J 0 (fun _ => False) W) (BX bo tb toff : Nat) (hBX : W.cell? ⟨BX, bo, none⟩ = some (.pointer (some ⟨tb, toff, none⟩)))
  (tcs : Array Value) (tel : TypeId) (tfz : Nat × Nat) (htb : z tb = some (.cells tcs tel tfz)) (pa : Option Addr) (pcap : Nat) (htc : tcs[toff + 1]? = some (.slice pa ps.length pcap)) (hn : ps.length < 2 ^ 60)
  (hpa : ps ≠ [] → ∃ pb poff pcs pel pfz, pa = some ⟨pb, poff, none⟩ ∧ z pb = some (.cells pcs pel pfz) ∧ ∀ (a : Nat) p, ps[a]? = some p → PaZ z pcs (poff + a * 3) p) :
  CallsIn Fence.wide 3 Prog 80 #[.func (.yield l0) #[] #[], .pointer (some ⟨BX, bo, none⟩)] W fun e W' => ((∃ v, e = .returned v) ∧ ((∃ T, J (cntP ps) T W') ∨ Jx W')) ∨ ∃ ch, e = .panicked ch ∧ Jp ch W' := by
 have htW := hfz _ _ _ h0 _ _ htb;have hT1 : W.cell? ⟨tb, toff + 1, none⟩ = some (.slice pa ps.length pcap) := by simp only [World.cell?, htW, htc]; rfl
 refine callsIn_of_wp Try.func80 rfl trivial ?_ rfl;simp only [Try.ntmps80, List.size_toArray, List.length_cons, List.length_nil, Nat.reduceAdd, Nat.reduceSub, Array.replicate_succ, Array.replicate_zero, List.push_toArray, List.append_toArray, List.nil_append, List.cons_append]
 gi_wp2
 gi_loopw [11] (fun i wr => ∃ k : Nat, k ≤ ps.length ∧ i = .int .i64 k ∧ ∃ T, J (cntP (ps.take k)) T wr) (fun i _ => ps.length - (intOf i).toNat)
 case atStart => exact ⟨0, Nat.zero_le _, rfl, _, h0⟩
 case round =>
  obtain ⟨k, hk, rfl, T, hJ⟩ := hrel;by_cases hlt : k < ps.length
  ·obtain ⟨p, hp⟩ : ∃ p, ps[k]? = some p := ⟨_, List.getElem?_eq_getElem hlt⟩
   obtain ⟨pb, poff, pcs, pel, pfz, rfl, hzp, hPZ⟩ := hpa (fun e => by subst e; simp at hlt);obtain ⟨va, cap, c1, c2, c3, hv⟩ := hPZ k p hp;have hwp := hfz _ _ _ hJ _ _ hzp;have d1 : wr.cell? ⟨pb, poff + k * 3, none⟩ = some (.int .i64 p.f) := by simp only [World.cell?, hwp, c1]; rfl
   have d2 : wr.cell? ⟨pb, poff + k * 3 + 1, none⟩ = some (.int .i64 p.l) := by simp only [World.cell?, hwp, c2]; rfl
   have d3 : wr.cell? ⟨pb, poff + k * 3 + 2, none⟩ = some (.slice va p.m cap) := by simp only [World.cell?, hwp, c3]; rfl
   have hpo := hok p (List.mem_of_getElem? hp);obtain ⟨w1, hw1⟩ : ∃ w1, w1 = wr := ⟨_, rfl⟩
   subst hw1
   gi_wp2
   gi_loopw [5] (fun i w2 => ∃ j : Nat, j ≤ paN p ∧ i = .int .i64 (p.f + j) ∧ ∃ T2, J (cntP (ps.take k) + j) T2 w2 ∧ T2 w1.heap.size ∧ w2.heap[w1.heap.size]? = some (.cells #[.int .i64 p.f, .int .i64 p.l, .slice va p.m cap] 179 (0, 0)))
    (fun i _ => paN p - (intOf i - p.f).toNat)
   case atStart =>
    refine ⟨0, Nat.zero_le _, by simp, _, hal _ _ _ _ hJ, .inr rfl, heap_alloc_new' _ _⟩
   case round =>
    obtain ⟨j, hj, rfl, T2, hJ2, hT2, hbx⟩ := hrel;have b1 : wr.cell? ⟨w1.heap.size, 0, none⟩ = some (.int .i64 p.f) := by simp only [World.cell?, hbx]; rfl
    have b2 : wr.cell? ⟨w1.heap.size, 1, none⟩ = some (.int .i64 p.l) := by simp only [World.cell?, hbx]; rfl
    have b3 : wr.cell? ⟨w1.heap.size, 2, none⟩ = some (.slice va p.m cap) := by simp only [World.cell?, hbx]; rfl
    have hc0 : wr.cell? ⟨w1.heap.size, 0, none⟩ |>.isSome := by rw [b1]; rfl
    by_cases hjl : j < paN p
    ·have hle : p.f ≤ p.l := by unfold paN at hjl; omega
     have hjp : p.f + (j : Int) ≤ p.l := by unfold paN at hjl; omega
     have hvl := hpo.2.2.2 hle;obtain ⟨blk, off, ws, wel, wfz, rfl, hzw, hws⟩ := hv hvl;have hww := hfz _ _ _ hJ2 _ _ hzw;have hval : wr.cell? ⟨blk, off + min (p.f + (j : Int) - p.f).toNat (p.m - 1), none⟩ = some (.int .i64 (p.x j)) := by
      rw [show (p.f + (j : Int) - p.f).toNat = j by omega];simp only [World.cell?, hww, hws j hjl]; rfl
     have hbl : blk < wr.heap.size := (Array.getElem?_eq_some_iff.1 hww).1;have hat := it_at_in wr p.f p.l (p.f + j) (p.x j) blk off p.m cap hpo.1 (by omega) (by omega) hvl hpo.2.2.1 hval hbl;have hJ3 := hal _ _ _ (.cells #[.int .i64 p.f, .int .i64 p.l, .slice (some ⟨blk, off, none⟩) p.m cap] 179) hJ2;obtain ⟨fn, tmps, assign, body, hy, hR⟩ := hY k p j _ _ hp hjl hJ3;have hf81 : Fence.wide.fn 81 := trivial
     gi_wp2_with (gi_at_call 81; refine (callsIn_wide.2 (callsIn_wide.1 hat)).mono ?_; rintro e w' ⟨rfl, rfl⟩)
     refine (roundIn_any hR).mono ?_;rintro e w3 (⟨rfl, hJ4, hkeep, _⟩ | ⟨rfl, hx⟩ | ⟨ch, rfl, hpn⟩)
     ·have hbx3 : w3.heap[w1.heap.size]? = some (.cells #[.int .i64 p.f, .int .i64 p.l, .slice (some ⟨blk, off, none⟩) p.m cap] 179 (0, 0)) :=
       (hkeep _ (.inl hT2)).trans ((Below.heap_alloc wr _ _ (Array.getElem?_eq_some_iff.1 hbx).1).trans hbx)
      gi_wp2
      go_roundw
      ·exact ⟨j + 1, hjl, by congr 1; push_cast; omega, _, hJ4, .inl hT2, hbx3⟩
      ·simp [intOf]; omega
     ·gi_wp2
      refine bodyPost_ret (results_none rfl _ _ _) rfl ?_;exact .inl ⟨⟨_, rfl⟩, .inr hx⟩
     ·gi_wp2
      exact ⟨rfl, .inr ⟨_, rfl, hpn⟩⟩
    ·have hlj : p.l < p.f + (j : Int) := by unfold paN at hjl; omega
     gi_wp2
     obtain rfl : j = paN p := by omega
     go_roundw
     ·refine ⟨k + 1, hlt, by simp, T2, ?_⟩;have : cntP (ps.take (k + 1)) = cntP (ps.take k) + paN p := by
       rw [List.take_add_one, hp]; simp [cntP]
      rw [this]; exact hJ2
     ·simp [intOf]; omega
  ·obtain rfl : k = ps.length := by omega
   rw [List.take_length] at hJ
   gi_wp2
   go_end0
   exact .inl ⟨⟨_, rfl⟩, .inl ⟨T, hJ⟩⟩
def paL (p : Pa) : List (List Int) := (List.range (paN p)).map fun j => [p.f + (j : Nat), p.x j]
theorem itm_some {α β : Type} {f : α → Option β} {g : α → β} (hg : ∀ y z, f y = some z → z = g y) : ∀ {l : List α} {a : List β}, l.mapM f = some a → a = l.map g ∧ ∀ y, y ∈ l → (f y).isSome = true
 | [], a, h => by simp at h; subst h; exact ⟨rfl, fun y hy => by cases hy⟩
 | y :: l, a, h => by
  rw [List.mapM_cons] at h;cases hy : f y with
  | none => rw [hy] at h; simp at h
  | some z =>
   cases hl : l.mapM f with
   | none => rw [hy, hl] at h; simp at h
   | some b =>
    rw [hy, hl] at h;obtain ⟨h1, h2⟩ := itm_some hg hl;have h : z :: b = a := by simpa using h
    subst h;refine ⟨by rw [List.map_cons, ← h1, hg _ _ hy], fun y' hy' => ?_⟩;rcases List.mem_cons.1 hy' with rfl | hm
    ·simp [hy]
    ·exact h2 _ hm
def itValX (vals : List Value) (j : Nat) : Int := match vals[min j (vals.length - 1)]? with | some (.int .i64 x) => x | _ => 0
theorem it_partE_is {f l : Int} {vals : List Value} {a : List (List Int)} (h : partE f l vals = some a) :
  0 ≤ f ∧ l < 4294967296 ∧ vals.length < 2 ^ 60 ∧ a = paL ⟨f, l, vals.length, itValX vals⟩ ∧ ∀ j, j < (l - f + 1).toNat → vals[min j (vals.length - 1)]? = some (.int .i64 (itValX vals j)) := by
 unfold partE at h;split at h
 ·rename_i hc;obtain ⟨h1, h2⟩ := itm_some (g := fun j => [f + (j : Nat), itValX vals j]) (fun y z hz => by
   unfold itValX;split at hz
   ·rename_i e; rw [e]; injection hz with hz; exact hz.symm
   ·cases hz) h
  refine ⟨hc.1, hc.2.1, hc.2.2, h1, fun j hj => ?_⟩;have := h2 j (List.mem_range.2 hj);unfold itValX;split at this
  ·rename_i e; rw [e]
  ·cases this
 ·cases h
theorem it_parts_of {μ : Mu} {cs : Array Value} : ∀ (n : Nat) (vs : List Value) (L : List (List Int)) (o : Nat), partsE n vs = some L → o + vs.length ≤ cs.size → (∀ (i : Nat) v v', vs[i]? = some v → cs[o + i]? = some v' → VR μ v v') →
  ∃ pl : List Pa, pl.length = n ∧ (∀ p, p ∈ pl → 0 ≤ p.f ∧ p.l < 4294967296 ∧ p.m < 2 ^ 60 ∧ (p.f ≤ p.l → 0 < p.m)) ∧ (∀ (a : Nat) p, pl[a]? = some p → PaZ μ.z cs (o + a * 3) p) ∧ L = pl.flatMap paL := by
 intro n
 induction n with
 | zero =>
  intro vs L o h _ _;cases vs with
  | nil => unfold partsE at h; injection h with h; subst h; exact ⟨[], rfl, fun p hp => (by cases hp), fun a p hp => (by cases hp), rfl⟩
  | cons v vs => unfold partsE at h; cases h
 | succ n ih =>
  intro vs L o h hs hv;unfold partsE at h;split at h
  ·rename_i e; cases e
  ·rename_i n' f l m pth g ws ys r e;injection e with e; subst e;cases hm : Nat.beq m ws.size with
   | false => rw [hm] at h; cases h
   | true =>
    rw [hm] at h;have hm := Nat.eq_of_beq_eq_true hm;cases hp : partE f l ws.toList with
    | none => rw [hp] at h; cases h
    | some a =>
     cases hr : partsE n r with
     | none => rw [hp, hr] at h; cases h
     | some b =>
      rw [hp, hr] at h;have h : some (a ++ b) = some L := h;injection h with h; subst h;simp only [List.length_cons] at hs;obtain ⟨pl, h1, h2, h3, h4⟩ := ih r b (o + 3) hr (by omega) fun i v v' hi hi' => hv (i + 3) v v' (by simpa using hi) (by rw [show o + (i + 3) = o + 3 + i by omega]; exact hi');obtain ⟨q1, q2, q3, q4, q5⟩ := it_partE_is hp;have g0 : ∀ k, k < 3 → ∃ v', cs[o + k]? = some v' := fun k hk => ⟨_, Array.getElem?_eq_getElem (by omega)⟩
      obtain ⟨c0, e0⟩ := g0 0 (by omega);obtain ⟨c1, e1⟩ := g0 1 (by omega);obtain ⟨c2, e2⟩ := g0 2 (by omega);have r0 := hv 0 _ _ rfl e0;have r1 := hv 1 _ _ rfl e1;have r2 := hv 2 _ _ rfl e2;refine ⟨⟨f, l, ws.toList.length, itValX ws.toList⟩ :: pl, by simp [h1], fun p hp => ?_, fun a' p ha => ?_, ?_⟩
      ·rcases List.mem_cons.1 hp with rfl | hp
       ·refine ⟨q1, q2, q3, fun hle => ?_⟩;have := q5 0 (by have hle' : f ≤ l := hle; omega);rcases Nat.eq_zero_or_pos ws.toList.length with hz | hz
        ·rw [List.length_eq_zero_iff.1 hz] at this; cases this
        ·exact hz
       ·exact h2 p hp
      ·cases a' with
       | succ a' => rw [show o + (a' + 1) * 3 = o + 3 + a' * 3 by omega]; exact h3 a' p (by simpa using ha)
       | zero =>
        simp at ha; subst ha;cases r0; cases r1;cases r2 with
        | list _ _ _ _ _ blk off cap zcs el fz hz hl hc hg h0 hx =>
         refine ⟨some ⟨blk, off, none⟩, cap, by simpa using e0, by simpa using e1, by rw [Nat.zero_mul, Nat.add_zero, e2, hm], fun hpos => ⟨blk, off, zcs, el, fz, rfl, hz, fun j hj => ?_⟩⟩;have hj' := q5 j hj;have hlt := (List.getElem?_eq_some_iff.1 hj').1;have hlt' : min j (ws.toList.length - 1) < ws.size := by simpa using hlt
         obtain ⟨v', hv'⟩ : ∃ v', zcs[off + min j (ws.toList.length - 1)]? = some v' := ⟨_, Array.getElem?_eq_getElem (by omega)⟩
         have := hx _ _ _ (by rw [← Array.getElem?_toList]; exact hj') hv';cases this;exact hv'
        | empty _ _ _ _ x cap hn hs' =>
         have hz : ws.toList.length = 0 := by rw [Array.length_toList]; exact hm.symm
         refine ⟨x, cap, by simpa using e0, by simpa using e1, by rw [Nat.zero_mul, Nat.add_zero, e2]; show some (Value.slice x 0 cap) = some (Value.slice x ws.toList.length cap); rw [hz], fun hpos => ?_⟩;simp only [hz] at hpos; omega
      ·rw [List.flatMap_cons, ← h4, q4]
  ·cases h
theorem paL_len (p : Pa) : (paL p).length = paN p := by simp [paL]
theorem itf_len : ∀ pl : List Pa, (pl.flatMap paL).length = cntP pl
 | [] => rfl
 | p :: pl => by simp [List.flatMap_cons, itf_len pl, paL_len, cntP]
theorem itf_at : ∀ (pl : List Pa) (a : Nat) (p : Pa) (j : Nat), pl[a]? = some p → j < paN p → (pl.flatMap paL)[cntP (pl.take a) + j]? = some [p.f + (j : Nat), p.x j]
 | [], a, p, j, h, _ => by simp at h
 | q :: pl, 0, p, j, h, hj => by
  simp at h; subst h;rw [List.flatMap_cons, List.getElem?_append_left (by simp [cntP, paL_len]; exact hj)];simp [paL, cntP, hj]
 | q :: pl, a + 1, p, j, h, hj => by
  have := itf_at pl a p j (by simpa using h) hj;rw [List.flatMap_cons, List.getElem?_append_right (by simp [cntP, paL_len]; omega)];rw [← this]; congr 1;simp [cntP, paL_len]; omega
set_option maxRecDepth 100000 in
theorem it_is : ItOk Prog itS := by
 intro v H L hL w0 μ w v' hH hV;unfold itS itAll at hL;split at hL;rotate_left
 ·cases hL
 rename_i f xs ys;cases hb : (Nat.beq f 80 && Nat.beq xs.size 0) with
 | false => rw [hb] at hL; cases hL
 | true =>
  rw [hb] at hL;obtain ⟨hb1, hb2⟩ := Bool.and_eq_true_iff.1 hb;have hb1 := Nat.eq_of_beq_eq_true hb1;have hb2 := Nat.eq_of_beq_eq_true hb2;subst hb1;simp only [cond_true] at hL;split at hL;rotate_left
  ·cases hL
  rename_i b hys;split at hL;rotate_left
  ·cases hL
  rename_i n0 p0 g0 ts ty0 ez ro hblk;split at hL;rotate_left
  ·cases hL
  rename_i t0 n p1 g1 ps ty1 hts;split at hL;rotate_left
  ·cases hL
  rename_i hn;cases hV with
  | func _ _ xs' _ ys' h1 h2 h3 h4 =>
   have hx' : xs' = #[] := by apply Array.eq_empty_of_size_eq_zero; omega
   subst hx';obtain ⟨y', r', hy', hyr, hr'⟩ := VRs.cons_inv (by rw [← hys]; exact VRs.of_arr h3 h4);have := hr'.nil_inv; subst this;have hye : ys' = #[y'] := by apply Array.toList_inj.1; rw [hy']
   subst hye;cases hyr with
   | ptr _ _ m hm =>
    obtain ⟨v1, hc1, hr1, _⟩ := hH.cell hblk hm (off := 0) rfl;cases hr1 with
    | box _ _ _ _ _ tb toff tcs tel tfz hz hl h0 hx =>
     have htl : ts.size = 2 := by rw [← Array.length_toList, hts]; rfl
     obtain ⟨v2, hv2⟩ : ∃ v2, tcs[toff + 1]? = some v2 := ⟨_, Array.getElem?_eq_getElem (by omega)⟩
     have hr2 := hx 1 _ _ (by rw [← Array.getElem?_toList, hts]; rfl) hv2
     have key : ∃ (pl : List Pa) (pa : Option Addr) (pcap : Nat), L = pl.flatMap paL ∧ (∀ p, p ∈ pl → 0 ≤ p.f ∧ p.l < 4294967296 ∧ p.m < 2 ^ 60 ∧ (p.f ≤ p.l → 0 < p.m)) ∧ pl.length = n ∧ v2 = .slice pa pl.length pcap ∧
       (pl ≠ [] → ∃ pb poff pcs pel pfz, pa = some ⟨pb, poff, none⟩ ∧ μ.z pb = some (.cells pcs pel pfz) ∧ ∀ (a : Nat) p, pl[a]? = some p → PaZ μ.z pcs (poff + a * 3) p) := by
      cases hr2 with
      | list _ _ _ _ _ pb poff pcap pcs pel pfz hz2 hl2 hc2 hg2 h02 hx2 =>
       obtain ⟨pl, e1, e2, e3, e4⟩ := it_parts_of (μ := μ) (cs := pcs) n ps.toList L poff hL (by simpa using hl2) fun i v v' hi hi' => hx2 i v v' (by rw [← Array.getElem?_toList]; exact hi) hi';exact ⟨pl, _, pcap, e4, e2, e1, by rw [e1], fun _ => ⟨pb, poff, pcs, pel, pfz, rfl, hz2, e3⟩⟩
      | empty _ _ _ _ x pcap hn2 hs2 =>
       generalize ps.toList = psl at hL;cases psl with
       | nil =>
        unfold partsE at hL; injection hL with hL; subst hL;exact ⟨[], x, pcap, rfl, fun p hp => (by cases hp), rfl, rfl, fun h => (h rfl).elim⟩
       | cons a r => unfold partsE at hL; cases hL
     obtain ⟨pl, pa, pcap, rfl, hok, hlen, rfl, hpa⟩ := key;refine ⟨80, #[.pointer (some ⟨m.blk, m.base + 0, none⟩)], rfl, ⟨Try.f80, Try.func80, rfl, by decide⟩, fun l0 J Jx Jp hal htn hfz hY h0J => ?_⟩;have := it_all_in μ.z l0 J Jx Jp pl hal htn hfz (fun a p j T W hp hj hJ => hY _ T W _ hJ (itf_at pl a p j hp hj)) hok w h0J m.blk (m.base + 0) tb toff hc1 tcs tel tfz hz pa pcap hv2 (by rw [hlen]; exact hn) hpa;rw [itf_len];exact callsIn_wide.1 this
end Go.Sw
end
section
namespace Go.Sw
open Go.RowKit
theorem setCells_row (g : Nat) (el : TypeId) (fz : Nat × Nat) : ∀ (vs : List Value) (o : Nat) (cs : Array Value) (w : World), w.heap[g]? = some (.cells cs el fz) → o + vs.length ≤ cs.size → w.setCells g o vs = w.setRow g (splice cs.toList o vs).toArray
 | [], o, cs, w, hg, _ => by
  rw [World.setCells];unfold splice;simp only [List.length_nil, Nat.add_zero, List.nil_append, List.take_append_drop, Array.toArray_toList];exact (setRow_self w g cs el fz hg).symm
 | v :: r, o, cs, w, hg, hl => by
  rw [World.setCells, setCell_eq_setRow w g o cs el fz v hg, setCells_row g el fz r (o + 1) (cs.setIfInBounds o v) _ (setRow_heap w g cs _ el fz hg) (by simp at hl ⊢; omega), setRow_setRow];congr 2;have e := list_seg_step cs.toList o v r (by simp at hl ⊢; omega);unfold splice;simpa [Array.toList_setIfInBounds, Nat.add_assoc, Nat.add_comm 1] using e
theorem splice_two (l a b : List Value) (o : Nat) (h : o + a.length + b.length ≤ l.length) : splice (splice l (o + a.length) b) o a = splice l o (a ++ b) := by
 apply List.ext_getElem?;intro j;have h1 : (splice l (o + a.length) b).length = l.length := splice_length _ _ _ (by omega);rw [splice_get _ _ _ (by rw [h1]; omega), splice_get _ _ _ (by omega), splice_get _ _ _ (by rw [List.length_append]; omega)];rw [List.length_append];by_cases c0 : j < o
 ·have c1 : j < o + a.length := by omega
  simp only [if_pos c0, if_pos c1]
 ·simp only [if_neg c0];by_cases c1 : j < o + a.length
  ·have c3 : j < o + (a.length + b.length) := by omega
   simp only [if_pos c1, if_pos c3];rw [List.getElem?_append_left (by omega)]
  ·simp only [if_neg c1];by_cases c2 : j < o + a.length + b.length
   ·have c3 : j < o + (a.length + b.length) := by omega
    simp only [if_pos c2, if_pos c3];rw [List.getElem?_append_right (by omega), show j - o - a.length = j - (o + a.length) by omega]
   ·have c3 : ¬ j < o + (a.length + b.length) := by omega
    simp only [if_neg c2, if_neg c3]
theorem VRs.cut {μ : Mu} {k : List Value} {cs : Array Value} {base off N : Nat} (h4 : ∀ (i : Nat) v, k[i]? = some v → ∃ v', cs[base + i]? = some v' ∧ VR μ v v') (hk : off + N ≤ k.length) :
  VRs μ ((k.drop off).take N) ((cs.toList.drop (base + off)).take N) := by
 have hcs : ∀ i, i < N → base + off + i < cs.size := fun i hi => by
  obtain ⟨v', e, _⟩ := h4 (off + i) _ (List.getElem?_eq_getElem (by omega));have := (Array.getElem?_eq_some_iff.1 e).1;omega
 refine ⟨?_, fun i v v' hv hv' => ?_⟩
 ·rw [List.length_take, List.length_take, List.length_drop, List.length_drop, Array.length_toList (xs := cs)];by_cases h0 : N = 0
  ·subst h0; simp
  ·have := hcs (N - 1) (by omega);have e1 : N ≤ k.length - off := by omega
   have e2 : N ≤ cs.size - (base + off) := by omega
   rw [Nat.min_eq_left e1, Nat.min_eq_left e2]
 ·rw [List.getElem?_take] at hv hv';split at hv
  ·rename_i hi;rw [if_pos hi, List.getElem?_drop] at hv';rw [List.getElem?_drop] at hv;obtain ⟨u, e, r⟩ := h4 _ v hv;rw [← Nat.add_assoc] at e;simp only [Array.getElem?_toList] at hv';rw [e] at hv';injection hv' with hv';subst hv';exact r
  ·cases hv
structure InsWalk (P : Program) (f : FuncId) (tS e : TypeId) (sz : Nat) (z : Value) : Prop where
 fn : ∃ fn, P.funcs[f]? = some fn ∧ fn.body.isSome = true ∧ (fn.name == "runtime.NumGoroutine") = false
 none_ : ∀ (base : Option Addr) (n c i : Nat) (vb : Option Addr) (vc : Nat) (w : World), i ≤ n → n ≤ c → (base = none → n = 0 ∧ c = 0) → Calls P f #[.slice base n c, .int .i64 (i : Nat), .slice vb 0 vc] w fun e w' => e = .returned (.slice base n c) ∧ w' = w
 end_ : ∀ (base : Option Addr) (n c : Nat) (vb : Option Addr) (m vc : Nat) (w : World) (v' : Value) (w1 : World), n ≤ c → (base = none → n = 0 ∧ c = 0) → 0 < m → (Builtin.append_ #[tS, tS] tS #[.slice base n c, .slice vb m vc]).run P w = .ok v' w1 →
  Calls P f #[.slice base n c, .int .i64 (n : Nat), .slice vb m vc] w fun e w' => e = .returned v' ∧ w' = w1
 shift : ∀ (b off n c i vb voff m vc : Nat) (CS VS : Array Value) (el el2 : TypeId) (cs vs : List Value) (w : World), i < n → 0 < m → n + m ≤ c → n + m ≤ 2 ^ 31 → vb ≠ b → w.heap[b]? = some (.cells CS el (0, 0)) → w.heap[vb]? = some (.cells VS el2 (0, 0)) → off + c * sz ≤ CS.size → voff + m * sz ≤ VS.size →
  cs = (CS.toList.drop off).take (n * sz) → vs = (VS.toList.drop voff).take (m * sz) → Ones cs → Ones vs →
  Calls P f #[.slice (some ⟨b, off, none⟩) n c, .int .i64 (i : Nat), .slice (some ⟨vb, voff, none⟩) m vc] w fun e w' => e = .returned (.slice (some ⟨b, off, none⟩) (n + m) c) ∧ w' = (w.drew.setCells b (off + (i + m) * sz) (cs.drop (i * sz))).setCells b (off + i * sz) vs
 grow : ∀ (b off n c i vb voff m vc : Nat) (CS VS : Array Value) (el el2 : TypeId) (cs vs : List Value) (w : World), i < n → 0 < m → n ≤ c → c < n + m → n + m ≤ 2 ^ 31 → w.heap[b]? = some (.cells CS el (0, 0)) → w.heap[vb]? = some (.cells VS el2 (0, 0)) → off + n * sz ≤ CS.size → voff + m * sz ≤ VS.size →
  cs = (CS.toList.drop off).take (n * sz) → vs = (VS.toList.drop voff).take (m * sz) → Ones cs → Ones vs →
  ∃ G, n + m ≤ G ∧ Calls P f #[.slice (some ⟨b, off, none⟩) n c, .int .i64 (i : Nat), .slice (some ⟨vb, voff, none⟩) m vc] w fun r w' => r = .returned (.slice (some ⟨w.heap.size, 0, none⟩) (n + m) G) ∧
   w' = (((w.alloc (.cells ((cs.take (i * sz)).toArray ++ Builtin.zeroCells z.cells (n + m - i) ++ Builtin.zeroCells z.cells (G - (n + m))) e)).drew.setCells w.heap.size (i * sz) vs).drew).setCells w.heap.size ((i + m) * sz) (cs.drop (i * sz))
theorem lenL_slice {μ : Mu} {v v' : Value} {n : Nat} (h : VR μ v v') (hl : lenL v = some n) : ∃ a c, v' = .slice a n c := by
 unfold lenL at hl;split at hl
 ·injection hl with hl; subst hl;cases h <;> exact ⟨_, _, rfl⟩
 ·injection hl with hl; subst hl;cases h <;> exact ⟨_, _, rfl⟩
 ·cases hl
theorem slice_shape {μ : Mu} {base : Option Addr} {n c : Nat} {s' : Value} (h : VR μ (.slice base n c) s') : ∃ base' c', s' = .slice base' n c' ∧ n ≤ c' ∧ (base' = none → n = 0 ∧ c' = 0) := by
 cases h with
 | nilSlice => exact ⟨_, _, rfl, Nat.le_refl _, fun _ => ⟨rfl, rfl⟩⟩
 | slice b off off' len cap cap' m h hl hc ho hx => exact ⟨_, _, rfl, Nat.le_trans hl hc, fun h => by cases h⟩
 | unsure a => exact ⟨_, _, rfl, Nat.le_refl _, fun _ => ⟨rfl, rfl⟩⟩
 | bare a => exact ⟨_, _, rfl, Nat.le_refl _, fun h => by cases h⟩
theorem heap_setRow_new (w : World) (A B : Array Value) (e : TypeId) : ((w.alloc (.cells A e)).setRow w.heap.size B).heap = (w.alloc (.cells B e)).heap := by
 have h1 : (w.alloc (.cells A e)).heap[w.heap.size]? = some (.cells A e (0, 0)) := heap_alloc_new' _ _;apply Array.ext_getElem?;intro j;by_cases hj : j = w.heap.size
 ·subst hj;rw [setRow_heap _ _ _ _ _ _ h1, heap_alloc_new']
 ·rw [setRow_other _ _ _ _ hj];show (w.heap.push _)[j]? = (w.heap.push _)[j]?;rw [Array.getElem?_push, Array.getElem?_push, if_neg hj, if_neg hj]
set_option maxHeartbeats 1000000 in
theorem insert_of {P : Program} {f : FuncId} {tS e : TypeId} {inf : TypeInfo} {z : Value} {sz bytes : Nat} (ht : P.underlying tS = some (.slice e)) (hi : P.info? e = some inf) (hz : inf.zero = some z) (hzs : z.cells.size = inf.size) (es : inf.size = sz) (eb : inf.bytes = bytes) (h0 : 0 < sz)
  (hW : InsWalk P f tS e sz z) : SpIs P f fun _ args H => insertV sz bytes args H := by
 subst es eb;intro call _ args H hne;refine ⟨hW.fn, fun w0 μ w args' hH hargs => ?_⟩;dsimp only at hne ⊢;unfold insertV at hne ⊢;split at hne;rotate_left
 ·exact absurd rfl hne
 rename_i base n cap i v;obtain ⟨s', r1, rfl, hs, ha⟩ := hargs.cons_inv;obtain ⟨i', r2, rfl, hi', ha⟩ := ha.cons_inv;obtain ⟨v', r3, rfl, hv, ha⟩ := ha.cons_inv;have := ha.nil_inv;subst this;cases hi';obtain ⟨base', cap', rfl, hnc, hnil⟩ := slice_shape hs;cases hl : lenL v with
 | none => rw [hl] at hne; exact absurd rfl hne
 | some q =>
 rw [hl] at hne;obtain ⟨vb', vc', rfl⟩ := lenL_slice hv hl;cases q with
 | zero =>
  dsimp only at hne ⊢;split at hne;rotate_left
  ·exact absurd rfl hne
  rename_i hin;rw [if_pos hin];obtain ⟨p, rfl⟩ := Int.eq_ofNat_of_zero_le hin.1;refine (hW.none_ base' n cap' p vb' vc' w (by omega) hnc hnil).mono ?_;rintro _ _ ⟨rfl, rfl⟩;exact ⟨μ, _, Mu.le_refl _, hH, hs, rfl⟩
 | succ q =>
  dsimp only at hne ⊢;split at hne
  ·rename_i hin;rw [if_pos hin];subst hin;unfold apR at hne ⊢;dsimp only at hne ⊢;rw [lenL_lenV hl] at hne ⊢;dsimp only at hne ⊢;cases hr : appendK inf.size inf.bytes inf.size (q + 1) base n cap v H with
   | stuck => rw [hr] at hne; exact absurd rfl hne
   | panic u H' =>
    exfalso;revert hr;unfold appendK
    repeat' split
    all_goals (intro h; cases h)
   | ok u H' =>
    obtain ⟨μ', u', w1, e1, e2, e3, e4⟩ := appendK_sim (ty := tS) hH ht (.inl ⟨e, ht⟩) hi hz hs hv (lenL_lenV hl) (by rw [hzs]; exact hr);refine (hW.end_ base' n cap' vb' (q + 1) vc' w u' w1 hnc hnil (by omega) e1).mono ?_;rintro _ _ ⟨rfl, rfl⟩;exact ⟨μ', u', e2, e3, e4, rfl⟩
  ·rename_i hin;rw [if_neg hin];split at hne;rotate_left
   ·exact absurd rfl hne
   rename_i b off c voff m vcap _;split at hne;rotate_left
   ·exact absurd rfl hne
   rename_i k kc hk hkc;split at hne;rotate_left
   ·exact absurd rfl hne
   rename_i hcond;rw [if_pos hcond];obtain ⟨c1, c2, c3, c4, c5, c6, c7, c8, c9, c10, c11⟩ := hcond;obtain ⟨p, rfl⟩ := Int.eq_ofNat_of_zero_le c1;have hpn : p < n := by omega
   cases hs with
   | slice _ _ off' _ _ cap' M hM hl1 hc1 ho1 hx1 =>
   cases hv with
   | slice _ _ voff' _ _ vcap' Mc hMc hl2 hc2 ho2 hx2 =>
   have hm0 : 0 < q + 1 := by omega
   generalize q + 1 = m at *;have ho1 := ho1.resolve_left (by omega);have ho2 := ho2.resolve_left (by omega);subst ho1 ho2;obtain ⟨M', hM', bM⟩ := hH.blk b k hk;rw [hM] at hM'; injection hM' with hM'; subst hM';obtain ⟨Mc', hMc', bMc⟩ := hH.blk c kc hkc;rw [hMc] at hMc'; injection hMc' with hMc'; subst hMc';obtain ⟨CS, el, fz, g1, g2, g3, g4⟩ := bM.here;obtain ⟨VS, el2, fz2, f1, f2, f3, f4⟩ := bMc.here;have g2 := g2 c6;have f2 := f2 c10;subst g2 f2;have hesz : M.esz = inf.size := bM.esz.trans c7;have hext := bM.ext;have hext2 := bMc.ext;have hroomx : off + cap' * inf.size ≤ M.ext := by
    rcases hx1 with h | h | h
    ·rw [h]; omega
    ·rw [bM.ro, c6] at h; cases h
    ·rw [hesz] at h; exact h
   have hne2 : Mc.blk ≠ M.blk := hH.other hk hkc hM hMc c6 c9;have hnsz : n * inf.size ≤ cap * inf.size := Nat.mul_le_mul_right _ c3;have hps : p * inf.size ≤ n * inf.size := Nat.mul_le_mul_right _ (by omega);have kcut := VRs.cut (N := n * inf.size) (off := off) (base := M.base) g4 (by omega);have vcut := VRs.cut (N := m * inf.size) (off := voff) (base := Mc.base) f4 (by omega);have ko : Ones ((k.cells.drop off).take (n * inf.size)) := (bM.ones.drop _).take _;have vo : Ones ((kc.cells.drop voff).take (m * inf.size)) := (bMc.ones.drop _).take _;have ko' := kcut.ones ko;have vo' := vcut.ones vo;have kl : ((k.cells.drop off).take (n * inf.size)).length = n * inf.size := by rw [List.length_take, List.length_drop]; omega
   have vl : ((kc.cells.drop voff).take (m * inf.size)).length = m * inf.size := by rw [List.length_take, List.length_drop]; omega
   have kl' := kcut.1.symm.trans kl;have vl' := vcut.1.symm.trans vl;obtain ⟨cs, hcs⟩ : ∃ cs, cs = (CS.toList.drop (M.base + off)).take (n * inf.size) := ⟨_, rfl⟩
   obtain ⟨vs, hvs⟩ : ∃ vs, vs = (VS.toList.drop (Mc.base + voff)).take (m * inf.size) := ⟨_, rfl⟩
   rw [← hcs] at kcut ko' kl';rw [← hvs] at vcut vo' vl';have hd : HR w0 μ H w.drew := hH.drew rfl rfl rfl rfl;have e1 : (n + m) * inf.size = n * inf.size + m * inf.size := Nat.add_mul _ _ _;have e2 : (p + m) * inf.size = p * inf.size + m * inf.size := Nat.add_mul _ _ _;have hdl : (cs.drop (p * inf.size)).length = n * inf.size - p * inf.size := by rw [List.length_drop, kl']
   by_cases hroom : n + m ≤ cap'
   ·
    have hnm : (n + m) * inf.size ≤ cap' * inf.size := Nat.mul_le_mul_right _ hroom;refine (hW.shift M.blk (M.base + off) n cap' p Mc.blk (Mc.base + voff) m vc' CS VS el el2 cs vs w hpn (by omega) hroom c4 hne2 g1 f1 (by omega) (by omega) hcs hvs ko' vo').mono ?_;rintro _ _ ⟨rfl, rfl⟩;have hsr : (w.drew.setCells M.blk (M.base + off + (p + m) * inf.size) (cs.drop (p * inf.size))).setCells M.blk (M.base + off + p * inf.size) vs = w.drew.setRow M.blk (splice CS.toList (M.base + off + p * inf.size) (vs ++ cs.drop (p * inf.size))).toArray := by
     rw [setCells_row M.blk el (0, 0) _ _ CS w.drew g1 (by omega)];have hsl : (splice CS.toList (M.base + off + (p + m) * inf.size) (cs.drop (p * inf.size))).length = CS.size := by rw [splice_length _ _ _ (by rw [Array.length_toList (xs := CS)]; omega)]; simp
     rw [setCells_row M.blk el (0, 0) _ _ _ _ (setRow_heap w.drew M.blk CS _ el (0, 0) g1) (by rw [List.size_toArray, hsl]; omega), setRow_setRow];congr 2;rw [List.toList_toArray, ← splice_two CS.toList vs (cs.drop (p * inf.size)) (M.base + off + p * inf.size) (by rw [Array.length_toList (xs := CS)]; omega), vl', e2, Nat.add_assoc (M.base + off)]
    rw [hsr];obtain ⟨i1, i2⟩ := inplace_sim (size := inf.size) (off := off) (p := p * inf.size) hd hk hM c6 c7 g1 (by omega) (vcut.append (kcut.drop (p * inf.size))) (vo.append (ko.drop _)) (by rw [List.length_append, hdl, vl']; omega) g3;refine ⟨_, _, i1, ?_, ?_, rfl⟩
    ·rw [Int.toNat_natCast, List.take_take, Nat.min_eq_left hps];exact i2
    ·have := VR.slice (μ := μ.set H.n ⟨M.blk, M.base + off, M.ext - off, inf.size, false⟩) H.n 0 (M.base + off) (n + m) (n + m) cap' ⟨M.blk, M.base + off, M.ext - off, inf.size, false⟩ (by simp [Mu.set]) (Nat.le_refl _) hroom (.inr rfl) (.inr (.inr (by dsimp only; omega)));exact this
   ·obtain ⟨G, hG, hcall⟩ := hW.grow M.blk (M.base + off) n cap' p Mc.blk (Mc.base + voff) m vc' CS VS el el2 cs vs w hpn (by omega) hnc (by omega) c4 g1 f1 (by omega) (by omega) hcs hvs ko' vo';refine hcall.mono ?_;rintro _ _ ⟨rfl, rfl⟩;have hGs : (n + m) * inf.size ≤ G * inf.size := Nat.mul_le_mul_right _ hG;obtain ⟨ROW, hROW⟩ : ∃ ROW : Array Value, ROW = (cs.take (p * inf.size)).toArray ++ Builtin.zeroCells z.cells (n + m - p) ++ Builtin.zeroCells z.cells (G - (n + m)) := ⟨_, rfl⟩
    have hRl : ROW.size = G * inf.size := by
     rw [hROW];simp only [Array.size_append, List.size_toArray, size_zeroCells, hzs, Nat.sub_mul, Nat.add_mul, List.length_take, kl'];omega
    rw [← hROW];obtain ⟨FIN, hFIN⟩ : ∃ FIN : List Value, FIN = splice (splice ROW.toList (p * inf.size) vs) ((p + m) * inf.size) (cs.drop (p * inf.size)) := ⟨_, rfl⟩
    have hs1 : (splice ROW.toList (p * inf.size) vs).length = ROW.size := by rw [splice_length _ _ _ (by rw [Array.length_toList (xs := ROW)]; omega)]; simp
    have hFl : FIN.length = G * inf.size := by rw [hFIN, splice_length _ _ _ (by rw [hs1]; omega), hs1, hRl]
    have hN : (w.alloc (.cells ROW e)).drew.heap[w.heap.size]? = some (.cells ROW e (0, 0)) := heap_alloc_new' _ _;have hw : ((((w.alloc (.cells ROW e)).drew.setCells w.heap.size (p * inf.size) vs).drew).setCells w.heap.size ((p + m) * inf.size) (cs.drop (p * inf.size))) = ((w.alloc (.cells ROW e)).drew.setRow w.heap.size (splice ROW.toList (p * inf.size) vs).toArray).drew.setRow w.heap.size FIN.toArray := by
     rw [setCells_row w.heap.size e (0, 0) _ _ ROW _ hN (by omega)];have hN2 : ((w.alloc (.cells ROW e)).drew.setRow w.heap.size (splice ROW.toList (p * inf.size) vs).toArray).drew.heap[w.heap.size]? = some (.cells (splice ROW.toList (p * inf.size) vs).toArray e (0, 0)) := setRow_heap _ _ _ _ _ _ hN;rw [setCells_row w.heap.size e (0, 0) _ _ _ _ hN2 (by rw [List.size_toArray, hs1]; omega), hFIN]
    rw [hw];have hheap : (((w.alloc (.cells ROW e)).drew.setRow w.heap.size (splice ROW.toList (p * inf.size) vs).toArray).drew.setRow w.heap.size FIN.toArray).heap = (w.alloc (.cells FIN.toArray e)).heap := by
     have h1 : (((w.alloc (.cells ROW e)).drew.setRow w.heap.size (splice ROW.toList (p * inf.size) vs).toArray).drew.setRow w.heap.size FIN.toArray).heap = (((w.alloc (.cells ROW e)).setRow w.heap.size (splice ROW.toList (p * inf.size) vs).toArray).setRow w.heap.size FIN.toArray).heap := rfl;rw [h1, setRow_setRow];exact heap_setRow_new _ _ _ _
    have hkill := hH.kill hk;have hnew := kcut.take (p * inf.size);have hall : VRs μ (((k.cells.drop off).take (n * inf.size)).take (p * inf.size) ++ ((kc.cells.drop voff).take (m * inf.size) ++ ((k.cells.drop off).take (n * inf.size)).drop (p * inf.size))) (cs.take (p * inf.size) ++ (vs ++ cs.drop (p * inf.size))) := hnew.append (vcut.append (kcut.drop _))
    have hal := hkill.alloc (((k.cells.drop off).take (n * inf.size)).take (p * inf.size) ++ ((kc.cells.drop voff).take (m * inf.size) ++ ((k.cells.drop off).take (n * inf.size)).drop (p * inf.size))) FIN.toArray e inf.size (G * inf.size) (by rw [List.size_toArray, hFl]; exact Nat.le_refl _)
     (by
      simp only [List.length_append, List.length_take, List.length_drop];omega)
     ((ko.take _).append (vo.append (ko.drop _)))
     (fun j u hj => by
      obtain ⟨u', e', r⟩ := hall.get hj;refine ⟨u', ?_, r⟩;have hjl : j < (cs.take (p * inf.size) ++ (vs ++ cs.drop (p * inf.size))).length := (List.getElem?_eq_some_iff.1 e').1;simp only [List.length_append, List.length_take, kl', hdl, vl'] at hjl;have htl : (cs.take (p * inf.size)).length = p * inf.size := by rw [List.length_take, kl']; omega
      rw [List.getElem?_toArray, hFIN, splice_get _ _ _ (by rw [hs1]; omega), splice_get ROW.toList (p * inf.size) vs (by rw [Array.length_toList (xs := ROW)]; omega)];by_cases d1 : j < p * inf.size
      ·rw [List.getElem?_append_left (by omega)] at e';rw [if_pos (show j < (p + m) * inf.size by omega), if_pos d1, hROW];simp only [Array.getElem?_toList];rw [Array.append_assoc, Array.getElem?_append_left (by simp only [List.size_toArray]; omega)];simpa using e'
      ·rw [List.getElem?_append_right (by omega), htl] at e';by_cases d2 : j < (p + m) * inf.size
       ·rw [List.getElem?_append_left (by omega)] at e';rw [if_pos d2, if_neg d1, if_pos (by omega)];exact e'
       ·rw [List.getElem?_append_right (by omega), vl'] at e';rw [if_neg d2, if_pos (by omega), show j - (p + m) * inf.size = j - p * inf.size - m * inf.size by omega];exact e')
    have hn : (H.set b none).n = H.n := Heap.n_set _ _ _;rw [hn] at hal;refine ⟨μ.set H.n ⟨w.heap.size, 0, G * inf.size, inf.size, false⟩, _, Mu.le_set (μ := μ) hH.dom _, ?_, ?_, rfl⟩
    ·rw [Int.toNat_natCast];exact hal.drew hheap rfl rfl rfl
    ·exact VR.slice H.n 0 0 (n + m) (n + m) G ⟨w.heap.size, 0, G * inf.size, inf.size, false⟩ (by simp [Mu.set]) (Nat.le_refl _) hG (.inr rfl) (.inr (.inr (by dsimp only; omega)))
end Go.Sw
end
section
namespace Go.Sw
open Go.RowKit
theorem splice_nil (l : List Value) (o : Nat) : splice l o [] = l := by unfold splice; simp
theorem trim_sim {w0 : Base} {μ : Mu} {H : Heap} {w : World} (h : HR w0 μ H w) {b off n cap size : Nat} {k : Blk} {v' : Value} (hv : VR μ (.slice (some ⟨b, off, none⟩) n cap) v') (hk : H.get b = some k) (hro : k.ro = false) (hesz : k.esz = size) (h1 : n ≤ cap) (h2 : off + cap * size ≤ k.cells.length)
  (hset : ∀ (g : Nat) (cs : Array Value) (el : TypeId), w.heap[g]? = some (.cells cs el (0, 0)) → w.setRow g cs = w) :
  ∃ μ', μ.le μ' ∧ HR w0 μ' ((H.set b none).push ⟨(k.cells.drop off).take (n * size) ++ [], size, false⟩) w ∧ VR μ' (.slice (some ⟨H.n, 0, none⟩) n n) v' := by
 cases hv with
 | slice _ _ off' _ _ cap' M hM hl hc ho hx =>
 obtain ⟨M', hM', bM⟩ := h.blk b k hk;rw [hM] at hM'; injection hM' with hM'; subst hM';obtain ⟨CS, el, fz, g1, g2, g3, g4⟩ := bM.here;have g2 := g2 hro;subst g2;have hext := bM.ext;have hMe := bM.esz;have hMr := bM.ro;have hns : n * size ≤ cap * size := Nat.mul_le_mul_right _ h1;obtain ⟨i1, i2⟩ := inplace_sim (size := size) (off := off) (p := n * size) (new := []) (news := []) h hk hM hro hesz g1 (by omega) VRs.nil Ones.nil (by simp; omega) g3;rw [splice_nil] at i2;rw [show CS.toList.toArray = CS from rfl, hset _ _ _ g1] at i2;refine ⟨_, i1, i2, ?_⟩;refine VR.slice (μ := μ.set H.n ⟨M.blk, M.base + off, M.ext - off, size, false⟩) H.n 0 off' n n cap' ⟨M.blk, M.base + off, M.ext - off, size, false⟩ (by simp [Mu.set]) (Nat.le_refl _) (by omega) (ho.imp id fun h => by dsimp only; omega) ?_;rcases hx with hx | hx | hx
 ·refine .inr (.inr ?_);rw [hx];dsimp only;omega
 ·rw [hMr, hro] at hx; cases hx
 ·refine .inr (.inr ?_);rw [hMe, hesz] at hx;dsimp only;omega
theorem setRow_same (w : World) (g : Nat) (cs : Array Value) (el : TypeId) (h : w.heap[g]? = some (.cells cs el (0, 0))) : w.setRow g cs = w := by
 have hg : g < w.heap.size := by
  rcases Nat.lt_or_ge g w.heap.size with hlt | hge
  ·exact hlt
  ·rw [Array.getElem?_eq_none hge] at h; cases h
 have hh : (w.setRow g cs).heap = w.heap := by
  apply Array.ext_getElem?;intro i;by_cases hi : i = g
  ·subst hi;rw [setRow_heap w i cs cs el (0, 0) h, h]
  ·exact setRow_other w g i cs hi
 have hw : w.setRow g cs = { w with heap := (w.setRow g cs).heap } := rfl;rw [hw, hh]
theorem trim_is {c : Cfg} (hit : ∀ v H, c.it v H = none := by intro _ _; rfl) (hN : NamesOk c.P) (hmix : c.P.follows .mixedOrders = true) {f : FuncId} {size : Nat} : SpIs c.P f fun call args H => (bodyK c call f args H).bind (trimR size) := by
 intro call hc args H hne;have hne1 : bodyK c call f args H ≠ .stuck := Res.bind_ne hne;obtain ⟨b1, b2⟩ := body_is hit hN hmix hc (f := f) (args := args) (H := H) rfl hne1;refine ⟨b1, fun w0 μ w args' hH hargs => (b2 w0 μ w args' hH hargs).mono fun e w' he => ?_⟩;dsimp only at hne ⊢;cases hr : bodyK c call f args H with
 | stuck => exact absurd hr hne1
 | panic v H' => rw [hr] at he; exact he
 | ok v H' =>
  rw [hr] at he hne;obtain ⟨μ', v', l1, h1, h2, rfl⟩ := he;have hne : trimR size v H' ≠ .stuck := hne;show Ended w0 μ (trimR size v H') _ w';unfold trimR at hne ⊢;split at hne
  ·rename_i b off n cap _;split at hne
   ·rename_i k hk;split
    ·rename_i hcond;obtain ⟨c1, c2, c3, c4⟩ := hcond;obtain ⟨μ2, l2, h3, h4⟩ := trim_sim h1 h2 hk c1 c2 c3 c4 (fun g cs el hg => setRow_same _ g cs el hg);exact ⟨μ2, v', Mu.le_trans l1 l2, h3, h4, rfl⟩
    ·rename_i hcond;exact absurd (by split <;> first | rfl | contradiction) hne
   ·exact absurd rfl hne
  ·exact ⟨μ', v', l1, h1, h2, rfl⟩
end Go.Sw
end
