/-
  Functions' forms, and what is proved of them, part 5.
-/
import Derived.Test.YtanfippcmdialaaSwW4
import Derived.Test.YtanfippcmdialaaSwW3
import Derived.Test.YtanfippcmdialaaSwCfg
import Derived.Test.YtanfippcmdialaaSwW1
import Derived.Test.YtanfippcmdialaaSwLib9
import Derived.Test.YtanfippcmdialaaSwLib8
import Derived.Tactics
import Derived.Tactics2
import Derived.Defers
import Derived.Recover
import Derived.Laws.Pointers
set_option linter.unusedSimpArgs false
set_option linter.unusedVariables false
set_option linter.unusedSectionVars false
section
namespace Go.Sw
open Go.RowKit
def itPl (p : Nat) (o : Option Nat) (down : Bool) (l : List Pl) : It :=
 ⟨fpP p o, fun H => PlAt H p o down l, fun _ _ h hk => h.up (hk p (by simp [fpP])) fun b hb => hk b (by simp [fpP, hb])⟩
theorem Star.pl {H0 H : Heap} {L : List It} (h : Star H0 H L) (i : Nat) {p : Nat} {o : Option Nat} {down : Bool} {l : List Pl} (hi : L[i]? = some (itPl p o down l)) : PlAt H p o down l := h.at i hi
theorem Star.plStep {H0 H H2 : Heap} {L : List It} (h : Star H0 H L) (i : Nat) {p : Nat} {o : Option Nat} {down : Bool} {l l2 : List Pl} (hi : L[i]? = some (itPl p o down l)) (hp : PlAt H2 p o down l2) (hk : Keeps (fpP p o) H H2) : Star H0 H2 (L.set i (itPl p o down l2)) :=
 h.step i hi hk.1 (fun c hc hs => hk.2 c hc hs) _ hp fun b hb => .inl hb
theorem shift_star (k : Nat) {H0 H : Heap} {L : List It} (h : Star H0 H L) (i : Nat) {p : Nat} {o : Option Nat} {down : Bool} {l : List Pl} (hi : L[i]? = some (itPl p o down l)) (hok : ∀ q, q ∈ l → q.ok) (j x y : Int) :
  ∃ H2, R (T k) F.place_Places_Shift [ptrV p, .int .i64 j, .int .i64 x, .int .i64 y] H = .ok (.tuple #[]) H2 ∧ Star H0 H2 (L.set i (itPl p o down (updPl l j fun q => ⟨q.adv, addI q.x x, addI q.y y⟩))) := by
 obtain ⟨H2, e, h1, h2⟩ := Shift_run k (h.pl i hi) hok j x y;exact ⟨H2, e, h.plStep i hi h1 h2⟩
theorem placeNew_starG (k : Nat) {H0 H : Heap} {L : List It} (h : Star H0 H L) (dir : Int) (l : List Int) (hl : l.length ≤ 2 ^ 20) {av : Value} (hv : Sl H 1 av encI l) :
  ∃ o H', R (T k) F.place_New [.int .i64 dir, av] H = .ok (ptrV H.n) H' ∧ Star H0 H' (L ++ [itPl H.n o (dir == 2) (newPl l)]) := by
 obtain ⟨H', o, e, h1, h2, h3⟩ := New_runG k dir l hl H hv;refine ⟨o, H', e, h.more h3 _ h1 fun b hb => ?_⟩;have hlt := h1.lt;rcases List.mem_cons.1 hb with rfl | hb
 ·omega
 ·have := h2 b (Option.mem_toList.1 hb);have := h1.lto b (Option.mem_toList.1 hb);omega
theorem placeAll_run (k : Nat) (hk : k < 1000000) {H0 H : Heap} {L : List It} (h : Star H0 H L) (i : Nat) {p : Nat} {o : Option Nat} {down : Bool} {l : List Pl} (hi : L[i]? = some (itPl p o down l)) (hl : l.length ≤ 2 ^ 20) : R (T k) F.place_Places_All [ptrV p] H = .ok (lv encP l) H := All_run k hk (h.pl i hi) hl
end Go.Sw
end
section
set_option maxRecDepth 100000
set_option linter.unusedVariables false
namespace Go.Sw
noncomputable section
end
end Go.Sw
end
section
namespace Go.Sw
open Go.RowKit
end Go.Sw
end
section
set_option maxRecDepth 100000
set_option linter.unusedVariables false
namespace Go.Sw
noncomputable section
end
end Go.Sw
end
section
namespace Go.Sw
open Go.RowKit
structure Plan where
 cls : List Int
 rows : List (List Int)
 ents : List En
 wide : Int
def twos (l : List Int) : List Int := (l.map fun c => bytesOf c 2).flatten
def rowL (n : Nat) (r : List Int) : List Int := (List.range n).map fun i => r[i]?.getD 0
def rowsL (n : Nat) (rs : List (List Int)) : List Int := (rs.map fun r => twos (rowL n r)).flatten
def Plan.ok (p : Plan) : Prop := Byt p.cls ∧ (∀ r, r ∈ p.rows → Byt r) ∧ 0 ≤ p.wide ∧ p.wide < 256
end Go.Sw
end
section
namespace Go.Sw
open Go.RowKit
theorem bin_andL (P : Program) (t : TypeId) (H : Heap) (k : Nat) (hk : k < 62) {a : Int} (h0 : 0 ≤ a) (h1 : a < 2 ^ 62) (m : Int) (hm : m = ((2 ^ k : Nat) : Int) - 1) : binR P .and t (.int .i64 a) (.int .i64 m) H = .ok (.int .i64 (a % ((2 ^ k : Nat) : Int))) H := by
 obtain ⟨n, rfl⟩ := Int.eq_ofNat_of_zero_le h0;have hp : 2 ^ k ≤ 2 ^ 61 := Nat.pow_le_pow_right (by decide) (by omega);have hp0 : 0 < 2 ^ k := Nat.two_pow_pos k;have e : (BitVec.ofInt 64 (n : Int) &&& BitVec.ofInt 64 m).toNat = n % 2 ^ k := by
  rw [BitVec.toNat_and, BitVec.toNat_ofInt, BitVec.toNat_ofInt, hm];rw [show (((n : Int)) % ((2 ^ 64 : Nat) : Int)).toNat = n by omega, show ((((2 ^ k : Nat) : Int) - 1) % ((2 ^ 64 : Nat) : Int)).toNat = 2 ^ k - 1 by omega, Nat.and_two_pow_sub_one_eq_mod]
 have e1 : binV P .and t (.int .i64 (n : Int)) (.int .i64 m) = some (.int .i64 (IntKind.i64.wrap (BitVec.ofInt 64 (n : Int) &&& BitVec.ofInt 64 m).toNat)) := rfl;have hlt : n % 2 ^ k < 2 ^ k := Nat.mod_lt _ hp0;unfold binR;rw [e1, e, wrap_i64 (by omega) (by omega), Int.natCast_emod];rfl
theorem and24 (P : Program) (t : TypeId) (H : Heap) {a : Int} (h0 : 0 ≤ a) (h1 : a < 4294967296) : binR P .and t (.int .i64 a) (.int .i64 16777215) H = .ok (.int .i64 (a % 16777216)) H := bin_andL P t H 24 (by decide) h0 (by omega) 16777215 rfl
end Go.Sw
end
section
namespace Go.Sw
open Go.RowKit
variable {σ : Type}
def runD (m : Mach) (ln : σ → List Gl) (f : σ → Int → En → σ × Int × Int) (most : Int) : Nat → σ × Drv → Int × Int × σ
  | 0, x => (x.2.stp, 4, x.1)
  | n + 1, x => if x.2.stp < most then
      (if (stepD m ln f x).2 then ((stepD m ln f x).1.2.stp, 0, (stepD m ln f x).1.1)
       else if (stepD m ln f x).1.2.rest > 64 then ((stepD m ln f x).1.2.stp, 4, (stepD m ln f x).1.1)
       else runD m ln f most n (stepD m ln f x).1)
    else (x.2.stp, 4, x.1)
theorem stepD_stp (m : Mach) (ln : σ → List Gl) (f : σ → Int → En → σ × Int × Int) (x : σ × Drv) : (stepD m ln f x).1.2.stp = x.2.stp + 1 := by unfold stepD; split <;> rfl
theorem stepD_pl (m : Mach) (ln : σ → List Gl) (f : σ → Int → En → σ × Int × Int) (x : σ × Drv) : 0 ≤ (stepD m ln f x).1.2.pl := by unfold stepD; split <;> (dsimp only; omega)
theorem stepD_rest (m : Mach) (ln : σ → List Gl) (f : σ → Int → En → σ × Int × Int) (x : σ × Drv) (h : 0 ≤ x.2.rest) : 0 ≤ (stepD m ln f x).1.2.rest ∧ (stepD m ln f x).1.2.rest ≤ x.2.rest + 1 := by unfold stepD; split <;> (dsimp only; omega)
set_option maxHeartbeats 1000000 in
theorem driveRun_star (k : Nat) (m : Mach) (hm : m.ok) {H0 H : Heap} (W : σ → List It) (Inv : σ → Prop) (ln : σ → List Gl) (c : Nat) (hW : ∀ s, ∃ (i : Nat) (o : Option Nat), (W s)[i]? = some (itLine c o (ln s))) (a : Value) (f : σ → Int → En → σ × Int × Int) (ha : ActOk k m H0 W Inv a f)
  (X : List It) (s : σ) (hI : Inv s) (h : Star H0 H (W s ++ X)) (hl : (ln s).length < 2 ^ 40) :
  ∃ H', R (T k) F.drive_Run [machV m, ptrV c, a] H = .ok (.tuple #[.int .i64 (runD m ln f (2 * (ln s).length + 128) (2 * (ln s).length + 128) (s, ⟨0, 0, 0, 0⟩)).1, .int .i64 (runD m ln f (2 * (ln s).length + 128) (2 * (ln s).length + 128) (s, ⟨0, 0, 0, 0⟩)).2.1]) H' ∧
   Star H0 H' (W (runD m ln f (2 * (ln s).length + 128) (2 * (ln s).length + 128) (s, ⟨0, 0, 0, 0⟩)).2.2 ++ X) ∧ Inv (runD m ln f (2 * (ln s).length + 128) (2 * (ln s).length + 128) (s, ⟨0, 0, 0, 0⟩)).2.2 := by
 rw [drive_Run_R];obtain ⟨N, hN⟩ : ∃ N, N = 2 * (ln s).length + 128 := ⟨_, rfl⟩
 have hNi : (2 * ((ln s).length : Int) + 128) = (N : Int) := by omega
 obtain ⟨x0, hx0⟩ : ∃ x0 : σ × Drv, x0 = (s, ⟨0, 0, 0, 0⟩) := ⟨_, rfl⟩
 rw [← hN, hNi, ← hx0];generalize hR0 : runD m ln f (N : Int) N x0 = R0;have g := h.push ⟨drvC m c ⟨0, 0, 0, 0⟩, 1, false⟩;obtain ⟨i, o, ho⟩ := hW s;have hline : (W s ++ X ++ [itBlk H.n ⟨drvC m c ⟨0, 0, 0, 0⟩, 1, false⟩])[i]? = some (itLine c o (ln s)) := by
  have h0 : i < (W s).length := (List.getElem?_eq_some_iff.1 ho).1;rw [List.append_assoc, List.getElem?_append_left h0];exact ho
 have hlen := lineLen_run k g i hline
 obtain ⟨e, eE, H1, hr1, hQ⟩ := loop_up (body := drive_Run_l1 k (R (T k))) N
  (fun j e H' => e = [(2, a), (8, ptrV H.n), (9, .int .i64 N)] ∧ ∃ x : σ × Drv, Star H0 H' (W x.1 ++ X ++ [itBlk H.n ⟨drvC m c x.2, 1, false⟩]) ∧ Inv x.1 ∧ x.2.stp = j ∧ 0 ≤ x.2.pl ∧ x.2.pl ≤ 128 * j ∧ 0 ≤ x.2.rest ∧ x.2.rest ≤ j ∧ (0 ≤ x.2.st ∧ x.2.st < m.rows.length) ∧ runD m ln f N (N - j) x = R0)
  (fun x' e H' => ∃ r : Int × Int × σ, r = R0 ∧ ∃ d : Drv, Star H0 H' (W r.2.2 ++ X ++ [itBlk H.n ⟨drvC m c d, 1, false⟩]) ∧ Inv r.2.2 ∧
   ((x' = .ret ∧ e = [(6, .int .i64 r.1), (7, .int .i64 0)] ∧ r.2.1 = 0) ∨ (x' = .exit 0 ∧ d.stp = r.1 ∧ r.2.1 = 4 ∧ (e = [(2, a), (8, ptrV H.n), (9, .int .i64 N), (35, .bool true)] ∨ e = [(2, a), (8, ptrV H.n), (9, .int .i64 N), (23, .bool false)]))))
  (e0 := [(2, a), (8, ptrV H.n), (9, .int .i64 N)]) (H0 := H.push ⟨drvC m c ⟨0, 0, 0, 0⟩, 1, false⟩)
  ⟨rfl, x0, by rw [hx0]; exact g, by rw [hx0]; exact hI, by rw [hx0]; rfl, by rw [hx0]; exact Int.le_refl _, by rw [hx0]; exact Int.le_refl _, by rw [hx0]; exact Int.le_refl _, by rw [hx0]; exact Int.le_refl _, by rw [hx0]; have := hm.two; dsimp only; omega, by rw [Nat.sub_zero]; exact hR0⟩ (by omega)
  (fun j e H' hj ⟨he, x, g, hI, h1, h2, h3, h4, h5, hse, hrun⟩ => by
   subst he;obtain ⟨H2, e2, g2, hI2, h6, h7⟩ := driverStep_run k m hm W Inv ln c hW a f ha X H.n x.1 x.2 hI g (by omega) (by omega) (by omega) hse;have hq := g.memBlk (c := H.n) (k := ⟨drvC m c x.2, 1, false⟩) (by simp);have p1 := stepD_stp m ln f x;have p2 := stepD_pl m ln f x;have p3 := stepD_rest m ln f x h4;have hlt : x.2.stp < (N : Int) := by omega
   have hNj : N - j = (N - (j + 1)) + 1 := by omega
   rw [hNj] at hrun;unfold runD at hrun;rw [if_pos hlt] at hrun;have hxx : (x.1, x.2) = x := rfl;rw [hxx] at e2 g2 hI2 h6 h7;generalize stepD m ln f x = y at *;have hq2 := g2.memBlk (c := H.n) (k := ⟨drvC m c y.1.2, 1, false⟩) (by simp);cases hy : y.2 with
   | true =>
    rw [hy] at hrun e2;simp only [if_true] at hrun;refine .inr ⟨.ret, _, H2, ?_, by simp, _, hrun, y.1.2, g2, hI2, .inl ⟨rfl, rfl, rfl⟩⟩;rw [drive_Run_l1_eq];simp -implicitDefEqProofs (disch := omega) [hq, hlt, e2, hq2]
   | false =>
    rw [hy] at hrun e2;simp only [Bool.false_eq_true, if_false] at hrun;by_cases hr : y.1.2.rest > 64
    ·rw [if_pos hr] at hrun;refine .inr ⟨.exit 0, _, H2, ?_, by simp, _, hrun, y.1.2, g2, hI2, .inr ⟨rfl, rfl, rfl, .inl rfl⟩⟩;rw [drive_Run_l1_eq];simp -implicitDefEqProofs (disch := omega) [hq, hlt, e2, hq2, hr]
    ·rw [if_neg hr] at hrun;refine .inl ⟨_, H2, ?_, rfl, y.1, g2, hI2, by omega, p2, by omega, p3.1, by omega, h7, hrun⟩;rw [drive_Run_l1_eq];simp -implicitDefEqProofs (disch := omega) [hq, hlt, e2, hq2, hr])
  (fun e H' ⟨he, x, g, hI, h1, h2, h3, h4, h5, hse, hrun⟩ => by
   subst he;rw [Nat.sub_self] at hrun;have hq := g.memBlk (c := H.n) (k := ⟨drvC m c x.2, 1, false⟩) (by simp);refine ⟨.exit 0, _, H', ?_, by simp, _, hrun, x.2, g, hI, .inr ⟨rfl, rfl, rfl, .inr rfl⟩⟩;have hnl : ¬ x.2.stp < (N : Int) := by omega
   rw [drive_Run_l1_eq];simp -implicitDefEqProofs (disch := omega) [hq, hnl])
 obtain ⟨r, hr, d, g, hIr, hcase⟩ := hQ;subst hr;have hq := g.memBlk (c := H.n) (k := ⟨drvC m c d, 1, false⟩) (by simp);have gX : Star H0 H1 (W r.2.2 ++ X) := g.drop_last;refine ⟨H1, ?_, gX, hIr⟩;rcases hcase with ⟨rfl, rfl, hc⟩ | ⟨rfl, hd, hc, rfl | rfl⟩
 ·rw [hc];simp -implicitDefEqProofs (disch := omega) [drive_Run, hlen, hNi, hr1, drive_Run_l1k_r]
 ·rw [hc];simp -implicitDefEqProofs (disch := omega) [drive_Run, hlen, hNi, hr1, drive_Run_l1k_x0, hq, hd]
 ·rw [hc];simp -implicitDefEqProofs (disch := omega) [drive_Run, hlen, hNi, hr1, drive_Run_l1k_x0_1, hq, hd]
end Go.Sw
end
section
set_option maxRecDepth 100000
set_option linter.unusedVariables false
namespace Go.Sw
noncomputable section
end
end Go.Sw
end
section
namespace Go.Sw
open Go.RowKit
end Go.Sw
end
section
set_option maxRecDepth 100000
set_option linter.unusedVariables false
namespace Go.Sw
noncomputable section
end
end Go.Sw
end
section
namespace Go.Sw
open Go.RowKit
end Go.Sw
end
section
namespace Go.Sw
open Go.RowKit
end Go.Sw
end
section
namespace Go.Sw
open Go.RowKit
def RP.ok (r : RP) : Prop := -1 ≤ r.first ∧ r.first ≤ 65536 ∧ -1 ≤ r.last ∧ r.last ≤ 65536 ∧ -1 ≤ r.pos ∧ r.pos < 2 ^ 35 ∧ 0 ≤ r.step ∧ r.step ≤ 4 ∧ 0 ≤ r.size ∧ r.size ≤ 4
end Go.Sw
end
section
namespace Go.Sw
open Go.RowKit
end Go.Sw
end
section
namespace Go.Sw
open Go.RowKit
end Go.Sw
end
section
set_option maxRecDepth 100000
set_option linter.unusedVariables false
namespace Go.Sw
noncomputable section
end
end Go.Sw
end
section
namespace Go.Sw
open Go.RowKit
end Go.Sw
end
section
namespace Go.Sw
open Go.RowKit
end Go.Sw
end
section
namespace Go.Sw
theorem row_I {r : List Da} {cs : List Value} (h : LayRow [.int .i64] r cs) : ∃ n : Int, cs = encI n ∧ (Lit.int .i64 n).wf = true := by
 obtain ⟨d, v, ds, vs, rfl, h1, h2⟩ := h.head;obtain rfl := h2.done;obtain ⟨n, rfl, w⟩ := h1.intv;exact ⟨n, rfl, w⟩
theorem wf_u8 {n : Int} (h : (Lit.int .u8 n).wf = true) : 0 ≤ n ∧ n < 256 := by
 simp [Lit.wf, IntKind.min, IntKind.max, IntKind.signed, IntKind.bits] at h;omega
theorem row_B {r : List Da} {cs : List Value} (h : LayRow [.int .u8] r cs) : ∃ n : Int, cs = encB n ∧ (0 ≤ n ∧ n < 256) := by
 obtain ⟨d, v, ds, vs, rfl, h1, h2⟩ := h.head;obtain rfl := h2.done;obtain ⟨n, rfl, w⟩ := h1.intv;exact ⟨n, rfl, wf_u8 w⟩
theorem arg_B {v : Value} (h : ArgLay (.one (.slice [.int .u8])) v) : ∃ b, v = lv encB b ∧ Byt b := by
 obtain ⟨d, h1⟩ := h.cell;obtain ⟨b, rfl, hb⟩ := Lay.list (enc := encB) (ok := fun n => 0 ≤ n ∧ n < 256) (fun r cs h => row_B h) h1;exact ⟨b, rfl, hb⟩
theorem arg_I {v : Value} (h : ArgLay (.one (.slice [.int .i64])) v) : ∃ l, v = lv encI l ∧ ∀ n, n ∈ l → (Lit.int .i64 n).wf = true := by
 obtain ⟨d, h1⟩ := h.cell;exact Lay.list (enc := encI) (ok := fun n => (Lit.int .i64 n).wf = true) (fun r cs h => row_I h) h1
end Go.Sw
end
section
namespace Go.Sw
open Go.RowKit
end Go.Sw
end
section
namespace Go.Sw
open Go.RowKit
end Go.Sw
end
section
namespace Go.Sw
open Go.RowKit
variable {σ : Type}
def DoOk (k : Nat) (m : Mach) (H0 : Heap) (W : σ → List It) (Inv : σ → Prop) (a : Value) (g : σ → Int → En → σ) : Prop :=
 ∀ s i e H X, Inv s → Star H0 H (W s ++ X) → 0 ≤ i → i < 2 ^ 50 → e ∈ m.ents →
  ∃ v H', callV (R (T k)) a [.int .i64 i, encE e] H = .ok v H' ∧ Star H0 H' (W (g s i e) ++ X) ∧ Inv (g s i e)
theorem plain_ok (k : Nat) {m : Mach} {H0 : Heap} {W : σ → List It} {Inv : σ → Prop} {a : Value} {g : σ → Int → En → σ} (h : DoOk k m H0 W Inv a g) (p : Nat) :
  ActOk k m H0 (fun s => W s ++ [itBlk p ⟨[a], 1, false⟩]) Inv (.func (.func F.drive_Plain_in1) #[] #[ptrV p]) (fun s i e => (g s i e, i, i + 1)) := by
 intro s i e H X hI st h0 h1 he;have st2 := st.push ⟨encEn e, 1, false⟩;have hp := st2.memBlk (c := p) (k := ⟨[a], 1, false⟩) (by simp);have hpn : ¬ p = H.n := by have := Heap.get_lt (st.memBlk (c := p) (k := ⟨[a], 1, false⟩) (by simp)); omega
 obtain ⟨v, H', e1, st3, hI2⟩ := h s i e (H.push ⟨encEn e, 1, false⟩) ([itBlk p ⟨[a], 1, false⟩] ++ X ++ [itBlk H.n ⟨encEn e, 1, false⟩]) hI (by simpa [List.append_assoc] using st2) h0 h1 he;have st4 : Star H0 H' (W (g s i e) ++ [itBlk p ⟨[a], 1, false⟩] ++ X) := by
  have : W (g s i e) ++ ([itBlk p ⟨[a], 1, false⟩] ++ X ++ [itBlk H.n ⟨encEn e, 1, false⟩]) = (W (g s i e) ++ [itBlk p ⟨[a], 1, false⟩] ++ X) ++ [itBlk H.n ⟨encEn e, 1, false⟩] := by simp
  rw [this] at st3;exact st3.drop_last
 refine ⟨H', ?_, st4, hI2, by dsimp only; omega, by dsimp only; omega⟩;simp only [callV, List.nil_append, List.cons_append];rw [drive_Plain_in1_R, nrm_of];simp -implicitDefEqProofs (disch := omega) [drive_Plain_in1, hp, hpn, e1]
end Go.Sw
end
section
namespace Go.Sw
open Go.RowKit
end Go.Sw
end
section
namespace Go.Sw
open Go.RowKit
end Go.Sw
end
section
namespace Go.Sw
open Go.RowKit
theorem subV_lv (b : List Int) (a n : Nat) (h : a + n ≤ b.length) : subV 1 (lv encB b) a n = lv encB ((b.drop a).take n) := by
 have h2 := ((Sl.lv Heap.empty 1 b).sub encB_len .i64 .i64 .i64 a n h).1 Heap.empty (Ext.refl _);rw [slS_lv encB_len b _ _ _ a (a + n) (a + n) (by simp [boundOf]) (by unfold boundOf; dsimp only; rw [if_pos (by omega), Int.toNat_natCast]) (by unfold boundOf; dsimp only; rw [if_pos (by omega), Int.toNat_natCast]) (fun _ => rfl) (by omega) (Nat.le_refl _) h] at h2;injection h2 with h2;rw [← h2, List.drop_take, show a + n - a = n by omega]
theorem piece_lv {b r : List Int} {i n : Int} (h : pieceS b i n = some r) : subV 1 (lv encB b) i.toNat n.toNat = lv encB r := by
 obtain ⟨h1, rfl⟩ := pieceS_iff.1 h;exact subV_lv b _ _ (by omega)
theorem orF_congr {α : Type} {o : Option α} {f g : α → Value} (h : ∀ a, o = some a → f a = g a) (H : Heap) : orF o f H = orF o g H := by
 cases o with
 | none => rfl
 | some a => show Res.ok (f a) H = Res.ok (g a) H; rw [h a rfl]
abbrev vwB (b : List Int) : Value := .agg #[lv encB b]
theorem Cut_lv (k : Nat) (b : List Int) (i n : Int) (hl : b.length < 2 ^ 62) (H : Heap) : R (T k) F.view_View_Cut [vwB b, .int .i64 i, .int .i64 n] H = orF (pieceS b i n) vwB H :=
 (Cut_run k (Sl.lv H 1 b) i n hl).trans (orF_congr (fun r hr => by rw [piece_lv hr]) H)
theorem Rest_lv (k : Nat) (b : List Int) (i : Int) (hl : b.length < 2 ^ 62) (hi : i ≤ 9223372036854775807) (H : Heap) : R (T k) F.view_View_Rest [vwB b, .int .i64 i] H = orF (restS b i) vwB H :=
 (Rest_run k (Sl.lv H 1 b) i hl hi).trans (orF_congr (fun r hr => by rw [piece_lv (by rw [behind_piece b i hl hi]; exact hr)]) H)
theorem Of_lv (k : Nat) (b : List Int) (H : Heap) : R (T k) F.view_Of [lv encB b] H = .ok (vwB b) H := Of_run k (Sl.lv H 1 b)
theorem Bytes_run (k : Nat) {H : Heap} {v : Value} {b : List Int} (hv : Sl H 1 v encB b) (hl : b.length ≤ 2 ^ 30) : R (T k) F.view_View_Bytes [.agg #[v]] H = .ok (lv encB b) H := by
 rw [view_View_Bytes_R];have g := (Star.nil H).push ⟨[v], 1, false⟩;have g := g.more_row (Ext.refl _) (OwnO.bare encB _ 1) (fun b hb => by cases hb);obtain ⟨s, o, H1, e1, g⟩ := g.append (bytes := 1) 1 encB_len rfl (b := v) (l2 := b) (lenL_lenV hv.lenL) ((hv.up g.ext).first encB_len) (by simp; omega) (by decide);simp only [List.nil_append, List.cons_append, List.set_cons_zero, List.set_cons_succ] at g;obtain ⟨L, hf⟩ := (g.own 1 rfl).freeze encB_len (fun n _ v hv => by simp at hv; subst hv; trivial) 6;refine nrm_fz (v := s) (H' := H1) ?_ hf g.ext (Flat.B b).alive;simp -implicitDefEqProofs [view_View_Bytes, e1]
theorem veq_Pt (l : List Pt) : veq (lv encPt l) (lv encPt l) = true := veq_lv fun p _ v hv => by
 simp [encPt] at hv;rcases hv with rfl | rfl | rfl <;> simp
theorem veq_tab (x : Int × List Pt) : veq (boxV #[.int .i64 x.1, lv encPt x.2]) (boxV #[.int .i64 x.1, lv encPt x.2]) = true := veq_boxV (l := [.int .i64 x.1, lv encPt x.2]) fun v hv => by
 simp at hv;rcases hv with rfl | rfl
 ·simp
 ·exact veq_Pt _
end Go.Sw
end
section
namespace Go.Sw
open Go.RowKit
structure CTab where
 m : Mach
 subs : List (Int × List Pt)
end Go.Sw
end
section
namespace Go.Sw
open Go.RowKit
end Go.Sw
end
section
namespace Go.Sw
open Go.RowKit
end Go.Sw
end
section
namespace Go.Sw
open Go.RowKit Go.Proofs
set_option maxRecDepth 20000 in
theorem catch_short (p : Addr) (b : Bool) (w : World) (hc : (w.alloc (.cells #[] 190)).cell? p = some (.bool b)) (hz : (w.alloc (.cells #[] 190)).frozen? p = false) :
  CallsD Prog 100 #[.pointer (some p)] (.panicking [{ v := .iface 190 (.agg #[]), recovered := false }]) w fun e u' w' =>
   e = .returned (.tuple #[]) ∧ u' = .panicking [{ v := .iface 190 (.agg #[]), recovered := true }] ∧ w' = (w.alloc (.cells #[] 190)).setCell p (.bool false) := by
 refine callsD_of_wpS Try.func100 rfl fun c₀ cs hu => ?_;apply wpS_seq;apply wpS_region;simp [wpOpsS, go_sem, recoverD, hu, Try.ntmps100, Exit.thenS];have hta : ∀ w, (Instr.typeAssert (.iface 190 (.agg #[])) 20 190 true).run Prog w = .ok (.tuple #[.agg #[], .bool true]) w := fun w => by kernel_rfl
 refine wpS_of_wp ?_
 go_wp2
 cases c₀;simp_all [bodyPostS, results, Try.results100]
theorem catch_idle (p : Addr) (w : World) :
  CallsD Prog 100 #[.pointer (some p)] .returning w fun e u' w' => e = .returned (.tuple #[]) ∧ u' = .returning ∧ w' = w := by
 refine callsD_of_wpS Try.func100 rfl fun c₀ cs hu => ?_;apply wpS_seq;apply wpS_region;simp [wpOpsS, go_sem, recoverD, hu, Try.ntmps100, Exit.thenS];refine wpS_of_wp ?_
 go_wp2
 cases c₀;simp_all [bodyPostS, results, Try.results100]
set_option maxRecDepth 20000 in
theorem try_walk (g : FuncId) (first cap : Array Value) (w : World) (R : Ending → World → Prop)
  (hcf : (callFunc g (first ++ cap)).run Prog (w.alloc (.cells #[.bool false] 4)) = .ok (.enter g (first ++ cap)) (w.alloc (.cells #[.bool false] 4)))
  (hcall : Calls Prog g (first ++ cap) (w.alloc (.cells #[.bool false] 4)) fun e w' => match e with
   | .returned _ => w'.heap[w.heap.size]? = some (.cells #[.bool false] 4 (0, 0)) ∧ R (.returned (.bool true)) (w'.setCell ⟨w.heap.size, 0, none⟩ (.bool true))
   | .panicked chain => chain = [{ v := .iface 190 (.agg #[]), recovered := false }] ∧ w'.heap[w.heap.size]? = some (.cells #[.bool false] 4 (0, 0)) ∧ R (.returned (.bool false)) ((w'.alloc (.cells #[] 190)).setCell ⟨w.heap.size, 0, none⟩ (.bool false))
   | .outgrown => False) :
  Calls Prog 40 #[.func (.func g) first cap] w R := by
 have hmf : ∀ (fn : Fn) (first cap : Array Value) (w : World), (Instr.makeFunc fn first cap).run Prog w = .ok (.func fn first cap) w := fun _ _ _ _ => rfl
 go_enter_defers Try.func40, Try.ntmps40
 go_wp2
 rename_i K2 hK2 K1 hK1;refine hcall.mono fun e w' he => ?_;cases e with
 | returned v =>
  obtain ⟨h1, h2⟩ := he;have hc : w'.cell? ⟨w.heap.size, 0, none⟩ = some (.bool false) := by simp [World.cell?, h1]
  have hz : w'.frozen? ⟨w.heap.size, 0, none⟩ = false := by simp [World.frozen?, h1]
  apply hK1;apply hK2
  go_wp2
  have hc2 : (w'.setCell ⟨w.heap.size, 0, none⟩ (.bool true)).cell? ⟨w.heap.size, 0, none⟩ = some (.bool true) := World.cell?_setCell_same _ _ _ hc;refine leaves_cons (f := 100) (args := #[.pointer (some ⟨w.heap.size, 0, none⟩)]) (by simp) (by simp [go_sem]) ?_;refine (catch_idle ⟨w.heap.size, 0, none⟩ _).mono ?_;rintro e u' w'' ⟨rfl, rfl, rfl⟩;simp [Leaves, settle, results, Try.results40, go_sem, hc2];exact h2
 | panicked chain =>
  obtain ⟨h0, h1, h2⟩ := he;subst h0;have hlt : w.heap.size < w'.heap.size := by
   rcases Nat.lt_or_ge w.heap.size w'.heap.size with h | h
   ·exact h
   ·rw [Array.getElem?_eq_none h] at h1; cases h1
  have h3 : (w'.alloc (.cells #[] 190)).heap[w.heap.size]? = some (.cells #[.bool false] 4 (0, 0)) := by
   rw [heap_alloc_lt _ _ _ hlt]; exact h1
  have hc : (w'.alloc (.cells #[] 190)).cell? ⟨w.heap.size, 0, none⟩ = some (.bool false) := by simp only [World.cell?, h3]; rfl
  have hz : (w'.alloc (.cells #[] 190)).frozen? ⟨w.heap.size, 0, none⟩ = false := by simp [World.frozen?, h3]
  have hc2 : ((w'.alloc (.cells #[] 190)).setCell ⟨w.heap.size, 0, none⟩ (.bool false)).cell? ⟨w.heap.size, 0, none⟩ = some (.bool false) := World.cell?_setCell_same _ _ _ hc;show Leaves _ _ _ _ _ _ _;refine leaves_cons (f := 100) (args := #[.pointer (some ⟨w.heap.size, 0, none⟩)]) (by simp) (by simp [go_sem]) ?_;refine (catch_short ⟨w.heap.size, 0, none⟩ false _ hc hz).mono ?_;rintro e u' w'' ⟨rfl, rfl, rfl⟩;simp [Leaves, settle, results, Try.results40, go_sem, hc2];exact h2
 | outgrown => exact he.elim
theorem try_is : SpIs Prog 40 (tryV 190) := try_of (bt := 4) Try.func40 rfl (by kernel_rfl) try_walk
end Go.Sw
end
section
namespace Go.Sw
open Go.RowKit
structure CTab.ok (t : CTab) : Prop where
 m : t.m.ok
 subs : ∀ x, x ∈ t.subs → (∀ p, p ∈ x.2 → p.ok) ∧ risesS x.2 = true ∧ x.2.length < 2 ^ 31
 has : ∀ e, e ∈ t.m.ents → (e.a = 65535 ∨ e.a < t.subs.length) ∧ (e.b = 65535 ∨ e.b < t.subs.length)
end Go.Sw
end
section
namespace Go.Sw
open Go.RowKit
theorem and_two15 (n : Nat) : n &&& 2 ^ 15 = if n.testBit 15 then 2 ^ 15 else 0 := by
 apply Nat.eq_of_testBit_eq;intro i;rw [Nat.testBit_and, Nat.testBit_two_pow];by_cases h : 15 = i
 ·subst h;cases hb : n.testBit 15 <;> simp <;> decide
 ·cases hb : n.testBit 15
  ·simp [h]
  ·simp only [h, decide_false, Bool.and_false, if_true, Nat.testBit_two_pow]
theorem and15 (P : Program) (t : TypeId) (H : Heap) {a : Int} (h0 : 0 ≤ a) (h1 : a < 65536) : binR P .and t (.int .i64 a) (.int .i64 32768) H = .ok (.int .i64 (if a ≥ 32768 then 32768 else 0)) H := by
 have e : (BitVec.ofInt 64 a &&& BitVec.ofInt 64 32768).toNat = (if a ≥ 32768 then 32768 else 0) := by
  rw [BitVec.toNat_and, BitVec.toNat_ofInt, BitVec.toNat_ofInt];rw [show ((32768 : Int) % ((2 ^ 64 : Nat) : Int)).toNat = 2 ^ 15 from by decide, and_two15, Nat.testBit_eq_decide_div_mod_eq];obtain ⟨n, rfl⟩ := Int.eq_ofNat_of_zero_le h0;rw [show (((n : Int)) % ((2 ^ 64 : Nat) : Int)).toNat = n by omega];by_cases h : (n : Int) ≥ 32768
  ·rw [if_pos h, decide_eq_true (show n / 2 ^ 15 % 2 = 1 by omega)]; rfl
  ·rw [if_neg h, decide_eq_false (show ¬ n / 2 ^ 15 % 2 = 1 by omega)]; rfl
 have e1 : binV P .and t (.int .i64 a) (.int .i64 32768) = some (.int .i64 (IntKind.i64.wrap (BitVec.ofInt 64 a &&& BitVec.ofInt 64 32768).toNat)) := rfl;unfold binR;rw [e1, e];by_cases h : a ≥ 32768
 ·simp [h]
 ·simp [h]
end Go.Sw
end
section
namespace Go.Sw
open Go.RowKit
end Go.Sw
end
section
namespace Go.Sw
open Go.RowKit
theorem plainNew (k : Nat) (f : Fn) (a b : Array Value) (H : Heap) : R (T k) F.drive_Plain [.func f a b] H = .ok (.func (.func F.drive_Plain_in1) #[] #[ptrV H.n]) (H.push ⟨[.func f a b], 1, false⟩) := by
 rw [drive_Plain_R];have e : drive_Plain k (R (T k)) (.func f a b) H = .ok (.func (.func F.drive_Plain_in1) #[] #[ptrV H.n]) (H.push ⟨[.func f a b], 1, false⟩) := by
  simp -implicitDefEqProofs [drive_Plain]
 rw [e];have dead : ¬ Alive H (.func (.func F.drive_Plain_in1) #[] #[ptrV H.n]) := fun h => by
  cases h with
  | func fn xs ys h1 h2 =>
   have := h2 0 (ptrV H.n) rfl;cases this with
   | ptr b off k hg => have := Heap.get_lt hg; omega
 unfold nrm;exact if_neg fun hc => dead hc.2
end Go.Sw
end
section
namespace Go.Sw
open Go.RowKit
theorem veq_Ens (l : List En) : veq (lv encEn l) (lv encEn l) = true := veq_lv fun p _ v hv => by
 simp [encEn] at hv;rcases hv with rfl | rfl | rfl | rfl <;> simp
theorem veq_Is (l : List Int) : veq (lv encI l) (lv encI l) = true := veq_lv fun p _ v hv => by
 simp [encI] at hv;subst hv; simp
theorem veq_Rows (l : List (List Int)) : veq (lv encRow l) (lv encRow l) = true := veq_lv fun p _ v hv => by
 simp [encRow] at hv;subst hv; exact veq_Is p
theorem veq_mach (m : Mach) : veq (machV m) (machV m) = true := veq_boxV (l := [.int .i64 m.classes, tabV m.tab, lv encRow m.rows, lv encEn m.ents]) fun v hv => by
 simp at hv;rcases hv with rfl | rfl | rfl | rfl
 ·simp
 ·exact veq_tab _
 ·exact veq_Rows _
 ·exact veq_Ens _
end Go.Sw
end
section
namespace Go.Sw
open Go.RowKit
theorem Star.perm {H0 H : Heap} {L L' : List It} (h : Star H0 H L) (hp : L.Perm L') : Star H0 H L' := by
 have hpw : L.Pairwise fun x y => ∀ b, b ∈ x.o → b ∉ y.o := List.pairwise_iff_getElem.2 fun i j hi hj hij b hb => h.2.2 i j _ _ (by omega) (List.getElem?_eq_getElem hi) (List.getElem?_eq_getElem hj) b hb;have hpw' := (hp.pairwise_iff (fun {x y} hxy b hb hb2 => hxy b hb2 hb)).1 hpw;refine ⟨h.1, fun i x hx => ?_, fun i j x y hij hx hy b hb => ?_⟩
 ·obtain ⟨j, hj⟩ := List.getElem?_of_mem (hp.mem_iff.2 (List.mem_of_getElem? hx));exact h.2.1 j x hj
 ·obtain ⟨hi, rfl⟩ := List.getElem?_eq_some_iff.1 hx;obtain ⟨hj, rfl⟩ := List.getElem?_eq_some_iff.1 hy;rcases Nat.lt_or_gt_of_ne hij with hlt | hgt
  ·exact List.pairwise_iff_getElem.1 hpw' i j hi hj hlt b hb
  ·exact fun hb2 => List.pairwise_iff_getElem.1 hpw' j i hj hi hgt b hb2 hb
end Go.Sw
end
section
namespace Go.Sw
open Go.RowKit
end Go.Sw
end
section
namespace Go.Sw
open Go.RowKit
structure BTab where
 m : Mach
 kind : Int
 acts : List Int
def entAct (k : Int) (a : List Int) (e : En) : Bool := decide (e.a = 65535) || (pieceS a (4 * k * e.a) (4 * k)).isSome
def bindS (b : List Int) (g : Int) : Option BTab := (machS b g 1).bind fun m => (uS b 16 4).bind fun w =>
 if w / 1073741824 = 1 ∨ w / 1073741824 = 2 then (restS b (w % 16777216)).bind fun a => if m.ents.all (entAct (w / 1073741824) a) then some ⟨m, w / 1073741824, a⟩ else none else some ⟨m, w / 1073741824, []⟩
structure BTab.ok (t : BTab) : Prop where
 m : t.m.ok
 kind : 0 ≤ t.kind ∧ t.kind < 4
 byt : Byt t.acts
 len : t.acts.length < 2 ^ 31
 has : t.kind = 1 ∨ t.kind = 2 → ∀ e, e ∈ t.m.ents → e.a = 65535 ∨ 4 * t.kind * e.a + 4 * t.kind ≤ t.acts.length
theorem bindS_ok {b : List Int} (hb : Byt b) {g : Int} (h1 : 1 ≤ g) (h2 : g ≤ 65535) (hl : b.length < 2 ^ 31) {t : BTab} (h : bindS b g = some t) : t.ok := by
 unfold bindS at h;obtain ⟨m, hm, h⟩ := Option.bind_eq_some_iff.1 h;obtain ⟨w, hw, h⟩ := Option.bind_eq_some_iff.1 h;have hwb := uS_four hb hw;split at h
 ·rename_i hc;obtain ⟨a, ha, h⟩ := Option.bind_eq_some_iff.1 h;split at h
  ·rename_i hall;injection h with h;subst h;have := restS_len ha;refine ⟨machS_ok hb h1 h2 (by omega) hm, by dsimp only; omega, hb.rest ha, by dsimp only; omega, fun _ e he => ?_⟩;have := List.all_eq_true.1 hall e he;unfold entAct at this;rw [Bool.or_eq_true, decide_eq_true_eq] at this;refine this.imp id fun hp => ?_;obtain ⟨r, hr⟩ := Option.isSome_iff_exists.1 hp;unfold pieceS at hr;split at hr
   ·dsimp only; omega
   ·cases hr
  ·cases h
 ·rename_i hc;injection h with h;subst h;exact ⟨machS_ok hb h1 h2 (by omega) hm, by dsimp only; omega, Byt.nil, by simp, fun h => absurd h hc⟩
def ptsS (t : BTab) (pg : Int → Int → Option (Int × Int)) (a mk own : Int) : Option ((Int × Int) × (Int × Int)) :=
 if t.kind = 1 then (pg mk (gU t.acts (4 * a) 2)).bind fun p => (pg own (gU t.acts (4 * a + 2) 2)).map fun q => (p, q)
 else if t.kind = 2 then some ((s16 (gU t.acts (8 * a) 2), s16 (gU t.acts (8 * a + 2) 2)), (s16 (gU t.acts (8 * a + 4) 2), s16 (gU t.acts (8 * a + 6) 2)))
 else none
def shiftPl (l : List Pl) (i x y : Int) : List Pl := updPl l i fun p => ⟨p.adv, addI p.x x, addI p.y y⟩
def bindPl (t : BTab) (pg : Int → Int → Option (Int × Int)) (gl : List Gl) (l : List Pl) (i mark : Int) (e : En) : List Pl :=
 if e.a = 65535 then l else
 match atG gl i, atG gl mark with
 | some own, some mk => match ptsS t pg e.a mk.id own.id with
  | some r => shiftPl l i (r.1.1 - r.2.1) (r.1.2 - r.2.2)
  | none => l
 | _, _ => l
def doBi (t : BTab) (pg : Int → Int → Option (Int × Int)) (gl : List Gl) (s : List Pl × Int) (i : Int) (e : En) : List Pl × Int :=
 (bindPl t pg gl s.1 i s.2 e, if e.flags ≥ 32768 ∧ (atG gl i).isSome = true then i else s.2)
theorem bindPl_len (t : BTab) (pg : Int → Int → Option (Int × Int)) (gl : List Gl) (l : List Pl) (i mark : Int) (e : En) : (bindPl t pg gl l i mark e).length = l.length := by
 unfold bindPl shiftPl
 repeat' split
 all_goals simp
theorem bindPl_ok (t : BTab) (pg : Int → Int → Option (Int × Int)) (gl : List Gl) {l : List Pl} (h : ∀ q, q ∈ l → q.ok) (i mark : Int) (e : En) : ∀ q, q ∈ bindPl t pg gl l i mark e → q.ok := by
 unfold bindPl shiftPl
 repeat' split
 all_goals first
  | exact h
  | exact updPl_ok h _ fun q hq => ⟨hq.1, addI_ok _ _, addI_ok _ _⟩
def runBr (t : BTab) (pg : Int → Int → Option (Int × Int)) (gl : List Gl) (l : List Pl) : Int × Int × (List Pl × Int) :=
 runD t.m (fun _ : List Pl × Int => gl) (fun s i e => (doBi t pg gl s i e, i, i + 1)) (2 * (gl.length : Int) + 128) (2 * gl.length + 128) ((l, -1), ⟨0, 0, 0, 0⟩)
def runB (t : BTab) (pg : Int → Int → Option (Int × Int)) (gl : List Gl) (l : List Pl) : List Pl × Int := ((runBr t pg gl l).2.2.1, (runBr t pg gl l).2.1)
end Go.Sw
end
section
set_option maxRecDepth 100000
set_option linter.unusedVariables false
namespace Go.Sw
noncomputable section
def bind_Take_l1 (k : Nat) (call : Caller) : Env → Heap → Res (AExit × Env) := loopB (C k) call F.bind_Take [1, 1, 1, 1, 1, 1, 1, 0, 1, 0, 0]
def bind_Take_l1k (k : Nat) (call : Caller) : Kont Value := kBlock 0 (kSeq (pieceK (C k) call F.bind_Take [1, 1, 1, 1, 1, 1, 1, 1]) (kDone Prog (resOf Prog F.bind_Take)))
def bind_Take_j1 (k : Nat) (call : Caller) (a5 a7 a51 a52 a53 : Value) (h : Heap) : Res (AExit × Env) :=
 kSeq (pieceK (C k) call F.bind_Take [1, 1, 1, 1, 1, 1, 1, 0, 1, 0, 0, 1, 1, 1]) (kRound (ownOf (C k) F.bind_Take [1, 1, 1, 1, 1, 1, 1, 0, 1, 0, 0])) .normal [(5, a5), (7, a7), (51, a51), (52, a52), (53, a53)] h
def bind_Take_j2 (k : Nat) (call : Caller) (a5 a7 a9 a51 a52 a53 a59 : Value) (h : Heap) : Res (AExit × Env) :=
 kSeq (pieceK (C k) call F.bind_Take [1, 1, 1, 1, 1, 1, 1, 0, 1, 0, 0, 1, 1, 1]) (kRound (ownOf (C k) F.bind_Take [1, 1, 1, 1, 1, 1, 1, 0, 1, 0, 0])) .normal [(5, a5), (7, a7), (9, a9), (51, a51), (52, a52), (53, a53), (59, a59)] h
def bind_Take (k : Nat) (call : Caller) (a0 a1 : Value) (h : Heap) : Res Value :=
 (boxR a0 h).bind fun v1 h2 =>
 (loadR Prog 75 v1 h2).bind fun v3 h4 =>
 (call F.state_Take [v3, a1, (.int .i64 1)] h4).bind fun v5 h6 =>
 (buildR Prog 199 [(0, v5)] h6).bind fun v7 h8 =>
 (boxR v7 h8).bind fun v9 h10 =>
 (loadR Prog 75 v1 h10).bind fun v11 h12 =>
 (call F.view_View_U32 [v11, (.int .i64 16)] h12).bind fun v13 h14 =>
 (binR Prog .shr 3 v13 (.int .u64 30) h14).bind fun v15 h16 =>
 (nilR v9 h16).bind fun v17 h18 =>
 (fieldAddrR Prog 199 v17 1 h18).bind fun v19 h20 =>
 (storeR Prog 3 v19 v15 h20).bind fun _v21 h22 =>
 (nilR v9 h22).bind fun v23 h24 =>
 (fieldAddrR Prog 199 v23 1 h24).bind fun v25 h26 =>
 (loadR Prog 3 v25 h26).bind fun v27 h28 =>
 (binR Prog .neq 3 v27 (.int .i64 1) h28).bind fun v29 h30 =>
 ((bif wantVal v29 true then Res.ok v9 h30 else Res.ok undef h30)).bind fun v31 h32 =>
 ((bif wantVal v29 true then nilR v31 h32 else Res.ok undef h32)).bind fun v33 h34 =>
 ((bif wantVal v29 true then fieldAddrR Prog 199 v33 1 h34 else Res.ok undef h34)).bind fun v35 h36 =>
 ((bif wantVal v29 true then loadR Prog 3 v35 h36 else Res.ok undef h36)).bind fun v37 h38 =>
 ((bif wantVal v29 true then binR Prog .neq 3 v37 (.int .i64 2) h38 else Res.ok undef h38)).bind fun v39 h40 =>
 (condV (some v29) (Res.ok v39 h40) (Res.ok (.bool false) h40)).bind fun v41 h42 =>
 condV (some v41) (
 .ok v9 h42)
 (
 (loadR Prog 75 v1 h42).bind fun v43 h44 =>
 (binR Prog .and 3 v13 (.int .i64 16777215) h44).bind fun v45 h46 =>
 (call F.view_View_Rest [v43, v45] h46).bind fun v47 h48 =>
 (nilR v9 h48).bind fun v49 h50 =>
 (fieldAddrR Prog 199 v49 2 h50).bind fun v51 h52 =>
 (storeR Prog 75 v51 v47 h52).bind fun _v53 h54 =>
 (nilR v9 h54).bind fun v55 h56 =>
 (fieldAddrR Prog 199 v55 1 h56).bind fun v57 h58 =>
 (loadR Prog 3 v57 h58).bind fun v59 h60 =>
 (binR Prog .mul 3 (.int .i64 4) v59 h60).bind fun v61 h62 =>
 (nilR v9 h62).bind fun v63 h64 =>
 (fieldAddrR Prog 199 v63 0 h64).bind fun v65 h66 =>
 (loadR Prog 196 v65 h66).bind fun v67 h68 =>
 (call F.state_Machine_Entries [v67] h68).bind fun v69 h70 =>
 (builtinV Prog .len [102] [v69] h70).bind fun v71 h72 =>
 (loopN (bind_Take_l1 k call) loopFuel [(5, v9), (7, v61), (51, v69), (52, v71), (53, (.int .i64 0))] h72).bind fun r73 h74 =>
 bind_Take_l1k k call r73.1 r73.2 h74)
theorem bind_Take_R (k : Nat) (a0 a1 : Value) (h : Heap) : R (T k) F.bind_Take [a0, a1] h = nrm .fz h (bind_Take k (R (T k)) a0 a1 h) :=
 (R_body (t := T k) (T_scott k) (by kernel_rfl) (by kernel_rfl) _ _).trans (by kernel_rfl)
theorem bind_Take_l1_eq (k : Nat) (call : Caller) (a5 a7 a51 a52 a53 : Value) (h : Heap) : bind_Take_l1 k call [(5, a5), (7, a7), (51, a51), (52, a52), (53, a53)] h =
 (binR Prog .lss 3 a53 a52 h).bind fun v75 h76 =>
 condV (some v75) (
 (indexAddrR Prog 102 a51 a53 h76).bind fun v77 h78 =>
 (loadR Prog 130 v77 h78).bind fun v79 h80 =>
 (allocR Prog 130 h80).bind fun v81 h82 =>
 (storeR Prog 130 v81 v79 h82).bind fun _v83 h84 =>
 (fieldAddrR Prog 130 v81 2 h84).bind fun v85 h86 =>
 (loadR Prog 3 v85 h86).bind fun v87 h88 =>
 (binR Prog .neq 3 v87 (.int .i64 65535) h88).bind fun v89 h90 =>
 condV (some v89) (
 (nilR a5 h90).bindN fun v91 h92 =>
 (fieldAddrR Prog 199 v91 2 h92).bindN fun v93 h94 =>
 (loadR Prog 75 v93 h94).bindN fun v95 h96 =>
 (fieldAddrR Prog 130 v81 2 h96).bindN fun v97 h98 =>
 (loadR Prog 3 v97 h98).bindN fun v99 h100 =>
 (binR Prog .mul 3 a7 v99 h100).bindN fun v101 h102 =>
 (call F.view_View_Cut [v95, v101, a7] h102).bindT (fun p105 h106 => .panic p105 h106) fun v103 h104 =>
 bind_Take_j1 k call a5 a7 a51 a52 a53 h104)
 (
 bind_Take_j2 k call a5 a7 v81 a51 a52 a53 v89 h90))
 (
 .ok ((.exit 0), [(5, a5), (7, a7), (51, a51), (52, a52), (53, a53), (54, v75)]) h76) :=
 (loopB_eq _ _).trans (by kernel_rfl)
theorem bind_Take_j1_eq (k : Nat) (call : Caller) (a5 a7 a51 a52 a53 : Value) (h : Heap) : bind_Take_j1 k call a5 a7 a51 a52 a53 h =
 (binR Prog .add 3 a53 (.int .i64 1) h).bind fun v107 h108 =>
 .ok (.normal, [(5, a5), (7, a7), (51, a51), (52, a52), (53, v107)]) h108 := by kernel_rfl
theorem bind_Take_j2_eq (k : Nat) (call : Caller) (a5 a7 a9 a51 a52 a53 a59 : Value) (h : Heap) : bind_Take_j2 k call a5 a7 a9 a51 a52 a53 a59 h =
 (binR Prog .add 3 a53 (.int .i64 1) h).bind fun v109 h110 =>
 .ok (.normal, [(5, a5), (7, a7), (51, a51), (52, a52), (53, v109)]) h110 := by kernel_rfl
theorem bind_Take_l1k_x0 (k : Nat) (call : Caller) (a5 a7 a51 a52 a53 a54 : Value) (h : Heap) : bind_Take_l1k k call (.exit 0) [(5, a5), (7, a7), (51, a51), (52, a52), (53, a53), (54, a54)] h =
 .ok a5 h := by kernel_rfl
def bind_Read (k : Nat) (call : Caller) (a0 a1 : Value) (h : Heap) : Res Value :=
 (boxR a1 h).bind fun v1 h2 =>
 (allocR Prog 90 h2).bind fun v3 h4 =>
 (loadR Prog 3 v1 h4).bind fun v5 h6 =>
 (binR Prog .lss 3 v5 (.int .i64 1) h6).bind fun v7 h8 =>
 ((bif wantVal v7 false then loadR Prog 3 v1 h8 else Res.ok undef h8)).bind fun v9 h10 =>
 ((bif wantVal v7 false then binR Prog .gtr 3 v9 (.int .i64 65535) h10 else Res.ok undef h10)).bind fun v11 h12 =>
 (condV (some v7) (Res.ok (.bool true) h12) (Res.ok v11 h12)).bind fun v13 h14 =>
 condV (some v13) (
 (storeR Prog 90 v3 (.pointer none) h14).bind fun _v15 h16 =>
 (loadR Prog 90 v3 h16).bind fun v17 h18 =>
 .ok (.tuple #[v17, (.int .i64 1)]) h18)
 (
 (call F.view_Of [a0] h14).bind fun v19 h20 =>
 (call F.view_View_Bytes [v19] h20).bind fun v21 h22 =>
 (call F.view_Of [v21] h22).bind fun v23 h24 =>
 (allocR Prog 75 h24).bind fun v25 h26 =>
 (storeR Prog 75 v25 v23 h26).bind fun _v27 h28 =>
 (call F.view_Try [(.func (.func F.bind_Read_in1) #[] #[v25, v1, v3])] h28).bind fun v29 h30 =>
 (unR .not v29 h30).bind fun v31 h32 =>
 condV (some v31) (
 (storeR Prog 90 v3 (.pointer none) h32).bind fun _v33 h34 =>
 (loadR Prog 90 v3 h34).bind fun v35 h36 =>
 .ok (.tuple #[v35, (.int .i64 2)]) h36)
 (
 (loadR Prog 90 v3 h32).bind fun v37 h38 =>
 (storeR Prog 90 v3 v37 h38).bind fun _v39 h40 =>
 (loadR Prog 90 v3 h40).bind fun v41 h42 =>
 .ok (.tuple #[v41, (.int .i64 0)]) h42))
theorem bind_Read_R (k : Nat) (a0 a1 : Value) (h : Heap) : R (T k) F.bind_Read [a0, a1] h = nrm .fz h (bind_Read k (R (T k)) a0 a1 h) :=
 (R_body (t := T k) (T_scott k) (by kernel_rfl) (by kernel_rfl) _ _).trans (by kernel_rfl)
def bind_Table_Run (k : Nat) (call : Caller) (a0 a1 a2 a3 : Value) (h : Heap) : Res Value :=
 (boxR a0 h).bind fun v1 h2 =>
 (boxR a1 h2).bind fun v3 h4 =>
 (boxR a2 h4).bind fun v5 h6 =>
 (boxR a3 h6).bind fun v7 h8 =>
 (allocR Prog 3 h8).bind fun v9 h10 =>
 (storeR Prog 3 v9 (.int .i64 (-1)) h10).bind fun _v11 h12 =>
 (loadR Prog 90 v1 h12).bindN fun v13 h14 =>
 (nilR v13 h14).bindN fun v15 h16 =>
 (fieldAddrR Prog 199 v15 0 h16).bindN fun v17 h18 =>
 (loadR Prog 196 v17 h18).bindN fun v19 h20 =>
 (loadR Prog 25 v3 h20).bindN fun v21 h22 =>
 (call F.drive_Plain [(.func (.func F.bind_Table_Run_in1) #[] #[v3, v9, v1, v7, v5])] h22).bindT (fun p25 h26 => .panic p25 h26) fun v23 h24 =>
 (call F.drive_Run [v19, v21, v23] h24).bindT (fun p29 h30 => chkR ((okVal (loadR Prog 90 v1 h24) v13 && true) && ((okVal (loadR Prog 196 v17 h24) v19 && true) && ((okVal (loadR Prog 25 v3 h24) v21 && true) && true))) (.panic p29 h30)) fun v27 h28 =>
 (extractR v27 0 h28).bindN fun v31 h32 =>
 (extractR v27 1 h32).bindN fun v33 h34 =>
 chkR ((okVal (loadR Prog 90 v1 h24) v13 && true) && ((okVal (loadR Prog 196 v17 h24) v19 && true) && ((okVal (loadR Prog 25 v3 h24) v21 && true) && true))) (
 .ok v33 h34)
theorem bind_Table_Run_R (k : Nat) (a0 a1 a2 a3 : Value) (h : Heap) : R (T k) F.bind_Table_Run [a0, a1, a2, a3] h = nrm .no h (bind_Table_Run k (R (T k)) a0 a1 a2 a3 h) :=
 (R_body (t := T k) (T_scott k) (by kernel_rfl) (by kernel_rfl) _ _).trans (by kernel_rfl)
def bind_Read_in1 (k : Nat) (call : Caller) (a0 a1 a2 : Value) (h : Heap) : Res Value :=
 (loadR Prog 75 a0 h).bind fun v1 h2 =>
 (loadR Prog 3 a1 h2).bind fun v3 h4 =>
 (call F.bind_Take [v1, v3] h4).bind fun v5 h6 =>
 (storeR Prog 90 a2 v5 h6).bind fun _v7 h8 =>
 .ok (.tuple #[]) h8
theorem bind_Read_in1_R (k : Nat) (a0 a1 a2 : Value) (h : Heap) : R (T k) F.bind_Read_in1 [a0, a1, a2] h = nrm .no h (bind_Read_in1 k (R (T k)) a0 a1 a2 h) :=
 (R_body (t := T k) (T_scott k) (by kernel_rfl) (by kernel_rfl) _ _).trans (by kernel_rfl)
def bind_Table_Run_in1_j1 (k : Nat) (call : Caller) (a0 a3 a8 a10 : Value) (h : Heap) : Res Value :=
 kSeq (pieceK (C k) call F.bind_Table_Run_in1 [1, 1, 1, 1]) (kDone Prog (resOf Prog F.bind_Table_Run_in1)) .normal [(0, a0), (3, a3), (8, a8), (10, a10)] h
def bind_Table_Run_in1_j2 (k : Nat) (call : Caller) (a0 a3 a6 a8 a10 a13 a14 a48 : Value) (h : Heap) : Res Value :=
 kSeq (pieceK (C k) call F.bind_Table_Run_in1 [1, 1, 1, 1]) (kDone Prog (resOf Prog F.bind_Table_Run_in1)) .normal [(0, a0), (3, a3), (6, a6), (8, a8), (10, a10), (13, a13), (14, a14), (48, a48)] h
def bind_Table_Run_in1_j3 (k : Nat) (call : Caller) (a0 a3 a4 a5 a6 a8 a9 a10 a11 a36 : Value) (h : Heap) : Res Value :=
 kSeq (pieceK (C k) call F.bind_Table_Run_in1 [1, 1, 1, 1]) (kDone Prog (resOf Prog F.bind_Table_Run_in1)) .normal [(0, a0), (3, a3), (4, a4), (5, a5), (6, a6), (8, a8), (9, a9), (10, a10), (11, a11), (36, a36)] h
def bind_Table_Run_in1 (k : Nat) (call : Caller) (a0 a1 a2 a3 a4 a5 a6 : Value) (h : Heap) : Res Value :=
 (boxR a1 h).bind fun v1 h2 =>
 (loadR Prog 25 a2 h2).bind fun v3 h4 =>
 (call F.line_Line_At [v3, a0] h4).bind fun v5 h6 =>
 (extractR v5 0 h6).bind fun v7 h8 =>
 (extractR v5 1 h8).bind fun v9 h10 =>
 (allocR Prog 57 h10).bind fun v11 h12 =>
 (storeR Prog 57 v11 v7 h12).bind fun _v13 h14 =>
 (loadR Prog 25 a2 h14).bind fun v15 h16 =>
 (loadR Prog 3 a3 h16).bind fun v17 h18 =>
 (call F.line_Line_At [v15, v17] h18).bind fun v19 h20 =>
 (extractR v19 0 h20).bind fun v21 h22 =>
 (extractR v19 1 h22).bind fun v23 h24 =>
 (allocR Prog 57 h24).bind fun v25 h26 =>
 (storeR Prog 57 v25 v21 h26).bind fun _v27 h28 =>
 (fieldAddrR Prog 130 v1 2 h28).bind fun v29 h30 =>
 (loadR Prog 3 v29 h30).bind fun v31 h32 =>
 (binR Prog .neq 3 v31 (.int .i64 65535) h32).bind fun v33 h34 =>
 ((bif wantVal v33 true then Res.ok v9 h34 else Res.ok undef h34)).bind fun v35 h36 =>
 (condV (some v33) (Res.ok v35 h36) (Res.ok (.bool false) h36)).bind fun v37 h38 =>
 ((bif wantVal v37 true then Res.ok v23 h38 else Res.ok undef h38)).bind fun v39 h40 =>
 (condV (some v37) (Res.ok v39 h40) (Res.ok (.bool false) h40)).bind fun v41 h42 =>
 condV (some v41) (
 (loadR Prog 90 a4 h42).bind fun v43 h44 =>
 (fieldAddrR Prog 130 v1 2 h44).bind fun v45 h46 =>
 (loadR Prog 3 v45 h46).bind fun v47 h48 =>
 (loadR Prog 57 v25 h48).bind fun v49 h50 =>
 (loadR Prog 57 v11 h50).bind fun v51 h52 =>
 (loadR Prog 64 a5 h52).bind fun v53 h54 =>
 (call F.bind_Table_points [v43, v47, v49, v51, v53] h54).bind fun v55 h56 =>
 (extractR v55 0 h56).bind fun v57 h58 =>
 (extractR v55 1 h58).bind fun v59 h60 =>
 (extractR v55 2 h60).bind fun v61 h62 =>
 (allocR Prog 71 h62).bind fun v63 h64 =>
 (allocR Prog 71 h64).bind fun v65 h66 =>
 (storeR Prog 71 v63 v57 h66).bind fun _v67 h68 =>
 (storeR Prog 71 v65 v59 h68).bind fun _v69 h70 =>
 condV (some v61) (
 (loadR Prog 94 a6 h70).bind fun v71 h72 =>
 (fieldAddrR Prog 71 v63 0 h72).bind fun v73 h74 =>
 (loadR Prog 3 v73 h74).bind fun v75 h76 =>
 (fieldAddrR Prog 71 v65 0 h76).bind fun v77 h78 =>
 (loadR Prog 3 v77 h78).bind fun v79 h80 =>
 (binR Prog .sub 3 v75 v79 h80).bind fun v81 h82 =>
 (fieldAddrR Prog 71 v63 1 h82).bind fun v83 h84 =>
 (loadR Prog 3 v83 h84).bind fun v85 h86 =>
 (fieldAddrR Prog 71 v65 1 h86).bind fun v87 h88 =>
 (loadR Prog 3 v87 h88).bind fun v89 h90 =>
 (binR Prog .sub 3 v85 v89 h90).bind fun v91 h92 =>
 (call F.place_Places_Shift [v71, a0, v81, v91] h92).bind fun v93 h94 =>
 bind_Table_Run_in1_j1 k call a0 a3 v1 v9 h94)
 (
 bind_Table_Run_in1_j2 k call a0 a3 a6 v1 v9 v63 v65 v61 h70))
 (
 bind_Table_Run_in1_j3 k call a0 a3 a4 a5 a6 v1 v11 v9 v25 v41 h42)
theorem bind_Table_Run_in1_R (k : Nat) (a0 a1 a2 a3 a4 a5 a6 : Value) (h : Heap) : R (T k) F.bind_Table_Run_in1 [a0, a1, a2, a3, a4, a5, a6] h = nrm .no h (bind_Table_Run_in1 k (R (T k)) a0 a1 a2 a3 a4 a5 a6 h) :=
 (R_body (t := T k) (T_scott k) (by kernel_rfl) (by kernel_rfl) _ _).trans (by kernel_rfl)
theorem bind_Table_Run_in1_j1_eq (k : Nat) (call : Caller) (a0 a3 a8 a10 : Value) (h : Heap) : bind_Table_Run_in1_j1 k call a0 a3 a8 a10 h =
 (fieldAddrR Prog 130 a8 1 h).bind fun v95 h96 =>
 (loadR Prog 3 v95 h96).bind fun v97 h98 =>
 (binR Prog .and 3 v97 (.int .i64 32768) h98).bind fun v99 h100 =>
 (binR Prog .neq 3 v99 (.int .i64 0) h100).bind fun v101 h102 =>
 ((bif wantVal v101 true then Res.ok a10 h102 else Res.ok undef h102)).bind fun v103 h104 =>
 (condV (some v101) (Res.ok v103 h104) (Res.ok (.bool false) h104)).bind fun v105 h106 =>
 condV (some v105) (
 (storeR Prog 3 a3 a0 h106).bind fun _v107 h108 =>
 .ok (.tuple #[]) h108)
 (
 .ok (.tuple #[]) h106) := by kernel_rfl
theorem bind_Table_Run_in1_j2_eq (k : Nat) (call : Caller) (a0 a3 a6 a8 a10 a13 a14 a48 : Value) (h : Heap) : bind_Table_Run_in1_j2 k call a0 a3 a6 a8 a10 a13 a14 a48 h =
 (fieldAddrR Prog 130 a8 1 h).bind fun v109 h110 =>
 (loadR Prog 3 v109 h110).bind fun v111 h112 =>
 (binR Prog .and 3 v111 (.int .i64 32768) h112).bind fun v113 h114 =>
 (binR Prog .neq 3 v113 (.int .i64 0) h114).bind fun v115 h116 =>
 ((bif wantVal v115 true then Res.ok a10 h116 else Res.ok undef h116)).bind fun v117 h118 =>
 (condV (some v115) (Res.ok v117 h118) (Res.ok (.bool false) h118)).bind fun v119 h120 =>
 condV (some v119) (
 (storeR Prog 3 a3 a0 h120).bind fun _v121 h122 =>
 .ok (.tuple #[]) h122)
 (
 .ok (.tuple #[]) h120) := by kernel_rfl
theorem bind_Table_Run_in1_j3_eq (k : Nat) (call : Caller) (a0 a3 a4 a5 a6 a8 a9 a10 a11 a36 : Value) (h : Heap) : bind_Table_Run_in1_j3 k call a0 a3 a4 a5 a6 a8 a9 a10 a11 a36 h =
 (fieldAddrR Prog 130 a8 1 h).bind fun v123 h124 =>
 (loadR Prog 3 v123 h124).bind fun v125 h126 =>
 (binR Prog .and 3 v125 (.int .i64 32768) h126).bind fun v127 h128 =>
 (binR Prog .neq 3 v127 (.int .i64 0) h128).bind fun v129 h130 =>
 ((bif wantVal v129 true then Res.ok a10 h130 else Res.ok undef h130)).bind fun v131 h132 =>
 (condV (some v129) (Res.ok v131 h132) (Res.ok (.bool false) h132)).bind fun v133 h134 =>
 condV (some v133) (
 (storeR Prog 3 a3 a0 h134).bind fun _v135 h136 =>
 .ok (.tuple #[]) h136)
 (
 .ok (.tuple #[]) h134) := by kernel_rfl
def bind_Table_points_j1 (k : Nat) (call : Caller) (a10 a11 a12 : Value) (h : Heap) : Res Value :=
 kSeq (pieceK (C k) call F.bind_Table_points [1, 1, 1]) (kDone Prog (resOf Prog F.bind_Table_points)) .normal [(10, a10), (11, a11), (12, a12)] h
def bind_Table_points_j2 (k : Nat) (call : Caller) (a1 a4 a8 a10 a11 a12 a13 a35 : Value) (h : Heap) : Res Value :=
 kSeq (pieceK (C k) call F.bind_Table_points [1, 1, 1]) (kDone Prog (resOf Prog F.bind_Table_points)) .normal [(1, a1), (4, a4), (8, a8), (10, a10), (11, a11), (12, a12), (13, a13), (35, a35)] h
def bind_Table_points_j3 (k : Nat) (call : Caller) (a1 a10 a11 a12 a13 a48 : Value) (h : Heap) : Res Value :=
 kSeq (pieceK (C k) call F.bind_Table_points [1, 1, 1]) (kDone Prog (resOf Prog F.bind_Table_points)) .normal [(1, a1), (10, a10), (11, a11), (12, a12), (13, a13), (48, a48)] h
def bind_Table_points (k : Nat) (call : Caller) (a0 a1 a2 a3 a4 : Value) (h : Heap) : Res Value :=
 (boxR a2 h).bind fun v1 h2 =>
 (boxR a3 h2).bind fun v3 h4 =>
 (allocR Prog 71 h4).bind fun v5 h6 =>
 (allocR Prog 71 h6).bind fun v7 h8 =>
 (nilR a0 h8).bind fun v9 h10 =>
 (fieldAddrR Prog 199 v9 2 h10).bind fun v11 h12 =>
 (loadR Prog 75 v11 h12).bind fun v13 h14 =>
 (allocR Prog 75 h14).bind fun v15 h16 =>
 (storeR Prog 75 v15 v13 h16).bind fun _v17 h18 =>
 (nilR a0 h18).bind fun v19 h20 =>
 (fieldAddrR Prog 199 v19 1 h20).bind fun v21 h22 =>
 (loadR Prog 3 v21 h22).bind fun v23 h24 =>
 (binR Prog .eql 3 v23 (.int .i64 1) h24).bind fun v25 h26 =>
 condV (some v25) (
 (fieldAddrR Prog 57 v1 0 h26).bindN fun v27 h28 =>
 (loadR Prog 3 v27 h28).bindN fun v29 h30 =>
 (loadR Prog 75 v15 h30).bindN fun v31 h32 =>
 (binR Prog .mul 3 (.int .i64 4) a1 h32).bindN fun v33 h34 =>
 (call F.view_View_U16 [v31, v33] h34).bindT (fun p37 h38 => .panic p37 h38) fun v35 h36 =>
 (call F.ankr_Table_Get [a4, v29, v35] h36).bindT (fun p41 h42 => chkR ((okVal (loadR Prog 3 v27 h36) v29 && true) && true) (.panic p41 h42)) fun v39 h40 =>
 (extractR v39 0 h40).bindN fun v43 h44 =>
 (extractR v39 1 h44).bindN fun v45 h46 =>
 (storeR Prog 71 v5 v43 h46).bindN fun _v47 h48 =>
 chkR ((okVal (loadR Prog 3 v27 h36) v29 && true) && true) (
 condV (some v45) (
 (fieldAddrR Prog 57 v3 0 h48).bindN fun v49 h50 =>
 (loadR Prog 3 v49 h50).bindN fun v51 h52 =>
 (loadR Prog 75 v15 h52).bindN fun v53 h54 =>
 (binR Prog .mul 3 (.int .i64 4) a1 h54).bindN fun v55 h56 =>
 (binR Prog .add 3 v55 (.int .i64 2) h56).bindN fun v57 h58 =>
 (call F.view_View_U16 [v53, v57] h58).bindT (fun p61 h62 => .panic p61 h62) fun v59 h60 =>
 (call F.ankr_Table_Get [a4, v51, v59] h60).bindT (fun p65 h66 => chkR ((okVal (loadR Prog 3 v49 h60) v51 && true) && true) (.panic p65 h66)) fun v63 h64 =>
 (extractR v63 0 h64).bindN fun v67 h68 =>
 (extractR v63 1 h68).bindN fun v69 h70 =>
 (storeR Prog 71 v7 v67 h70).bindN fun _v71 h72 =>
 chkR ((okVal (loadR Prog 3 v49 h60) v51 && true) && true) (
 bind_Table_points_j1 k call v5 v7 v69 h72))
 (
 bind_Table_points_j2 k call a1 a4 v3 v5 v7 v45 v15 v45 h48)))
 (
 (binR Prog .eql 3 v23 (.int .i64 2) h26).bind fun v73 h74 =>
 condV (some v73) (
 (loadR Prog 75 v15 h74).bindN fun v75 h76 =>
 (binR Prog .mul 3 (.int .i64 8) a1 h76).bindN fun v77 h78 =>
 (call F.view_View_I16 [v75, v77] h78).bindT (fun p81 h82 => (loadR Prog 75 v15 h78).bindN fun v83 h84 => (binR Prog .mul 3 (.int .i64 8) a1 h84).bindN fun v85 h86 => (binR Prog .add 3 v85 (.int .i64 2) h86).bindN fun v87 h88 => chkR ((okVal (loadR Prog 75 v15 h74) v83 && true) && true) (.panic p81 h82)) fun v79 h80 =>
 (loadR Prog 75 v15 h80).bindN fun v89 h90 =>
 (binR Prog .mul 3 (.int .i64 8) a1 h90).bindN fun v91 h92 =>
 (binR Prog .add 3 v91 (.int .i64 2) h92).bindN fun v93 h94 =>
 (call F.view_View_I16 [v89, v93] h94).bindT (fun p97 h98 => chkR ((okVal (loadR Prog 75 v15 h74) v89 && true) && true) (.panic p97 h98)) fun v95 h96 =>
 (buildR Prog 71 [(0, v79), (1, v95)] h96).bindN fun v99 h100 =>
 (storeR Prog 71 v5 v99 h100).bindN fun _v101 h102 =>
 chkR ((okVal (loadR Prog 75 v15 h74) v89 && true) && true) (
 (loadR Prog 75 v15 h102).bindN fun v103 h104 =>
 (binR Prog .mul 3 (.int .i64 8) a1 h104).bindN fun v105 h106 =>
 (binR Prog .add 3 v105 (.int .i64 4) h106).bindN fun v107 h108 =>
 (call F.view_View_I16 [v103, v107] h108).bindT (fun p111 h112 => (loadR Prog 75 v15 h108).bindN fun v113 h114 => (binR Prog .mul 3 (.int .i64 8) a1 h114).bindN fun v115 h116 => (binR Prog .add 3 v115 (.int .i64 6) h116).bindN fun v117 h118 => chkR ((okVal (loadR Prog 75 v15 h102) v113 && true) && true) (.panic p111 h112)) fun v109 h110 =>
 (loadR Prog 75 v15 h110).bindN fun v119 h120 =>
 (binR Prog .mul 3 (.int .i64 8) a1 h120).bindN fun v121 h122 =>
 (binR Prog .add 3 v121 (.int .i64 6) h122).bindN fun v123 h124 =>
 (call F.view_View_I16 [v119, v123] h124).bindT (fun p127 h128 => chkR ((okVal (loadR Prog 75 v15 h102) v119 && true) && true) (.panic p127 h128)) fun v125 h126 =>
 (buildR Prog 71 [(0, v109), (1, v125)] h126).bindN fun v129 h130 =>
 (storeR Prog 71 v7 v129 h130).bindN fun _v131 h132 =>
 chkR ((okVal (loadR Prog 75 v15 h102) v119 && true) && true) (
 bind_Table_points_j1 k call v5 v7 (.bool true) h132)))
 (
 bind_Table_points_j3 k call a1 v5 v7 (.bool false) v15 v73 h74))
theorem bind_Table_points_R (k : Nat) (a0 a1 a2 a3 a4 : Value) (h : Heap) : R (T k) F.bind_Table_points [a0, a1, a2, a3, a4] h = nrm .gc h (bind_Table_points k (R (T k)) a0 a1 a2 a3 a4 h) :=
 (R_body (t := T k) (T_scott k) (by kernel_rfl) (by kernel_rfl) _ _).trans (by kernel_rfl)
theorem bind_Table_points_j1_eq (k : Nat) (call : Caller) (a10 a11 a12 : Value) (h : Heap) : bind_Table_points_j1 k call a10 a11 a12 h =
 (loadR Prog 71 a10 h).bindN fun v133 h134 =>
 (loadR Prog 71 a11 h134).bindN fun v135 h136 =>
 (storeR Prog 71 a10 v133 h136).bindN fun _v137 h138 =>
 (storeR Prog 71 a11 v135 h138).bindN fun _v139 h140 =>
 chkR ((okVal (loadR Prog 71 a11 h138) v135 && true) && true) (
 (loadR Prog 71 a10 h140).bind fun v141 h142 =>
 (loadR Prog 71 a11 h142).bind fun v143 h144 =>
 .ok (.tuple #[v141, v143, a12]) h144) := by kernel_rfl
theorem bind_Table_points_j2_eq (k : Nat) (call : Caller) (a1 a4 a8 a10 a11 a12 a13 a35 : Value) (h : Heap) : bind_Table_points_j2 k call a1 a4 a8 a10 a11 a12 a13 a35 h =
 (loadR Prog 71 a10 h).bindN fun v145 h146 =>
 (loadR Prog 71 a11 h146).bindN fun v147 h148 =>
 (storeR Prog 71 a10 v145 h148).bindN fun _v149 h150 =>
 (storeR Prog 71 a11 v147 h150).bindN fun _v151 h152 =>
 chkR ((okVal (loadR Prog 71 a11 h150) v147 && true) && true) (
 (loadR Prog 71 a10 h152).bind fun v153 h154 =>
 (loadR Prog 71 a11 h154).bind fun v155 h156 =>
 .ok (.tuple #[v153, v155, a12]) h156) := by kernel_rfl
theorem bind_Table_points_j3_eq (k : Nat) (call : Caller) (a1 a10 a11 a12 a13 a48 : Value) (h : Heap) : bind_Table_points_j3 k call a1 a10 a11 a12 a13 a48 h =
 (loadR Prog 71 a10 h).bindN fun v157 h158 =>
 (loadR Prog 71 a11 h158).bindN fun v159 h160 =>
 (storeR Prog 71 a10 v157 h160).bindN fun _v161 h162 =>
 (storeR Prog 71 a11 v159 h162).bindN fun _v163 h164 =>
 chkR ((okVal (loadR Prog 71 a11 h162) v159 && true) && true) (
 (loadR Prog 71 a10 h164).bind fun v165 h166 =>
 (loadR Prog 71 a11 h166).bind fun v167 h168 =>
 .ok (.tuple #[v165, v167, a12]) h168) := by kernel_rfl
end
end Go.Sw
end
section
namespace Go.Sw
open Go.RowKit
abbrev bindC (t : BTab) : List Value := [machV t.m, .int .i64 t.kind, lv encB t.acts]
abbrev bindV (t : BTab) : Value := boxV (bindC t).toArray
theorem Flat.bind (t : BTab) : Flat (bindV t) := .boxV (.cons (Flat.mach t.m) (.cons (.int _ _) (.cons (Flat.B _) .nil)))
theorem shr30 (P : Program) (t : TypeId) (H : Heap) {a : Int} (h0 : 0 ≤ a) (h1 : a < 4294967296) : binR P .shr t (.int .i64 a) (.int .u64 30) H = .ok (.int .i64 (a / 1073741824)) H := by
 unfold binR;simp [binV, shiftV, IntKind.signed, IntKind.bits];exact Int.fdiv_eq_ediv_of_nonneg _ (by decide)
theorem bindTake_l1 (k : Nat) {vs : List Int} (hb : Byt vs) (hl : vs.length < 2 ^ 31) {p : Nat} {kd : Int} (hkd : kd = 1 ∨ kd = 2) {es : List En} (hes : ∀ e, e ∈ es → 0 ≤ e.a ∧ e.a < 65536) (hel : es.length < 2 ^ 40) {m c : Value} {H : Heap} (hp : H.get p = some ⟨[m, c, lv encB vs], 1, false⟩) :
  (∃ z H', loopN (bind_Take_l1 k (R (T k))) loopFuel [(5, ptrV p), (7, .int .i64 (4 * kd)), (51, lv encEn es), (52, .int .i64 es.length), (53, .int .i64 0)] H = .ok (.exit 0, [(5, ptrV p), (7, .int .i64 (4 * kd)), (51, lv encEn es), (52, .int .i64 es.length), (53, z), (54, .bool false)]) H' ∧ Ext H H' ∧ es.all (entAct kd vs) = true) ∨
  (∃ H', loopN (bind_Take_l1 k (R (T k))) loopFuel [(5, ptrV p), (7, .int .i64 (4 * kd)), (51, lv encEn es), (52, .int .i64 es.length), (53, .int .i64 0)] H = .panic failV H' ∧ Ext H H' ∧ es.all (entAct kd vs) = false) := by
 rcases loop_upP (body := bind_Take_l1 k (R (T k))) es.length
  (fun j e' H' => e' = [(5, ptrV p), (7, .int .i64 (4 * kd)), (51, lv encEn es), (52, .int .i64 es.length), (53, .int .i64 j)] ∧ Ext H H' ∧ (es.take j).all (entAct kd vs) = true)
  (fun xx e' H' => xx = .exit 0 ∧ (∃ z, e' = [(5, ptrV p), (7, .int .i64 (4 * kd)), (51, lv encEn es), (52, .int .i64 es.length), (53, z), (54, .bool false)]) ∧ Ext H H' ∧ es.all (entAct kd vs) = true)
  (fun v H' => v = failV ∧ Ext H H' ∧ es.all (entAct kd vs) = false)
  (fun j e' H' hj ⟨he', hx, hall⟩ => by
   subst he';have hjl : (j : Int) < es.length := by omega
   obtain ⟨en, hen⟩ : ∃ en, es[j]? = some en := ⟨_, List.getElem?_eq_getElem hj⟩
   have hmem := List.mem_of_getElem? hen;have i1 := fun H' => ixS_lvN encEn_len es .i64 j en hen H';have hx2 : Ext H (H'.push ⟨encEn en, 1, false⟩) := hx.push _;have hea := hes en hmem;have hp2 := hx2.get hp;have hq : (H'.push ⟨encEn en, 1, false⟩).get H'.n = some ⟨encEn en, 1, false⟩ := get_push_eq _ _ _ rfl;have hne : ¬ p = H'.n := by have := Heap.get_lt (hx.get hp); omega
   have hp1 := hx.get hp;by_cases c1 : en.a = 65535
   ·have c1' : (en.a != 65535) = false := by rw [c1]; rfl
    refine .inl ⟨_, _, ?_, rfl, hx2, ?_⟩
    ·rw [bind_Take_l1_eq];simp -implicitDefEqProofs (disch := omega) [hjl, i1, c1', bind_Take_j2_eq]
    ·rw [take_snoc hen, List.all_append, hall];simp [entAct, c1]
   ·have c1' : (en.a != 65535) = true := by rw [bne_iff_ne]; exact c1
    have hcut := fun H' => Cut_lv k vs (4 * kd * en.a) (4 * kd) (by omega) H';have hE : entAct kd vs en = (pieceS vs (4 * kd * en.a) (4 * kd)).isSome := by unfold entAct; rw [decide_eq_false c1]; rfl
    have w1 : IntKind.i64.wrap (4 * kd * en.a) = 4 * kd * en.a := by
     rcases hkd with rfl | rfl <;> exact wrap_i64 (by omega) (by omega)
    cases hpc : pieceS vs (4 * kd * en.a) (4 * kd) with
    | none =>
     rw [hpc] at hcut hE;refine .inr (.inr ⟨failV, _, ?_, rfl, hx2, ?_⟩)
     ·rw [bind_Take_l1_eq];simp -implicitDefEqProofs (disch := omega) [hjl, i1, c1', hne, hp1, w1, hcut, orF]
     ·rw [Bool.eq_false_iff];intro h;have := List.all_eq_true.1 h en hmem;rw [hE] at this;cases this
    | some r =>
     rw [hpc] at hcut hE;refine .inl ⟨_, _, ?_, rfl, hx2, ?_⟩
     ·rw [bind_Take_l1_eq];simp -implicitDefEqProofs (disch := omega) [hjl, i1, c1', hne, hp1, w1, hcut, orF, bind_Take_j1_eq]
     ·rw [take_snoc hen, List.all_append, hall];simp [hE])
  (fun e' H' ⟨he', hx, hall⟩ => by
   subst he';rw [List.take_length] at hall;refine .inl ⟨.exit 0, _, H', ?_, by simp, rfl, ⟨.int .i64 es.length, rfl⟩, hx, hall⟩;rw [bind_Take_l1_eq];simp -implicitDefEqProofs) loopFuel 0 [(5, ptrV p), (7, .int .i64 (4 * kd)), (51, lv encEn es), (52, .int .i64 es.length), (53, .int .i64 0)] H (Nat.zero_le _) (by unfold loopFuel; omega) ⟨rfl, Ext.refl _, rfl⟩ with ⟨xx, e', H1, hr, rfl, ⟨z, rfl⟩, hx, hE⟩ | ⟨v, H1, hr, rfl, hx, hE⟩
 ·exact .inl ⟨z, H1, hr, hx, hE⟩
 ·exact .inr ⟨H1, hr, hx, hE⟩
theorem bindTake_run (k : Nat) (hk : k < 1000000) (b : List Int) (hb : Byt b) (g : Int) (hg : 1 ≤ g ∧ g ≤ 65535) (hl : b.length < 2 ^ 31) (H : Heap) : R (T k) F.bind_Take [vwB b, .int .i64 g] H = orF (bindS b g) bindV H := by
 rw [bind_Take_R];have hx : Ext H (H.push ⟨[lv encB b], 1, false⟩) := (Ext.refl H).push _;have hvb : veq (vwB b) (vwB b) = true := veq_agg (l := [lv encB b]) fun u hu => by simp at hu; subst hu; exact veq_B b
 refine fz_orF ?_ fun _ _ => (Flat.bind _).alive;unfold bindS;simp -implicitDefEqProofs (disch := omega) [bind_Take];refine Cp.callT (stateTake_run k (Sl.lv _ 1 b) hb g 1 hg.1 hg.2 (.inr (.inl rfl)) hl) (fun _ => ⟨_, by simp -implicitDefEqProofs (disch := omega) [hvb], hx⟩) fun m hm => ?_;have hok := machS_ok hb hg.1 hg.2 (by omega) hm;simp -implicitDefEqProofs (disch := omega) [hvb];have hx1 := hx.push ⟨[machV m, .int .i64 0, .slice none 0 0], 1, false⟩;refine Cp.callT (U32_run k (Sl.lv _ 1 b) hb 16 (by omega)) (fun _ => ⟨_, by simp -implicitDefEqProofs (disch := omega) [hvb], hx1⟩) fun w hw => ?_;have hwb := uS_four hb hw;have sh := fun H => shr30 Prog 3 H hwb.1 hwb.2;have an := fun H => and24 Prog 3 H hwb.1 hwb.2;have hx2 := fun kd => hx.push ⟨[machV m, .int .i64 kd, .slice none 0 0], 1, false⟩;generalize hkd : w / 1073741824 = kd at sh ⊢;by_cases hc : kd = 1 ∨ kd = 2;rotate_left
 ·rw [if_neg hc];have c1 : (kd != 1) = true := by rw [bne_iff_ne]; omega
  have c2 : (kd != 2) = true := by rw [bne_iff_ne]; omega
  simp -implicitDefEqProofs (disch := omega) [sh, c1, c2];refine .ok (hx2 kd) ?_;exact ⟨_, fz_box (by omega) (get_push_eq _ _ _ (by simp)) (mapF_cons (v := machV m) (u := machV m) (L1 := []) rfl (mapF_cons (v := .int .i64 kd) (u := .int .i64 kd) (L1 := []) rfl (mapF_one (v := .slice none 0 0) (u := lv encB []) (L := []) rfl)))⟩
 ·rw [if_pos hc];have hrest := fun H' => Rest_lv k b (w % 16777216) (by omega) (by omega) H';have d : (kd = 1 ∧ (kd != 1) = false) ∨ (kd = 2 ∧ (kd != 1) = true ∧ (kd != 2) = false) := by
   rcases hc with rfl | rfl
   ·exact .inl ⟨rfl, rfl⟩
   ·exact .inr ⟨rfl, rfl, rfl⟩
  cases hr : restS b (w % 16777216) with
  | none =>
   rw [hr] at hrest;rcases d with ⟨rfl, d1⟩ | ⟨rfl, d1, d2⟩
   ·simp -implicitDefEqProofs (disch := omega) [sh, an, hvb, hrest, orF];exact ⟨_, rfl, hx2 1⟩
   ·simp -implicitDefEqProofs (disch := omega) [sh, an, hvb, hrest, orF];exact ⟨_, rfl, hx2 2⟩
  | some sb =>
   rw [hr] at hrest;have lsb := restS_len hr;have hent := fun H' => Entries_run k hk m hok.elen H';have hes : ∀ e, e ∈ m.ents → 0 ≤ e.a ∧ e.a < 65536 := fun e he => by have := hok.ent e he; omega
   have hx3 : Ext H ((H.push ⟨[lv encB b], 1, false⟩).push ⟨[machV m, .int .i64 kd, lv encB sb], 1, false⟩) := hx.push _;have hpg : ((H.push ⟨[lv encB b], 1, false⟩).push ⟨[machV m, .int .i64 kd, lv encB sb], 1, false⟩).get (H.n + 1) = some ⟨[machV m, .int .i64 kd, lv encB sb], 1, false⟩ := get_push_eq _ _ _ (by simp);have e2 := bindTake_l1 k (hb.rest hr) (by omega) hc hes (by have := hok.elen; omega) hpg;simp only [Option.bind_some]
   have fin : ∀ {R0 : Res Value}, ((∃ H2, R0 = .ok (ptrV (H.n + 1)) H2 ∧ Ext _ H2 ∧ m.ents.all (entAct kd sb) = true) ∨ (∃ H2, R0 = .panic failV H2 ∧ Ext ((H.push ⟨[lv encB b], 1, false⟩).push ⟨[machV m, .int .i64 kd, lv encB sb], 1, false⟩) H2 ∧ m.ents.all (entAct kd sb) = false)) →
     Cp failV (Ext H) R0 (if ∀ x, x ∈ m.ents → entAct kd sb x = true then some ⟨m, kd, sb⟩ else none) fun b v H' => ∃ L, fzV H.n H' fzDepth v = some (bindV b, L) := fun {R0} h => by
    rcases h with ⟨H2, rfl, hx4, hall⟩ | ⟨H2, rfl, hx4, hall⟩
    ·rw [if_pos (List.all_eq_true.1 hall)];refine .ok (hx3.trans hx4) ?_;exact ⟨_, fz_box (by omega) (hx4.get hpg) (mapF_cons (v := machV m) (u := machV m) (L1 := []) rfl (mapF_cons (v := .int .i64 kd) (u := .int .i64 kd) (L1 := []) rfl (mapF_one (v := lv encB sb) (u := lv encB sb) (L := []) rfl)))⟩
    ·rw [if_neg (fun hc => by rw [List.all_eq_true.2 hc] at hall; cases hall)];exact ⟨H2, rfl, hx3.trans hx4⟩
   refine fin ?_
   rcases d with ⟨rfl, d1⟩ | ⟨rfl, d1, d2⟩ <;>
    rcases e2 with ⟨z, H2, e2, hx4, hall⟩ | ⟨H2, e2, hx4, hall⟩
   ·refine .inl ⟨H2, ?_, hx4, hall⟩;simp at e2;simp -implicitDefEqProofs (disch := omega) [sh, an, hvb, hrest, orF, hent, e2, bind_Take_l1k_x0]
   ·refine .inr ⟨H2, ?_, hx4, hall⟩;simp at e2;simp -implicitDefEqProofs (disch := omega) [sh, an, hvb, hrest, orF, hent, e2]
   ·refine .inl ⟨H2, ?_, hx4, hall⟩;simp at e2;simp -implicitDefEqProofs (disch := omega) [sh, an, hvb, hrest, orF, hent, e2, bind_Take_l1k_x0]
   ·refine .inr ⟨H2, ?_, hx4, hall⟩;simp at e2;simp -implicitDefEqProofs (disch := omega) [sh, an, hvb, hrest, orF, hent, e2]
end Go.Sw
end
section
namespace Go.Sw
open Go.RowKit
def bindP (o : Option BTab) : Value := match o with | some t => bindV t | none => .pointer none
theorem bindP_flat (o : Option BTab) : Flat (bindP o) := by
 cases o with
 | none => exact .nilPtr
 | some t => exact Flat.bind t
theorem bind_in1_run (k : Nat) {H : Heap} (b : List Int) (hb : Byt b) (g : Int) (hg : 1 ≤ g ∧ g ≤ 65535) (hl : b.length < 2 ^ 31) (p2 p3 p4 : Nat) (old : Value)
  (h2 : H.get p2 = some ⟨[lv encB b], 1, false⟩) (h3 : H.get p3 = some ⟨[.int .i64 g], 1, false⟩) (h4 : H.get p4 = some ⟨[old], 1, false⟩) (ht : ∀ H', R (T k) F.bind_Take [vwB b, .int .i64 g] H' = orF (bindS b g) bindV H') :
  R (T k) F.bind_Read_in1 [ptrV p2, ptrV p3, ptrV p4] H = match bindS b g with
   | some t => .ok (.tuple #[]) (H.set p4 (some ⟨[bindV t], 1, false⟩))
   | none => .panic failV H := by
 rw [bind_Read_in1_R];have ht := ht H;cases h : bindS b g with
 | none =>
  rw [h] at ht;refine nrm_throw ⟨H, ?_, Ext.refl H⟩ Flat.fail.alive;simp -implicitDefEqProofs (disch := omega) [bind_Read_in1, h2, h3, ht]
 | some x =>
  rw [h] at ht;simp -implicitDefEqProofs (disch := omega) [bind_Read_in1, h2, h3, h4, ht]
def bindO (b : List Int) (g : Int) : Option BTab := if 1 ≤ g ∧ g ≤ 65535 then bindS b g else none
def bindN (b : List Int) (g : Int) : Int := if 1 ≤ g ∧ g ≤ 65535 then (if (bindS b g).isSome then 0 else 2) else 1
theorem bindRead_run (k : Nat) {H : Heap} {v : Value} {b : List Int} (hv : Sl H 1 v encB b) (hb : Byt b) (g : Int) (hl : b.length ≤ 2 ^ 30) (ht : (1 ≤ g ∧ g ≤ 65535) → ∀ H', R (T k) F.bind_Take [vwB b, .int .i64 g] H' = orF (bindS b g) bindV H') :
  R (T k) F.bind_Read [v, .int .i64 g] H = .ok (.tuple #[bindP (bindO b g), .int .i64 (bindN b g)]) H := by
 rw [bind_Read_R];have hx2 := (Ext.refl H).push ⟨[.int .i64 g], 1, false⟩;have al : ∀ o n, Alive H (.tuple #[bindP o, .int .i64 n]) := fun o n => (Flat.tupleL (l := [bindP o, .int .i64 n]) (.cons (bindP_flat o) (.cons (.int _ _) .nil))).alive;have fz : ∀ H' o n, fzV H.n H' fzDepth (.tuple #[bindP o, .int .i64 n]) = some (.tuple #[bindP o, .int .i64 n], []) := fun H' o n => by
  cases o <;> rfl
 by_cases hgg : 1 ≤ g ∧ g ≤ 65535
 ·have c1 : ¬ g < 1 := by omega
  have c2 : ¬ g > 65535 := by omega
  have hx3 := hx2.push ⟨[.pointer none], 1, false⟩;have o3 := Of_run k (hv.up hx3);have by3 := Bytes_run k (hv.up hx3) hl;have o4 := fun H => Of_lv k b H;have hin := bind_in1_run k (H := ((H.push ⟨[.int .i64 g], 1, false⟩).push ⟨[.pointer none], 1, false⟩).push ⟨[lv encB b], 1, false⟩) b hb g hgg (by omega) (H.n + 2) H.n (H.n + 1) (.pointer none) (by simp) (by simp) (by simp) (ht hgg);cases hlk : bindS b g with
  | none =>
   rw [hlk] at hin;have ht := Try_no k F.bind_Read_in1 #[ptrV (H.n + 2), ptrV H.n, ptrV (H.n + 1)] hin;refine nrm_fz (H' := ((H.push ⟨[.int .i64 g], 1, false⟩).push ⟨[.pointer none], 1, false⟩).push ⟨[lv encB b], 1, false⟩) (v := .tuple #[bindP none, .int .i64 2]) ?_ (by unfold bindO bindN; rw [if_pos hgg, if_pos hgg, hlk]; exact fz _ _ _) (hx3.push _) (al _ _);simp -implicitDefEqProofs (disch := omega) [bind_Read, c1, c2, o3, by3, o4, ht, bindP]
  | some x =>
   rw [hlk] at hin;have ht := Try_ok k F.bind_Read_in1 #[ptrV (H.n + 2), ptrV H.n, ptrV (H.n + 1)] hin;refine nrm_fz (H' := ((H.push ⟨[.int .i64 g], 1, false⟩).push ⟨[bindV x], 1, false⟩).push ⟨[lv encB b], 1, false⟩) (v := .tuple #[bindP (some x), .int .i64 0]) ?_ (by unfold bindO bindN; rw [if_pos hgg, if_pos hgg, hlk]; exact fz _ _ _) ((hx2.push _).push _) (al _ _);simp at ht;simp -implicitDefEqProofs (disch := omega) [bind_Read, c1, c2, o3, by3, o4, ht, bindP]
 ·refine nrm_fz (H' := (H.push ⟨[.int .i64 g], 1, false⟩).push ⟨[.pointer none], 1, false⟩) (v := .tuple #[bindP none, .int .i64 1]) ?_ (by unfold bindO bindN; rw [if_neg hgg, if_neg hgg]; exact fz _ _ _) (hx2.push _) (al _ _);by_cases c1 : g < 1
  ·simp -implicitDefEqProofs (disch := omega) [bind_Read, c1, bindP]
  ·have c2 : g > 65535 := by omega
   simp -implicitDefEqProofs (disch := omega) [bind_Read, c1, c2, bindP]
end Go.Sw
end
section
set_option maxRecDepth 100000
set_option linter.unusedVariables false
namespace Go.Sw
noncomputable section
def ankr_Table_Count (k : Nat) (call : Caller) (a0 a1 : Value) (h : Heap) : Res Value :=
 (nilR a0 h).bind fun v1 h2 =>
 (fieldAddrR Prog 77 v1 0 h2).bind fun v3 h4 =>
 (loadR Prog 32 v3 h4).bind fun v5 h6 =>
 (binR Prog .eql 32 v5 (.pointer none) h6).bind fun v7 h8 =>
 condV (some v7) (
 .ok (.int .i64 0) h8)
 (
 (nilR a0 h8).bind fun v9 h10 =>
 (fieldAddrR Prog 77 v9 0 h10).bind fun v11 h12 =>
 (loadR Prog 32 v11 h12).bind fun v13 h14 =>
 (call F.lookup_Table_Get [v13, a1] h14).bind fun v15 h16 =>
 (extractR v15 0 h16).bind fun v17 h18 =>
 (extractR v15 1 h18).bind fun v19 h20 =>
 (unR .not v19 h20).bind fun v21 h22 =>
 condV (some v21) (
 .ok (.int .i64 0) h22)
 (
 (nilR a0 h22).bind fun v23 h24 =>
 (fieldAddrR Prog 77 v23 1 h24).bind fun v25 h26 =>
 (loadR Prog 75 v25 h26).bind fun v27 h28 =>
 (call F.view_View_U32 [v27, v17] h28).bind fun v29 h30 =>
 .ok v29 h30))
theorem ankr_Table_Count_R (k : Nat) (a0 a1 : Value) (h : Heap) : R (T k) F.ankr_Table_Count [a0, a1] h = nrm .gc h (ankr_Table_Count k (R (T k)) a0 a1 h) :=
 (R_body (t := T k) (T_scott k) (by kernel_rfl) (by kernel_rfl) _ _).trans (by kernel_rfl)
def ankr_Table_Get (k : Nat) (call : Caller) (a0 a1 a2 : Value) (h : Heap) : Res Value :=
 (allocR Prog 71 h).bind fun v1 h2 =>
 (binR Prog .lss 3 a2 (.int .i64 0) h2).bind fun v3 h4 =>
 ((bif wantVal v3 false then Res.ok a2 h4 else Res.ok undef h4)).bind fun v5 h6 =>
 ((bif wantVal v3 false then Res.ok a0 h6 else Res.ok undef h6)).bind fun v7 h8 =>
 ((bif wantVal v3 false then Res.ok a1 h8 else Res.ok undef h8)).bind fun v9 h10 =>
 ((bif wantVal v3 false then call F.ankr_Table_Count [v7, v9] h10 else Res.ok undef h10)).bind fun v11 h12 =>
 ((bif wantVal v3 false then binR Prog .geq 3 v5 v11 h12 else Res.ok undef h12)).bind fun v13 h14 =>
 (condV (some v3) (Res.ok (.bool true) h14) (Res.ok v13 h14)).bind fun v15 h16 =>
 condV (some v15) (
 (buildR Prog 71 [] h16).bind fun v17 h18 =>
 (storeR Prog 71 v1 v17 h18).bind fun _v19 h20 =>
 (loadR Prog 71 v1 h20).bind fun v21 h22 =>
 .ok (.tuple #[v21, (.bool false)]) h22)
 (
 (nilR a0 h16).bind fun v23 h24 =>
 (fieldAddrR Prog 77 v23 0 h24).bind fun v25 h26 =>
 (loadR Prog 32 v25 h26).bind fun v27 h28 =>
 (call F.lookup_Table_Get [v27, a1] h28).bind fun v29 h30 =>
 (extractR v29 0 h30).bind fun v31 h32 =>
 (extractR v29 1 h32).bind fun v33 h34 =>
 (nilR a0 h34).bindN fun v35 h36 =>
 (fieldAddrR Prog 77 v35 1 h36).bindN fun v37 h38 =>
 (loadR Prog 75 v37 h38).bindN fun v39 h40 =>
 (binR Prog .add 3 v31 (.int .i64 4) h40).bindN fun v41 h42 =>
 (binR Prog .mul 3 (.int .i64 4) a2 h42).bindN fun v43 h44 =>
 (binR Prog .add 3 v41 v43 h44).bindN fun v45 h46 =>
 (call F.view_View_I16 [v39, v45] h46).bindT (fun p49 h50 => (nilR a0 h46).bindN fun v51 h52 => (fieldAddrR Prog 77 v51 1 h52).bindN fun v53 h54 => (loadR Prog 75 v53 h54).bindN fun v55 h56 => (binR Prog .add 3 v31 (.int .i64 6) h56).bindN fun v57 h58 => (binR Prog .mul 3 (.int .i64 4) a2 h58).bindN fun v59 h60 => (binR Prog .add 3 v57 v59 h60).bindN fun v61 h62 => chkR ((okVal (loadR Prog 75 v53 h34) v55 && true) && true) (.panic p49 h50)) fun v47 h48 =>
 (nilR a0 h48).bindN fun v63 h64 =>
 (fieldAddrR Prog 77 v63 1 h64).bindN fun v65 h66 =>
 (loadR Prog 75 v65 h66).bindN fun v67 h68 =>
 (binR Prog .add 3 v31 (.int .i64 6) h68).bindN fun v69 h70 =>
 (binR Prog .mul 3 (.int .i64 4) a2 h70).bindN fun v71 h72 =>
 (binR Prog .add 3 v69 v71 h72).bindN fun v73 h74 =>
 (call F.view_View_I16 [v67, v73] h74).bindT (fun p77 h78 => chkR ((okVal (loadR Prog 75 v65 h34) v67 && true) && true) (.panic p77 h78)) fun v75 h76 =>
 (buildR Prog 71 [(0, v47), (1, v75)] h76).bindN fun v79 h80 =>
 (storeR Prog 71 v1 v79 h80).bindN fun _v81 h82 =>
 chkR ((okVal (loadR Prog 75 v65 h34) v67 && true) && true) (
 (loadR Prog 71 v1 h82).bind fun v83 h84 =>
 .ok (.tuple #[v83, (.bool true)]) h84))
theorem ankr_Table_Get_R (k : Nat) (a0 a1 a2 : Value) (h : Heap) : R (T k) F.ankr_Table_Get [a0, a1, a2] h = nrm .gc h (ankr_Table_Get k (R (T k)) a0 a1 a2 h) :=
 (R_body (t := T k) (T_scott k) (by kernel_rfl) (by kernel_rfl) _ _).trans (by kernel_rfl)
end
end Go.Sw
end
section
namespace Go.Sw
open Go.RowKit
def nilAnk : List Value := [.pointer none, .slice none 0 0]
theorem ankr0Count (k : Nat) {H : Heap} {a : Nat} (ha : H.get a = some ⟨nilAnk, 1, false⟩) (id : Int) : R (T k) F.ankr_Table_Count [ptrV a, .int .i64 id] H = .ok (.int .i64 0) H := by
 rw [ankr_Table_Count_R];refine nrm_gc ⟨H, ?_, Ext.refl H⟩ (.int _ _);unfold nilAnk at ha;simp -implicitDefEqProofs (disch := omega) [ankr_Table_Count, ha]
theorem ankr0Get (k : Nat) {H : Heap} {a : Nat} (ha : H.get a = some ⟨nilAnk, 1, false⟩) (id i : Int) : R (T k) F.ankr_Table_Get [ptrV a, .int .i64 id, .int .i64 i] H = .ok (.tuple #[.agg #[.int .i64 0, .int .i64 0], .bool false]) H := by
 rw [ankr_Table_Get_R];have hx := (Ext.refl H).push ⟨[.int .i64 0, .int .i64 0], 1, false⟩;have fl : Flat (.tuple #[.agg #[.int .i64 0, .int .i64 0], .bool false]) := Flat.tupleL (l := [.agg #[.int .i64 0, .int .i64 0], .bool false]) (.cons (Flat.aggL (l := [.int .i64 0, .int .i64 0]) (.cons (.int _ _) (.cons (.int _ _) .nil))) (.cons (.bool _) .nil));refine nrm_gc ⟨_, ?_, hx⟩ fl.alive;have hc := ankr0Count k (hx.get ha) id;by_cases h : i < 0
 ·simp -implicitDefEqProofs (disch := omega) [ankr_Table_Get, h]
 ·have h' : 0 ≤ i := by omega
  simp -implicitDefEqProofs (disch := omega) [ankr_Table_Get, h, h', hc]
def ptV (p : Int × Int) : Value := .agg #[.int .i64 p.1, .int .i64 p.2]
theorem Flat.pt (p : Int × Int) : Flat (ptV p) := Flat.aggL (l := [.int .i64 p.1, .int .i64 p.2]) (.cons (.int _ _) (.cons (.int _ _) .nil))
def noPg : Int → Int → Option (Int × Int) := fun _ _ => none
set_option maxHeartbeats 1000000 in
theorem points_run (k : Nat) (t : BTab) (ht : t.ok) (a : Int) (ha : 0 ≤ a ∧ a < 65536) (hfit : t.kind = 1 ∨ t.kind = 2 → 4 * t.kind * a + 4 * t.kind ≤ t.acts.length) (mk own : Gl) {H : Heap} {an : Nat} (han : H.get an = some ⟨nilAnk, 1, false⟩) :
  ∃ P Q : Int × Int, R (T k) F.bind_Table_points [bindV t, .int .i64 a, encA (some mk), encA (some own), ptrV an] H = .ok (.tuple #[ptV P, ptV Q, .bool (ptsS t noPg a mk.id own.id).isSome]) H ∧
   (∀ r, ptsS t noPg a mk.id own.id = some r → r = (P, Q)) ∧ (-32768 ≤ P.1 ∧ P.1 < 32768 ∧ -32768 ≤ P.2 ∧ P.2 < 32768) ∧ (-32768 ≤ Q.1 ∧ Q.1 < 32768 ∧ -32768 ≤ Q.2 ∧ Q.2 < 32768) := by
 have hb := ht.byt;have hl := ht.len;have hU : ∀ i : Int, 0 ≤ i → i + 2 ≤ (t.acts.length : Int) → uS t.acts i 2 = some (gU t.acts i 2) := fun i h0 h1 => by
  have : ∃ x, uS t.acts i 2 = some x := by
   unfold uS pieceS;rw [if_pos ⟨by omega, by omega, by omega, by omega⟩];exact ⟨_, rfl⟩
  obtain ⟨x, hx⟩ := this;rw [hx, gU_some hx]
 have fl : ∀ p q b, Flat (.tuple #[ptV p, ptV q, .bool b]) := fun p q b => Flat.tupleL (l := [ptV p, ptV q, .bool b]) (.cons (Flat.pt p) (.cons (Flat.pt q) (.cons (.bool _) .nil)));have hx1 := ((((Ext.refl H).push ⟨[.int .i64 mk.id, .int .i64 mk.cl], 1, false⟩).push ⟨[.int .i64 own.id, .int .i64 own.cl], 1, false⟩))
 have hx2 := fun (p q : Int × Int) => (((hx1.push ⟨[.int .i64 p.1, .int .i64 p.2], 1, false⟩).push ⟨[.int .i64 q.1, .int .i64 q.2], 1, false⟩).push ⟨[lv encB t.acts], 1, false⟩)
 have vq : ∀ x y : Int, veq (.agg #[.int .i64 x, .int .i64 y]) (.agg #[.int .i64 x, .int .i64 y]) = true := fun x y => veq_agg (l := [.int .i64 x, .int .i64 y]) fun u hu => by simp at hu; rcases hu with rfl | rfl <;> simp
 have vw : veq (vwB t.acts) (vwB t.acts) = true := veq_agg (l := [lv encB t.acts]) fun u hu => by simp at hu; subst hu; exact veq_B t.acts
 rw [bind_Table_points_R];unfold ptsS;by_cases d1 : t.kind = 1
 ·have hf := hfit (.inl d1);rw [d1] at hf;rw [if_pos d1];have e1 : (t.kind == 1) = true := by rw [beq_iff_eq]; exact d1
  have u1 := hU (4 * a) (by omega) (by omega);have r1 := fun H' => U16_run k (Sl.lv H' 1 t.acts) hb (4 * a) (by omega);rw [u1] at r1;have g1 := ankr0Get k ((hx2 (0, 0) (0, 0)).get han) mk.id (gU t.acts (4 * a) 2);have w1 : IntKind.i64.wrap (4 * a) = 4 * a := wrap_i64 (by omega) (by omega);refine ⟨(0, 0), (0, 0), ?_, fun r hr => (by simp [noPg] at hr), by decide, by decide⟩;refine nrm_gc ⟨_, ?_, hx2 (0, 0) (0, 0)⟩ (fl _ _ _).alive;simp -implicitDefEqProofs (disch := omega) [bind_Table_points, encA, e1, d1, r1, orF, w1, g1, noPg, vq, vw, bind_Table_points_j2_eq, ptV]
 rw [if_neg d1];have e1 : (t.kind == 1) = false := by rw [beq_eq_false_iff_ne]; exact d1
 by_cases d2 : t.kind = 2
 ·have hf := hfit (.inr d2);rw [d2] at hf;rw [if_pos d2];have e2 : (t.kind == 2) = true := by rw [beq_iff_eq]; exact d2
  have r1 := fun H' i => I16_run k (Sl.lv H' 1 t.acts) hb i (by omega);have q1 := fun H' => (r1 H' (8 * a)).trans (by rw [hU _ (by omega) (by omega)]);have q2 := fun H' => (r1 H' (8 * a + 2)).trans (by rw [hU _ (by omega) (by omega)]);have q3 := fun H' => (r1 H' (8 * a + 4)).trans (by rw [hU _ (by omega) (by omega)]);have q4 := fun H' => (r1 H' (8 * a + 6)).trans (by rw [hU _ (by omega) (by omega)]);have sb : ∀ i, -32768 ≤ s16 (gU t.acts i 2) ∧ s16 (gU t.acts i 2) < 32768 := fun i => by
   have := gU_two hb i;unfold s16;split <;> omega
  have w1 : IntKind.i64.wrap (8 * a) = 8 * a := wrap_i64 (by omega) (by omega);have s1 := sb (8 * a); have s2 := sb (8 * a + 2); have s3 := sb (8 * a + 4); have s4 := sb (8 * a + 6);refine ⟨(s16 (gU t.acts (8 * a) 2), s16 (gU t.acts (8 * a + 2) 2)), (s16 (gU t.acts (8 * a + 4) 2), s16 (gU t.acts (8 * a + 6) 2)), ?_, fun r hr => (by simpa using hr.symm), ⟨s1.1, s1.2, s2.1, s2.2⟩, ⟨s3.1, s3.2, s4.1, s4.2⟩⟩;refine nrm_gc ⟨_, ?_, hx2 (s16 (gU t.acts (8 * a) 2), s16 (gU t.acts (8 * a + 2) 2)) (s16 (gU t.acts (8 * a + 4) 2), s16 (gU t.acts (8 * a + 6) 2))⟩ (fl _ _ _).alive;simp -implicitDefEqProofs (disch := omega) [bind_Table_points, encA, e1, e2, q1, q2, q3, q4, orF, w1, vq, vw, bind_Table_points_j1_eq, ptV]
 ·rw [if_neg d2];have e2 : (t.kind == 2) = false := by rw [beq_eq_false_iff_ne]; exact d2
  refine ⟨(0, 0), (0, 0), ?_, fun r hr => (by cases hr), by decide, by decide⟩;refine nrm_gc ⟨_, ?_, hx2 (0, 0) (0, 0)⟩ (fl _ _ _).alive;simp -implicitDefEqProofs (disch := omega) [bind_Table_points, encA, e1, e2, vq, vw, bind_Table_points_j3_eq, ptV]
end Go.Sw
end
