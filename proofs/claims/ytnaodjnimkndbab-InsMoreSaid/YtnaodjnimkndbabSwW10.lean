/-
  Functions' forms, and what is proved of them, part 10.
-/
import Derived.Test.YtnaodjnimkndbabSwW3
import Derived.Test.YtnaodjnimkndbabSwW5
import Derived.Test.YtnaodjnimkndbabSwW9
import Derived.Test.YtnaodjnimkndbabSwLib8
import Derived.Eval
import Derived.Test.YtnaodjnimkndbabSwW8
set_option linter.unusedSimpArgs false
set_option linter.unusedVariables false
set_option linter.unusedSectionVars false
section
namespace Go.Sw
open Go.RowKit
theorem names_ok : NamesOk Prog := NamesOk.of (by kernel_rfl)
theorem mixed_ok : Prog.follows .mixedOrders = true := Checked.mixed Go.Proofs.Try.checked
theorem laid_ok : laidOutB Prog = true := by kernel_rfl
theorem cloneP_is : SpIs Prog F.slices_Clone_of_api_Place_api_Place fun _ args H => cloneV 3 12 args H :=
 clone_is (c := { P := Prog, kp := kpS, sp := fun _ => none }) names_ok mixed_ok (t := 70) (e := 91) (by kernel_rfl) fun call a H => (slices_Clone_of_api_Place_api_Place_body 0 _ call a H).trans (by
  unfold slices_Clone_of_api_Place_api_Place cloneF;simp only [be_70_0, ap_70, beR_bare])
theorem cloneG_is : SpIs Prog F.slices_Clone_of_api_Glyph_api_Glyph fun _ args H => cloneV 2 16 args H :=
 clone_is (c := { P := Prog, kp := kpS, sp := fun _ => none }) names_ok mixed_ok (t := 48) (e := 115) (by kernel_rfl) fun call a H => (slices_Clone_of_api_Glyph_api_Glyph_body 0 _ call a H).trans (by
  unfold slices_Clone_of_api_Glyph_api_Glyph cloneF;simp only [be_48_0, ap_48, beR_bare])
theorem cloneR_is : SpIs Prog F.slices_Clone_of_sfnt_Part_sfnt_Part fun _ args H => cloneV 2 40 args H :=
 clone_is (c := { P := Prog, kp := kpS, sp := fun _ => none }) names_ok mixed_ok (t := 167) (e := 165) (by kernel_rfl) fun call a H => (slices_Clone_of_sfnt_Part_sfnt_Part_body 0 _ call a H).trans (by
  unfold slices_Clone_of_sfnt_Part_sfnt_Part cloneF;simp only [be_167_0, ap_167, beR_bare])
theorem more_is (f : FuncId) (s : Sp) (h : moreS f = some s) : SpIs Prog f s := by
 unfold moreS at h;cases h0 : Nat.beq f 35 with
 | true => have := Nat.eq_of_beq_eq_true h0; subst this; rw [h0, cond_true] at h; injection h with h; subst h; exact try_is
 | false =>
 rw [h0, cond_false] at h;cases h1 : Nat.beq f 104 with
 | true => have := Nat.eq_of_beq_eq_true h1; subst this; rw [h1, cond_true] at h; injection h with h; subst h; exact cloneG_is
 | false =>
 rw [h1, cond_false] at h;cases h2 : Nat.beq f 118 with
 | true => have := Nat.eq_of_beq_eq_true h2; subst this; rw [h2, cond_true] at h; injection h with h; subst h; exact cloneP_is
 | false =>
 rw [h2, cond_false] at h;cases h3 : Nat.beq f 159 with
 | true => have := Nat.eq_of_beq_eq_true h3; subst this; rw [h3, cond_true] at h; injection h with h; subst h; exact cloneR_is
 | false =>
 rw [h3, cond_false] at h;cases h4 : Nat.beq f 244 with
 | true => have := Nat.eq_of_beq_eq_true h4; subst this; rw [h4, cond_true] at h; injection h with h; subst h; exact insertG_is
 | false =>
 rw [h4, cond_false] at h;cases h
theorem T_prog (k : Nat) : (T k).c.P = Prog := by unfold T C; rfl
theorem told_ok {k m : Nat} (hsp : okTrue (run (baseCfg Prog kpS moreS) m (k % 1000000) [] Heap.empty) = true) : SpOk (T k).c := by
 have h0 : CallOk Prog (run (baseCfg Prog kpS moreS) m) := run_ok (c := baseCfg Prog kpS moreS) names_ok mixed_ok (SpOk.base more_is) m;have h1 : SpOk (C k) := by
  unfold C;exact SpOk.of (P := Prog) (kp := kpS) (speaks := speaksT) (more := moreS) (k := k % 1000000) h0 hsp more_is
 exact h1
end Go.Sw
end
section
namespace Go.Sw
open Go.RowKit
def ownIds (n : Nat) : List Int := (List.range n).map fun (i : Nat) => 70000 + (i : Int)
theorem ownIds_len (n : Nat) : (ownIds n).length = n := by simp [ownIds]
theorem ownIds_snoc (n : Nat) : ownIds (n + 1) = ownIds n ++ [70000 + (n : Int)] := by simp [ownIds, List.range_succ]
theorem ownIds_new (n : Nat) : newG (ownIds (n + 1)) = newG (ownIds n) ++ [⟨70000 + (n : Int), (n : Int)⟩] := by
 rw [ownIds_snoc, newG_snoc, ownIds_len]
theorem ownIds_filter (n : Nat) : (newG (ownIds n)).filter isOwn = newG (ownIds n) := by
 induction n with
 | zero => rfl
 | succ n ih =>
  rw [ownIds_new, List.filter_append, ih];congr 1;unfold isOwn;simp;omega
theorem ownIds_at {n i : Nat} (h : i < n) : (newG (ownIds n))[i]? = some ⟨70000 + (i : Int), (i : Int)⟩ := by
 induction n with
 | zero => omega
 | succ n ih =>
  rw [ownIds_new];by_cases d : i < n
  ·rw [List.getElem?_append_left (by rw [newG_len, ownIds_len]; exact d)];exact ih d
  ·have : i = n := by omega
   subst this;rw [List.getElem?_append_right (by rw [newG_len, ownIds_len]; exact Nat.le_refl _), newG_len, ownIds_len];simp
def ownN (l : List Gl) (j : Nat) : Nat := ((l.take j).filter isOwn).length
theorem ownN_step {l : List Gl} {j : Nat} {g : Gl} (h : l[j]? = some g) : ownN l (j + 1) = ownN l j + (if isOwn g then 1 else 0) := by
 unfold ownN;rw [take_snoc h, List.filter_append, List.length_append];congr 1;cases hg : isOwn g <;> simp [hg]
theorem ownN_at {l : List Gl} {j : Nat} {g : Gl} (h : l[j]? = some g) (ho : isOwn g = true) : (l.filter isOwn)[ownN l j]? = some g := by
 have h1 : l = l.take j ++ (g :: l.drop (j + 1)) := by
  have hlt := (List.getElem?_eq_some_iff.1 h).1;have hg := (List.getElem?_eq_some_iff.1 h).2;rw [← hg, List.getElem_cons_drop hlt, List.take_append_drop]
 have h2 : l.filter isOwn = (l.take j).filter isOwn ++ (g :: (l.drop (j + 1)).filter isOwn) := by
  rw [h1, List.filter_append, List.filter_cons_of_pos ho];simp only [← h1]
 rw [h2];unfold ownN;rw [List.getElem?_append_right (Nat.le_refl _)];simp
set_option maxHeartbeats 4000000 in
theorem InsMore_run (x : IPlan) (hx : x.ok) (ids : List Int) (left : Int) (hleft : 0 ≤ left ∧ left < 256) : R (T F.swashlaw18_speaks) F.swashlaw18_InsMore [iplV x, lv encI ids, .int .u8 left] Heap.empty = .ok (.bool true) Heap.empty := by
 generalize hk : F.swashlaw18_speaks = k;have hs := speaks18_run k (by subst hk; rfl);have hW : ownW k = .no := by subst hk; rfl
 have hk6 : k < 1000000 := by subst hk; decide
 clear hk;rw [swashlaw18_InsMore_R];generalize Heap.empty = H;have hx1 : Ext H (H.push ⟨iplC x, 1, false⟩) := (Ext.refl H).push _;have hsm := fun H => small18_run k x ids H;by_cases c1 : ISmall x ids.length;rotate_left
 ·refine nrm_gc ⟨_, ?_, hx1⟩ (.bool _);rw [decide_eq_false c1] at hsm;simp -implicitDefEqProofs (disch := omega) [swashlaw18_InsMore, hs, hsm]
 rw [decide_eq_true c1] at hsm;unfold ISmall at c1;have hw := fun H => write18_fz k hk6 hW x.p hx.p (by omega) (by omega) (by omega) (PlanSl.lv H x.p (Sl.lv H 4 x.p.ents)) (Sl.lv H 1 x.vals) hx.vals (by omega);have hcb : Byt (roomB x.p 2 0 x.vals) := roomB_byt hx.p _ _ _;have hcl := roomB_len hx.p 2 0 (l := x.vals) (by omega) (by omega) (by omega) (by omega);generalize roomB x.p 2 0 x.vals = b at hw hcb hcl;have hrd := fun H' => insRead_run k (H := H') (Sl.lv H' 1 b) hcb 40 (by omega) (fun _ H' => insTake_run k hk6 b hcb 40 (by omega) (by omega) H');unfold insO insN at hrd;rw [if_pos (by omega), if_pos (by omega)] at hrd;cases h : insS b 40 with
 | none =>
  rw [h] at hrd;simp only [insP, Option.isSome_none, Bool.false_eq_true, if_false] at hrd;refine nrm_gc ⟨_, ?_, hx1⟩ (.bool _);simp -implicitDefEqProofs (disch := omega) [swashlaw18_InsMore, hs, hsm, hw, hrd]
 | some t =>
  rw [h] at hrd;simp only [insP, Option.isSome_some, if_true] at hrd;have hok := insS_ok hcb (by omega) (by omega) (by omega) h;have g0 := (Star.nil H).push ⟨iplC x, 1, false⟩;simp only [List.nil_append] at g0;have hids : ids.length ≤ 40 := by omega
  have g0 := g0.more_row (Ext.refl _) (OwnO.nil encI _ 1) (fun b hb => by cases hb);simp only [List.cons_append, List.nil_append] at g0
  obtain ⟨xx, e', H1, hr1, rfl, s, o, rfl, g⟩ := loop_up (body := swashlaw18_InsMore_l1 k (R (T k))) ids.length
   (fun j e H' => ∃ s o, e = [(1, lv encI ids), (2, .int .u8 left), (7, insV t), (9, s), (33, .int .i64 ids.length), (34, .int .i64 j)] ∧ Star H H' [itBlk H.n ⟨iplC x, 1, false⟩, itRow o 1 s encI (ownIds j)])
   (fun xx e H' => xx = .exit 0 ∧ ∃ s o, e = [(1, lv encI ids), (2, .int .u8 left), (7, insV t), (9, s), (33, .int .i64 ids.length), (34, .int .i64 ids.length), (35, .bool false)] ∧ Star H H' [itBlk H.n ⟨iplC x, 1, false⟩, itRow o 1 s encI (ownIds ids.length)])
   (e0 := [(1, lv encI ids), (2, .int .u8 left), (7, insV t), (9, .slice none 0 0), (33, .int .i64 ids.length), (34, .int .i64 0)]) (H0 := H.push ⟨iplC x, 1, false⟩) ⟨_, none, rfl, g0⟩ (by omega)
   (fun j e H' hj ⟨s, o, he, g⟩ => by
    subst he;have hjl : (j : Int) < ids.length := by omega
    have hw3 : IntKind.i64.wrap (70000 + (j : Int)) = 70000 + (j : Int) := wrap_i64 (by omega) (by omega);obtain ⟨s2, o2, H2, e2, g2⟩ := g.append1 (bytes := 8) 1 encI_len rfl (70000 + (j : Int)) (by rw [ownIds_len]; omega) (by decide);simp only [List.set_cons_zero, List.set_cons_succ] at g2;rw [← ownIds_snoc] at g2;refine .inl ⟨_, H2, ?_, s2, o2, rfl, g2⟩;rw [swashlaw18_InsMore_l1_eq];simp -implicitDefEqProofs (disch := omega) [hjl, hw3, e2])
   (fun e H' ⟨s, o, he, g⟩ => by
    subst he;refine ⟨.exit 0, _, H', ?_, by simp, rfl, s, o, rfl, g⟩;rw [swashlaw18_InsMore_l1_eq];simp -implicitDefEqProofs)
  have hsl := (g.row 1 rfl).sl encI_len;obtain ⟨c1', o2, H2, e2, g⟩ := lineNew_starG k g hsl (by rw [ownIds_len]; omega);simp only [List.cons_append, List.nil_append] at g;have hw0 : IntKind.i64.wrap left = left := wrap_i64 (by omega) (by omega);obtain ⟨H4, o4, e4, g, hI⟩ := insRun_star k t hok g 2 rfl (by rw [newG_len, ownIds_len]; omega) left (by omega);simp only [List.set_cons_zero, List.set_cons_succ] at g;have hm := ins_more t hok (newG (ownIds ids.length)) left hleft.1 _ (ownIds_filter ids.length);have hl1 := hm.len; have hd1 := hm.done; have hs1 := hm.sum; have hl0 := hm.left; have hown := hm.own;rw [newG_len, ownIds_len] at hl1;clear hm hI;generalize hrr : runIr t (newG (ownIds ids.length)) left = r at e4 g hl1 hd1 hs1 hl0 hown;generalize hcc : codeI r = cd at e4;have gl1 := lineGlyphs_run k hk6 g 2 rfl (by omega);obtain ⟨l, hl⟩ : ∃ l, l = r.2.2.l := ⟨_, rfl⟩
  rw [← hl] at gl1 hl1 hown g;have hcnt : ownN l l.length = ids.length := by
   unfold ownN;rw [List.take_length, hown, newG_len, ownIds_len]
  obtain ⟨xx, e', H5, hr5, rfl, rfl, hx5⟩ := loop_up (body := swashlaw18_InsMore_l2 k (R (T k))) l.length
   (fun j e H' => e = [(1, lv encI ids), (15, .int .i64 (ownN l j)), (72, lv encG l), (73, .int .i64 l.length), (74, .int .i64 j)] ∧ Ext H4 H')
   (fun xx e H' => xx = .exit 2 ∧ e = [(1, lv encI ids), (15, .int .i64 (ownN l l.length)), (72, lv encG l), (73, .int .i64 l.length), (74, .int .i64 l.length), (75, .bool false)] ∧ Ext H4 H')
   (e0 := [(1, lv encI ids), (15, .int .i64 0), (72, lv encG l), (73, .int .i64 l.length), (74, .int .i64 0)]) (H0 := H4) ⟨rfl, Ext.refl _⟩ (by omega)
   (fun j e H' hj ⟨he, hx⟩ => by
    subst he;have hjl : (j : Int) < l.length := by omega
    obtain ⟨q, hq⟩ : ∃ q, l[j]? = some q := ⟨_, List.getElem?_eq_getElem hj⟩
    have i1 := fun H' => ixS_lvN encG_len l .i64 j q hq H';have hstep := ownN_step hq;have hnj : ownN l j ≤ j := by
     unfold ownN;exact Nat.le_trans (List.length_filter_le _ _) (by rw [List.length_take]; omega)
    by_cases ho : isOwn q = true
    ·have hat := ownN_at hq ho;rw [hown] at hat;have hlt : ownN l j < ids.length := by
      have := (List.getElem?_eq_some_iff.1 hat).1
      rwa [newG_len, ownIds_len] at this
     rw [ownIds_at hlt] at hat;have hat := Option.some.inj hat;rw [if_pos ho] at hstep;have hw3 : IntKind.i64.wrap (70000 + (ownN l j : Int)) = 70000 + (ownN l j : Int) := wrap_i64 (by omega) (by omega);have hw4 : IntKind.i64.wrap ((ownN l j : Int) + 1) = (ownN l j : Int) + 1 := wrap_i64 (by omega) (by omega);have hq1 : q.id = 70000 + (ownN l j : Int) := by rw [← hat]
     have hq2 : q.cl = (ownN l j : Int) := by rw [← hat]
     have hge : ¬ q.id < 70000 := by omega
     have hge2 : q.id ≥ 70000 := by omega
     have hcast : ((ownN l (j + 1) : Nat) : Int) = (ownN l j : Int) + 1 := by rw [hstep]; rfl
     refine .inl ⟨_, H'.push ⟨encG q, 1, false⟩, ?_, rfl, hx.push _⟩;rw [swashlaw18_InsMore_l2_eq, hcast];generalize (ownN l j : Int) = z at hq1 hq2 hw3 hw4;obtain ⟨qi, qc⟩ := q;dsimp only at hq1 hq2 hge2;subst hq1 hq2;simp -implicitDefEqProofs (disch := omega) [hjl, i1, hge2, hw3, hw4, bne, swashlaw18_InsMore_j1_eq]
    ·rw [if_neg ho] at hstep;have hge : ¬ q.id ≥ 70000 := by
      intro hh;exact ho (decide_eq_true hh)
     have hcast : ((ownN l (j + 1) : Nat) : Int) = (ownN l j : Int) := by rw [hstep]; rfl
     refine .inl ⟨_, H'.push ⟨encG q, 1, false⟩, ?_, rfl, hx.push _⟩;rw [swashlaw18_InsMore_l2_eq, hcast];simp -implicitDefEqProofs (disch := omega) [hjl, i1, hge, swashlaw18_InsMore_j2_eq])
   (fun e H' ⟨he, hx⟩ => by
    subst he;refine ⟨.exit 2, _, H', ?_, by simp, rfl, rfl, hx⟩;rw [swashlaw18_InsMore_l2_eq];simp -implicitDefEqProofs)
  have g4 := g.rest hx5;rw [hcnt] at hr5;have n1 : ¬ r.2.2.done < 0 := by omega
  have n2 : ¬ r.2.2.done > left := by omega
  have hw5 : IntKind.i64.wrap ((ids.length : Int) + r.2.2.done) = (ids.length : Int) + r.2.2.done := wrap_i64 (by omega) (by omega);refine nrm_gc ⟨H5, ?_, g4.ext⟩ (.bool _);generalize r.2.2.done = dn at e4 n1 n2 hw5 hl1;have hll : (l.length : Int) = (ids.length : Int) + dn := hl1;rw [hll] at hr5;simp -implicitDefEqProofs (disch := omega) [swashlaw18_InsMore, hs, hsm, hw, hrd, hr1, swashlaw18_InsMore_l1k_x0, e2, hw0, e4, gl1, n1, n2, hw5, hll, bne, hr5, swashlaw18_InsMore_l2k_x2]
theorem InsMore_args (vs : List Value) (h : ArgsLay [iplSh, .one (.slice [.int .i64]), .one (.int .u8)] vs) : ∃ H', R (T F.swashlaw18_speaks) F.swashlaw18_InsMore vs Heap.empty = .ok (.bool true) H' := by
 obtain ⟨v1, _, rfl, h1, h⟩ := h.head;obtain ⟨v2, _, rfl, h2, h⟩ := h.head;obtain ⟨v3, _, rfl, h3, h⟩ := h.head;obtain rfl := h.done;obtain ⟨x, rfl, hx⟩ := arg_ipl h1;obtain ⟨ids, rfl, _⟩ := arg_I h2;obtain ⟨most, rfl, wm⟩ := arg_i h3;exact ⟨_, InsMore_run x hx ids most (wf_u8 wm)⟩
end Go.Sw
end
