/-
  Functions' forms, and what is proved of them, part 14.
-/
import Derived.Test.YtanfippcmdialaaSwW13
import Derived.Test.YtanfippcmdialaaSwCfg
import Derived.Test.YtanfippcmdialaaSwLib10
import Derived.RangeFuncKeeps
import Derived.RangeFuncLeaves
import Derived.Shelf.Abstract
import Derived.WalkKit
import Derived.OwnWalkIn
import Derived.TacticsInMore
import Derived.LoopNIn
import Derived.LoopIn
import Derived.Tactics
import Derived.Tactics2
import Derived.Defers
import Derived.Recover
import Derived.Laws.Pointers
import Derived.Laws.IdiomCopy
import Derived.Lib.Walk
import Derived.Lib.SliceRun
import Derived.Lib.JoinLaws
import Derived.Lib.AppendZeros
import Derived.Lib.AppendZerosOnto
import Derived.Lib.Overlaps
import Derived.Laws.Externs
import Derived.Laws.NewBlocks
import Derived.Deep.RegionLaw
import Derived.Test.YtanfippcmdialaaSwW4
import Derived.Test.YtanfippcmdialaaSwW8
import Derived.Test.YtanfippcmdialaaSwLib8
import Derived.Eval
set_option linter.unusedSimpArgs false
set_option linter.unusedVariables false
set_option linter.unusedSectionVars false
section
namespace Go.Sw
open Go.RowKit
theorem ζt7 (k:Nat) {H0 H:Heap} {L:List It} {i:Nat} {o:Option Nat} {s:Value} {b:List Int} (hi:L[i]? = some (itRow o 1 s encB b)) (g:Star H0 H L) (hb:b.length < 2 ^ 40) (a1 a2 a6 a8:Value) :
  ∃ z H',loopN (ζ2v k (R (T k))) loopFuel [(1,a1),(2,a2),(5,s),(6,a6),(8,a8),(48,.int .i64 b.length),(49,.int .i64 0)] H = .ok (.exit 0,[(1,a1),(2,a2),(5,s),(6,a6),(8,a8),(48,.int .i64 b.length),(49,z),(50,.bool false)]) H' ∧ ∃ b',Star H0 H' (L.set i (itRow o 1 s encB b')):=by
 have hlt:=(List.getElem?_eq_some_iff.1 hi).1;have same:L.set i (itRow o 1 s encB b) = L:=by
  obtain ⟨hlt,hx⟩:=List.getElem?_eq_some_iff.1 hi;rw [← hx,List.set_getElem_self]
 obtain ⟨xx,e',H1,hr1,rfl,⟨z,rfl⟩,b',_,g⟩:=loop_up (body:=ζ2v k (R (T k))) b.length
  (fun j e H' => e = [(1,a1),(2,a2),(5,s),(6,a6),(8,a8),(48,.int .i64 b.length),(49,.int .i64 j)] ∧ ∃ b':List Int,b'.length = b.length ∧ Star H0 H' (L.set i (itRow o 1 s encB b')))
  (fun xx e H' => xx = .exit 0 ∧ (∃ z,e = [(1,a1),(2,a2),(5,s),(6,a6),(8,a8),(48,.int .i64 b.length),(49,z),(50,.bool false)]) ∧ ∃ b':List Int,b'.length = b.length ∧ Star H0 H' (L.set i (itRow o 1 s encB b')))
  (e0:=[(1,a1),(2,a2),(5,s),(6,a6),(8,a8),(48,.int .i64 b.length),(49,.int .i64 0)]) (H0:=H) ⟨rfl,b,rfl,by rw [same]; exact g⟩ (by omega)
  (fun j e H' hj ⟨he,b',hl,g⟩ => by
   subst he;have hjl:(j:Int) < b.length:=by omega
   have hself:(L.set i (itRow o 1 s encB b'))[i]? = some (itRow o 1 s encB b'):=List.getElem?_set_self hlt;obtain ⟨c,hc,_,i2⟩:=g.ix i hself .i64 j (by omega);subst hc;obtain ⟨x,hx⟩:∃ x,b'[j]? = some x:=⟨_,List.getElem?_eq_getElem (by omega)⟩
   obtain ⟨H2,e2,g2,_⟩:=g.stRow i hself encB_len (j:=j) (c:=0) (n:=1) 170 (v:=.int .u8 170) hx rfl rfl (by decide) rfl;rw [List.set_set] at g2;rw [Nat.add_zero] at e2;refine .inl ⟨_,H2,?_,rfl,_,by rw [List.length_set]; exact hl,g2⟩;rw [ζ4y];simp -implicitDefEqProofs (disch:=omega) [-stR_ptr,hjl,i2];simp only [Nat.mul_one] at e2;simp -implicitDefEqProofs (disch:=omega) [-stR_ptr,e2])
  (fun e H' ⟨he,b',hl,g⟩ => by
   subst he;refine ⟨.exit 0,_,H',?_,by simp,rfl,⟨.int .i64 b.length,rfl⟩,b',hl,g⟩;rw [ζ4y];simp -implicitDefEqProofs)
 exact ⟨z,H1,hr1,b',g⟩
abbrev drk17 (r:RMach):List Value:=[.chan none,.int .i64 r.cl,.int .i64 r.rowsAt,.int .i64 r.entsAt,.int .i64 r.states,.int .i64 r.n,.int .i64 r.words,.chan none,.chan none,.chan none,.chan none,.chan none]
theorem ζme (k:Nat) (b:List Int) (hb:Byt b) (hl:b.length < 2 ^ 31) {H0 H:Heap} {L:List It} (g:Star H0 H L) {i:Nat} {o:Option Nat} {s:Value} (hi:L[i]? = some (itRow o 1 s encB b)) (hpos:0 < b.length) :
  ∃ r:RMach,R (T k) F.ζ9 [s,.int .i64 40] H = .ok (.tuple #[.agg (drk17 r).toArray,.bool (ligaS b 40).isSome]) H:=by
 obtain ⟨c,f1⟩:=(g.row i hi).frz1 encB_len (fun n _ v hv => by simp at hv; subst hv; trivial) 6 hpos;have hfa:mapF (fzV 0 H fzDepth) [s,.int .i64 40] = some ([lv encB b,.int .i64 40],[c] ++ []):=ζw f1 (mapF_one (L:=[]) (v:=.int .i64 40) (u:=.int .i64 40) rfl);have hP:=ζij k _ _ _ _ H _ hfa rfl;obtain ⟨r,a,c,l,hr,_⟩:=ζhz k b hb 40 (by omega) hl (allDead H);rw [ζes] at hr;rw [hr] at hP;exact ⟨r,hP⟩
set_option maxHeartbeats 4000000 in
theorem ζnu (x:LPlan) (hx:x.ok) (ids:List Int):R (T F.ζ2g) F.ζr [lplV x,lv encI ids] Heap.empty = .ok (.bool true) Heap.empty:=by
 generalize hk:F.ζ2g = k;have hs:=ζo8 k (by subst hk; rfl);have hW:ownW k = .no:=by subst hk; rfl
 have hk6:k < 1000000:=by subst hk; decide
 have hkP:k = sP17:=by subst hk; rfl
 clear hk;rw [ζey];obtain ⟨H,hH,hHn⟩:∃ H,H = Heap.empty ∧ H.n = 0:=⟨_,rfl,rfl⟩
 rw [← hH];clear hH;have g:=(Star.nil H).push ⟨lplC x,1,false⟩;simp only [List.nil_append] at g;have hsm:=fun H => ζqb k x ids H;by_cases c1:LSmall x ids.length;rotate_left
 ·refine nrm_gc ⟨_,?_,g.ext⟩ (.bool _);rw [decide_eq_false c1] at hsm;simp -implicitDefEqProofs (disch:=omega) [ζr,hs,hsm]
 rw [decide_eq_true c1] at hsm;unfold LSmall at c1;obtain ⟨s1,o1,H1,w1,g⟩:=ζqh k (ownP_own hkP (by simp only [hn_push]; omega)) hW x hx (by omega) (by omega) (by omega) (by omega) (by omega) (by omega) g (PlanSl.lv _ x.p (Sl.lv _ 4 x.p.ents)) (Sl.lv _ 1 x.acts) (Sl.lv _ 1 x.comps) (Sl.lv _ 1 x.ligs);simp only [List.nil_append,List.cons_append] at g;have hcb:Byt (ligB x.p x.acts x.comps x.ligs):=ligB_byt hx.p _ _ _;have hcl:=ligB_len hx.p (a:=x.acts) (c:=x.comps) (l:=x.ligs) (by omega) (by omega) (by omega) (by omega) (by omega) (by omega);have hpos:20 ≤ (ligB x.p x.acts x.comps x.ligs).length:=by
  have h1:28 ≤ (planRoom x.p 1 (List.replicate 12 0)).length:=by unfold planRoom; simp; omega
  have h2:=ζ8u x.p 1 (ligRm (planRoom x.p 1 (List.replicate 12 0)).length x.acts.length x.comps.length) (List.replicate 12 0) (by rw [ζm2]; simp);unfold ligB ligN;simp only [List.length_append];omega
 have hn1:1 < H1.n:=by
  obtain ⟨c,hc,hg,_⟩:=g.ix 1 rfl .i64 0 (by omega);subst hc;have h0:¬ H.n = c:=fun h => g.ne 0 1 (by decide) rfl rfl (b:=H.n) (by simp [itBlk]) (by simp [itRow,h]);have:=Heap.get_lt hg;omega
 have hw2:=fun {H':Heap} (hn:2 < H'.n) => ζrs k (H:=H') (ownP_fz hk6 hn) hW x hx (by omega) (by omega) (by omega) (by omega) (by omega) (by omega) (PlanSl.lv H' x.p (Sl.lv H' 4 x.p.ents)) (Sl.lv H' 1 x.acts) (Sl.lv H' 1 x.comps) (Sl.lv H' 1 x.ligs);generalize ligB x.p x.acts x.comps x.ligs = b at g hw2 hcb hcl hpos;have hrd:=ζnx k ((g.row 1 rfl).sl encB_len) hcb 40 (by omega) (fun _ H' => ζnz k hk6 b hcb 40 (by omega) (by omega) H');unfold ligaO ligaN at hrd;rw [if_pos (by omega),if_pos (by omega)] at hrd;obtain ⟨r0,hlk⟩:=ζme k b hcb (by omega) g (i:=1) rfl (by omega);have b0:=g.get 0 rfl;have hn0:¬ H.n = H1.n:=by have:=Heap.get_lt b0; omega
 have g:=g.push ⟨drk17 r0,1,false⟩;simp only [List.nil_append,List.cons_append] at g;cases h:ligaS b 40 with
 | none =>
  rw [h] at hrd hlk;simp only [ligaP,Option.isSome_none,Bool.false_eq_true,if_false] at hrd hlk;refine nrm_gc ⟨_,?_,g.ext⟩ (.bool _);simp -implicitDefEqProofs (disch:=omega) [ζr,hs,hsm,w1,hrd,hlk]
 | some t =>
  rw [h] at hrd hlk;simp only [ligaP,Option.isSome_some,if_true] at hrd hlk;have hok:=ligaS_ok hcb (by omega) (by omega) (by omega) h;have hln:∀ H',lnS s1 H' = .ok (.int .i64 b.length) H':=(g.row 1 rfl).len;obtain ⟨z2,H2,e2,b',g⟩:=ζt7 k (i:=1) rfl g (by omega) (lv encI ids) (ptrV H.n) (ligaV t) (ptrV H1.n);simp only [List.set_cons_zero,List.set_cons_succ] at g;obtain ⟨c4,o4,H4,e4,g⟩:=ζo2 k g ids (by omega);simp only [List.nil_append,List.cons_append] at g;obtain ⟨H5,e5,g⟩:=ζny k t hok g 3 rfl (by simp; omega);simp only [List.set_cons_zero,List.set_cons_succ] at g;have q5:=g.get 0 rfl;have q6:=g.get 2 rfl;have q6s:(H5.get H1.n).isSome = true:=by rw [q6]; rfl
  have hn5:2 < H5.n:=by have:=Heap.get_lt q6; omega
  have hw2:=hw2 hn5;obtain ⟨r,ra,rc,rl,hrr,hrs⟩:=ζhz k b hcb 40 (by omega) (by omega) H5;obtain ⟨rfl,rfl,rfl,rfl⟩:=hrs t h;rw [h] at hrr;simp only [Option.isSome_some] at hrr;have hveq:=veq_17 (rmOf b 40 1 t.m) t.acts t.comps t.ligs;have hn11:=fun H' => ζrc k ids (by omega) H';have hrun:=fun H' => ζt6 k hcb (by omega) (by omega:(1:Int) ≤ 40 ∧ (40:Int) ≤ 65535) t hok (ζpt h) (newG ids) (by rw [newG_len]; omega) H';have g:=g.setBlk 2 rfl ⟨r17C (rmOf b 40 1 t.m) t.acts t.comps t.ligs,1,false⟩;simp only [List.set_cons_zero,List.set_cons_succ] at g;have hgs:∀ (kk:Blk) d,(H5.set H1.n (some kk)).get d = if d = H1.n then some kk else H5.get d:=fun kk d => Heap.get_set q6 _ _
  have hlen:=runL_len t hok.m (newG ids);rw [newG_len] at hlen;generalize runL t (newG ids) = rr at e5 g hrun hlen;have a1:=ζm5 k hk6 g 3 rfl (by omega);have hsame:=fun H' => Same_run k (Rd.lv encG_len H' rr.1) (Rd.lv encG_len H' rr.1) (by omega) (by omega);refine nrm_gc ⟨_,?_,g.ext⟩ (.bool _);simp -implicitDefEqProofs (disch:=omega) [ζr,hs,hsm,w1,hrd,hlk,hln,e2,ζ9b,e4,e5,q5,hw2,hrr,q6,q6s,hgs,hn11,hrun,a1,hsame,hveq]
theorem ζmj (vs:List Value) (h:ArgsLay [lplSh,.one (.slice [.int .i64])] vs):∃ H',R (T F.ζ2g) F.ζr vs Heap.empty = .ok (.bool true) H':=by
 obtain ⟨v1,_,rfl,h1,h⟩:=h.head;obtain ⟨v2,_,rfl,h2,h⟩:=h.head;obtain rfl:=h.done;obtain ⟨x,rfl,hx⟩:=arg_lpl h1;obtain ⟨ids,rfl,_⟩:=arg_I h2;exact ⟨_,ζnu x hx ids⟩
end Go.Sw
end
section
namespace Go.Sw
open Go.RowKit Go.Proofs Go.Shelf
attribute [local go_sem] Oper.semAt_some
end Go.Sw
end
section
namespace Go.Sw
open Go.RowKit
theorem names_ok:NamesOk Prog:=NamesOk.of (by kernel_rfl)
theorem mixed_ok:Prog.follows .mixedOrders = true:=Checked.mixed Go.Proofs.Try.checked
theorem laid_ok:laidOutB Prog = true:=by kernel_rfl
theorem ζmn:SpIs Prog F.ζ8 fun _ args H => cloneV 2 16 args H :=
 clone_is (c:={ P:=Prog,kp:=kpS,sp:=fun _ => none }) (fun _ _ => rfl) names_ok mixed_ok (t:=22) (e:=57) (by kernel_rfl) fun call a H => (ζ40 0 _ call a H).trans (by
  unfold ζ8 cloneF;simp only [be_22_0,ap_22,beR_bare])
theorem ζmo:SpIs Prog F.ζo fun _ args H => cloneV 3 12 args H :=
 clone_is (c:={ P:=Prog,kp:=kpS,sp:=fun _ => none }) (fun _ _ => rfl) names_ok mixed_ok (t:=98) (e:=137) (by kernel_rfl) fun call a H => (ζ41 0 _ call a H).trans (by
  unfold ζo cloneF;simp only [be_98_0,ap_98,beR_bare])
theorem ζnw:SpIs Prog F.ζp fun _ args H => cloneV 2 40 args H :=
 clone_is (c:={ P:=Prog,kp:=kpS,sp:=fun _ => none }) (fun _ _ => rfl) names_ok mixed_ok (t:=142) (e:=140) (by kernel_rfl) fun call a H => (ζ42 0 _ call a H).trans (by
  unfold ζp cloneF;simp only [be_142_0,ap_142,beR_bare])
theorem more_is (f:FuncId) (s:Sp) (h:moreS f = some s):SpIs Prog f s:=by
 unfold moreS at h;cases h4:Nat.beq f 4 with
 | true => have:=Nat.eq_of_beq_eq_true h4; subst this; rw [h4,cond_true] at h; injection h with h; subst h; exact SpIs.stuck _ _
 | false =>
 rw [h4,cond_false] at h;cases h7:Nat.beq f 7 with
 | true => have:=Nat.eq_of_beq_eq_true h7; subst this; rw [h7,cond_true] at h; injection h with h; subst h; exact SpIs.stuck _ _
 | false =>
 rw [h7,cond_false] at h;cases h40:Nat.beq f 40 with
 | true => have:=Nat.eq_of_beq_eq_true h40; subst this; rw [h40,cond_true] at h; injection h with h; subst h; exact try_is
 | false =>
 rw [h40,cond_false] at h;cases h42:Nat.beq f 42 with
 | true => have:=Nat.eq_of_beq_eq_true h42; subst this; rw [h42,cond_true] at h; injection h with h; subst h; exact SpIs.stuck _ _
 | false =>
 rw [h42,cond_false] at h;cases h71:Nat.beq f 71 with
 | true => have:=Nat.eq_of_beq_eq_true h71; subst this; rw [h71,cond_true] at h; injection h with h; subst h; exact ζmn
 | false =>
 rw [h71,cond_false] at h;cases h73:Nat.beq f 73 with
 | true => have:=Nat.eq_of_beq_eq_true h73; subst this; rw [h73,cond_true] at h; injection h with h; subst h; exact SpIs.stuck _ _
 | false =>
 rw [h73,cond_false] at h;cases h75:Nat.beq f 75 with
 | true => have:=Nat.eq_of_beq_eq_true h75; subst this; rw [h75,cond_true] at h; injection h with h; subst h; exact SpIs.stuck _ _
 | false =>
 rw [h75,cond_false] at h;cases h115:Nat.beq f 115 with
 | true => have:=Nat.eq_of_beq_eq_true h115; subst this; rw [h115,cond_true] at h; injection h with h; subst h; exact ζmo
 | false =>
 rw [h115,cond_false] at h;cases h134:Nat.beq f 134 with
 | true => have:=Nat.eq_of_beq_eq_true h134; subst this; rw [h134,cond_true] at h; injection h with h; subst h; exact ζnw
 | false =>
 rw [h134,cond_false] at h;cases h
theorem T_prog (k:Nat):(T k).c.P = Prog:=by unfold T C; rfl
theorem told_ok {k m:Nat} (hsp:okTrue (run (baseCfg Prog kpS moreS) m (k % 1000000) [] Heap.empty) = true):SpOk (T k).c:=by
 have h0:CallOk Prog (run (baseCfg Prog kpS moreS) m):=run_ok (c:=baseCfg Prog kpS moreS) names_ok mixed_ok (SpOk.base more_is) m;have h1:SpOk (C k):=by
  unfold C;exact SpOk.of (P:=Prog) (kp:=kpS) (speaks:=speaksT) (more:=moreS) (k:=k % 1000000) h0 hsp more_is
 exact h1
end Go.Sw
end
