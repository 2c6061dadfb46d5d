/-
  Functions' forms, and what is proved of them, part 12.
-/
import Derived.Test.YtanfippcmdialaaSwW10
import Derived.Test.YtanfippcmdialaaSwW11
import Derived.Test.YtanfippcmdialaaSwCfg
import Derived.Test.YtanfippcmdialaaSwLib10
import Derived.RangeFuncKeeps
import Derived.RangeFuncLeaves
import Derived.Shelf.Abstract
import Derived.WalkKit
import Derived.OwnWalkIn
import Derived.TacticsInMore
import Derived.LoopNIn
import Derived.LoopIn
import Derived.Tactics
import Derived.Tactics2
import Derived.Defers
import Derived.Recover
import Derived.Laws.Pointers
import Derived.Laws.IdiomCopy
import Derived.Lib.Walk
import Derived.Lib.SliceRun
import Derived.Lib.JoinLaws
import Derived.Lib.AppendZeros
import Derived.Lib.AppendZerosOnto
import Derived.Lib.Overlaps
import Derived.Laws.Externs
import Derived.Laws.NewBlocks
import Derived.Deep.RegionLaw
import Derived.Test.YtanfippcmdialaaSwW4
import Derived.Test.YtanfippcmdialaaSwW8
import Derived.Test.YtanfippcmdialaaSwLib8
import Derived.Eval
set_option linter.unusedSimpArgs false
set_option linter.unusedVariables false
set_option linter.unusedSectionVars false
section
namespace Go.Sw
open Go.RowKit
structure BCase where
 p:Plan
 kind:Int
 acts:List Int
 pts:List (List (Int × Int))
 ids:List Int
structure BCase.ok (x:BCase):Prop where
 p:x.p.ok
 kind:0 ≤ x.kind ∧ x.kind < 256
 npts:x.pts.length < 2 ^ 63
 pts:∀ l,l ∈ x.pts → ∀ p,p ∈ l → (-32768 ≤ p.1 ∧ p.1 < 32768) ∧ (-32768 ≤ p.2 ∧ p.2 < 32768)
abbrev bcC (x:BCase):List Value:=[lv encB x.p.cls,lv encBR x.p.rows,lv encEn x.p.ents,.int .u8 x.p.wide,.int .u8 x.kind,lv enc16 x.acts,lv encPs x.pts,lv encI x.ids]
abbrev bcV (x:BCase):Value:=.agg (bcC x).toArray
structure BSmall (x:BCase):Prop where
 pts:∀ l,l ∈ x.pts → l.length ≤ 20
 cls:x.p.cls.length ≤ 40
 rows:x.p.rows.length ≤ 20
 ents:x.p.ents.length ≤ 40
 acts:x.acts.length ≤ 100
 ids:x.ids.length ≤ 60
 npts:x.pts.length ≤ 20
theorem ζks (k:Nat) (x:BCase) (hx:x.ok) (H:Heap):(BSmall x ∧ R (T k) F.ζh [bcV x] H = .ok (.bool true) H) ∨ R (T k) F.ζh [bcV x] H = .ok (.bool false) H:=by
 have hx1:Ext H (H.push ⟨bcC x,1,false⟩):=(Ext.refl H).push _;have hq:(H.push ⟨bcC x,1,false⟩).get H.n = some ⟨bcC x,1,false⟩:=ζb _ _ _ rfl;have hnp:=hx.npts
 obtain ⟨xx,e',H1,hr1,rfl,hQ⟩:=loop_up (body:=ζ4a k (R (T k))) x.pts.length
  (fun j e H' => e = [(1,ptrV H.n),(6,lv encPs x.pts),(7,.int .i64 x.pts.length),(8,.int .i64 j)] ∧ (∀ l,l ∈ x.pts.take j → l.length ≤ 20) ∧ H' = H.push ⟨bcC x,1,false⟩)
  (fun xx e H' => H' = H.push ⟨bcC x,1,false⟩ ∧ ((xx = .exit 0 ∧ (∀ l,l ∈ x.pts → l.length ≤ 20) ∧ ∃ z,e = [(1,ptrV H.n),(6,lv encPs x.pts),(7,.int .i64 x.pts.length),(8,z),(9,.bool false)]) ∨ (xx = .ret ∧ e = [(2,.bool false)])))
  (e0:=[(1,ptrV H.n),(6,lv encPs x.pts),(7,.int .i64 x.pts.length),(8,.int .i64 0)]) (H0:=H.push ⟨bcC x,1,false⟩) ⟨rfl,fun l h => (by cases h),rfl⟩ (by omega)
  (fun j e H' hj ⟨he,hall,hH⟩ => by
   subst he hH;have hjl:(j:Int) < x.pts.length:=by omega
   obtain ⟨l,hl⟩:∃ l,x.pts[j]? = some l:=⟨_,List.getElem?_eq_getElem hj⟩
   have i1:=fun H' => ixS_lvN ζn4 x.pts .i64 j l hl H';by_cases c:l.length > 20
   ·have c':(l.length:Int) > 20:=by omega
    refine .inr ⟨.ret,_,_,?_,by simp,rfl,.inr ⟨rfl,rfl⟩⟩;rw [ζ33];simp -implicitDefEqProofs (disch:=omega) [hjl,i1,c']
   ·have c':¬ (l.length:Int) > 20:=by omega
    refine .inl ⟨_,_,?_,rfl,fun y hy => ?_,rfl⟩
    ·rw [ζ33];simp -implicitDefEqProofs (disch:=omega) [hjl,i1,c']
    ·rw [ζ1o hl] at hy;rcases List.mem_append.1 hy with hy | hy
     ·exact hall y hy
     ·rw [List.mem_singleton.1 hy]; omega)
  (fun e H' ⟨he,hall,hH⟩ => by
   subst he hH;rw [List.take_length] at hall;refine ⟨.exit 0,_,_,?_,by simp,rfl,.inl ⟨rfl,hall,.int .i64 x.pts.length,rfl⟩⟩;rw [ζ33];simp -implicitDefEqProofs)
 rw [ζbo];rcases hQ with ⟨rfl,hall,z,rfl⟩ | ⟨rfl,rfl⟩
 rotate_left
 ·refine .inr (nrm_gc ⟨_,?_,hx1⟩ (.bool _));simp -implicitDefEqProofs (disch:=omega) [ζh,hr1,ζ9d]
 by_cases h1:x.p.cls.length ≤ 40;rotate_left
 ·refine .inr (nrm_gc ⟨_,?_,hx1⟩ (.bool _));have h1':¬ (x.p.cls.length:Int) ≤ 40:=by omega
  simp -implicitDefEqProofs [ζh,hr1,ζx,hq,h1']
 have h1':(x.p.cls.length:Int) ≤ 40:=by omega
 by_cases h2:x.p.rows.length ≤ 20;rotate_left
 ·refine .inr (nrm_gc ⟨_,?_,hx1⟩ (.bool _));have h2':¬ (x.p.rows.length:Int) ≤ 20:=by omega
  simp -implicitDefEqProofs [ζh,hr1,ζx,hq,h1',h2']
 have h2':(x.p.rows.length:Int) ≤ 20:=by omega
 by_cases h3:x.p.ents.length ≤ 40;rotate_left
 ·refine .inr (nrm_gc ⟨_,?_,hx1⟩ (.bool _));have h3':¬ (x.p.ents.length:Int) ≤ 40:=by omega
  simp -implicitDefEqProofs [ζh,hr1,ζx,hq,h1',h2',h3']
 have h3':(x.p.ents.length:Int) ≤ 40:=by omega
 by_cases h4:x.acts.length ≤ 100;rotate_left
 ·refine .inr (nrm_gc ⟨_,?_,hx1⟩ (.bool _));have h4':¬ (x.acts.length:Int) ≤ 100:=by omega
  simp -implicitDefEqProofs [ζh,hr1,ζx,hq,h1',h2',h3',h4']
 have h4':(x.acts.length:Int) ≤ 100:=by omega
 by_cases h5:x.ids.length ≤ 60;rotate_left
 ·refine .inr (nrm_gc ⟨_,?_,hx1⟩ (.bool _));have h5':¬ (x.ids.length:Int) ≤ 60:=by omega
  simp -implicitDefEqProofs [ζh,hr1,ζx,hq,h1',h2',h3',h4',h5']
 have h5':(x.ids.length:Int) ≤ 60:=by omega
 by_cases h6:x.pts.length ≤ 20;rotate_left
 ·refine .inr (nrm_gc ⟨_,?_,hx1⟩ (.bool _));have h6':¬ (x.pts.length:Int) ≤ 20:=by omega
  simp -implicitDefEqProofs [ζh,hr1,ζx,hq,h1',h2',h3',h4',h5',h6']
 have h6':(x.pts.length:Int) ≤ 20:=by omega
 refine .inl ⟨⟨hall,h1,h2,h3,h4,h5,h6⟩,nrm_gc ⟨_,?_,hx1⟩ (.bool _)⟩;simp -implicitDefEqProofs [ζh,hr1,ζx,hq,h1',h2',h3',h4',h5',h6']
theorem ζl5 {b:List Int} {g:Int} {t:BTab} (h:bindS b g = some t):machS b g 1 = some t.m:=by
 unfold bindS at h;obtain ⟨m,hm,h⟩:=Option.bind_eq_some_iff.1 h;obtain ⟨w,hw,h⟩:=Option.bind_eq_some_iff.1 h;split at h
 ·obtain ⟨a,ha,h⟩:=Option.bind_eq_some_iff.1 h;split at h
  ·injection h with h;subst h;exact hm
  ·cases h
 ·injection h with h;subst h;exact hm
set_option maxRecDepth 10000 in
theorem ζo7 (t:BTab) (ht:t.m.ok) (pg:Int → Int → Option (Int × Int)) (gl:List Gl) (l:List Pl):(runB t pg gl l).1.length = l.length:=by
 unfold runB runBr;exact runD_inv t.m ht (fun _:List Pl × Int => gl) (fun s i e => (doBi t pg gl s i e,i,i + 1)) (fun s:List Pl × Int => s.1.length = l.length) (fun s i e hs _ _ => by
  dsimp only;unfold doBi;rw [ζl4];exact hs) (2 * (gl.length:Int) + 128) (2 * gl.length + 128) ((l,-1),⟨0,0,0,0⟩) rfl (Int.le_refl _) (Int.le_refl _) (by have:=ht.two; dsimp only; omega)
def setF (e:En):En:=⟨e.next,andn e.flags,e.a,e.b⟩
set_option maxHeartbeats 4000000 in
theorem ζg9 (x:BCase) (hx:x.ok):R (T F.ζ22) F.ζd [bcV x] Heap.empty = .ok (.bool true) Heap.empty:=by
 generalize hk:F.ζ22 = k;have hs:=ζig k (by subst hk; rfl);have hW:ownW k = .no:=by subst hk; rfl
 have hk6:k < 1000000:=by subst hk; decide
 clear hk;rw [ζ9c];generalize Heap.empty = H;have hx1:Ext H (H.push ⟨bcC x,1,false⟩):=(Ext.refl H).push _;rcases ζks k x hx (H.push ⟨bcC x,1,false⟩) with ⟨c1,hsm⟩ | hsm;rotate_left
 ·refine nrm_gc ⟨_,?_,hx1⟩ (.bool _);simp -implicitDefEqProofs (disch:=omega) [ζd,hs,hsm]
 obtain ⟨c1,c2,c3,c4,c5,c6,c7⟩:=c1;have g:=(Star.nil H).push ⟨bcC x,1,false⟩;have g:=g.push ⟨[lv encB x.p.cls,lv encBR x.p.rows,lv encEn x.p.ents,.int .u8 x.p.wide,.int .u8 x.kind,lv enc16 x.acts],1,false⟩;have g:=g.more_row (Ext.refl _) (OwnO.bare encEn _ 4) (fun b hb => by cases hb);simp only [List.nil_append,List.cons_append,hn_push] at g;obtain ⟨s1,o1,H1,e1,g⟩:=g.append (bytes:=32) 2 ζ37 rfl (b:=lv encEn x.p.ents) (l2:=x.p.ents) rfl (lv_first ζ37 x.p.ents _) (by simp; omega) (by decide);simp only [List.nil_append,List.cons_append,List.set_cons_zero,List.set_cons_succ] at g;have b1:=g.get 0 rfl;obtain ⟨H2,e2,g,_⟩:=g.stCell 1 rfl 2 (g.row 2 rfl).storable (g.row 2 rfl).cells (by simp);simp only [List.set_cons_zero,List.set_cons_succ] at g;have b2:=g.get 1 rfl;have hln:∀ H',lnS s1 H' = .ok (.int .i64 x.p.ents.length) H':=(g.row 2 rfl).len;have han:=fun a H => andn_run 3 a H
 obtain ⟨xx,e',H3,hr3,rfl,rfl,g⟩:=loop_up (body:=ζ2r k (R (T k))) x.p.ents.length
  (fun j e H' => e = [(1,ptrV H.n),(3,ptrV (H.n + 1)),(32,.int .i64 x.p.ents.length),(33,.int .i64 j)] ∧ Star H H' [itBlk H.n ⟨bcC x,1,false⟩,itBlk (H.n + 1) ⟨[lv encB x.p.cls,lv encBR x.p.rows,s1,.int .u8 x.p.wide,.int .u8 x.kind,lv enc16 x.acts],1,false⟩,itRow o1 4 s1 encEn ((x.p.ents.take j).map setF ++ x.p.ents.drop j)])
  (fun xx e H' => xx = .exit 0 ∧ e = [(1,ptrV H.n),(3,ptrV (H.n + 1)),(32,.int .i64 x.p.ents.length),(33,.int .i64 x.p.ents.length),(34,.bool false)] ∧ Star H H' [itBlk H.n ⟨bcC x,1,false⟩,itBlk (H.n + 1) ⟨[lv encB x.p.cls,lv encBR x.p.rows,s1,.int .u8 x.p.wide,.int .u8 x.kind,lv enc16 x.acts],1,false⟩,itRow o1 4 s1 encEn (x.p.ents.map setF)])
  (e0:=[(1,ptrV H.n),(3,ptrV (H.n + 1)),(32,.int .i64 x.p.ents.length),(33,.int .i64 0)]) (H0:=H2) ⟨rfl,by simpa using g⟩ (by omega)
  (fun j e H' hj ⟨he,g⟩ => by
   subst he;have hlt:(j:Int) < x.p.ents.length:=by omega
   obtain ⟨y,hy⟩:∃ y,x.p.ents[j]? = some y:=⟨_,List.getElem?_eq_getElem hj⟩
   have hyj:=map_at (f:=setF) hy;have bq:=g.get 1 rfl;obtain ⟨c,hc,hgc,i2⟩:=g.ix 2 rfl .i64 j (by simp; omega);subst hc;have hld:=ld1_row ζ37 hgc (i:=j) (c:=1) (v:=.int .i64 y.flags) hyj (by decide) rfl;obtain ⟨H5,e5,g5,_⟩:=g.stRow 2 rfl ζ37 (j:=j) (c:=1) (n:=1) (setF y) (v:=.int .i64 (andn y.flags)) hyj rfl rfl (by decide) rfl;simp only [List.set_cons_zero,List.set_cons_succ] at g5;rw [map_step hy] at g5;refine .inl ⟨_,H5,?_,rfl,g5⟩;rw [ζ3f];simp -implicitDefEqProofs (disch:=omega) [-stR_ptr,-ld1_ptr,ld1_ptr (H.n + 1) 2,hlt,bq,i2,hld,han,e5])
  (fun e H' ⟨he,g⟩ => by
   subst he;rw [List.take_length,List.drop_length,List.append_nil] at g;refine ⟨.exit 0,_,H',?_,by simp,rfl,rfl,g⟩;rw [ζ3f];simp -implicitDefEqProofs)
 obtain ⟨p2,hp2⟩:∃ p2:Plan,p2 = ⟨x.p.cls,x.p.rows,x.p.ents.map setF,x.p.wide⟩:=⟨_,rfl⟩
 have z1:p2.cls = x.p.cls:=by rw [hp2]
 have z2:p2.rows = x.p.rows:=by rw [hp2]
 have z3:p2.ents = x.p.ents.map setF:=by rw [hp2]
 have z4:p2.wide = x.p.wide:=by rw [hp2]
 have z5:p2.ok:=by rw [hp2]; exact hx.p
 have z6:p2.ents.length = x.p.ents.length:=by rw [z3]; simp
 have hrow:Sl H3 4 s1 encEn p2.ents:=by rw [z3]; exact (g.row 2 rfl).sl ζ37
 have b3:=g.get 1 rfl;have hw:R (T k) F.ζ11 [.agg #[lv encB x.p.cls,lv encBR x.p.rows,s1,.int .u8 x.p.wide,.int .u8 x.kind,lv enc16 x.acts]] H3 = .ok (lv encB (roomB p2 1 (kb x.kind) (x.acts.map m16))) H3:=by
  have:=ζml k hk6 hW p2 z5 (by rw [z1]; omega) (by rw [z2]; omega) (by omega) (PlanSl.lv H3 p2 hrow) hx.kind (Sl.lv H3 1 x.acts) (by omega);rw [z1,z2,z4] at this;exact this
 have hcb:Byt (roomB p2 1 (kb x.kind) (x.acts.map m16)):=ζnz z5 _ _ _;have hcl:=ζo0 z5 1 (kb x.kind) (l:=x.acts.map m16) (by rw [z1]; omega) (by rw [z2]; omega) (by omega) (by rw [List.length_map]; omega);have hent:=fun (m:Mach) (h:machS (roomB p2 1 (kb x.kind) (x.acts.map m16)) 40 1 = some m) hn e he => ζlx (p:=p2) z5 (w:=1) (.inr (.inl rfl)) (rm:=bytesOf (kb x.kind + (planRoom p2 1 (List.replicate 4 0)).length:Int) 4) (more:=twos (x.acts.map m16)) (by rw [ζ2o]; omega) (by rw [z1]; omega) (by rw [z2]; omega) h hn (e:=e) he;generalize roomB p2 1 (kb x.kind) (x.acts.map m16) = b at hw hcb hcl hent;have hrd:=fun H' => ζi2 k (H:=H') (Sl.lv H' 1 b) hcb 40 (by omega) (fun _ H' => ζi3 k hk6 b hcb 40 (by omega) (by omega) H');unfold bindO bindN at hrd;rw [if_pos (by omega),if_pos (by omega)] at hrd;obtain ⟨r,kd,rl,hrr,hrs⟩:=ζhd k b hcb 40 (by omega) (by omega) H3;have hnn:¬ H.n + 1 = H3.n:=by have:=Heap.get_lt b3; omega
 have b4':=g.get 0 rfl;have hnn0:¬ H.n = H3.n:=by have:=Heap.get_lt b4'; omega
 cases h:bindS b 40 with
 | none =>
  rw [h] at hrd hrr;simp only [bindP,Option.isSome_none,Bool.false_eq_true,if_false] at hrd hrr;refine nrm_gc ⟨_,?_,g.ext.push ⟨r25C r kd rl,1,false⟩⟩ (.bool _);simp -implicitDefEqProofs (disch:=omega) [-stR_ptr,stR_ptr 6 (H.n + 1) 0,stR_ptr 11 H3.n 0,ζd,hs,hsm,e1,b1,e2,b2,hln,hr3,ζ13,b3,hw,hrd,hrr]
 | some t =>
  obtain ⟨hr2,_,_⟩:=hrs t h;rw [h] at hrd hrr;simp only [bindP,Option.isSome_some,if_true] at hrd hrr;have hok:=bindS_ok hcb (by omega) (by omega) (by omega) h;have hrn:r.n = t.m.ents.length:=by rw [hr2]; rfl
  have gP:=g.push ⟨r25C r kd rl,1,false⟩;simp only [List.cons_append,List.nil_append] at gP;have b4:=gP.get 1 rfl;have b5:=gP.get 0 rfl;by_cases d1:r.n > x.p.ents.length
  ·refine nrm_gc ⟨_,?_,gP.ext⟩ (.bool _);simp -implicitDefEqProofs (disch:=omega) [-stR_ptr,stR_ptr 6 (H.n + 1) 0,stR_ptr 11 H3.n 0,ζd,hs,hsm,e1,b1,e2,b2,hln,hr3,ζ13,b3,hw,hrd,hrr,b4,b5,hnn,hnn0,d1]
  by_cases d2:r.states > x.p.rows.length
  ·refine nrm_gc ⟨_,?_,gP.ext⟩ (.bool _);simp -implicitDefEqProofs (disch:=omega) [-stR_ptr,stR_ptr 6 (H.n + 1) 0,stR_ptr 11 H3.n 0,ζd,hs,hsm,e1,b1,e2,b2,hln,hr3,ζ13,b3,hw,hrd,hrr,b4,b5,hnn,hnn0,d1,d2]
  by_cases d3:x.ids = []
  ·refine nrm_gc ⟨_,?_,gP.ext⟩ (.bool _);have d3':((x.ids.length:Int) == 0) = true:=by rw [d3]; rfl
   simp -implicitDefEqProofs (disch:=omega) [-stR_ptr,stR_ptr 6 (H.n + 1) 0,stR_ptr 11 H3.n 0,ζd,hs,hsm,e1,b1,e2,b2,hln,hr3,ζ13,b3,hw,hrd,hrr,b4,b5,hnn,hnn0,d1,d2,d3']
  have hpos:0 < x.ids.length:=List.length_pos_iff.2 d3;have d3':((x.ids.length:Int) == 0) = false:=by rw [beq_eq_false_iff_ne]; omega
  have hl30:∀ l,l ∈ x.pts → l.length ≤ 30:=fun l hl => by have:=c1 l hl; omega
  have hw24:=fun H' => ζmk k hk6 (ptsSl_lv H' x.pts) (by omega) hl30;obtain ⟨_,_,_,_,_,p6⟩:=ζcu x.pts (by omega);have hdl:=ζan x.pts hl30;have hol:(ofS (aoffs x.pts)).length = 6 + x.pts.length * 2:=by unfold ofS; simp [twos_len,ζ4s]; omega
  have hrd24:=fun H' => ζhu k (H:=H') (Sl.lv H' 1 (ankB x.pts)) (ankB_byt x.pts) 40 (by omega) (fun _ H' => ζhv k _ (ankB_byt x.pts) 40 (by omega) (by omega) H');unfold ankrO ankrN at hrd24;rw [if_pos (by omega),if_pos (by omega),ζil x.pts (by omega) hl30] at hrd24;simp only [ankrP,Option.isSome_some,if_true] at hrd24;have hta:=tabA_ok x.pts (by omega) hl30;have hno:∀ e,e ∈ t.m.ents → ¬ e.flags / 16384 % 2 = 1:=fun e he => by
   obtain ⟨q,hq,rfl⟩:=hent t.m (ζl5 h) (by omega) e he;rw [z3] at hq;obtain ⟨y,_,rfl⟩:=List.mem_map.1 hq;exact andn_bit y.flags
  have hfirst:=ζl6 t hok.m hno (getA (tabA x.pts)) (newG x.ids) (newPl (List.replicate x.ids.length 0)) ⟨0,0,0⟩ (by
   unfold newPl;rw [List.getElem?_map,List.getElem?_replicate,if_pos hpos];rfl)
  have hlen:(runB t (getA (tabA x.pts)) (newG x.ids) (newPl (List.replicate x.ids.length 0))).1.length = x.ids.length:=by
   rw [ζo7 t hok.m,ζnl,List.length_replicate]
  have g:=gP.push ⟨repeatCells [Value.int .i64 0] x.ids.length,1,false⟩;simp only [List.nil_append,List.cons_append] at g;have hmk:=fun (h:Heap) => mkR_nat 1 8 [Value.int .i64 0] .i64 .i64 x.ids.length h (by omega) (by decide);have hz:=ζnn (g.get 4 rfl);obtain ⟨o5,H5,e5,g⟩:=ζg0 k g 1 (List.replicate x.ids.length 0) (by simp; omega) hz;simp only [List.nil_append,List.cons_append,hn_push] at g e5;have b6:=g.get 0 rfl;obtain ⟨c,o6,H6,e6,g⟩:=ζi7 k g x.ids (by omega);simp only [List.nil_append,List.cons_append] at g;obtain ⟨H7,e7,g,_⟩:=ζgn k t hok g 6 5 (by decide) rfl rfl (pgA_ok (tabA x.pts) hta.byt) (fun H' _ _ _ => pgA_at k (tabA x.pts) hta H') rfl rfl (by rw [newG_len]; omega) (newPl_ok _);simp only [List.set_cons_zero,List.set_cons_succ] at g;generalize runB t (getA (tabA x.pts)) (newG x.ids) (newPl (List.replicate x.ids.length 0)) = rr at e7 g hlen hfirst;have b7:=g.get 0 rfl;have hall:=ζib k hk6 g 5 rfl (by omega);have hix:=fun H' => ixS_lv encP_len rr.1 .i64 0 _ (Int.le_refl _) hfirst H';refine nrm_gc ⟨H7,?_,g.ext⟩ (.bool _);simp -implicitDefEqProofs (disch:=omega) [-stR_ptr,stR_ptr 6 (H.n + 1) 0,stR_ptr 11 H3.n 0,ζd,hs,hsm,e1,b1,e2,b2,hln,hr3,ζ13,b3,hw,hrd,hrr,b4,b5,hnn,hnn0,d1,d2,d3',hw24,hrd24,hmk,e5,b6,e6,e7,b7,hall,hlen,hix]
abbrev bcSh:ASh:=.agg [.slice [.int .u8],.slice [.slice [.int .u8]],.slice [.int .i64,.int .i64,.int .i64,.int .i64],.int .u8,.int .u8,.slice [.int .i16],.slice [.slice [.int .i16,.int .i16]],.slice [.int .i64]]
theorem row_16b {r:List Da} {cs:List Value} (h:LayRow [.int .i16] r cs):∃ n:Int,cs = enc16 n ∧ True:=by
 obtain ⟨d,v,ds,vs,rfl,h1,h2⟩:=h.head;obtain rfl:=h2.done;obtain ⟨n,rfl,w⟩:=h1.intv;exact ⟨n,rfl,trivial⟩
theorem arg_bc {v:Value} (h:ArgLay bcSh v):∃ x,v = bcV x ∧ x.ok:=by
 cases h with
 | agg ss ds vs h =>
  obtain ⟨_,v1,_,_,rfl,h1,h⟩:=h.head;obtain ⟨_,v2,_,_,rfl,h2,h⟩:=h.head;obtain ⟨_,v3,_,_,rfl,h3,h⟩:=h.head;obtain ⟨_,v4,_,_,rfl,h4,h⟩:=h.head;obtain ⟨_,v5,_,_,rfl,h5,h⟩:=h.head;obtain ⟨_,v6,_,_,rfl,h6,h⟩:=h.head;obtain ⟨_,v7,_,_,rfl,h7,h⟩:=h.head;obtain ⟨_,v8,_,_,rfl,h8,h⟩:=h.head;obtain rfl:=h.done;obtain ⟨a,rfl,wa⟩:=Lay.list (enc:=encB) (ok:=fun n => 0 ≤ n ∧ n < 256) (fun r cs h => row_B h) h1;obtain ⟨b,rfl,wb⟩:=Lay.list (enc:=encBR) (ok:=Byt) (fun r cs h => row_BR h) h2;obtain ⟨c,rfl,wc⟩:=Lay.list (enc:=encEn) (ok:=fun _ => True) (fun r cs h => row_En h) h3;obtain ⟨d,rfl,wd⟩:=h4.intv;obtain ⟨kd,rfl,wk⟩:=h5.intv;obtain ⟨f,rfl,wf⟩:=Lay.list (enc:=enc16) (ok:=fun _ => True) (fun r cs h => row_16b h) h6;obtain ⟨ls,rfl,hlen,hl⟩:=Lay.listN (enc:=encPs) (ok:=fun l => ∀ p,p ∈ l → ((-32768 ≤ p.1 ∧ p.1 < 32768) ∧ (-32768 ≤ p.2 ∧ p.2 < 32768))) (fun r cs h => row_Ps h) h7;obtain ⟨ids,rfl,_⟩:=Lay.list (enc:=encI) (ok:=fun _ => True) (fun r cs h => by obtain ⟨n,e,_⟩:=row_I h; exact ⟨n,e,trivial⟩) h8;exact ⟨⟨⟨a,b,c,d⟩,kd,f,ls,ids⟩,rfl,⟨wa,wb,wf_u8 wd⟩,wf_u8 wk,hlen,hl⟩
theorem ζfe (vs:List Value) (h:ArgsLay [bcSh] vs):∃ H',R (T F.ζ22) F.ζd vs Heap.empty = .ok (.bool true) H':=by
 obtain ⟨v1,_,rfl,h1,h⟩:=h.head;obtain rfl:=h.done;obtain ⟨x,rfl,hx⟩:=arg_bc h1;exact ⟨_,ζg9 x hx⟩
end Go.Sw
end
section
namespace Go.Sw
open Go.RowKit Go.Proofs Go.Shelf
attribute [local go_sem] Oper.semAt_some
set_option maxRecDepth 100000 in
set_option maxHeartbeats 1000000 in
theorem it_at_in (W:World) (f l id x:Int) (blk off m cap:Nat) (hf:0 ≤ f) (hid:f ≤ id) (hil:id < 4294967296) (hm:0 < m) (hm2:m < 2 ^ 60)
  (hc:W.cell? ⟨blk,off + min (id - f).toNat (m - 1),none⟩ = some (.int .i64 x)) (hb:blk < W.heap.size) :
  CallsIn Fence.wide 1 Prog 81 #[.agg #[.int .i64 f,.int .i64 l,.slice (some ⟨blk,off,none⟩) m cap],.int .i64 id] W fun e W' => e = .returned (.int .i64 x) ∧ W' = W.alloc (.cells #[.int .i64 f,.int .i64 l,.slice (some ⟨blk,off,none⟩) m cap] 179):=by
 refine callsIn_of_wp Try.func81 rfl trivial ?_ rfl;simp only [Try.ntmps81,List.size_toArray,List.length_cons,List.length_nil,Nat.reduceAdd,Nat.reduceSub,Array.replicate_succ,Array.replicate_zero,List.push_toArray,List.append_toArray,List.nil_append,List.cons_append];have hw':W.cell? ⟨blk,off + (min (id - f) ((m:Int) - 1)).toNat,none⟩ = some (.int .i64 x):=by
  rw [← hc,show (min (id - f) ((m:Int) - 1)).toNat = min (id - f).toNat (m - 1) by omega]
 by_cases hlt:(m:Int) - 1 < id - f
 ·have hw:W.cell? ⟨blk,off + (m - 1),none⟩ = some (.int .i64 x):=by
   rw [← hc,show min (id - f).toNat (m - 1) = m - 1 by omega]
  gi_wp2
  go_ret
  exact ⟨rfl,rfl⟩
 ·have hw:W.cell? ⟨blk,off + (id - f).toNat,none⟩ = some (.int .i64 x):=by
   rw [← hc,show min (id - f).toNat (m - 1) = (id - f).toNat by omega]
  gi_wp2
  go_ret
  exact ⟨rfl,rfl⟩
structure Pa where
 f:Int
 l:Int
 m:Nat
 x:Nat → Int
def paN (p:Pa):Nat:=(p.l - p.f + 1).toNat
def PaZ (z:Nat → Option Obj) (cs:Array Value) (o:Nat) (p:Pa):Prop :=
 ∃ a cap,cs[o]? = some (.int .i64 p.f) ∧ cs[o + 1]? = some (.int .i64 p.l) ∧ cs[o + 2]? = some (.slice a p.m cap) ∧
  (0 < p.m → ∃ blk off ws el fz,a = some ⟨blk,off,none⟩ ∧ z blk = some (.cells ws el fz) ∧ ∀ j,j < paN p → ws[off + min j (p.m - 1)]? = some (.int .i64 (p.x j)))
def cntP (ps:List Pa):Nat:=(ps.map paN).sum
set_option maxRecDepth 100000 in
set_option maxHeartbeats 4000000 in
theorem ζng (z:Nat → Option Obj) (l0:Nat) (J:Nat → (Nat → Prop) → World → Prop) (Jx:World → Prop) (Jp:List PanicEntry → World → Prop) (ps:List Pa)
  (hal:∀ i T W o,J i T W → J i (fun k => T k ∨ k = W.heap.size) (W.alloc o))
  (htn:∀ i T W W',J i T W → W.heap.size = W'.heap.size → W'.os = W.os → W'.tape = W.tape → W'.output = W.output → (∀ k,¬ T k → W'.heap[k]? = W.heap[k]?) → J i T W')
  (hfz:∀ i T W,J i T W → ∀ k o,z k = some o → W.heap[k]? = some o)
  (hY:∀ (a:Nat) (p:Pa) (j:Nat) T W,ps[a]? = some p → j < paN p → J (cntP (ps.take a) + j) T W → YieldAt Fence.wide 0 Prog l0 #[.int .i64 (p.f + j),.int .i64 (p.x j)] W fun e W' =>
   (e = .returned (.bool true) ∧ J (cntP (ps.take a) + (j + 1)) T W' ∧ (∀ k,T k → W'.heap[k]? = W.heap[k]?) ∧ W.heap.size ≤ W'.heap.size) ∨ (e = .returned (.bool false) ∧ Jx W') ∨ ∃ ch,e = .panicked ch ∧ Jp ch W')
  (hok:∀ p,p ∈ ps → 0 ≤ p.f ∧ p.l < 4294967296 ∧ p.m < 2 ^ 60 ∧ (p.f ≤ p.l → 0 < p.m))
  (W:World) (h0:J 0 (fun _ => False) W) (BX bo tb toff:Nat) (hBX:W.cell? ⟨BX,bo,none⟩ = some (.pointer (some ⟨tb,toff,none⟩)))
  (tcs:Array Value) (tel:TypeId) (tfz:Nat × Nat) (htb:z tb = some (.cells tcs tel tfz)) (pa:Option Addr) (pcap:Nat) (htc:tcs[toff + 1]? = some (.slice pa ps.length pcap)) (hn:ps.length < 2 ^ 60)
  (hpa:ps ≠ [] → ∃ pb poff pcs pel pfz,pa = some ⟨pb,poff,none⟩ ∧ z pb = some (.cells pcs pel pfz) ∧ ∀ (a:Nat) p,ps[a]? = some p → PaZ z pcs (poff + a * 3) p) :
  CallsIn Fence.wide 3 Prog 80 #[.func (.yield l0) #[] #[],.pointer (some ⟨BX,bo,none⟩)] W fun e W' => ((∃ v,e = .returned v) ∧ ((∃ T,J (cntP ps) T W') ∨ Jx W')) ∨ ∃ ch,e = .panicked ch ∧ Jp ch W':=by
 have htW:=hfz _ _ _ h0 _ _ htb;have hT1:W.cell? ⟨tb,toff + 1,none⟩ = some (.slice pa ps.length pcap):=by simp only [World.cell?,htW,htc]; rfl
 refine callsIn_of_wp Try.func80 rfl trivial ?_ rfl;simp only [Try.ntmps80,List.size_toArray,List.length_cons,List.length_nil,Nat.reduceAdd,Nat.reduceSub,Array.replicate_succ,Array.replicate_zero,List.push_toArray,List.append_toArray,List.nil_append,List.cons_append]
 gi_wp2
 gi_loopw [11] (fun i wr => ∃ k:Nat,k ≤ ps.length ∧ i = .int .i64 k ∧ ∃ T,J (cntP (ps.take k)) T wr) (fun i _ => ps.length - (intOf i).toNat)
 case atStart => exact ⟨0,Nat.zero_le _,rfl,_,h0⟩
 case round =>
  obtain ⟨k,hk,rfl,T,hJ⟩:=hrel;by_cases hlt:k < ps.length
  ·obtain ⟨p,hp⟩:∃ p,ps[k]? = some p:=⟨_,List.getElem?_eq_getElem hlt⟩
   obtain ⟨pb,poff,pcs,pel,pfz,rfl,hzp,hPZ⟩:=hpa (fun e => by subst e; simp at hlt);obtain ⟨va,cap,c1,c2,c3,hv⟩:=hPZ k p hp;have hwp:=hfz _ _ _ hJ _ _ hzp;have d1:wr.cell? ⟨pb,poff + k * 3,none⟩ = some (.int .i64 p.f):=by simp only [World.cell?,hwp,c1]; rfl
   have d2:wr.cell? ⟨pb,poff + k * 3 + 1,none⟩ = some (.int .i64 p.l):=by simp only [World.cell?,hwp,c2]; rfl
   have d3:wr.cell? ⟨pb,poff + k * 3 + 2,none⟩ = some (.slice va p.m cap):=by simp only [World.cell?,hwp,c3]; rfl
   have hpo:=hok p (List.mem_of_getElem? hp);obtain ⟨w1,hw1⟩:∃ w1,w1 = wr:=⟨_,rfl⟩
   subst hw1
   gi_wp2
   gi_loopw [5] (fun i w2 => ∃ j:Nat,j ≤ paN p ∧ i = .int .i64 (p.f + j) ∧ ∃ T2,J (cntP (ps.take k) + j) T2 w2 ∧ T2 w1.heap.size ∧ w2.heap[w1.heap.size]? = some (.cells #[.int .i64 p.f,.int .i64 p.l,.slice va p.m cap] 179 (0,0)))
    (fun i _ => paN p - (intOf i - p.f).toNat)
   case atStart =>
    refine ⟨0,Nat.zero_le _,by simp,_,hal _ _ _ _ hJ,.inr rfl,ζ79 _ _⟩
   case round =>
    obtain ⟨j,hj,rfl,T2,hJ2,hT2,hbx⟩:=hrel;have b1:wr.cell? ⟨w1.heap.size,0,none⟩ = some (.int .i64 p.f):=by simp only [World.cell?,hbx]; rfl
    have b2:wr.cell? ⟨w1.heap.size,1,none⟩ = some (.int .i64 p.l):=by simp only [World.cell?,hbx]; rfl
    have b3:wr.cell? ⟨w1.heap.size,2,none⟩ = some (.slice va p.m cap):=by simp only [World.cell?,hbx]; rfl
    have hc0:wr.cell? ⟨w1.heap.size,0,none⟩ |>.isSome:=by rw [b1]; rfl
    by_cases hjl:j < paN p
    ·have hle:p.f ≤ p.l:=by unfold paN at hjl; omega
     have hjp:p.f + (j:Int) ≤ p.l:=by unfold paN at hjl; omega
     have hvl:=hpo.2.2.2 hle;obtain ⟨blk,off,ws,wel,wfz,rfl,hzw,hws⟩:=hv hvl;have hww:=hfz _ _ _ hJ2 _ _ hzw;have hval:wr.cell? ⟨blk,off + min (p.f + (j:Int) - p.f).toNat (p.m - 1),none⟩ = some (.int .i64 (p.x j)):=by
      rw [show (p.f + (j:Int) - p.f).toNat = j by omega];simp only [World.cell?,hww,hws j hjl]; rfl
     have hbl:blk < wr.heap.size:=(Array.getElem?_eq_some_iff.1 hww).1;have hat:=it_at_in wr p.f p.l (p.f + j) (p.x j) blk off p.m cap hpo.1 (by omega) (by omega) hvl hpo.2.2.1 hval hbl;have hJ3:=hal _ _ _ (.cells #[.int .i64 p.f,.int .i64 p.l,.slice (some ⟨blk,off,none⟩) p.m cap] 179) hJ2;obtain ⟨fn,tmps,assign,body,hy,hR⟩:=hY k p j _ _ hp hjl hJ3;have hf81:Fence.wide.fn 81:=trivial
     gi_wp2_with (gi_at_call 81; refine (callsIn_wide.2 (callsIn_wide.1 hat)).mono ?_; rintro e w' ⟨rfl,rfl⟩)
     refine (ζkn hR).mono ?_;rintro e w3 (⟨rfl,hJ4,hkeep,_⟩ | ⟨rfl,hx⟩ | ⟨ch,rfl,hpn⟩)
     ·have hbx3:w3.heap[w1.heap.size]? = some (.cells #[.int .i64 p.f,.int .i64 p.l,.slice (some ⟨blk,off,none⟩) p.m cap] 179 (0,0)) :=
       (hkeep _ (.inl hT2)).trans ((Below.heap_alloc wr _ _ (Array.getElem?_eq_some_iff.1 hbx).1).trans hbx)
      gi_wp2
      go_roundw
      ·exact ⟨j + 1,hjl,by congr 1; push_cast; omega,_,hJ4,.inl hT2,hbx3⟩
      ·simp [intOf]; omega
     ·gi_wp2
      refine bodyPost_ret (results_none rfl _ _ _) rfl ?_;exact .inl ⟨⟨_,rfl⟩,.inr hx⟩
     ·gi_wp2
      exact ⟨rfl,.inr ⟨_,rfl,hpn⟩⟩
    ·have hlj:p.l < p.f + (j:Int):=by unfold paN at hjl; omega
     gi_wp2
     obtain rfl:j = paN p:=by omega
     go_roundw
     ·refine ⟨k + 1,hlt,by simp,T2,?_⟩;have:cntP (ps.take (k + 1)) = cntP (ps.take k) + paN p:=by
       rw [List.take_add_one,hp]; simp [cntP]
      rw [this]; exact hJ2
     ·simp [intOf]; omega
  ·obtain rfl:k = ps.length:=by omega
   rw [List.take_length] at hJ
   gi_wp2
   go_end0
   exact .inl ⟨⟨_,rfl⟩,.inl ⟨T,hJ⟩⟩
def paL (p:Pa):List (List Int):=(List.range (paN p)).map fun j => [p.f + (j:Nat),p.x j]
theorem itm_some {α β:Type} {f:α → Option β} {g:α → β} (hg:∀ y z,f y = some z → z = g y):∀ {l:List α} {a:List β},l.mapM f = some a → a = l.map g ∧ ∀ y,y ∈ l → (f y).isSome = true
 | [],a,h => by simp at h; subst h; exact ⟨rfl,fun y hy => by cases hy⟩
 | y :: l,a,h => by
  rw [List.mapM_cons] at h;cases hy:f y with
  | none => rw [hy] at h; simp at h
  | some z =>
   cases hl:l.mapM f with
   | none => rw [hy,hl] at h; simp at h
   | some b =>
    rw [hy,hl] at h;obtain ⟨h1,h2⟩:=itm_some hg hl;have h:z :: b = a:=by simpa using h
    subst h;refine ⟨by rw [List.map_cons,← h1,hg _ _ hy],fun y' hy' => ?_⟩;rcases List.mem_cons.1 hy' with rfl | hm
    ·simp [hy]
    ·exact h2 _ hm
def itValX (vals:List Value) (j:Nat):Int:=match vals[min j (vals.length - 1)]? with | some (.int .i64 x) => x | _ => 0
theorem ζk8 {f l:Int} {vals:List Value} {a:List (List Int)} (h:partE f l vals = some a) :
  0 ≤ f ∧ l < 4294967296 ∧ vals.length < 2 ^ 60 ∧ a = paL ⟨f,l,vals.length,itValX vals⟩ ∧ ∀ j,j < (l - f + 1).toNat → vals[min j (vals.length - 1)]? = some (.int .i64 (itValX vals j)):=by
 unfold partE at h;split at h
 ·rename_i hc;obtain ⟨h1,h2⟩:=itm_some (g:=fun j => [f + (j:Nat),itValX vals j]) (fun y z hz => by
   unfold itValX;split at hz
   ·rename_i e; rw [e]; injection hz with hz; exact hz.symm
   ·cases hz) h
  refine ⟨hc.1,hc.2.1,hc.2.2,h1,fun j hj => ?_⟩;have:=h2 j (List.mem_range.2 hj);unfold itValX;split at this
  ·rename_i e; rw [e]
  ·cases this
 ·cases h
theorem ζk9 {μ:Mu} {cs:Array Value}:∀ (n:Nat) (vs:List Value) (L:List (List Int)) (o:Nat),partsE n vs = some L → o + vs.length ≤ cs.size → (∀ (i:Nat) v v',vs[i]? = some v → cs[o + i]? = some v' → VR μ v v') →
  ∃ pl:List Pa,pl.length = n ∧ (∀ p,p ∈ pl → 0 ≤ p.f ∧ p.l < 4294967296 ∧ p.m < 2 ^ 60 ∧ (p.f ≤ p.l → 0 < p.m)) ∧ (∀ (a:Nat) p,pl[a]? = some p → PaZ μ.z cs (o + a * 3) p) ∧ L = pl.flatMap paL:=by
 intro n
 induction n with
 | zero =>
  intro vs L o h _ _;cases vs with
  | nil => unfold partsE at h; injection h with h; subst h; exact ⟨[],rfl,fun p hp => (by cases hp),fun a p hp => (by cases hp),rfl⟩
  | cons v vs => unfold partsE at h; cases h
 | succ n ih =>
  intro vs L o h hs hv;unfold partsE at h;split at h
  ·rename_i e; cases e
  ·rename_i n' f l m pth g ws ys r e;injection e with e; subst e;cases hm:Nat.beq m ws.size with
   | false => rw [hm] at h; cases h
   | true =>
    rw [hm] at h;have hm:=Nat.eq_of_beq_eq_true hm;cases hp:partE f l ws.toList with
    | none => rw [hp] at h; cases h
    | some a =>
     cases hr:partsE n r with
     | none => rw [hp,hr] at h; cases h
     | some b =>
      rw [hp,hr] at h;have h:some (a ++ b) = some L:=h;injection h with h; subst h;simp only [List.length_cons] at hs;obtain ⟨pl,h1,h2,h3,h4⟩:=ih r b (o + 3) hr (by omega) fun i v v' hi hi' => hv (i + 3) v v' (by simpa using hi) (by rw [show o + (i + 3) = o + 3 + i by omega]; exact hi');obtain ⟨q1,q2,q3,q4,q5⟩:=ζk8 hp;have g0:∀ k,k < 3 → ∃ v',cs[o + k]? = some v':=fun k hk => ⟨_,Array.getElem?_eq_getElem (by omega)⟩
      obtain ⟨c0,e0⟩:=g0 0 (by omega);obtain ⟨c1,e1⟩:=g0 1 (by omega);obtain ⟨c2,e2⟩:=g0 2 (by omega);have r0:=hv 0 _ _ rfl e0;have r1:=hv 1 _ _ rfl e1;have r2:=hv 2 _ _ rfl e2;refine ⟨⟨f,l,ws.toList.length,itValX ws.toList⟩ :: pl,by simp [h1],fun p hp => ?_,fun a' p ha => ?_,?_⟩
      ·rcases List.mem_cons.1 hp with rfl | hp
       ·refine ⟨q1,q2,q3,fun hle => ?_⟩;have:=q5 0 (by have hle':f ≤ l:=hle; omega);rcases Nat.eq_zero_or_pos ws.toList.length with hz | hz
        ·rw [List.length_eq_zero_iff.1 hz] at this; cases this
        ·exact hz
       ·exact h2 p hp
      ·cases a' with
       | succ a' => rw [show o + (a' + 1) * 3 = o + 3 + a' * 3 by omega]; exact h3 a' p (by simpa using ha)
       | zero =>
        simp at ha; subst ha;cases r0; cases r1;cases r2 with
        | list _ _ _ _ _ blk off cap zcs el fz hz hl hc hg h0 hx =>
         refine ⟨some ⟨blk,off,none⟩,cap,by simpa using e0,by simpa using e1,by rw [Nat.zero_mul,Nat.add_zero,e2,hm],fun hpos => ⟨blk,off,zcs,el,fz,rfl,hz,fun j hj => ?_⟩⟩;have hj':=q5 j hj;have hlt:=(List.getElem?_eq_some_iff.1 hj').1;have hlt':min j (ws.toList.length - 1) < ws.size:=by simpa using hlt
         obtain ⟨v',hv'⟩:∃ v',zcs[off + min j (ws.toList.length - 1)]? = some v':=⟨_,Array.getElem?_eq_getElem (by omega)⟩
         have:=hx _ _ _ (by rw [← Array.getElem?_toList]; exact hj') hv';cases this;exact hv'
        | empty _ _ _ _ x cap hn hs' =>
         have hz:ws.toList.length = 0:=by rw [Array.length_toList]; exact hm.symm
         refine ⟨x,cap,by simpa using e0,by simpa using e1,by rw [Nat.zero_mul,Nat.add_zero,e2]; show some (Value.slice x 0 cap) = some (Value.slice x ws.toList.length cap); rw [hz],fun hpos => ?_⟩;simp only [hz] at hpos; omega
      ·rw [List.flatMap_cons,← h4,q4]
  ·cases h
theorem paL_len (p:Pa):(paL p).length = paN p:=by simp [paL]
theorem itf_len:∀ pl:List Pa,(pl.flatMap paL).length = cntP pl
 | [] => rfl
 | p :: pl => by simp [List.flatMap_cons,itf_len pl,paL_len,cntP]
theorem itf_at:∀ (pl:List Pa) (a:Nat) (p:Pa) (j:Nat),pl[a]? = some p → j < paN p → (pl.flatMap paL)[cntP (pl.take a) + j]? = some [p.f + (j:Nat),p.x j]
 | [],a,p,j,h,_ => by simp at h
 | q :: pl,0,p,j,h,hj => by
  simp at h; subst h;rw [List.flatMap_cons,List.getElem?_append_left (by simp [cntP,paL_len]; exact hj)];simp [paL,cntP,hj]
 | q :: pl,a + 1,p,j,h,hj => by
  have:=itf_at pl a p j (by simpa using h) hj;rw [List.flatMap_cons,List.getElem?_append_right (by simp [cntP,paL_len]; omega)];rw [← this]; congr 1;simp [cntP,paL_len]; omega
set_option maxRecDepth 100000 in
theorem it_is:ItOk Prog itS:=by
 intro v H L hL w0 μ w v' hH hV;unfold itS itAll at hL;split at hL;rotate_left
 ·cases hL
 rename_i f xs ys;cases hb:(Nat.beq f 80 && Nat.beq xs.size 0) with
 | false => rw [hb] at hL; cases hL
 | true =>
  rw [hb] at hL;obtain ⟨hb1,hb2⟩:=Bool.and_eq_true_iff.1 hb;have hb1:=Nat.eq_of_beq_eq_true hb1;have hb2:=Nat.eq_of_beq_eq_true hb2;subst hb1;simp only [cond_true] at hL;split at hL;rotate_left
  ·cases hL
  rename_i b hys;split at hL;rotate_left
  ·cases hL
  rename_i n0 p0 g0 ts ty0 ez ro hblk;split at hL;rotate_left
  ·cases hL
  rename_i t0 n p1 g1 ps ty1 hts;split at hL;rotate_left
  ·cases hL
  rename_i hn;cases hV with
  | func _ _ xs' _ ys' h1 h2 h3 h4 =>
   have hx':xs' = #[]:=by apply Array.eq_empty_of_size_eq_zero; omega
   subst hx';obtain ⟨y',r',hy',hyr,hr'⟩:=VRs.cons_inv (by rw [← hys]; exact VRs.of_arr h3 h4);have:=hr'.nil_inv; subst this;have hye:ys' = #[y']:=by apply Array.toList_inj.1; rw [hy']
   subst hye;cases hyr with
   | ptr _ _ m hm =>
    obtain ⟨v1,hc1,hr1,_⟩:=hH.cell hblk hm (off:=0) rfl;cases hr1 with
    | box _ _ _ _ _ tb toff tcs tel tfz hz hl h0 hx =>
     have htl:ts.size = 2:=by rw [← Array.length_toList,hts]; rfl
     obtain ⟨v2,hv2⟩:∃ v2,tcs[toff + 1]? = some v2:=⟨_,Array.getElem?_eq_getElem (by omega)⟩
     have hr2:=hx 1 _ _ (by rw [← Array.getElem?_toList,hts]; rfl) hv2
     have key:∃ (pl:List Pa) (pa:Option Addr) (pcap:Nat),L = pl.flatMap paL ∧ (∀ p,p ∈ pl → 0 ≤ p.f ∧ p.l < 4294967296 ∧ p.m < 2 ^ 60 ∧ (p.f ≤ p.l → 0 < p.m)) ∧ pl.length = n ∧ v2 = .slice pa pl.length pcap ∧
       (pl ≠ [] → ∃ pb poff pcs pel pfz,pa = some ⟨pb,poff,none⟩ ∧ μ.z pb = some (.cells pcs pel pfz) ∧ ∀ (a:Nat) p,pl[a]? = some p → PaZ μ.z pcs (poff + a * 3) p):=by
      cases hr2 with
      | list _ _ _ _ _ pb poff pcap pcs pel pfz hz2 hl2 hc2 hg2 h02 hx2 =>
       obtain ⟨pl,e1,e2,e3,e4⟩:=ζk9 (μ:=μ) (cs:=pcs) n ps.toList L poff hL (by simpa using hl2) fun i v v' hi hi' => hx2 i v v' (by rw [← Array.getElem?_toList]; exact hi) hi';exact ⟨pl,_,pcap,e4,e2,e1,by rw [e1],fun _ => ⟨pb,poff,pcs,pel,pfz,rfl,hz2,e3⟩⟩
      | empty _ _ _ _ x pcap hn2 hs2 =>
       generalize ps.toList = psl at hL;cases psl with
       | nil =>
        unfold partsE at hL; injection hL with hL; subst hL;exact ⟨[],x,pcap,rfl,fun p hp => (by cases hp),rfl,rfl,fun h => (h rfl).elim⟩
       | cons a r => unfold partsE at hL; cases hL
     obtain ⟨pl,pa,pcap,rfl,hok,hlen,rfl,hpa⟩:=key;refine ⟨80,#[.pointer (some ⟨m.blk,m.base + 0,none⟩)],rfl,⟨Try.f80,Try.func80,rfl,by decide⟩,fun l0 J Jx Jp hal htn hfz hY h0J => ?_⟩;have:=ζng μ.z l0 J Jx Jp pl hal htn hfz (fun a p j T W hp hj hJ => hY _ T W _ hJ (itf_at pl a p j hp hj)) hok w h0J m.blk (m.base + 0) tb toff hc1 tcs tel tfz hz pa pcap hv2 (by rw [hlen]; exact hn) hpa;rw [itf_len];exact callsIn_wide.1 this
end Go.Sw
end
section
namespace Go.Sw
open Go.RowKit
theorem names_ok:NamesOk Prog:=NamesOk.of (by kernel_rfl)
theorem mixed_ok:Prog.follows .mixedOrders = true:=Checked.mixed Go.Proofs.Try.checked
theorem laid_ok:laidOutB Prog = true:=by kernel_rfl
theorem ζgq:SpIs Prog F.ζk fun _ args H => cloneV 2 16 args H :=
 clone_is (c:={ P:=Prog,kp:=kpS,sp:=fun _ => none }) (fun _ _ => rfl) names_ok mixed_ok (t:=22) (e:=57) (by kernel_rfl) fun call a H => (ζ30 0 _ call a H).trans (by
  unfold ζk cloneF;simp only [be_22_0,ap_22,beR_bare])
theorem ζgr:SpIs Prog F.ζc fun _ args H => cloneV 3 12 args H :=
 clone_is (c:={ P:=Prog,kp:=kpS,sp:=fun _ => none }) (fun _ _ => rfl) names_ok mixed_ok (t:=98) (e:=137) (by kernel_rfl) fun call a H => (ζ31 0 _ call a H).trans (by
  unfold ζc cloneF;simp only [be_98_0,ap_98,beR_bare])
theorem ζi6:SpIs Prog F.ζl fun _ args H => cloneV 2 40 args H :=
 clone_is (c:={ P:=Prog,kp:=kpS,sp:=fun _ => none }) (fun _ _ => rfl) names_ok mixed_ok (t:=142) (e:=140) (by kernel_rfl) fun call a H => (ζ32 0 _ call a H).trans (by
  unfold ζl cloneF;simp only [be_142_0,ap_142,beR_bare])
theorem more_is (f:FuncId) (s:Sp) (h:moreS f = some s):SpIs Prog f s:=by
 unfold moreS at h;cases h4:Nat.beq f 4 with
 | true => have:=Nat.eq_of_beq_eq_true h4; subst this; rw [h4,cond_true] at h; injection h with h; subst h; exact SpIs.stuck _ _
 | false =>
 rw [h4,cond_false] at h;cases h7:Nat.beq f 7 with
 | true => have:=Nat.eq_of_beq_eq_true h7; subst this; rw [h7,cond_true] at h; injection h with h; subst h; exact SpIs.stuck _ _
 | false =>
 rw [h7,cond_false] at h;cases h40:Nat.beq f 40 with
 | true => have:=Nat.eq_of_beq_eq_true h40; subst this; rw [h40,cond_true] at h; injection h with h; subst h; exact try_is
 | false =>
 rw [h40,cond_false] at h;cases h42:Nat.beq f 42 with
 | true => have:=Nat.eq_of_beq_eq_true h42; subst this; rw [h42,cond_true] at h; injection h with h; subst h; exact ζnx (c:={ P:=Prog,kp:=kpS,sp:=fun _ => none,it:=itS }) names_ok mixed_ok it_is (by kernel_rfl)
 | false =>
 rw [h42,cond_false] at h;cases h71:Nat.beq f 71 with
 | true => have:=Nat.eq_of_beq_eq_true h71; subst this; rw [h71,cond_true] at h; injection h with h; subst h; exact ζgq
 | false =>
 rw [h71,cond_false] at h;cases h73:Nat.beq f 73 with
 | true => have:=Nat.eq_of_beq_eq_true h73; subst this; rw [h73,cond_true] at h; injection h with h; subst h; exact SpIs.stuck _ _
 | false =>
 rw [h73,cond_false] at h;cases h75:Nat.beq f 75 with
 | true => have:=Nat.eq_of_beq_eq_true h75; subst this; rw [h75,cond_true] at h; injection h with h; subst h; exact SpIs.stuck _ _
 | false =>
 rw [h75,cond_false] at h;cases h115:Nat.beq f 115 with
 | true => have:=Nat.eq_of_beq_eq_true h115; subst this; rw [h115,cond_true] at h; injection h with h; subst h; exact ζgr
 | false =>
 rw [h115,cond_false] at h;cases h134:Nat.beq f 134 with
 | true => have:=Nat.eq_of_beq_eq_true h134; subst this; rw [h134,cond_true] at h; injection h with h; subst h; exact ζi6
 | false =>
 rw [h134,cond_false] at h;cases h
theorem T_prog (k:Nat):(T k).c.P = Prog:=by unfold T C; rfl
theorem told_ok {k m:Nat} (hsp:okTrue (run (baseCfg Prog kpS moreS) m (k % 1000000) [] Heap.empty) = true):SpOk (T k).c:=by
 have h0:CallOk Prog (run (baseCfg Prog kpS moreS) m):=run_ok (c:=baseCfg Prog kpS moreS) names_ok mixed_ok (SpOk.base more_is) m;have h1:SpOk (C k):=by
  unfold C;exact SpOk.of (P:=Prog) (kp:=kpS) (speaks:=speaksT) (more:=moreS) (k:=k % 1000000) h0 hsp more_is
 exact h1
end Go.Sw
end
