/-
  Functions' forms, and what is proved of them, part 7.
-/
import Derived.Test.YtanfippcmdialaaSwW3
import Derived.Test.YtanfippcmdialaaSwW6
import Derived.Test.YtanfippcmdialaaSwW5
set_option linter.unusedSimpArgs false
set_option linter.unusedVariables false
set_option linter.unusedSectionVars false
section
namespace Go.Sw
open Go.RowKit
def cleanG (l:List Gl):List Gl:=l.filter fun g => decide (g.id ≠ 65535)
theorem ζgy (a b:List Gl):cleanG (a ++ b) = cleanG a ++ cleanG b:=List.filter_append ..
theorem ζp5 {l:List Gl} (h:∀ g,g ∈ l → g.id ≠ 65535):cleanG l = l:=List.filter_eq_self.2 fun g hg => decide_eq_true (h g hg)
abbrev delV:Value:=.func (.func F.ζ29) #[] #[]
theorem del1_run (k:Nat) (g:Gl) (H:Heap):R (T k) F.ζ29 [.agg (encG g).toArray] H = .ok (.bool (decide (g.id = 65535))) (H.push ⟨encG g,1,false⟩):=by
 rw [ζdx];refine nrm_of ?_;simp -implicitDefEqProofs [ζ29];rfl
theorem ζsi (k:Nat) {H:Heap} {o:Option Nat} {s:Value} {l:List Gl} (h:OwnO H o 2 s encG l) (hl:l.length < 2 ^ 31) :
  ∃ H',Ext H H' ∧ ((R (T k) F.ζ4 [s,delV] H = .ok (.int .i64 (-1)) H' ∧ ∀ g,g ∈ l → g.id ≠ 65535) ∨
   ∃ j g,R (T k) F.ζ4 [s,delV] H = .ok (.int .i64 (j:Nat)) H' ∧ l[j]? = some g ∧ g.id = 65535 ∧ ∀ g,g ∈ l.take j → g.id ≠ 65535):=by
 rw [ζ42];have hlen:=h.len
 obtain ⟨x,e',H1,hr,hx,hq⟩:=loop_up (body:=ζ1g k (R (T k))) l.length
  (fun j e H' => e = [(0,s),(1,delV),(7,.int .i64 l.length),(8,.int .i64 j)] ∧ Ext H H' ∧ ∀ g,g ∈ l.take j → g.id ≠ 65535)
  (fun x e H' => Ext H H' ∧ ((x = .exit 0 ∧ e = [(0,s),(1,delV),(7,.int .i64 l.length),(8,.int .i64 l.length),(9,.bool false)] ∧ ∀ g,g ∈ l → g.id ≠ 65535) ∨
   (x = .ret ∧ ∃ j g,e = [(4,.int .i64 (j:Nat))] ∧ l[j]? = some g ∧ g.id = 65535 ∧ ∀ g,g ∈ l.take j → g.id ≠ 65535)))
  (e0:=[(0,s),(1,delV),(7,.int .i64 l.length),(8,.int .i64 0)]) (H0:=H) ⟨rfl,Ext.refl H,by simp⟩ (by omega)
  (fun j e H' hj ⟨he,hx,ha⟩ => by
   subst he;have hlt:(j:Int) < l.length:=by omega
   obtain ⟨g,hg⟩:∃ g,l[j]? = some g:=⟨_,List.getElem?_eq_getElem hj⟩
   obtain ⟨b,_,hs,hb,i1⟩:=h.ix .i64 j hj;have l1:=ldA_row encG_len (hx.get hb) hg;have hcv:∀ H2,callV (R (T k)) delV [.agg (encG g).toArray] H2 = .ok (.bool (decide (g.id = 65535))) (H2.push ⟨encG g,1,false⟩):=fun H2 => del1_run k g H2;by_cases hd:g.id = 65535
   ·refine .inr ⟨.ret,_,H'.push ⟨encG g,1,false⟩,?_,by simp,hx.push _,.inr ⟨rfl,j,g,rfl,hg,hd,ha⟩⟩;rw [decide_eq_true hd] at hcv;rw [ζ16];simp -implicitDefEqProofs (disch:=omega) [-ldA_ptr,hlt,i1,l1,hcv]
   ·refine .inl ⟨_,H'.push ⟨encG g,1,false⟩,?_,rfl,hx.push _,?_⟩
    ·rw [decide_eq_false hd] at hcv;rw [ζ16];simp -implicitDefEqProofs (disch:=omega) [-ldA_ptr,hlt,i1,l1,hcv]
    ·rw [ζ1x hg];intro z hz;rcases List.mem_append.1 hz with hz | hz
     ·exact ha z hz
     ·rw [List.mem_singleton.1 hz]; exact hd)
  (fun e H' ⟨he,hx,ha⟩ => by
   subst he;refine ⟨.exit 0,_,H',?_,by simp,hx,.inl ⟨rfl,rfl,by rwa [List.take_length] at ha⟩⟩;rw [ζ16];simp -implicitDefEqProofs)
 refine ⟨H1,hx,?_⟩;rcases hq with ⟨rfl,rfl,ha⟩ | ⟨rfl,j,g,rfl,hg,hd,ha⟩
 ·refine .inl ⟨nrm_of ?_,ha⟩;simp -implicitDefEqProofs [ζ4,hlen,hr,ζ3i]
 ·refine .inr ⟨j,g,nrm_of ?_,hg,hd,ha⟩;simp -implicitDefEqProofs [ζ4,hlen,hr,ζ3k]
theorem ζrg {H:Heap} {b p n:Nat} {cells:List Value} {l:List Gl} (hb:H.get b = some ⟨cells,2,false⟩) (hp:p ≤ n) (hn:n * 2 ≤ cells.length) (hl:cells.take (p * 2) = rows encG l) (hpl:l.length = p) :
  trimR 2 (.slice (some ⟨b,0,none⟩) p n) H = .ok (.slice (some ⟨H.n,0,none⟩) p p) ((H.set b none).push ⟨rows encG l,2,false⟩) ∧ OwnO ((H.set b none).push ⟨rows encG l,2,false⟩) (some H.n) 2 (.slice (some ⟨H.n,0,none⟩) p p) encG l:=by
 constructor
 ·unfold trimR;dsimp only;rw [hb];dsimp only;rw [if_pos ⟨rfl,rfl,hp,by omega⟩,List.drop_zero,hl,List.append_nil]
 ·exact .inr ⟨H.n,rfl,by rw [hpl],ζc _ _ _ (by simp)⟩
theorem clR_tail {H:Heap} {b p n:Nat} {r:List Gl} (hb:H.get b = some ⟨rows encG r,2,false⟩) (hp:p < n) (hn:r.length = n) :
  ∃ H' cells,clR [.int .i64 0,.int .i64 0] (.slice (some ⟨b,p * 2,none⟩) (n - p) (n - p)) H = .ok undef H' ∧ H'.get b = some ⟨cells,2,false⟩ ∧ cells.length = n * 2 ∧ cells.take (p * 2) = rows encG (r.take p) ∧ H'.n = H.n ∧ ∀ c,c ≠ b → H'.get c = H.get c:=by
 have hrl:(rows encG r).length = n * 2:=by rw [ζf encG_len,hn]
 have hz:∀ m,(repeatCells [Value.int .i64 0,Value.int .i64 0] m).length = m * 2:=fun m => by
  induction m with
  | zero => rfl
  | succ m ih => rw [repeatCells,List.length_append,ih]; simp; omega
 have hle:p * 2 + (repeatCells [Value.int .i64 0,Value.int .i64 0] (n - p)).length ≤ (rows encG r).length:=by rw [hz,hrl]; omega
 refine ⟨H.set b (some ⟨splice (rows encG r) (p * 2) (repeatCells [Value.int .i64 0,Value.int .i64 0] (n - p)),2,false⟩),_,?_,get_set_eq2 hb,?_,?_,Heap.n_set _ _ _,fun c hc => ζ24 _ _ _ _ hc⟩
 ·unfold clR;dsimp only;rw [if_neg (by omega),put_eq,hb];simp only [hle,true_and,if_true];rfl
 ·unfold splice;rw [List.length_append,List.length_append,List.length_take,List.length_drop,hz,hrl];omega
 ·unfold splice;rw [List.take_append_of_le_length (by rw [List.length_take,hrl]; omega),List.take_take,Nat.min_self,ζ7t encG_len]
where
 get_set_eq2 {H:Heap} {b:Nat} {k x:Blk} (hb:H.get b = some k):(H.set b (some x)).get b = some x:=by rw [Heap.get_set hb,if_pos rfl]
theorem List.ζp0 {α:Type} {r:List α} {p:Nat} (g:α) (h:p < r.length):(r.set p g).take (p + 1) = r.take p ++ [g]:=by
 rw [ζ1x (p:=g) (List.getElem?_set_self h),List.take_set_of_le (Nat.le_refl _)]
set_option maxHeartbeats 1000000 in
theorem ζrj (k:Nat) {H:Heap} {o:Option Nat} {s:Value} {l:List Gl} (h:OwnO H o 2 s encG l) (hl:l.length < 2 ^ 31) :
  ∃ s' o' H',R (T k) F.ζ2 [s,delV] H = .ok s' H' ∧ OwnO H' o' 2 s' encG (cleanG l) ∧ H.n ≤ H'.n ∧ (∀ c,c < H.n → o ≠ some c → H'.get c = H.get c) ∧ ∀ b,o' = some b → H.n ≤ b ∧ b < H'.n:=by
 have hR:∀ {v:Value} {H1 H2:Heap} {s':Value},ζ2 k (R (T k)) s delV H = .ok v H1 → trimR 2 v H1 = .ok s' H2 → R (T k) F.ζ2 [s,delV] H = .ok s' H2:=fun {v H1 H2 s'} e1 e2 =>
  (R_sp (t:=T k) (T_scott k) (s:=fun call args H => (bodyK { P:=Prog,kp:=kpS,sp:=fun _ => none } call F.ζ2 args H).bind (trimR 2)) (by kernel_rfl) [s,delV] H).trans (by
   show nrm (mdS k F.ζ2 H.n) H _ = _;rw [show mdS k F.ζ2 H.n = .no from by kernel_rfl];refine nrm_of ?_;show (bodyK { P:=Prog,kp:=kpS,sp:=fun _ => none } (R (T k)) F.ζ2 [s,delV] H).bind (trimR 2) = _;rw [ζ3j,e1];exact e2)
 obtain ⟨H1,x1,hi⟩:=ζsi k h hl;have h1:OwnO H1 o 2 s encG l:=h.up fun b hb => by rw [x1.2 b (h.lt b hb) (by simp)]
 have keep1:∀ c,c < H.n → H1.get c = H.get c:=fun c hc => x1.2 c hc (by simp);rcases hi with ⟨e1,ha⟩ | ⟨j0,g0,e1,hg0,hd0,ha⟩
 ·rw [ζp5 ha];have e2:ζ2 k (R (T k)) s delV H = .ok s H1:=by
   simp -implicitDefEqProofs [ζ2,e1]
  rcases h1 with ⟨rfl,rfl,hs⟩ | ⟨b,rfl,rfl,hb⟩
  ·refine ⟨s,none,H1,hR e2 ?_,.inl ⟨rfl,rfl,hs⟩,x1.1,fun c hc _ => keep1 c hc,fun b hb => by cases hb⟩;rcases hs with rfl | rfl | rfl <;> rfl
  ·have hrl:=ζf encG_len l;obtain ⟨t1,t2⟩:=ζrg (p:=l.length) (n:=l.length) (l:=l) hb (Nat.le_refl _) (by omega) (List.take_of_length_le (by omega)) rfl;refine ⟨_,_,_,hR e2 t1,t2,by simp; have:=x1.1; omega,fun c hc hne => ?_,fun c hc => by injection hc with hc; subst hc; simp; exact x1.1⟩;rw [ζ13 _ _ _ (by simp; have:=x1.1; omega),ζ24 _ _ _ _ (fun e => hne (by rw [e]))];exact keep1 c hc
 ·have hj0:=(List.getElem?_eq_some_iff.1 hg0).1;obtain ⟨b,rfl,rfl,hb⟩:=h1.full (fun e => by subst e; simp at hj0);have hbn:b < H.n:=h.lt b rfl;have hx1:=x1.1;have c0:cleanG (l.take (j0 + 1)) = l.take j0:=by
   rw [ζ1x hg0,ζgy,ζp5 ha];unfold cleanG;simp [hd0]
  have e3:=fun (H':Heap) (i:Nat) (hi:i < l.length) => ζgp 2 b 0 l.length l.length .i64 i H' hi
  obtain ⟨x,e',H2,hr,rfl,p,v,rfl,r,hp,hrl,hrt,hrb,hn2,hk2⟩:=loop_up (body:=ζ1a k (R (T k))) (l.length - (j0 + 1))
   (fun t e H' => ∃ p,e = [(0,.slice (some ⟨b,0,none⟩) l.length l.length),(1,delV),(5,.int .i64 (p:Nat)),(6,.int .i64 (j0 + 1 + t:Nat))] ∧ ∃ r:List Gl,p < j0 + 1 + t ∧ r.length = l.length ∧ r.take p = cleanG (l.take (j0 + 1 + t)) ∧ r.drop (j0 + 1 + t) = l.drop (j0 + 1 + t) ∧ H'.get b = some ⟨rows encG r,2,false⟩ ∧ H1.n ≤ H'.n ∧ ∀ c,c < H1.n → c ≠ b → H'.get c = H1.get c)
   (fun x e H' => x = .exit 0 ∧ ∃ (p:Nat) (v:Value),e = [(0,.slice (some ⟨b,0,none⟩) l.length l.length),(1,delV),(5,.int .i64 (p:Nat)),(6,v),(19,.bool false)] ∧ ∃ r:List Gl,p < l.length ∧ r.length = l.length ∧ r.take p = cleanG l ∧ H'.get b = some ⟨rows encG r,2,false⟩ ∧ H1.n ≤ H'.n ∧ ∀ c,c < H1.n → c ≠ b → H'.get c = H1.get c)
   (e0:=[(0,.slice (some ⟨b,0,none⟩) l.length l.length),(1,delV),(5,.int .i64 (j0:Nat)),(6,.int .i64 (j0 + 1:Nat))]) (H0:=H1)
   ⟨j0,rfl,l,by omega,rfl,by rw [Nat.add_zero,c0],rfl,hb,Nat.le_refl _,fun _ _ _ => rfl⟩ (by omega)
   (fun t e H' ht ⟨p,he,r,hp,hrl,hrt,hrd,hrb,hn',hk'⟩ => by
    subst he;have hjl:j0 + 1 + t < l.length:=by omega
    obtain ⟨jj,hjj⟩:∃ jj,jj = j0 + 1 + t:=⟨_,rfl⟩
    rw [← hjj] at hp hrt hrd hjl ⊢;have hlt:(jj:Int) < l.length:=by omega
    obtain ⟨g,hg⟩:∃ g,l[jj]? = some g:=⟨_,List.getElem?_eq_getElem hjl⟩
    have hgr:r[jj]? = some g:=by
     have h2:(r.drop jj)[0]? = (l.drop jj)[0]?:=by rw [hrd]
     rw [List.getElem?_drop,List.getElem?_drop,Nat.add_zero,hg] at h2;exact h2
    have i1:=fun H' => e3 H' jj hjl;rw [show 0 + jj * 2 = jj * 2 by omega] at i1;have l1:=ldA_row encG_len hrb hgr;have hbn':¬ b = H'.n:=by have:=x1.1; omega
    have hcv:∀ H2,callV (R (T k)) delV [.agg (encG g).toArray] H2 = .ok (.bool (decide (g.id = 65535))) (H2.push ⟨encG g,1,false⟩):=fun H2 => del1_run k g H2;have hne1:¬ H'.n = H'.n + 1:=by omega
    have l2:ldA 2 (.pointer (some ⟨H'.n,0,none⟩)) (H'.push ⟨encG g,1,false⟩) = .ok (.agg (encG g).toArray) (H'.push ⟨encG g,1,false⟩):=by simp
    have l3:ldA 2 (.pointer (some ⟨H'.n,0,none⟩)) ((H'.push ⟨encG g,1,false⟩).push ⟨encG g,1,false⟩) = .ok (.agg (encG g).toArray) ((H'.push ⟨encG g,1,false⟩).push ⟨encG g,1,false⟩):=by simp [hne1]
    have s0:stR 2 (.pointer (some ⟨H'.n,0,none⟩)) (.agg (encG g).toArray) (H'.push ⟨[.int .i64 0,.int .i64 0],1,false⟩) = .ok undef (H'.push ⟨encG g,1,false⟩):=by simp
    have hj2:(jj:Int) + 1 = ((jj + 1:Nat):Int):=by omega
    have hjt:j0 + 1 + (t + 1) = jj + 1:=by omega
    by_cases hd:g.id = 65535
    ·rw [decide_eq_true hd] at hcv;refine .inl ⟨_,(H'.push ⟨encG g,1,false⟩).push ⟨encG g,1,false⟩,?_,p,rfl,r,by omega,hrl,?_,?_,by rw [ζ6r _ _ _ (by simp; omega),ζ6r _ _ _ hbn']; exact hrb,by simp; omega,fun c hc hcb => by rw [ζ13 _ _ _ (by simp; omega),ζ13 _ _ _ (by omega)]; exact hk' c hc hcb⟩
     ·rw [ζ14];rw [hjt];simp -implicitDefEqProofs (disch:=omega) [-ldA_ptr,hlt,i1,l1,hcv,l2,s0,-stR_ptr,ζ3h]
     ·rw [hjt,hrt,ζ1x hg,ζgy];unfold cleanG;simp [hd]
     ·rw [hjt,← List.drop_drop,hrd,List.drop_drop]
    ·rw [decide_eq_false hd] at hcv;obtain ⟨q,hq⟩:∃ q,r[p]? = some q:=⟨_,List.getElem?_eq_getElem (by omega)⟩
     have hrb2:((H'.push ⟨encG g,1,false⟩).push ⟨encG g,1,false⟩).get b = some ⟨rows encG r,2,false⟩:=by
      rw [ζ6r _ _ _ (by simp; omega),ζ6r _ _ _ hbn']; exact hrb
     obtain ⟨H3,s1,s2,s3,s4⟩:=st_row encG_len hrb2 (c:=0) (n:=2) g (v:=.agg (encG g).toArray) hq rfl rfl (by decide) (by simp [splice,Value.cells]);have i2:=fun H' => e3 H' p (by omega);rw [show 0 + p * 2 = p * 2 by omega] at i2;rw [Nat.add_zero] at s1;refine .inl ⟨_,H3,?_,p + 1,rfl,r.set p g,by omega,by rw [List.length_set]; exact hrl,?_,?_,s2,by rw [s4]; simp; omega,fun c hc hcb => ?_⟩
     ·rw [ζ14];rw [hjt];simp -implicitDefEqProofs (disch:=omega) [-ldA_ptr,-stR_ptr,hlt,i1,l1,hcv,l2,l3,s0,i2,s1,ζ3g]
     ·rw [hjt,ζ1x hg,ζgy,← hrt];unfold cleanG;simp only [ne_eq,hd,not_false_eq_true,decide_true,List.filter_cons_of_pos,List.filter_nil];rw [List.ζp0 g (by omega)]
     ·rw [hjt,List.drop_set_of_lt (by omega),← List.drop_drop,hrd,List.drop_drop]
     ·rw [s3 c hcb,ζ13 _ _ _ (by simp; omega),ζ13 _ _ _ (by omega)];exact hk' c hc hcb)
   (fun e H' ⟨p,he,r,hp,hrl,hrt,hrd,hrb,hn',hk'⟩ => by
    subst he;have hjl:j0 + 1 + (l.length - (j0 + 1)) = l.length:=by omega
    rw [hjl] at hp hrt ⊢;rw [List.take_length] at hrt;refine ⟨.exit 0,[(0,.slice (some ⟨b,0,none⟩) l.length l.length),(1,delV),(5,.int .i64 (p:Nat)),(6,.int .i64 l.length),(19,.bool false)],H',?_,by simp,rfl,p,.int .i64 l.length,rfl,r,hp,hrl,hrt,hrb,hn',hk'⟩;rw [ζ14];simp -implicitDefEqProofs)
  have hpl:(cleanG l).length = p:=by rw [← hrt,List.length_take]; omega
  obtain ⟨H3,cells,c1,c2,c3,c4,c5,c6⟩:=clR_tail hrb hp hrl;rw [hrt] at c4;obtain ⟨t1,t2⟩:=ζrg (p:=p) (n:=l.length) c2 (by omega) (by omega) c4 hpl;have sl1:slS 2 (.slice (some ⟨b,0,none⟩) l.length l.length) (some (.int .i64 (p:Nat))) none none H2 = .ok (.slice (some ⟨b,p * 2,none⟩) (l.length - p) (l.length - p)) H2:=by
   unfold slS openOk;simp [boundOf,hrb];omega
  have sl2:slS 2 (.slice (some ⟨b,0,none⟩) l.length l.length) none (some (.int .i64 (p:Nat))) none H3 = .ok (.slice (some ⟨b,0,none⟩) p l.length) H3:=by
   unfold slS openOk;simp [boundOf,c2];omega
  have e2:ζ2 k (R (T k)) (.slice (some ⟨b,0,none⟩) l.length l.length) delV H = .ok (.slice (some ⟨b,0,none⟩) p l.length) H3:=by
   have hne:((j0:Int) == -1) = false:=by simp
   have hr':=hr;rw [show ((j0 + 1:Nat):Int) = (j0:Int) + 1 by omega] at hr';simp -implicitDefEqProofs (disch:=omega) [ζ2,e1,hne,hr',ζ3a,sl1,c1,sl2]
  refine ⟨_,_,_,hR e2 t1,t2,by simp; omega,fun c hc hne => ?_,fun c hc => by injection hc with hc; subst hc; simp; omega⟩;have hcb:c ≠ b:=fun e => hne (by rw [e]);rw [ζ13 _ _ _ (by simp; omega),ζ24 _ _ _ _ hcb,c6 c hcb,hk2 c (by omega) hcb];exact keep1 c hc
theorem ζoo (k:Nat) {H0 H:Heap} {L:List It} (h:Star H0 H L) (i:Nat) {c:Nat} {o:Option Nat} {l:List Gl} (hi:L[i]? = some (itLine c o l)) (hl:l.length < 2 ^ 31) :
  ∃ o' H',R (T k) F.ζ37 [ptrV c] H = .ok (.tuple #[]) H' ∧ Star H0 H' (L.set i (itLine c o' (cleanG l))):=by
 obtain ⟨hne,s,h1,h2⟩:=h.box i hi;have hcn:=Heap.get_lt h1;obtain ⟨s',o',H1,e1,e2,e3,e4,e5⟩:=ζrj k h2 hl;have h1':H1.get c = some ⟨[] ++ [s],1,false⟩:=by rw [e4 c hcn hne]; exact h1
 have hoc:o' ≠ some c:=fun e => by have:=(e5 c e).1; omega
 have ok2:OwnO (H1.set c (some ⟨[s'],1,false⟩)) o' 2 s' encG (cleanG l):=e2.up fun b hb => ζ24 _ _ _ _ fun e => hoc (by rw [← e]; exact hb);have st:=e2.storable;have ce:=e2.cells;refine ⟨o',H1.set c (some ⟨[s'],1,false⟩),?_,h.step i hi (by simpa using e3) (fun d hd hdx => ?_) _ ⟨hoc,s',by rw [Heap.get_set h1',if_pos rfl]; rfl,ok2⟩ fun b hb => ?_⟩
 ·simp at h1 h1';rw [ζgb];refine nrm_of ?_;simp -implicitDefEqProofs [ζ37,h1,e1,h1',st,ce]
 ·have hdc:d ≠ c:=fun e => hdx (by rw [e]; exact List.mem_cons_self ..);rw [ζ24 _ _ _ _ hdc];exact e4 d hd fun e => hdx (List.mem_cons_of_mem _ (Option.mem_toList.2 e))
 ·rcases List.mem_cons.1 hb with rfl | hb
  ·exact .inl (List.mem_cons_self ..)
  ·have:=e5 b (Option.mem_toList.1 hb);exact .inr ⟨this.1,by simpa using this.2⟩
end Go.Sw
end
section
namespace Go.Sw
open Go.RowKit
def pL:Plan:=⟨[4,4,4,4,4,4,4,4,4,5],[[0,0,0,0,1,2],[0,0,0,0,1,2]],[⟨0,0,0,0⟩,⟨0,32768,0,0⟩,⟨0,40960,0,0⟩],2⟩
def bL:List Int:=ligB pL [0,2147483648] [0,1,2,3,4,5,6,7,8,0] [0,1,2,3,4,5,6,7,8,9]
def tL:LTab:=(ligaS bL 20).getD ⟨⟨0,(0,[]),[],[]⟩,[],[],[]⟩
theorem ligaS_L:ligaS bL 20 = some tL:=by kernel_rfl
theorem mL_is:tL.m = ⟨6,(8,[⟨0,9,[4,4,4,4,4,4,4,4,4,5]⟩]),[[0,0,0,0,1,2],[0,0,0,0,1,2]],[⟨0,0,0,0⟩,⟨0,32768,0,0⟩,⟨0,40960,0,0⟩]⟩:=by kernel_rfl
theorem bL_byt:Byt bL:=by
 have h:(bL.all fun x => decide (0 ≤ x ∧ x < 256)) = true:=by kernel_rfl
 intro x hx;simpa using List.all_eq_true.1 h x hx
theorem bL_len:bL.length ≤ 1000:=Nat.le_of_ble_eq_true (by kernel_rfl)
theorem tL_ok:tL.ok:=ligaS_ok bL_byt (by omega) (by omega) (by have:=bL_len; omega) ligaS_L
theorem act0_L:gU tL.acts (4 * 0) 4 = 0:=by kernel_rfl
theorem act1_L:gU tL.acts (4 * 1) 4 = 2147483648:=by kernel_rfl
theorem comp_L:(List.range 10).all (fun x => entryS tL.comps x == some ((x % 9:Nat):Int)) = true:=by kernel_rfl
theorem lig_L:(List.range 10).all (fun x => entryS tL.ligs x == some (x:Int)) = true:=by kernel_rfl
theorem comp_at {x:Nat} (h:x < 10):entryS tL.comps x = some ((x % 9:Nat):Int):=by
 have:=List.all_eq_true.1 comp_L x (List.mem_range.2 h);simpa using this
theorem lig_at {x:Nat} (h:x < 10):entryS tL.ligs x = some (x:Int):=by
 have:=List.all_eq_true.1 lig_L x (List.mem_range.2 h);simpa using this
theorem ζvc {l:List Gl} {i:Nat} {g:Gl} (h:l[i]? = some g):setG l i g.id = l:=by
 apply List.ext_getElem?;intro j;rw [setG_at];by_cases hj:j = i
 ·subst hj;rw [if_pos rfl,h];rfl
 ·rw [if_neg hj]
theorem ζta {l:List Gl} {i k:Nat} {g h:Gl} (hi:l[i]? = some g) (hk:l[k]? = some h) (hc:g.cl ≤ h.cl):join1 i l k = l:=by
 unfold join1;rw [atG_nat,hk];dsimp only;have hlt:=(List.getElem?_eq_some_iff.1 hi).1;rw [if_pos ⟨by omega,by omega⟩,Int.toNat_natCast];apply List.ext_getElem?;intro j;rw [List.getElem?_modify];by_cases hj:i = j
 ·subst hj;simp [hi,Int.min_eq_left hc]
 ·simp [hj]
theorem perf_L {l:List Gl} {p x:Nat} {c d:Int} (hx:x < 9) (h1:l[p]? = some ⟨(x:Nat),c⟩) (h2:l[p + 1]? = some ⟨9,d⟩) (hc:c ≤ d) (r:List Int) :
  perfS tL (((p + 1:Nat):Int) :: (p:Int) :: r) 0 0 [] l = (delG l [((p + 1:Nat):Int)],pushP p r):=by
 have c9:entryS tL.comps 9 = some 0:=comp_at (x:=9) (by omega);have cx:=comp_at (x:=x) (by omega);have lx:=lig_at (x:=x) (by omega);rw [Nat.mod_eq_of_lt hx] at cx;have w9:IntKind.i64.wrap (9 + offS 0) = 9:=by rfl
 have o1:offS 2147483648 = 0:=by rfl
 have wx:IntKind.i64.wrap ((x:Int) + 0) = (x:Int):=by rw [Int.add_zero]; exact wrap_i64 (by omega) (by omega)
 have hs:storeG l p (x:Int) [((p + 1:Nat):Int)] = delG l [((p + 1:Nat):Int)]:=by
  unfold storeG;rw [show setG l p (x:Int) = l from ζvc h1];have:joinG l p [((p + 1:Nat):Int)] = l:=ζta h1 h2 hc;rw [this]
 unfold perfS;rw [atG_nat,h2,act0_L];dsimp only [Option.getD_some];rw [w9,c9];dsimp only;rw [if_neg (by omega)];unfold perfS;rw [atG_nat,h1,show (4:Int) * (0 + 1) = 4 * 1 from rfl,act1_L];dsimp only [Option.getD_some];rw [o1,wx,cx];dsimp only;rw [if_pos (by omega),show (0:Int) + 0 + (x:Int) = (x:Int) by omega,lx];dsimp only;rw [if_pos (by omega),List.nil_append,hs]
end Go.Sw
end
section
namespace Go.Sw
open Go.RowKit
structure PairsAt (ids:List Int) (l:List Gl) (p:Nat):Prop where
 len:l.length = 2 * ids.length
 own:∀ i x,ids[i]? = some x → l[2 * i]? = some ⟨x,(i:Nat)⟩
 nine:∀ i,i < ids.length → l[2 * i + 1]? = some ⟨if 2 * i + 1 < p then 65535 else 9,(min (i + 1) (ids.length - 1):Nat)⟩
theorem PairsAt.skip {ids:List Int} {l:List Gl} {j:Nat} (h:PairsAt ids l (2 * j)):PairsAt ids l (2 * j + 1) :=
 ⟨h.len,h.own,fun i hi => by rw [h.nine i hi]; congr 2; by_cases c:2 * i + 1 < 2 * j <;> by_cases d:2 * i + 1 < 2 * j + 1 <;> simp [c,d] <;> omega⟩
theorem PairsAt.gone {ids:List Int} {l:List Gl} {j:Nat} (h:PairsAt ids l (2 * j + 1)):PairsAt ids (delG l [((2 * j + 1:Nat):Int)]) (2 * j + 1 + 1):=by
 have hd:=fun q => delG_at [2 * j + 1] l q;simp only [List.map_cons,List.map_nil,List.mem_singleton] at hd;refine ⟨by rw [delG_len]; exact h.len,fun i x hx => ?_,fun i hi => ?_⟩
 ·rw [hd,if_neg (by omega),h.own i x hx]
 ·rw [hd,h.nine i hi];by_cases c:2 * i + 1 = 2 * j + 1
  ·have h1:¬ 2 * i + 1 < 2 * j + 1:=by omega
   have h2:2 * i + 1 < 2 * j + 1 + 1:=by omega
   rw [if_pos c,if_neg h1,if_pos h2];rfl
  ·rw [if_neg c];congr 2;by_cases d:2 * i + 1 < 2 * j + 1
   ·rw [if_pos d,if_pos (by omega)]
   ·rw [if_neg d,if_neg (by omega)]
theorem ent_own {l:List Gl} {p:Nat} {x:Nat} {c:Int} (hx:x < 9) (h:l[p]? = some ⟨(x:Nat),c⟩) (z:Int):entS tL.m l ⟨0,(p:Nat),z,0⟩ = ⟨0,32768,0,0⟩:=by
 unfold entS clsS;rw [atG_nat,h,mL_is];have:x = 0 ∨ x = 1 ∨ x = 2 ∨ x = 3 ∨ x = 4 ∨ x = 5 ∨ x = 6 ∨ x = 7 ∨ x = 8:=by omega
 rcases this with rfl | rfl | rfl | rfl | rfl | rfl | rfl | rfl | rfl <;> rfl
theorem ent_nine {l:List Gl} {p:Nat} {c:Int} (h:l[p]? = some ⟨9,c⟩) (z:Int):entS tL.m l ⟨0,(p:Nat),z,0⟩ = ⟨0,40960,0,0⟩:=by
 unfold entS clsS;rw [atG_nat,h,mL_is];rfl
theorem ent_none {l:List Gl} {p:Nat} (h:l[p]? = none) (z:Int):entS tL.m l ⟨0,(p:Nat),z,0⟩ = ⟨0,0,0,0⟩:=by
 unfold entS clsS;rw [atG_nat,h,mL_is];rfl
theorem push_new {i:Int} {ps:List Int} (h:∀ x,x ∈ ps → x < i):pushP i ps = (i :: ps).take 64:=by
 unfold pushP;rw [if_neg];intro hc;cases ps with
 | nil => cases hc
 | cons y ys =>
  injection hc with hc;have:=h y List.mem_cons_self;omega
structure KeptAt (ps:List Int) (p:Nat):Prop where
 lt:∀ x,x ∈ ps → x < (p:Int)
 odd:∀ j,p = 2 * j + 1 → ∃ r,ps = ((2 * j:Nat):Int) :: r
theorem take_go (ids:List Int) (hids:∀ (i:Nat) (x:Int),ids[i]? = some x → ∃ y:Nat,x = (y:Int) ∧ y < 9) (l:List Gl) (hl:PairsAt ids l 0) :
  ∃ l',runL tL l = (l',0) ∧ PairsAt ids l' (2 * ids.length):=by
 have hgo:=runD_go tL.m (fun s:List Gl × List Int => s.1) (fun s i e => (doLi tL s i e,i,i + 1)) (2 * (l.length:Int) + 128) (2 * ids.length) (by rw [hl.len]; omega)
  (fun p s st => st = 0 ∧ PairsAt ids s.1 p ∧ KeptAt s.2 p) (fun p s st h => h.2.1.len)
  (fun p s st hp ⟨h0,h1,h2⟩ => by
   subst h0;by_cases hend:p = 2 * ids.length
   ·rw [ent_none (List.getElem?_eq_none (by rw [h1.len]; omega))];exact ⟨by decide,rfl,fun h => absurd h (by omega)⟩
   obtain ⟨j,hj⟩:∃ j,p = 2 * j ∨ p = 2 * j + 1:=⟨p / 2,by omega⟩
   have hjn:j < ids.length:=by omega
   obtain ⟨y,hy,hy9⟩:=hids j _ (List.getElem?_eq_getElem hjn);have ho:=h1.own j _ (List.getElem?_eq_getElem hjn);rw [hy] at ho;have hplen:(p:Int) < (s.1.length:Int):=by rw [h1.len]; omega
   have hpush:=push_new h2.lt;rcases hj with hj | hj
   ·subst hj;rw [ent_own hy9 ho];have hdo:doLi tL s ((2 * j:Nat):Int) ⟨0,32768,0,0⟩ = (s.1,(((2 * j:Nat):Int) :: s.2).take 64):=by
     unfold doLi;dsimp only;rw [if_pos (c:=(32768:Int) ≥ 32768 ∧ ((2 * j:Nat):Int) < (s.1.length:Int)) ⟨by decide,hplen⟩,hpush,if_neg (c:=(32768:Int) / 8192 % 2 = 1) (by decide)]
    refine ⟨by decide,rfl,fun _ => ⟨rfl,?_,?_⟩⟩
    ·rw [hdo]; exact h1.skip
    ·rw [hdo];refine ⟨fun x hx => ?_,fun i hi => ?_⟩
     ·rcases List.mem_cons.1 (List.mem_of_mem_take hx) with rfl | hx
      ·omega
      ·have:=h2.lt x hx; omega
     ·have:i = j:=by omega
      subst this;exact ⟨s.2.take 63,rfl⟩
   ·subst hj;have h9:=h1.nine j hjn;rw [if_neg (by omega)] at h9;rw [ent_nine h9];obtain ⟨r,hr⟩:=h2.odd j rfl;have hk:pushP ((2 * j + 1:Nat):Int) s.2 = ((2 * j + 1:Nat):Int) :: ((2 * j:Nat):Int) :: r.take 62:=by rw [hpush,hr]; rfl
    have hdo:doLi tL s ((2 * j + 1:Nat):Int) ⟨0,40960,0,0⟩ = (delG s.1 [((2 * j + 1:Nat):Int)],pushP ((2 * j:Nat):Int) (r.take 62)):=by
     unfold doLi;dsimp only;rw [if_pos (c:=(40960:Int) ≥ 32768 ∧ ((2 * j + 1:Nat):Int) < (s.1.length:Int)) ⟨by decide,hplen⟩,hk,if_pos (c:=(40960:Int) / 8192 % 2 = 1) (by decide)];exact perf_L hy9 ho h9 (by omega) (r.take 62)
    refine ⟨by decide,rfl,fun _ => ⟨rfl,?_,?_⟩⟩
    ·rw [hdo]; exact h1.gone
    ·rw [hdo];refine ⟨fun x hx => ?_,fun i hi => by omega⟩;have hx2:x = ((2 * j:Nat):Int) ∨ x ∈ r:=by
      dsimp only at hx;unfold pushP at hx;split at hx
      ·exact .inr (List.mem_of_mem_take hx)
      ·rcases List.mem_cons.1 (List.mem_of_mem_take hx) with h | h
       ·exact .inl h
       ·exact .inr (List.mem_of_mem_take h)
     rcases hx2 with rfl | hx2
     ·omega
     ·have:=h2.lt x (by rw [hr]; exact List.mem_cons_of_mem _ hx2); omega)
  (2 * ids.length) 0 (2 * l.length + 128) 0 (l,[]) 0 rfl (by omega) (by rw [hl.len]; omega) ⟨rfl,hl,fun x hx => (by cases hx),fun j hj => by omega⟩
 obtain ⟨s',st',⟨h0,h1,h2⟩,hrun⟩:=hgo;refine ⟨s'.1,?_,h1⟩;subst h0;unfold runL runLr;rw [hrun];dsimp only;rw [ent_none (List.getElem?_eq_none (by rw [h1.len]; omega))];unfold doLi;rfl
end Go.Sw
end
section
namespace Go.Sw
open Go.RowKit
theorem growP_at (ids:List Int) (n:Nat):∀ j,j ≤ ids.length → ∀ i x,i < j → ids[i]? = some x →
  ((ids.zipIdx.take j).flatMap (pairG n))[2 * i]? = some ⟨x,(i:Nat)⟩ ∧ ((ids.zipIdx.take j).flatMap (pairG n))[2 * i + 1]? = some ⟨9,(min (i + 1) (n - 1):Nat)⟩
 | 0,_,i,x,hi,_ => by omega
 | j + 1,h,i,x,hi,hx => by
  have hz:ids.zipIdx[j]? = some (ids[j],j):=by rw [List.getElem?_zipIdx,List.getElem?_eq_getElem (by omega)]; simp
  have hl:=ζ8h ids n j (by omega);rw [ζ1x hz,List.flatMap_append];by_cases hij:i < j
  ·have ih:=growP_at ids n j (by omega) i x hij hx;rw [List.getElem?_append_left (by omega),List.getElem?_append_left (by omega)];exact ih
  ·have:i = j:=by omega
   subst this;rw [List.getElem?_eq_getElem (by omega)] at hx;injection hx with hx;rw [List.getElem?_append_right (by omega),List.getElem?_append_right (by omega),hl];simp [pairG,hx]
theorem ζt1 (ids:List Int):PairsAt ids (growL ids ids.length) 0:=by
 have h:=growP_at ids ids.length ids.length (Nat.le_refl _);have hl:=ζ8h ids ids.length ids.length (Nat.le_refl _);have he:growL ids ids.length = (ids.zipIdx.take ids.length).flatMap (pairG ids.length):=by
  unfold growL;rw [List.drop_of_length_le (by simp),List.append_nil]
 rw [he];refine ⟨hl,fun i x hx => (h i x (List.getElem?_eq_some_iff.1 hx).1 hx).1,fun i hi => ?_⟩;rw [(h i _ hi (List.getElem?_eq_getElem hi)).2,if_neg (by omega)]
theorem ζnb:∀ (ids:List Int) (o:Nat) (l:List Gl),(∀ x,x ∈ ids → x ≠ 65535) → l.length = 2 * ids.length → (∀ i x,ids[i]? = some x → l[2 * i]? = some ⟨x,((o + i:Nat):Int)⟩) → (∀ i,i < ids.length → ∃ c,l[2 * i + 1]? = some ⟨65535,c⟩) → cleanG l = (ids.zipIdx o).map fun x => (⟨x.1,(x.2:Nat)⟩:Gl)
 | [],o,l,_,h,_,_ => by
  have:l = []:=List.length_eq_zero_iff.1 (by simpa using h);subst this;rfl
 | x :: ids,o,l,h0,h,h1,h2 => by
  obtain ⟨c,hc⟩:=h2 0 (by simp);have ha:=h1 0 x rfl
  match l,h,ha,hc,h1,h2 with
  | a :: b :: l,h,ha,hc,h1,h2 =>
   simp at ha hc;subst ha hc;have hx:=h0 x List.mem_cons_self;have ih:=ζnb ids (o + 1) l (fun y hy => h0 y (List.mem_cons_of_mem _ hy)) (by simp at h; omega) (fun i y hy => by
    have:=h1 (i + 1) y (by simpa using hy);rw [show 2 * (i + 1) = 2 * i + 1 + 1 by omega] at this;simp only [List.getElem?_cons_succ] at this;rw [this];congr 3;omega) (fun i hi => by
    obtain ⟨c,hc⟩:=h2 (i + 1) (by simp; omega);rw [show 2 * (i + 1) + 1 = 2 * i + 1 + 1 + 1 by omega] at hc;simp only [List.getElem?_cons_succ] at hc;exact ⟨c,hc⟩)
   have e:cleanG ((⟨x,((o + 0:Nat):Int)⟩:Gl) :: ⟨65535,c⟩ :: l) = ⟨x,((o + 0:Nat):Int)⟩ :: cleanG l:=by
    unfold cleanG;rw [List.filter_cons,if_pos (by simpa using hx),List.filter_cons,if_neg (by simp)]
   rw [List.zipIdx_cons,List.map_cons,← ih];simpa using e
theorem ζua {ids:List Int} {l:List Gl} (h0:∀ x,x ∈ ids → x ≠ 65535) (h:PairsAt ids l (2 * ids.length)):cleanG l = newG ids :=
 ζnb ids 0 l h0 h.len (fun i x hx => by rw [h.own i x hx,Nat.zero_add]) fun i hi => ⟨_,by rw [h.nine i hi,if_pos (by omega)]⟩
end Go.Sw
end
