/-
  Functions' forms, and what is proved of them, part 11.
-/
import Derived.Test.YtanfippcmdialaaSwW7
import Derived.Test.YtanfippcmdialaaSwW10
import Derived.Test.YtanfippcmdialaaSwW8
import Derived.Test.YtanfippcmdialaaSwW9
set_option linter.unusedSimpArgs false
set_option linter.unusedVariables false
set_option linter.unusedSectionVars false
section
namespace Go.Sw
open Go.RowKit
variable {σ ω:Type}
def ActOkG (k:Nat) (m:Mach) (H0:Heap) (W:σ → ω → List It) (Inv:σ → Prop) (a:Value) (f:σ → Int → En → σ × Int × Int):Prop :=
 ∀ s w i e H X,Inv s → Star H0 H (W s w ++ X) → 0 ≤ i → i < 2 ^ 50 → e ∈ m.ents →
  ∃ H' w',callV (R (T k)) a [.int .i64 i,encE e] H = .ok (.tuple #[.int .i64 (f s i e).2.1,.int .i64 (f s i e).2.2]) H' ∧ Star H0 H' (W (f s i e).1 w' ++ X) ∧ Inv (f s i e).1 ∧ (f s i e).2.1 ≤ i + 128 ∧ (f s i e).2.2 ≤ i + 128
set_option maxHeartbeats 2000000 in
theorem ζko (k:Nat) (m:Mach) (hm:m.ok) {H0 H:Heap} (W:σ → ω → List It) (Inv:σ → Prop) (ln:σ → List Gl) (c:Nat) (hW:∀ s w,∃ (i:Nat) (o:Option Nat),(W s w)[i]? = some (itLine c o (ln s))) (a:Value) (f:σ → Int → En → σ × Int × Int) (ha:ActOkG k m H0 W Inv a f)
  (X:List It) (q:Nat) (s:σ) (w:ω) (d:Drv) (hI:Inv s) (h:Star H0 H (W s w ++ X ++ [itBlk q ⟨drvC m c d,1,false⟩])) (hp:0 ≤ d.pl ∧ d.pl < 2 ^ 50) (hst:0 ≤ d.stp ∧ d.stp < 2 ^ 50) (hr:0 ≤ d.rest ∧ d.rest < 2 ^ 50) (hse:0 ≤ d.st ∧ d.st < m.rows.length) :
  ∃ H' w',R (T k) F.ζ2f [ptrV q,a] H = .ok (.bool (stepD m ln f (s,d)).2) H' ∧ Star H0 H' (W (stepD m ln f (s,d)).1.1 w' ++ X ++ [itBlk q ⟨drvC m c (stepD m ln f (s,d)).1.2,1,false⟩]) ∧ Inv (stepD m ln f (s,d)).1.1 ∧ (stepD m ln f (s,d)).1.2.pl ≤ d.pl + 128 ∧ 0 ≤ (stepD m ln f (s,d)).1.2.st ∧ (stepD m ln f (s,d)).1.2.st < m.rows.length:=by
 obtain ⟨i,o,ho⟩:=hW s w;have hq:=h.memBlk (c:=q) (k:=⟨drvC m c d,1,false⟩) (by simp);have hline:(W s w ++ X ++ [itBlk q ⟨drvC m c d,1,false⟩])[i]? = some (itLine c o (ln s)):=by
  have h0:i < (W s w).length:=(List.getElem?_eq_some_iff.1 ho).1;rw [List.append_assoc,List.getElem?_append_left h0];exact ho
 have hcls:=ζkn k m hm h i hline hq;have hstep:=fun H' => Step_run k m hm d.st (clsS m (ln s) d.pl).1 H';have heb:=ζqs hm (ln s) d;have hmem:=entS_mem hm (ln s) d hse;have hnx:=hm.ent _ hmem;have hee:encEA (stepS m d.st (clsS m (ln s) d.pl).1) = encE (entS m (ln s) d):=rfl;rw [hee] at hstep;have hx:=ha s w d.pl (entS m (ln s) d);unfold stepD;dsimp only;generalize (stepS m d.st (clsS m (ln s) d.pl).1).isSome = z at hstep;generalize (clsS m (ln s) d.pl) = cl at hcls hstep;generalize entS m (ln s) d = e at hstep heb hx hmem hnx ⊢;dsimp only at heb;generalize f s d.pl e = r at hx ⊢;have g:=h.push ⟨encEn e,1,false⟩;rw [List.append_assoc,List.singleton_append] at g;have hqn:¬ q = H.n:=by have:=Heap.get_lt hq; omega
 obtain ⟨H2,e2,g⟩:=g.stEnd 4 (v:=.int .i64 (d.stp + 1)) rfl rfl (by simp);simp only [List.set_cons_zero,List.set_cons_succ] at g;have he2:=g.memBlk (c:=H.n) (k:=⟨encEn e,1,false⟩) (by simp);have hq2:=g.memBlk (c:=q) (k:=⟨[machV m,ptrV c,.int .i64 d.st,.int .i64 d.pl,.int .i64 (d.stp + 1),.int .i64 d.rest],1,false⟩) (by simp);obtain ⟨H3,e3,g⟩:=g.stEnd 2 (v:=.int .i64 e.next) rfl rfl (by simp);simp only [List.set_cons_zero,List.set_cons_succ] at g;have hq3:=g.memBlk (c:=q) (k:=⟨[machV m,ptrV c,.int .i64 e.next,.int .i64 d.pl,.int .i64 (d.stp + 1),.int .i64 d.rest],1,false⟩) (by simp);have he3:=g.memBlk (c:=H.n) (k:=⟨encEn e,1,false⟩) (by simp);rw [List.append_assoc] at g;obtain ⟨H4,w4,e4,g4,hI4,hs4,ho4⟩:=hx H3 _ hI g hp.1 hp.2 hmem;rw [← List.append_assoc] at g4;have hq4:=g4.memBlk (c:=q) (k:=⟨[machV m,ptrV c,.int .i64 e.next,.int .i64 d.pl,.int .i64 (d.stp + 1),.int .i64 d.rest],1,false⟩) (by simp);have he4:=g4.memBlk (c:=H.n) (k:=⟨encEn e,1,false⟩) (by simp);have han:=fun H => and14 Prog 3 H heb.2.2.1 heb.2.2.2.1;rw [List.append_assoc] at g4;by_cases hfl:e.flags / 16384 % 2 = 1
 ·rw [if_pos hfl];rw [if_pos hfl] at han;have hmx:(if 0 > r.2.1 then 0 else r.2.1) = max r.2.1 0:=by split <;> omega
  obtain ⟨H5,e5,g5⟩:=Star.stEnd (A:=W r.1 w4 ++ X) (by simpa using g4) 3 (v:=.int .i64 (max r.2.1 0)) rfl rfl (by simp);simp only [List.set_cons_zero,List.set_cons_succ] at g5;have hq5:=g5.memBlk (c:=q) (k:=⟨[machV m,ptrV c,.int .i64 e.next,.int .i64 (max r.2.1 0),.int .i64 (d.stp + 1),.int .i64 d.rest],1,false⟩) (by simp);obtain ⟨H6,e6,g6⟩:=g5.stEnd 5 (v:=.int .i64 (d.rest + 1)) rfl rfl (by simp);simp only [List.set_cons_zero,List.set_cons_succ] at g6;refine ⟨H6,w4,?_,?_,hI4,by dsimp only; omega,hnx.1,hnx.2.1⟩
  ·rw [ζ8s];simp -implicitDefEqProofs (disch:=omega) [-stR_ptr,ζ2f,hcls,hq,hqn,hstep,stR_ptr 4 H.n 0,e2,hq2,he2,e3,hq3,he3,e4,hq4,he4,han,hmx,e5,hq5,e6]
  ·have:=g6.take ((W r.1 w4 ++ X).length + 1);rw [take_mid] at this;exact this
 ·rw [if_neg hfl];rw [if_neg hfl] at han;have hmx:(if 0 > r.2.2 then 0 else r.2.2) = max r.2.2 0:=by split <;> omega
  obtain ⟨H5,e5,g5⟩:=Star.stEnd (A:=W r.1 w4 ++ X) (by simpa using g4) 3 (v:=.int .i64 (max r.2.2 0)) rfl rfl (by simp);simp only [List.set_cons_zero,List.set_cons_succ] at g5;have hq5:=g5.memBlk (c:=q) (k:=⟨[machV m,ptrV c,.int .i64 e.next,.int .i64 (max r.2.2 0),.int .i64 (d.stp + 1),.int .i64 d.rest],1,false⟩) (by simp);obtain ⟨H6,e6,g6⟩:=g5.stEnd 5 (v:=.int .i64 0) rfl rfl (by simp);simp only [List.set_cons_zero,List.set_cons_succ] at g6;refine ⟨H6,w4,?_,?_,hI4,by dsimp only; omega,hnx.1,hnx.2.1⟩
  ·rw [ζ8s];simp -implicitDefEqProofs (disch:=omega) [-stR_ptr,ζ2f,hcls,hq,hqn,hstep,stR_ptr 4 H.n 0,e2,hq2,he2,e3,hq3,he3,e4,hq4,he4,han,hmx,bne,e5,hq5,e6]
  ·have:=g6.take ((W r.1 w4 ++ X).length + 1);rw [take_mid] at this;exact this
set_option maxHeartbeats 1000000 in
theorem ζly (k:Nat) (m:Mach) (hm:m.ok) {H0 H:Heap} (W:σ → ω → List It) (Inv:σ → Prop) (ln:σ → List Gl) (c:Nat) (hW:∀ s w,∃ (i:Nat) (o:Option Nat),(W s w)[i]? = some (itLine c o (ln s))) (a:Value) (f:σ → Int → En → σ × Int × Int) (ha:ActOkG k m H0 W Inv a f)
  (X:List It) (s:σ) (w:ω) (hI:Inv s) (h:Star H0 H (W s w ++ X)) (hl:(ln s).length < 2 ^ 40) :
  ∃ H' w',R (T k) F.ζ51 [machV m,ptrV c,a] H = .ok (.tuple #[.int .i64 (runD m ln f (2 * (ln s).length + 128) (2 * (ln s).length + 128) (s,⟨0,0,0,0⟩)).1,.int .i64 (runD m ln f (2 * (ln s).length + 128) (2 * (ln s).length + 128) (s,⟨0,0,0,0⟩)).2.1]) H' ∧
   Star H0 H' (W (runD m ln f (2 * (ln s).length + 128) (2 * (ln s).length + 128) (s,⟨0,0,0,0⟩)).2.2 w' ++ X) ∧ Inv (runD m ln f (2 * (ln s).length + 128) (2 * (ln s).length + 128) (s,⟨0,0,0,0⟩)).2.2:=by
 rw [ζpk];obtain ⟨N,hN⟩:∃ N,N = 2 * (ln s).length + 128:=⟨_,rfl⟩
 have hNi:(2 * ((ln s).length:Int) + 128) = (N:Int):=by omega
 obtain ⟨x0,hx0⟩:∃ x0:σ × Drv,x0 = (s,⟨0,0,0,0⟩):=⟨_,rfl⟩
 rw [← hN,hNi,← hx0];generalize hR0:runD m ln f (N:Int) N x0 = R0;have g:=h.push ⟨drvC m c ⟨0,0,0,0⟩,1,false⟩;obtain ⟨i,o,ho⟩:=hW s w;have hline:(W s w ++ X ++ [itBlk H.n ⟨drvC m c ⟨0,0,0,0⟩,1,false⟩])[i]? = some (itLine c o (ln s)):=by
  have h0:i < (W s w).length:=(List.getElem?_eq_some_iff.1 ho).1;rw [List.append_assoc,List.getElem?_append_left h0];exact ho
 have hlen:=ζlf k g i hline
 obtain ⟨e,eE,H1,hr1,hQ⟩:=loop_up (body:=ζg1 k (R (T k))) N
  (fun j e H' => e = [(2,a),(8,ptrV H.n),(9,.int .i64 N)] ∧ ∃ (x:σ × Drv) (w:ω),Star H0 H' (W x.1 w ++ X ++ [itBlk H.n ⟨drvC m c x.2,1,false⟩]) ∧ Inv x.1 ∧ x.2.stp = j ∧ 0 ≤ x.2.pl ∧ x.2.pl ≤ 128 * j ∧ 0 ≤ x.2.rest ∧ x.2.rest ≤ j ∧ (0 ≤ x.2.st ∧ x.2.st < m.rows.length) ∧ runD m ln f N (N - j) x = R0)
  (fun x' e H' => ∃ r:Int × Int × σ,r = R0 ∧ ∃ (d:Drv) (w:ω),Star H0 H' (W r.2.2 w ++ X ++ [itBlk H.n ⟨drvC m c d,1,false⟩]) ∧ Inv r.2.2 ∧
   ((x' = .ret ∧ e = [(6,.int .i64 r.1),(7,.int .i64 0)] ∧ r.2.1 = 0) ∨ (x' = .exit 0 ∧ d.stp = r.1 ∧ r.2.1 = 4 ∧ (e = [(2,a),(8,ptrV H.n),(9,.int .i64 N),(35,.bool true)] ∨ e = [(2,a),(8,ptrV H.n),(9,.int .i64 N),(23,.bool false)]))))
  (e0:=[(2,a),(8,ptrV H.n),(9,.int .i64 N)]) (H0:=H.push ⟨drvC m c ⟨0,0,0,0⟩,1,false⟩)
  ⟨rfl,x0,w,by rw [hx0]; exact g,by rw [hx0]; exact hI,by rw [hx0]; rfl,by rw [hx0]; exact Int.le_refl _,by rw [hx0]; exact Int.le_refl _,by rw [hx0]; exact Int.le_refl _,by rw [hx0]; exact Int.le_refl _,by rw [hx0]; have:=hm.two; dsimp only; omega,by rw [Nat.sub_zero]; exact hR0⟩ (by omega)
  (fun j e H' hj ⟨he,x,w,g,hI,h1,h2,h3,h4,h5,hse,hrun⟩ => by
   subst he;obtain ⟨H2,w2,e2,g2,hI2,h6,h7⟩:=ζko k m hm W Inv ln c hW a f ha X H.n x.1 w x.2 hI g (by omega) (by omega) (by omega) hse;have hq:=g.memBlk (c:=H.n) (k:=⟨drvC m c x.2,1,false⟩) (by simp);have p1:=ζta m ln f x;have p2:=stepD_pl m ln f x;have p3:=ζrl m ln f x h4;have hlt:x.2.stp < (N:Int):=by omega
   have hNj:N - j = (N - (j + 1)) + 1:=by omega
   rw [hNj] at hrun;unfold runD at hrun;rw [if_pos hlt] at hrun;have hxx:(x.1,x.2) = x:=rfl;rw [hxx] at e2 g2 hI2 h6 h7;generalize stepD m ln f x = y at *;have hq2:=g2.memBlk (c:=H.n) (k:=⟨drvC m c y.1.2,1,false⟩) (by simp);cases hy:y.2 with
   | true =>
    rw [hy] at hrun e2;simp only [if_true] at hrun;refine .inr ⟨.ret,_,H2,?_,by simp,_,hrun,y.1.2,w2,g2,hI2,.inl ⟨rfl,rfl,rfl⟩⟩;rw [ζ68];simp -implicitDefEqProofs (disch:=omega) [hq,hlt,e2,hq2]
   | false =>
    rw [hy] at hrun e2;simp only [Bool.false_eq_true,if_false] at hrun;by_cases hr:y.1.2.rest > 64
    ·rw [if_pos hr] at hrun;refine .inr ⟨.exit 0,_,H2,?_,by simp,_,hrun,y.1.2,w2,g2,hI2,.inr ⟨rfl,rfl,rfl,.inl rfl⟩⟩;rw [ζ68];simp -implicitDefEqProofs (disch:=omega) [hq,hlt,e2,hq2,hr]
    ·rw [if_neg hr] at hrun;refine .inl ⟨_,H2,?_,rfl,y.1,w2,g2,hI2,by omega,p2,by omega,p3.1,by omega,h7,hrun⟩;rw [ζ68];simp -implicitDefEqProofs (disch:=omega) [hq,hlt,e2,hq2,hr])
  (fun e H' ⟨he,x,w,g,hI,h1,h2,h3,h4,h5,hse,hrun⟩ => by
   subst he;rw [Nat.sub_self] at hrun;have hq:=g.memBlk (c:=H.n) (k:=⟨drvC m c x.2,1,false⟩) (by simp);refine ⟨.exit 0,_,H',?_,by simp,_,hrun,x.2,w,g,hI,.inr ⟨rfl,rfl,rfl,.inr rfl⟩⟩;have hnl:¬ x.2.stp < (N:Int):=by omega
   rw [ζ68];simp -implicitDefEqProofs (disch:=omega) [hq,hnl])
 obtain ⟨r,hr,d,w3,g,hIr,hcase⟩:=hQ;subst hr;have hq:=g.memBlk (c:=H.n) (k:=⟨drvC m c d,1,false⟩) (by simp);have gX:Star H0 H1 (W r.2.2 w3 ++ X):=g.ζgg;refine ⟨H1,w3,?_,gX,hIr⟩;rcases hcase with ⟨rfl,rfl,hc⟩ | ⟨rfl,hd,hc,rfl | rfl⟩
 ·rw [hc];simp -implicitDefEqProofs (disch:=omega) [ζ51,hlen,hNi,hr1,ζkm]
 ·rw [hc];simp -implicitDefEqProofs (disch:=omega) [ζ51,hlen,hNi,hr1,ζj4,hq,hd]
 ·rw [hc];simp -implicitDefEqProofs (disch:=omega) [ζ51,hlen,hNi,hr1,ζh9,hq,hd]
def DoOkG (k:Nat) (m:Mach) (H0:Heap) (W:σ → ω → List It) (Inv:σ → Prop) (a:Value) (g:σ → Int → En → σ):Prop :=
 ∀ s w i e H X,Inv s → Star H0 H (W s w ++ X) → 0 ≤ i → i < 2 ^ 50 → e ∈ m.ents →
  ∃ v H' w',callV (R (T k)) a [.int .i64 i,encE e] H = .ok v H' ∧ Star H0 H' (W (g s i e) w' ++ X) ∧ Inv (g s i e)
theorem ζsw (k:Nat) {m:Mach} {H0:Heap} {W:σ → ω → List It} {Inv:σ → Prop} {a:Value} {g:σ → Int → En → σ} (h:DoOkG k m H0 W Inv a g) (p:Nat) :
  ActOkG k m H0 (fun s w => W s w ++ [itBlk p ⟨[a],1,false⟩]) Inv (.func (.func F.ζ25) #[] #[ptrV p]) (fun s i e => (g s i e,i,i + 1)):=by
 intro s w i e H X hI st h0 h1 he;have st2:=st.push ⟨encEn e,1,false⟩;have hp:=st2.memBlk (c:=p) (k:=⟨[a],1,false⟩) (by simp);have hpn:¬ p = H.n:=by have:=Heap.get_lt (st.memBlk (c:=p) (k:=⟨[a],1,false⟩) (by simp)); omega
 obtain ⟨v,H',w',e1,st3,hI2⟩:=h s w i e (H.push ⟨encEn e,1,false⟩) ([itBlk p ⟨[a],1,false⟩] ++ X ++ [itBlk H.n ⟨encEn e,1,false⟩]) hI (by simpa [List.append_assoc] using st2) h0 h1 he;have st4:Star H0 H' (W (g s i e) w' ++ [itBlk p ⟨[a],1,false⟩] ++ X):=by
  have:W (g s i e) w' ++ ([itBlk p ⟨[a],1,false⟩] ++ X ++ [itBlk H.n ⟨encEn e,1,false⟩]) = (W (g s i e) w' ++ [itBlk p ⟨[a],1,false⟩] ++ X) ++ [itBlk H.n ⟨encEn e,1,false⟩]:=by simp
  rw [this] at st3;exact st3.ζgg
 refine ⟨H',w',?_,st4,hI2,by dsimp only; omega,by dsimp only; omega⟩;simp only [callV,List.nil_append,List.cons_append];rw [ζi3,nrm_of];simp -implicitDefEqProofs (disch:=omega) [ζ25,hp,hpn,e1]
end Go.Sw
end
section
namespace Go.Sw
open Go.RowKit
set_option maxHeartbeats 4000000 in
theorem ζjc (k:Nat) (t:LTab) (ht:t.ok) {H0 H:Heap} {L:List It} (h:Star H0 H L) (il ip:Nat) (hne:il ≠ ip) {c cp:Nat} {o ob:Option Nat} {l:List Gl} {ps:List Int} (hil:L[il]? = some (itLine c o l)) (hip:L[ip]? = some (itLP cp ob ps)) (hps:ps.length ≤ 64) (a:Int) (ha:0 ≤ a ∧ a < 65536) (hlast:lastB t.acts a = true) :
  ∃ ob' H',R (T k) F.ζa [ligaV t,ptrV c,ptrV cp,.int .i64 a] H = .ok (.tuple #[]) H' ∧ Star H0 H' ((L.set il (itLine c o (perfS t ps a 0 [] l).1)).set ip (itLP cp ob' (perfS t ps a 0 [] l).2)):=by
 have hltl:=(List.getElem?_eq_some_iff.1 hil).1;have hltp:=(List.getElem?_eq_some_iff.1 hip).1;obtain ⟨res,hres⟩:∃ res,res = perfS t ps a 0 [] l:=⟨_,rfl⟩
 rw [← hres];obtain ⟨S,hS⟩:∃ S:List Gl → Option Nat → List Int → Option Nat → Value → List Int → List It,S = fun l' ob' ps' og s gone => (L.set il (itLine c o l')).set ip (itLP cp ob' ps') ++ [itRow og 1 s encI gone]:=⟨_,rfl⟩
 have hSv:∀ l' ob' ps' og s gone,S l' ob' ps' og s gone = (L.set il (itLine c o l')).set ip (itLP cp ob' ps') ++ [itRow og 1 s encI gone]:=fun _ _ _ _ _ _ => by rw [hS]
 clear hS;have atl:∀ l' ob' ps' og s gone,(S l' ob' ps' og s gone)[il]? = some (itLine c o l'):=fun l' ob' ps' og s gone => by
  rw [hSv,List.getElem?_append_left (by simpa using hltl),List.getElem?_set_ne (fun h => hne h.symm),List.getElem?_set_self hltl]
 have atp:∀ l' ob' ps' og s gone,(S l' ob' ps' og s gone)[ip]? = some (itLP cp ob' ps'):=fun l' ob' ps' og s gone => by
  rw [hSv,List.getElem?_append_left (by simpa using hltp),List.getElem?_set_self (by simpa using hltp)]
 have atr:∀ l' ob' ps' og s gone,(S l' ob' ps' og s gone)[L.length]? = some (itRow og 1 s encI gone):=fun l' ob' ps' og s gone => by
  rw [hSv,List.getElem?_append_right (by simp)];simp
 have setl:∀ l' l2 ob' ps' og s gone,(S l' ob' ps' og s gone).set il (itLine c o l2) = S l2 ob' ps' og s gone:=fun l' l2 ob' ps' og s gone => by
  rw [hSv,hSv,List.set_append_left _ _ (by simpa using hltl),List.set_comm _ _ (fun h => hne h.symm),List.set_set]
 have setp:∀ l' ob' ps' ob2 ps2 og s gone,(S l' ob' ps' og s gone).set ip (itLP cp ob2 ps2) = S l' ob2 ps2 og s gone:=fun l' ob' ps' ob2 ps2 og s gone => by
  rw [hSv,hSv,List.set_append_left _ _ (by simpa using hltp),List.set_set]
 have setr:∀ l' ob' ps' og s gone og2 s2 gone2,(S l' ob' ps' og s gone).set L.length (itRow og2 1 s2 encI gone2) = S l' ob' ps' og2 s2 gone2:=fun l' ob' ps' og s gone og2 s2 gone2 => by
  rw [hSv,hSv,List.set_append_right _ _ (by simp)];simp
 have fin:∀ {H':Heap} {l' ob' ps' og s gone},Star H0 H' (S l' ob' ps' og s gone) → (l',ps') = res → ∃ ob',Star H0 H' ((L.set il (itLine c o res.1)).set ip (itLP cp ob' res.2)):=fun {H' l' ob' ps' og s gone} g he => by
  rw [hSv] at g;subst he;exact ⟨ob',g.ζgg⟩
 have h1:Star H0 H (S l ob ps none (.slice none 0 0) []):=by
  rw [hSv,set_same hil,set_same hip];exact h.more_row (Ext.refl _) (OwnO.nil encI _ 1) (fun b hb => by cases hb)
 have hvb:veq (vwB t.comps) (vwB t.comps) = true:=veq_agg (l:=[lv encB t.comps]) fun u hu => by simp at hu; subst hu; exact veq_B t.comps
 obtain ⟨xx,e',H1,hr,hE,g⟩:=loop_up (body:=ζ4c k (R (T k))) ps.length
  (fun j e H' => ∃ (sum:Int) (gone:List Int) (l':List Gl) (og ob':Option Nat) (s:Value),e = [(0,ligaV t),(1,ptrV c),(2,ptrV cp),(3,.int .i64 (a + j)),(8,.int .i64 sum),(9,s)] ∧ Star H0 H' (S l' ob' (ps.drop j) og s gone) ∧ lastB t.acts (a + j) = true ∧ 0 ≤ sum ∧ sum ≤ 65535 * j ∧ gone.length ≤ j ∧ perfS t (ps.drop j) (a + j) sum gone l' = res)
  (fun xx e H' => (xx = .ret ∧ ((∃ b0 b8 b9 b10 b24,e = [(0,b0),(1,ptrV c),(2,ptrV cp),(3,.int .i64 (a + ps.length)),(8,b8),(9,b9),(10,b10),(24,b24)]) ∨ (∃ b0 b3 b8 b9 b10 b12 b15 b52,e = [(0,b0),(1,ptrV c),(2,ptrV cp),(3,b3),(8,b8),(9,b9),(10,b10),(12,b12),(15,b15),(52,b52)]) ∨ (∃ b0 b3 b8 b10 b12 b65,e = [(0,b0),(1,ptrV c),(2,ptrV cp),(3,b3),(8,b8),(10,b10),(12,b12),(65,b65)]) ∨ e = [])) ∧ ∃ ob',Star H0 H' ((L.set il (itLine c o res.1)).set ip (itLP cp ob' res.2)))
  (e0:=[(0,ligaV t),(1,ptrV c),(2,ptrV cp),(3,.int .i64 a),(8,.int .i64 0),(9,.slice none 0 0)]) (H0:=H) ⟨0,[],l,none,ob,.slice none 0 0,by simp,by simpa using h1,by simpa using hlast,Int.le_refl _,Int.le_refl _,Nat.le_refl _,by simpa using hres.symm⟩ (by omega)
  (fun j e H' hj ⟨sum,gone,l',og,ob',s,he,g,hl,hs0,hs1,hgl,hp⟩ => by
   subst he;have hd:ps.drop j = ps[j] :: ps.drop (j + 1):=List.drop_eq_getElem_cons hj;obtain ⟨x,hx⟩:∃ x,x = ps[j]:=⟨_,rfl⟩
   rw [← hx] at hd;have hdl:(ps.drop (j + 1)).length ≤ 63:=by rw [List.length_drop]; omega
   rw [hd] at hp g;obtain ⟨H2,e2,g⟩:=ζjd k g ip (by rw [List.length_cons]; omega) (atp _ _ _ _ _ _);rw [setp] at g;simp only [List.head?_cons,Option.getD_some,List.isEmpty_cons,Bool.not_false,List.tail_cons] at e2 g;obtain ⟨y,hy,hgy,hy0,hy1,hyl,hyn⟩:=ζso ht.byt.1 (by omega) hl;have hU:=fun H' => U32_run k (H:=H') (Sl.lv H' 1 t.acts) ht.byt.1 (4 * (a + j)) (by have:=ht.len.1; omega);rw [hy] at hU;have hat:=ζjj k g il (atl _ _ _ _ _ _) x;obtain ⟨q,hq⟩:∃ q,q = (atG l' x).getD ⟨0,0⟩:=⟨_,rfl⟩
   have hatA:encA (atG l' x) = .agg (encG q).toArray:=by rw [hq]; rfl
   rw [hatA] at hat;have hoff:=fun H' => ζm3 k y hy0 hy1 H';have hen:=fun H' => ζhu k t.comps ht.byt.2.1 ht.len.2.1 (IntKind.i64.wrap (q.id + offS y)) H';have hx2:Ext H2 (H2.push ⟨encG q,1,false⟩):=(Ext.refl H2).push _;have gq:(H2.push ⟨encG q,1,false⟩).get H2.n = some ⟨encG q,1,false⟩:=ζe _ _ _ rfl;unfold perfS at hp;rw [hgy,← hq] at hp;have gp:=g.rest hx2;cases hc:entryS t.comps (IntKind.i64.wrap (q.id + offS y)) with
   | none =>
    rw [hc] at hp hen;dsimp only at hp;refine .inr ⟨.ret,_,_,?_,by simp,⟨rfl,.inr (.inl ⟨ligaV t,.int .i64 (a + j),.int .i64 sum,s,.int .i64 x,.int .i64 y,.int .i64 0,.bool true,rfl⟩)⟩,fin gp hp⟩;rw [ζ1i];simp -implicitDefEqProofs (disch:=omega) [e2,hU,orF,hat,hoff,hen,gq,hvb]
   | some part =>
    rw [hc] at hp hen;dsimp only at hp;have hpart:0 ≤ part ∧ part < 65536:=by
     unfold entryS at hc;split at hc
     ·injection hc with hc;subst hc;obtain ⟨z,hz⟩:∃ z,uS t.comps (2 * IntKind.i64.wrap (q.id + offS y)) 2 = some z:=uS_of_in (by unfold inS; rw [decide_eq_true_eq]; omega);rw [gU_some hz];exact uS_two ht.byt.2.1 hz
     ·cases hc
    have hw:IntKind.i64.wrap (sum + part) = sum + part:=wrap_i64 (by omega) (by omega);have an:=fun H => and3031 Prog 3 H hy0 hy1;have an2:=fun H => and31 Prog 3 H hy0 hy1;have hgl2:gone.length < 2 ^ 31:=by omega
    have hj1:a + ((j + 1:Nat):Int) = a + j + 1:=by omega
    by_cases d1:y ≥ 1073741824
    ·rw [if_pos d1] at hp;have hne0:(y / 1073741824 * 1073741824 == 0) = false:=by rw [beq_eq_false_iff_ne]; omega
     obtain ⟨H3,e3,g3⟩:=ζm4 k t ht gp il L.length (by omega) (atl _ _ _ _ _ _) (atr _ _ _ _ _ _) hgl2 x (sum + part);rw [setl] at g3;cases hlg:entryS t.ligs (sum + part) with
     | none =>
      rw [hlg] at hp e3 g3;dsimp only at hp g3;refine .inr ⟨.ret,_,_,?_,by simp,⟨rfl,.inr (.inr (.inl ⟨ligaV t,.int .i64 (a + j),.int .i64 (sum + part),.int .i64 x,.int .i64 y,.bool true,rfl⟩))⟩,fin g3 hp⟩;rw [ζ1i];simp -implicitDefEqProofs (disch:=omega) [e2,hU,orF,hat,hoff,hen,gq,hvb,hw,an,bne,hne0,e3]
     | some id =>
      rw [hlg] at hp e3 g3;dsimp only at hp g3;by_cases d2:y ≥ 2147483648
      ·rw [if_pos d2] at hp an2;obtain ⟨ob2,H4,e4,g4⟩:=ζhv k g3 ip (by omega) (atp _ _ _ _ _ _) x;rw [setp] at g4;refine .inr ⟨.ret,_,_,?_,by simp,⟨rfl,.inr (.inr (.inr rfl))⟩,fin g4 hp⟩;rw [ζ1i];simp -implicitDefEqProofs (disch:=omega) [e2,hU,orF,hat,hoff,hen,gq,hvb,hw,an,hne0,e3,ζ56,an2,bne,e4]
      ·rw [if_neg d2] at hp an2;have g3:=g3.same L.length (atr _ _ _ _ _ _) (itRow none 1 (.slice none 0 0) encI []) (OwnO.nil encI _ 1) (fun b hb => by simp [itRow] at hb);rw [setr] at g3;obtain ⟨s5,o5,H5,e5,g5⟩:=g3.append1 (bytes:=8) L.length encI_len (atr _ _ _ _ _ _) x (by simp) (by decide);rw [setr] at g5;refine .inl ⟨_,H5,?_,sum + part,[x],storeG l' x id gone,o5,ob',s5,rfl,g5,by rw [hj1]; exact hyn d2,by omega,by omega,by simp,by rw [hj1]; exact hp⟩;rw [ζ1i,hj1];simp -implicitDefEqProofs (disch:=omega) [e2,hU,orF,hat,hoff,hen,gq,hvb,hw,an,hne0,e3,ζ56,an2,bne,e5]
    ·rw [if_neg d1] at hp;have hne0:(y / 1073741824 * 1073741824 == 0) = true:=by rw [beq_iff_eq]; omega
     rw [if_neg (show ¬ y ≥ 2147483648 by omega)] at an2;obtain ⟨s5,o5,H5,e5,g5⟩:=gp.append1 (bytes:=8) L.length encI_len (atr _ _ _ _ _ _) x (by omega) (by decide);rw [setr] at g5;simp only [hn_push] at e5;refine .inl ⟨_,H5,?_,sum + part,gone ++ [x],l',o5,ob',s5,rfl,g5,by rw [hj1]; exact hyn (by omega),by omega,by omega,by simp; omega,by rw [hj1]; exact hp⟩;rw [ζ1i,hj1];simp -implicitDefEqProofs (disch:=omega) [e2,hU,orF,hat,hoff,hen,gq,hvb,hw,an,hne0,ζad,an2,bne,e5])
  (fun e H' ⟨sum,gone,l',og,ob',s,he,g,hl,hs0,hs1,hgl,hp⟩ => by
   subst he;rw [List.drop_length] at g hp;obtain ⟨H2,e2,g⟩:=ζjd k g ip (by simp) (atp _ _ _ _ _ _);rw [setp] at g;simp only [List.head?_nil,Option.getD_none,List.isEmpty_nil,Bool.not_true,List.tail_nil] at e2 g;refine ⟨.ret,_,H2,?_,by simp,⟨rfl,.inl ⟨ligaV t,.int .i64 sum,s,.int .i64 0,.bool true,rfl⟩⟩,fin g hp⟩;rw [ζ1i];simp -implicitDefEqProofs [e2])
 obtain ⟨ob',g⟩:=g;obtain ⟨rfl,hE⟩:=hE;refine ⟨ob',H1,?_,g⟩;rw [ζg5,nrm_of];rcases hE with ⟨b0,b8,b9,b10,b24,rfl⟩ | ⟨b0,b3,b8,b9,b10,b12,b15,b52,rfl⟩ | ⟨b0,b3,b8,b10,b12,b65,rfl⟩ | rfl
 ·simp -implicitDefEqProofs [ζa,hr,ζae]
 ·simp -implicitDefEqProofs [ζa,hr,ζ97]
 ·simp -implicitDefEqProofs [ζa,hr,ζ98]
 ·simp -implicitDefEqProofs [ζa,hr,ζ99]
end Go.Sw
end
section
namespace Go.Sw
open Go.RowKit
theorem veq_liga (t:LTab):veq (ligaV t) (ligaV t) = true:=veq_boxV (l:=ligaC t) fun v hv => by
 simp [ligaC] at hv;rcases hv with rfl | rfl | rfl | rfl
 ·exact veq_mach _
 ·exact veq_B _
 ·exact veq_B _
 ·exact veq_B _
def ligaW (t:LTab) (L:List It) (il c p3 p4 cp:Nat) (o:Option Nat) (s:List Gl × List Int) (ob:Option Nat):List It :=
 L.set il (itLine c o s.1) ++ [itLP cp ob s.2,itBlk p3 ⟨[ptrV c],1,false⟩,itBlk p4 ⟨[ligaV t],1,false⟩]
set_option maxHeartbeats 2000000 in
theorem liga_do (k:Nat) (t:LTab) (ht:t.ok) (L:List It) (il c p3 p4 cp:Nat) (o:Option Nat) (hil:il < L.length) (n:Int) {H0:Heap} :
  DoOkG k t.m H0 (ligaW t L il c p3 p4 cp o) (fun s => (s.1.length:Int) = n ∧ KeptOk n s.2) (.func (.func F.ζj) #[] #[ptrV p3,ptrV cp,ptrV p4]) (doLi t):=by
 intro s w j e H X hI st h0 h1 he;have hlen':=doLi_len t s j e;have hkept':=ζoi t hI.1 hI.2 h0 e;obtain ⟨l,ps⟩:=s;dsimp only at hI hlen' hkept';have heb:=ht.m.ent e he;have hhas:=ht.has e he;unfold ligaW at st;dsimp only at st;obtain ⟨B,hB⟩:∃ B:List It,B = [itBlk p3 ⟨[ptrV c],1,false⟩,itBlk p4 ⟨[ligaV t],1,false⟩] ++ (X ++ [itBlk H.n ⟨encEn e,1,false⟩]):=⟨_,rfl⟩
 obtain ⟨S,hS⟩:∃ S:List Gl → Option Nat → List Int → List It,S = fun l' ob' ps' => L.set il (itLine c o l') ++ itLP cp ob' ps' :: B:=⟨_,rfl⟩
 have hSv:∀ l' ob' ps',S l' ob' ps' = L.set il (itLine c o l') ++ itLP cp ob' ps' :: B:=fun _ _ _ => by rw [hS]
 clear hS;have hpx:∀ l' ob' ps',(S l' ob' ps')[L.length]? = some (itLP cp ob' ps'):=fun l' ob' ps' => by
  rw [hSv,List.getElem?_append_right (by simp)];simp
 have hlx:∀ l' ob' ps',(S l' ob' ps')[il]? = some (itLine c o l'):=fun l' ob' ps' => by
  rw [hSv,List.getElem?_append_left (by simpa using hil),List.getElem?_set_self hil]
 have setP:∀ l' ob' ps' ob2 ps2,(S l' ob' ps').set L.length (itLP cp ob2 ps2) = S l' ob2 ps2:=fun l' ob' ps' ob2 ps2 => by
  rw [hSv,hSv,List.set_append_right _ _ (by simp)];simp
 have setL:∀ l' ob' ps' l2,(S l' ob' ps').set il (itLine c o l2) = S l2 ob' ps':=fun l' ob' ps' l2 => by
  rw [hSv,hSv,List.set_append_left _ _ (by simpa using hil),List.set_set]
 have look:∀ {H':Heap} {l' ob' ps'},Star H0 H' (S l' ob' ps') → H'.get p3 = some ⟨[ptrV c],1,false⟩ ∧ H'.get p4 = some ⟨[ligaV t],1,false⟩ ∧ H'.get H.n = some ⟨encEn e,1,false⟩ ∧ R (T k) F.ζ3g [ptrV c] H' = .ok (.int .i64 l'.length) H':=fun {H' l' ob' ps'} h => by
  have hl:=ζlf k h il (hlx _ _ _);rw [hSv,hB] at h;exact ⟨h.memBlk (by simp),h.memBlk (by simp),h.memBlk (by simp),hl⟩
 have st2:Star H0 (H.push ⟨encEn e,1,false⟩) (S l w ps):=by
  have:=st.push ⟨encEn e,1,false⟩;rw [hSv,hB];simpa using this
 have fin:∀ {H':Heap} {l' ob' ps'},Star H0 H' (S l' ob' ps') → Star H0 H' (ligaW t L il c p3 p4 cp o (l',ps') ob' ++ X):=fun {H' l' ob' ps'} h => by
  rw [hSv,hB] at h;have e1:L.set il (itLine c o l') ++ itLP cp ob' ps' :: ([itBlk p3 ⟨[ptrV c],1,false⟩,itBlk p4 ⟨[ligaV t],1,false⟩] ++ (X ++ [itBlk H.n ⟨encEn e,1,false⟩])) = (ligaW t L il c p3 p4 cp o (l',ps') ob' ++ X) ++ [itBlk H.n ⟨encEn e,1,false⟩]:=by
   unfold ligaW;simp
  rw [e1] at h;exact h.ζgg
 have ha15:=fun H => and15 Prog 3 H heb.2.2.1 heb.2.2.2.1;have ha13:=fun H => and13 Prog 3 H heb.2.2.1 heb.2.2.2.1;obtain ⟨v3,v4,v7,v8⟩:=look st2;clear st;obtain ⟨k1,hk1⟩:∃ k1,k1 = if e.flags ≥ 32768 ∧ j < (l.length:Int) then pushP j ps else ps:=⟨_,rfl⟩
 have hdo:doLi t (l,ps) j e = if e.flags / 8192 % 2 = 1 then perfS t k1 e.a 0 [] l else (l,k1):=by
  unfold doLi;rw [hk1]
 have hk64:k1.length ≤ 64:=by
  rw [hk1];split
  ·rename_i hc;exact (pushP_ok hI.2 ⟨h0,by rw [← hI.1]; exact hc.2⟩).1
  ·exact hI.2.1
 -- the second part
 have tail:∀ {H':Heap} {ob1},Star H0 H' (S l ob1 k1) → ∃ H'' w',ζ4a k (R (T k)) (ptrV p3) (ptrV cp) (ptrV p4) (ptrV H.n) H' = .ok (.tuple #[]) H'' ∧ (∀ a0 a16,ζ4b k (R (T k)) a0 (ptrV p3) (ptrV cp) (ptrV p4) (ptrV H.n) a16 H' = .ok (.tuple #[]) H'') ∧ Star H0 H'' (ligaW t L il c p3 p4 cp o (doLi t (l,ps) j e) w' ++ X):=fun {H' ob1} h => by
  obtain ⟨w3,w4,w7,_⟩:=look h;rw [hdo];by_cases d:e.flags / 8192 % 2 = 1
  ·rw [if_pos d] at ha13 ⊢;obtain ⟨ob2,H2,e2,g2⟩:=ζjc k t ht h il L.length (by omega) (hlx _ _ _) (hpx _ _ _) hk64 e.a (by omega) (hhas.resolve_left (fun hh => hh d));rw [setL,setP] at g2;refine ⟨H2,ob2,?_,fun a0 a16 => ?_,fin g2⟩
   ·rw [ζ54];simp -implicitDefEqProofs (disch:=omega) [w7,ha13,bne,w3,w4,e2]
   ·rw [ζ55];simp -implicitDefEqProofs (disch:=omega) [w7,ha13,bne,w3,w4,e2]
  ·rw [if_neg d] at ha13 ⊢;refine ⟨H',ob1,?_,fun a0 a16 => ?_,fin h⟩
   ·rw [ζ54];simp -implicitDefEqProofs (disch:=omega) [w7,ha13,bne]
   ·rw [ζ55];simp -implicitDefEqProofs (disch:=omega) [w7,ha13,bne]
 by_cases d2:e.flags ≥ 32768
 ·rw [if_pos d2] at ha15;by_cases d3:j < (l.length:Int)
  ·rw [if_pos ⟨d2,d3⟩] at hk1;obtain ⟨ob1,H2,e2,g2⟩:=ζhv k st2 L.length hI.2.1 (hpx _ _ _) j;rw [setP,← hk1] at g2;obtain ⟨H3,w',t1,_,t3⟩:=tail g2;refine ⟨.tuple #[],H3,w',?_,t3,⟨by rw [hlen']; exact hI.1,hkept'⟩⟩;simp only [callV,List.nil_append,List.cons_append];rw [ζ4o,nrm_of];simp -implicitDefEqProofs (disch:=omega) [ζj,v7,ha15,bne,v3,v8,d3,e2,t1]
  ·rw [if_neg fun h => d3 h.2] at hk1;rw [← hk1] at st2;obtain ⟨H3,w',_,t1,t3⟩:=tail st2;refine ⟨.tuple #[],H3,w',?_,t3,⟨by rw [hlen']; exact hI.1,hkept'⟩⟩;simp only [callV,List.nil_append,List.cons_append];rw [ζ4o,nrm_of];simp -implicitDefEqProofs (disch:=omega) [ζj,v7,ha15,bne,v3,v8,d3,t1]
 ·rw [if_neg d2] at ha15;rw [if_neg fun h => d2 h.1] at hk1;rw [← hk1] at st2;obtain ⟨H3,w',_,t1,t3⟩:=tail st2;refine ⟨.tuple #[],H3,w',?_,t3,⟨by rw [hlen']; exact hI.1,hkept'⟩⟩;simp only [callV,List.nil_append,List.cons_append];rw [ζ4o,nrm_of];simp -implicitDefEqProofs (disch:=omega) [ζj,v7,ha15,bne,t1]
set_option maxRecDepth 20000 in
set_option maxHeartbeats 1000000 in
theorem ζny (k:Nat) (t:LTab) (ht:t.ok) {H0 H:Heap} {L:List It} (h:Star H0 H L) (il:Nat) {c:Nat} {o:Option Nat} {l:List Gl} (hil:L[il]? = some (itLine c o l)) (hl:l.length < 2 ^ 40) :
  ∃ H',R (T k) F.ζ46 [ligaV t,ptrV c] H = .ok (.int .i64 (runL t l).2) H' ∧ Star H0 H' (L.set il (itLine c o (runL t l).1)):=by
 have hll:=(List.getElem?_eq_some_iff.1 hil).1;have st:=((h.push ⟨[ligaV t],1,false⟩).push ⟨[ptrV c],1,false⟩).push ⟨[.slice none 0 0],1,false⟩;simp only [hn_push] at st;obtain ⟨H3,hH3⟩:∃ H3,H3 = ((H.push ⟨[ligaV t],1,false⟩).push ⟨[ptrV c],1,false⟩).push ⟨[.slice none 0 0],1,false⟩:=⟨_,rfl⟩
 rw [← hH3] at st;have ik:(L ++ [itBlk H.n ⟨[ligaV t],1,false⟩] ++ [itBlk (H.n + 1) ⟨[ptrV c],1,false⟩] ++ [itBlk (H.n + 1 + 1) ⟨[.slice none 0 0],1,false⟩])[L.length + 2]? = some (itBlk (H.n + 1 + 1) ⟨[.slice none 0 0],1,false⟩):=by
  rw [List.getElem?_append_right (by simp)];simp
 have st:=st.same (L.length + 2) ik (itLP (H.n + 1 + 1) none []) ⟨_,st.get _ ik,.inl ⟨rfl,rfl,rfl⟩⟩ fun b hb => by simpa [itLP,itBlk] using hb
 have eset:∀ (x1 x2 x3 y:It),(L ++ [x1] ++ [x2] ++ [x3]).set (L.length + 2) y = L ++ ([x1,x2] ++ [y]):=fun x1 x2 x3 y => by
  rw [List.set_append_right _ _ (by simp)];simp
 rw [eset] at st;have st:Star H0 H3 (ligaW t L il c (H.n + 1) H.n (H.n + 1 + 1) o (l,[]) none):=by
  refine st.perm ?_;unfold ligaW;dsimp only;rw [set_same hil];refine List.Perm.append_left L ?_;exact List.perm_append_comm.trans (List.Perm.cons _ (List.Perm.swap _ _ _))
 have ePl:=plainNew k (.func F.ζj) #[] #[ptrV (H.n + 1),ptrV (H.n + 1 + 1),ptrV H.n] H3;have st4:=st.push ⟨[.func (.func F.ζj) #[] #[ptrV (H.n + 1),ptrV (H.n + 1 + 1),ptrV H.n]],1,false⟩;have hact:=ζsw k (liga_do k t ht L il c (H.n + 1) H.n (H.n + 1 + 1) o hll (l.length:Int) (H0:=H0)) H3.n
 obtain ⟨H7,w7,eR,st5,_⟩:=ζly k t.m ht.m (fun (s:List Gl × List Int) (ob:Option Nat) => ligaW t L il c (H.n + 1) H.n (H.n + 1 + 1) o s ob ++ [itBlk H3.n ⟨[.func (.func F.ζj) #[] #[ptrV (H.n + 1),ptrV (H.n + 1 + 1),ptrV H.n]],1,false⟩]) (fun s => (s.1.length:Int) = (l.length:Int) ∧ KeptOk (l.length:Int) s.2) (fun s => s.1) c
  (fun s ob => ⟨il,o,by
   unfold ligaW;rw [List.append_assoc,List.getElem?_append_left (by simpa using hll),List.getElem?_set_self hll]⟩) _ _ hact [] (l,[]) none ⟨rfl,by simp,fun x hx => by simp at hx⟩ (by simpa [List.append_assoc] using st4) hl
 have hr:runD t.m (fun s:List Gl × List Int => s.1) (fun s i e => (doLi t s i e,i,i + 1)) (2 * (l.length:Int) + 128) (2 * l.length + 128) ((l,[]),⟨0,0,0,0⟩) = runLr t l:=by unfold runLr; rfl
 rw [hr] at eR st5;have b0:=st4.memBlk (c:=H.n) (k:=⟨[ligaV t],1,false⟩) (by unfold ligaW; simp);have b1:=st4.memBlk (c:=H.n + 1) (k:=⟨[ptrV c],1,false⟩) (by unfold ligaW; simp);refine ⟨H7,?_,?_⟩
 ·rw [ζje,nrm_of];have v1:=veq_liga t;have v2:=veq_mach t.m;unfold runL;generalize runLr t l = r at eR ⊢;rw [hH3] at ePl eR b0 b1;simp only [hn_push] at ePl eR;simp -implicitDefEqProofs (disch:=omega) [ζ46,ePl,eR,v1,v2]
 ·unfold runL;generalize runLr t l = r at st5 ⊢;unfold ligaW at st5;have:=st5.take L.length;rw [List.append_assoc,List.append_assoc,List.take_append_of_le_length (by simp),List.take_of_length_le (by simp)] at this;exact this
end Go.Sw
end
section
namespace Go.Sw
open Go.RowKit
theorem wf_u32 {n:Int} (h:(Lit.int .u32 n).wf = true):0 ≤ n ∧ n < 4294967296:=by
 simp [Lit.wf,IntKind.min,IntKind.max,IntKind.signed,IntKind.bits] at h;omega
abbrev lplSh:ASh:=.agg [.slice [.int .u8],.slice [.slice [.int .u8]],.slice [.int .i64,.int .i64,.int .i64,.int .i64],.int .u8,.slice [.int .u32],.slice [.int .u16],.slice [.int .u16]]
theorem row_F {r:List Da} {cs:List Value} (h:LayRow [.int .u32] r cs):∃ n:Int,cs = encF n ∧ (0 ≤ n ∧ n < 4294967296):=by
 obtain ⟨_,v1,_,_,rfl,h1,h⟩:=h.head;obtain rfl:=h.done;obtain ⟨n,rfl,w⟩:=h1.intv;exact ⟨n,rfl,wf_u32 w⟩
theorem row_H {r:List Da} {cs:List Value} (h:LayRow [.int .u16] r cs):∃ n:Int,cs = encH n ∧ (0 ≤ n ∧ n < 65536):=by
 obtain ⟨_,v1,_,_,rfl,h1,h⟩:=h.head;obtain rfl:=h.done;obtain ⟨n,rfl,w⟩:=h1.intv;exact ⟨n,rfl,wf_u16 w⟩
theorem arg_lpl {v:Value} (h:ArgLay lplSh v):∃ x,v = lplV x ∧ x.ok:=by
 cases h with
 | agg ss ds vs h =>
  obtain ⟨_,v1,_,_,rfl,h1,h⟩:=h.head;obtain ⟨_,v2,_,_,rfl,h2,h⟩:=h.head;obtain ⟨_,v3,_,_,rfl,h3,h⟩:=h.head;obtain ⟨_,v4,_,_,rfl,h4,h⟩:=h.head;obtain ⟨_,v5,_,_,rfl,h5,h⟩:=h.head;obtain ⟨_,v6,_,_,rfl,h6,h⟩:=h.head;obtain ⟨_,v7,_,_,rfl,h7,h⟩:=h.head;obtain rfl:=h.done;obtain ⟨a,rfl,wa⟩:=Lay.list (enc:=encB) (ok:=fun n => 0 ≤ n ∧ n < 256) (fun r cs h => row_B h) h1;obtain ⟨b,rfl,wb⟩:=Lay.list (enc:=encBR) (ok:=Byt) (fun r cs h => row_BR h) h2;obtain ⟨c,rfl,wc⟩:=Lay.list (enc:=encEn) (ok:=fun _ => True) (fun r cs h => row_En h) h3;obtain ⟨d,rfl,wd⟩:=h4.intv;obtain ⟨f,rfl,wf⟩:=Lay.list (enc:=encF) (ok:=fun n => 0 ≤ n ∧ n < 4294967296) (fun r cs h => row_F h) h5;obtain ⟨p,rfl,wp⟩:=Lay.list (enc:=encH) (ok:=fun n => 0 ≤ n ∧ n < 65536) (fun r cs h => row_H h) h6;obtain ⟨q,rfl,wq⟩:=Lay.list (enc:=encH) (ok:=fun n => 0 ≤ n ∧ n < 65536) (fun r cs h => row_H h) h7;exact ⟨⟨⟨a,b,c,d⟩,f,p,q⟩,rfl,⟨⟨wa,wb,wf_u8 wd⟩,wf,wp,wq⟩⟩
end Go.Sw
end
