/-
  Functions' forms, and what is proved of them, part 10.
-/
import Derived.Test.YtanfippcmdialaaGreatSwW9
import Derived.Test.YtanfippcmdialaaGreatSwCfg
import Derived.Test.YtanfippcmdialaaGreatSwW3
import Derived.Test.YtanfippcmdialaaGreatSwW6
import Derived.Test.YtanfippcmdialaaGreatSwW8
import Derived.Test.YtanfippcmdialaaGreatSwW5
import Derived.Test.YtanfippcmdialaaGreatSwW2
set_option linter.unusedSimpArgs false
set_option linter.unusedVariables false
set_option linter.unusedSectionVars false
section
namespace Go.Sw
open Go.RowKit
theorem ζfy {α:Type} {L:List α} {i:Nat} {x:α} (h:L[i]? = some x):L.set i x = L:=by
 obtain ⟨hlt,hx⟩:=List.getElem?_eq_some_iff.1 h;rw [← hx,List.set_getElem_self]
theorem ζgz (k:Nat) (hk:k < 1000000) (m:Mv) (hm:m.ok) {H0 H:Heap} {L:List It} (h:Star H0 H L) (il ip:Nat) (hne:il ≠ ip) {c p:Nat} {o op:Option Nat} {down:Bool} (cross:Bool) {gl:List Gl} {l:List Pl} (hil:L[il]? = some (itLine c o gl)) (hip:L[ip]? = some (itPl p op down l)) {pv:Value} {pg:Int → Int → Option (Int × Int)} (hpg:AnkIn k L il ip pv pg) (hl:gl.length < 2 ^ 30) (hok:∀ q,q ∈ l → q.ok) :
  ∃ H',invokeR Prog (R (T k)) (mvV m) kmvN [ptrV c,ptrV p,pv,.bool cross] H = .ok (.int .i64 (kmoveS m gl cross down pg l).2) H' ∧ Star H0 H' (L.set ip (itPl p op down (kmoveS m gl cross down pg l).1)) ∧ ∀ q,q ∈ (kmoveS m gl cross down pg l).1 → q.ok:=by
 have hlt:=(List.getElem?_eq_some_iff.1 hip).1;have hll:=(List.getElem?_eq_some_iff.1 hil).1;cases m with
 | no =>
  refine ⟨H.push ⟨[],1,false⟩,?_,?_,hok⟩
  ·show invokeR Prog (R (T k)) (.iface tyNo _) _ _ _ = _;rw [inv_no,ζcr,nrm_of];simp -implicitDefEqProofs [ζ4k,kmoveS]
  ·show Star H0 _ (L.set ip (itPl p op down l));rw [ζfy hip];exact h.rest ((Ext.refl H).push _)
 | pairs t =>
  obtain ⟨H',e,g⟩:=ζg8 k hk t hm h il ip hne cross hil hip pv hl hok;refine ⟨H',?_,g,ζda t gl cross down hok _⟩;show invokeR Prog (R (T k)) (.iface tyPairs _) _ _ _ = _;rw [ζmv];exact e
 | stacks t =>
  have st:=h.push ⟨[stackV t],1,false⟩;obtain ⟨H',e,g⟩:=ζhn k t hm st il ip hne (c:=c) (p:=p) (o:=o) (op:=op) (down:=down) cross (gl:=gl) (l:=l) (by rw [List.getElem?_append_left hll]; exact hil) (by rw [List.getElem?_append_left hlt]; exact hip) (by omega) hok;rw [List.set_append_left _ _ hlt] at g;have g:=g.take L.length;rw [List.take_append_of_le_length (by simp),List.take_of_length_le (by simp)] at g;refine ⟨H',?_,g,runSt_ok t hm.m gl down cross l hok⟩;show invokeR Prog (R (T k)) (.iface tyStacks _) _ _ _ = _;rw [ζl5,ζas,nrm_of];simp -implicitDefEqProofs [ζ35,e,kmoveS]
 | binds t =>
  have st:=h.push ⟨[bindV t],1,false⟩;obtain ⟨H',e,g,hko⟩:=ζgi k t hm st il ip hne (c:=c) (p:=p) (o:=o) (op:=op) (down:=down) (gl:=gl) (l:=l) (by rw [List.getElem?_append_left hll]; exact hil) (by rw [List.getElem?_append_left hlt]; exact hip) hpg.ok (fun H2 l2 Y h2 => hpg.has (fun i x h1 h3 h4 => by
   have hi:=(List.getElem?_eq_some_iff.1 h4).1;rw [List.getElem?_append_left (by simp; omega),List.getElem?_set_ne (by omega),List.getElem?_append_left hi];exact h4) h2) hpg.st hpg.ce (by omega) hok
  rw [List.set_append_left _ _ hlt] at g;have g:=g.take L.length;rw [List.take_append_of_le_length (by simp),List.take_of_length_le (by simp)] at g;refine ⟨H',?_,g,hko⟩;show invokeR Prog (R (T k)) (.iface tyBinds _) _ _ _ = _;rw [ζmu,ζbl,nrm_of];simp -implicitDefEqProofs [ζ3r,e,kmoveS]
theorem AnkIn.more {k:Nat} {L L':List It} {il ip:Nat} {pv:Value} {pg:Int → Int → Option (Int × Int)} (h:AnkIn k L il ip pv pg) (hL:∀ i x,i ≠ il → i ≠ ip → L[i]? = some x → L'[i]? = some x):AnkIn k L' il ip pv pg:=by
 refine ⟨h.st,h.ce,h.ok,?_⟩;rcases h.at_ with h | ⟨ia,an,h1,h2,h3,h4⟩
 ·exact .inl h
 ·exact .inr ⟨ia,an,h1,h2,hL _ _ h1 h2 h3,h4⟩
theorem ζfc {k:Nat} {H H':Heap} {x:KSub} {q:Nat} (hq:H.get q = some ⟨encK x,1,false⟩) {c p v pv:Value} (h:invokeR Prog (R (T k)) (mvV x.mv) kmvN [c,p,pv,.bool x.cov.cross] H = .ok v H'):subTail (R (T k)) c p pv (ptrV q) H = .ok v H':=by
 unfold subTail;simp -implicitDefEqProofs [hq,mv_cells,h]
theorem ζkg (k:Nat) (hk:k < 1000000) (x:KSub) (hx:x.mv.ok) (dir:Int) {H0 H:Heap} {L:List It} (h:Star H0 H L) (il ip:Nat) (hne:il ≠ ip) {c p:Nat} {o op:Option Nat} {down:Bool} {gl:List Gl} {l:List Pl} (hil:L[il]? = some (itLine c o gl)) (hip:L[ip]? = some (itPl p op down l)) {pv:Value} {pg:Int → Int → Option (Int × Int)} (hpg:AnkIn k L il ip pv pg) (hl:gl.length < 2 ^ 30) (hll:l.length < 2 ^ 30) (hok:∀ q,q ∈ l → q.ok) :
  ∃ H',R (T k) F.ζ0 [ksubV x,ptrV c,ptrV p,.int .i64 dir,pv] H = .ok (.int .i64 (subRun x dir gl down pg l).2) H' ∧ Star H0 H' (L.set ip (itPl p op down (subRun x dir gl down pg l).1)) ∧ ∀ q,q ∈ (subRun x dir gl down pg l).1 → q.ok:=by
 have hlt:=(List.getElem?_eq_some_iff.1 hip).1;have hlt2:=(List.getElem?_eq_some_iff.1 hil).1;have hbx:boxR (ksubV x) H = .ok (ptrV H.n) (H.push ⟨encK x,1,false⟩):=by
  simp -implicitDefEqProofs [mv_st]
 have hf0:∀ H',fieldAddrR Prog 213 (ptrV H.n) 0 H' = .ok (ptrV H.n) H':=fun H' => by
  simp -implicitDefEqProofs
 have st:=h.push ⟨encK x,1,false⟩;have hil1:(L ++ [itBlk H.n ⟨encK x,1,false⟩])[il]? = some (itLine c o gl):=by rw [List.getElem?_append_left hlt2]; exact hil
 have hip1:(L ++ [itBlk H.n ⟨encK x,1,false⟩])[ip]? = some (itPl p op down l):=by rw [List.getElem?_append_left hlt]; exact hip
 have hq1:(L ++ [itBlk H.n ⟨encK x,1,false⟩])[L.length]? = some (itBlk H.n ⟨encK x,1,false⟩):=by simp
 have hld:∀ H':Heap,H'.get H.n = some ⟨encK x,1,false⟩ → loadR Prog 209 (ptrV H.n) H' = .ok (covV x.cov) H':=fun H' hg => by
  simp -implicitDefEqProofs [hg]
 have ht:=fun H' => ζlx k x.cov dir H';have hmore:∀ i y,i ≠ il → i ≠ ip → L[i]? = some y → (L ++ [itBlk H.n ⟨encK x,1,false⟩])[i]? = some y:=fun i y h1 h2 h3 => by
  rw [List.getElem?_append_left (List.getElem?_eq_some_iff.1 h3).1]; exact h3
 rw [ζfx];unfold subRun;cases hT:turnedS x.cov dir with
 | false =>
  rw [hT] at ht;obtain ⟨H2,e2,g2,hko⟩:=ζgz k hk x.mv hx st il ip hne x.cov.cross hil1 hip1 (pv:=pv) (pg:=pg) (hpg.more hmore) hl hok;rw [List.set_append_left _ _ hlt] at g2;have g2:=g2.take L.length;rw [List.take_append_of_le_length (by simp),List.take_of_length_le (by simp)] at g2;refine ⟨H2,?_,g2,hko⟩;exact nrm_of (sub_no (R (T k)) hbx (hf0 _) (hld _ (st.get _ hq1)) (ht _) (ζfc (st.get _ hq1) e2))
 | true =>
  rw [hT] at ht;obtain ⟨H2,e2,g2⟩:=ζba k st il hil1 (by omega);have hip2:((L ++ [itBlk H.n ⟨encK x,1,false⟩]).set il (itLine c o gl.reverse))[ip]? = some (itPl p op down l):=by rw [List.getElem?_set_ne hne]; exact hip1
  obtain ⟨H3,e3,g3⟩:=ζfe k g2 ip hip2 (by omega);have hil3:(((L ++ [itBlk H.n ⟨encK x,1,false⟩]).set il (itLine c o gl.reverse)).set ip (itPl p op down l.reverse))[il]? = some (itLine c o gl.reverse):=by
   rw [List.getElem?_set_ne (Ne.symm hne),List.getElem?_set_self (by simp; omega)]
  have hip3:(((L ++ [itBlk H.n ⟨encK x,1,false⟩]).set il (itLine c o gl.reverse)).set ip (itPl p op down l.reverse))[ip]? = some (itPl p op down l.reverse):=by
   rw [List.getElem?_set_self (by simp; omega)]
  have hq3:(((L ++ [itBlk H.n ⟨encK x,1,false⟩]).set il (itLine c o gl.reverse)).set ip (itPl p op down l.reverse))[L.length]? = some (itBlk H.n ⟨encK x,1,false⟩):=by
   rw [List.getElem?_set_ne (by omega),List.getElem?_set_ne (by omega)]; exact hq1
  obtain ⟨H4,e4,g4,hko⟩:=ζgz k hk x.mv hx g3 il ip hne x.cov.cross hil3 hip3 (pv:=pv) (pg:=pg) (hpg.more fun i y h1 h2 h3 => by
   rw [List.getElem?_set_ne (Ne.symm h2),List.getElem?_set_ne (Ne.symm h1)]; exact hmore i y h1 h2 h3) (by simpa using hl) (fun q hq => hok q (by simpa using hq))
  have hlen:=ζcz x.mv hx gl.reverse x.cov.cross down pg l.reverse;generalize kmoveS x.mv gl.reverse x.cov.cross down pg l.reverse = res at e4 g4 hlen hko;rw [List.set_set] at g4;have hip4:(((L ++ [itBlk H.n ⟨encK x,1,false⟩]).set il (itLine c o gl.reverse)).set ip (itPl p op down res.1))[ip]? = some (itPl p op down res.1):=by
   rw [List.getElem?_set_self (by simp; omega)]
  obtain ⟨H5,e5,g5⟩:=ζfe k g4 ip hip4 (by rw [hlen,List.length_reverse]; omega);rw [List.set_set] at g5;have hil5:(((L ++ [itBlk H.n ⟨encK x,1,false⟩]).set il (itLine c o gl.reverse)).set ip (itPl p op down res.1.reverse))[il]? = some (itLine c o gl.reverse):=by
   rw [List.getElem?_set_ne (Ne.symm hne),List.getElem?_set_self (by simp; omega)]
  obtain ⟨H6,e6,g6⟩:=ζba k g5 il hil5 (by simp; omega);rw [List.reverse_reverse,List.set_comm _ _ (Ne.symm hne),List.set_set,ζfy hil1,List.set_append_left _ _ hlt] at g6;have g6:=g6.take L.length;rw [List.take_append_of_le_length (by simp),List.take_of_length_le (by simp)] at g6;refine ⟨H6,?_,g6,fun q hq => hko q (by simpa using hq)⟩;exact nrm_of (sub_yes (R (T k)) hbx (hf0 _) (hld _ (st.get _ hq1)) (ht _) e2 e3 (ζfc (g3.get _ hq3) e4) (ζea e5) (ζh3 e6))
end Go.Sw
end
section
namespace Go.Sw
open Go.RowKit
def runKs (dir:Int) (gl:List Gl) (down:Bool) (pg:Int → Int → Option (Int × Int)):List KSub → Nat → List Pl → List Pl × Int × Nat
 | [],_,l => (l,0,0)
 | x :: xs,j,l => if runsS x.cov dir then (if (subRun x dir gl down pg l).2 = 0 then runKs dir gl down pg xs (j + 1) (subRun x dir gl down pg l).1 else ((subRun x dir gl down pg l).1,(subRun x dir gl down pg l).2,j)) else runKs dir gl down pg xs (j + 1) l
abbrev fltV (z:Int) (j:Nat):Value:=.agg #[.int .i64 z,.int .i64 0,.int .i64 j]
theorem ζc5 (dir:Int) (gl:List Gl) (down:Bool) (pg:Int → Int → Option (Int × Int)):∀ (t:List KSub) (j:Nat) (l:List Pl),(∀ x,x ∈ t → x.mv.ok) → (runKs dir gl down pg t j l).1.length = l.length
 | [],_,_,_ => rfl
 | x :: xs,j,l,h => by
  have h1:=ζhr x (h x List.mem_cons_self) dir gl down pg l;unfold runKs;split
  ·split
   ·rw [ζc5 dir gl down pg xs (j + 1) _ fun y hy => h y (List.mem_cons_of_mem _ hy),h1]
   ·exact h1
  ·exact ζc5 dir gl down pg xs (j + 1) l fun y hy => h y (List.mem_cons_of_mem _ hy)
set_option maxHeartbeats 1000000 in
theorem ζcp (k:Nat) (hk:k < 1000000) (t:List KSub) (ht:∀ x,x ∈ t → x.mv.ok) (htl:t.length < 2 ^ 31) (dir:Int) {H0 H:Heap} {L:List It} (h:Star H0 H L) (il ip:Nat) (hne:il ≠ ip) {c p:Nat} {o op:Option Nat} {down:Bool} {gl:List Gl} {l:List Pl} (hil:L[il]? = some (itLine c o gl)) (hip:L[ip]? = some (itPl p op down l)) {pv:Value} {pg:Int → Int → Option (Int × Int)} (hpg:AnkIn k L il ip pv pg) (hl:gl.length < 2 ^ 30) (hll:l.length < 2 ^ 30) (hok:∀ q,q ∈ l → q.ok) :
  ∃ H',R (T k) F.ζp [kerxV t,ptrV c,ptrV p,.int .i64 dir,pv] H = .ok (fltV (runKs dir gl down pg t 0 l).2.1 (runKs dir gl down pg t 0 l).2.2) H' ∧ Star H0 H' (L.set ip (itPl p op down (runKs dir gl down pg t 0 l).1)) ∧ ∀ q,q ∈ (runKs dir gl down pg t 0 l).1 → q.ok:=by
 generalize hW:runKs dir gl down pg t 0 l = W;have hlt:=(List.getElem?_eq_some_iff.1 hip).1;have hlt2:=(List.getElem?_eq_some_iff.1 hil).1;have st:=h.push ⟨[.int .i64 0,.int .i64 0,.int .i64 0],1,false⟩
 obtain ⟨xx,e',H1,hr1,hQ⟩:=loop_up (body:=ζ5k k (R (T k))) t.length
  (fun j e' H' => e' = [(1,ptrV c),(2,ptrV p),(3,.int .i64 dir),(4,pv),(10,ptrV H.n),(17,lv encK t),(18,.int .i64 t.length),(19,.int .i64 j)] ∧ ∃ lj,Star H0 H' (L.set ip (itPl p op down lj) ++ [itBlk H.n ⟨[.int .i64 0,.int .i64 0,.int .i64 0],1,false⟩]) ∧ lj.length = l.length ∧ (∀ q,q ∈ lj → q.ok) ∧ W = runKs dir gl down pg (t.drop j) j lj)
  (fun xx e' H' => (∀ q,q ∈ W.1 → q.ok) ∧ ((xx = .ret ∧ e' = [(10,ptrV H.n)] ∧ Star H0 H' (L.set ip (itPl p op down W.1) ++ [itBlk H.n ⟨[.int .i64 W.2.1,.int .i64 0,.int .i64 W.2.2],1,false⟩])) ∨
   (xx = .exit 0 ∧ (∃ z,e' = [(1,ptrV c),(2,ptrV p),(3,.int .i64 dir),(4,pv),(10,ptrV H.n),(17,lv encK t),(18,.int .i64 t.length),(19,z),(20,.bool false)]) ∧ W.2 = (0,0) ∧ Star H0 H' (L.set ip (itPl p op down W.1) ++ [itBlk H.n ⟨[.int .i64 0,.int .i64 0,.int .i64 0],1,false⟩]))))
  (e0:=[(1,ptrV c),(2,ptrV p),(3,.int .i64 dir),(4,pv),(10,ptrV H.n),(17,lv encK t),(18,.int .i64 t.length),(19,.int .i64 0)]) (H0:=H.push ⟨[.int .i64 0,.int .i64 0,.int .i64 0],1,false⟩) ⟨rfl,l,by rw [ζfy hip]; exact st,rfl,hok,hW.symm⟩ (by omega)
  (fun j e' H' hj ⟨he',lj,st,hlj,hokj,hrun⟩ => by
   subst he';have hjl:(j:Int) < t.length:=by omega
   have hx:t[j]? = some t[j]:=List.getElem?_eq_getElem hj;have hxm:t[j].mv.ok:=ht _ (List.getElem_mem hj);rw [List.drop_eq_getElem_cons hj] at hrun;generalize t[j] = x at hx hxm hrun;have i0:=fun H' => ixS_lvN encK_len t .i64 j x hx H';have w2:IntKind.i64.wrap ((j:Int) + 1) = ((j + 1:Nat):Int):=by rw [wrap_i64 (by omega) (by omega)]; omega
   have hru:=fun H' => runs_run k x.cov dir H';have st2:=st.push ⟨encK x,1,false⟩;have hil2:((L.set ip (itPl p op down lj) ++ [itBlk H.n ⟨[.int .i64 0,.int .i64 0,.int .i64 0],1,false⟩]) ++ [itBlk H'.n ⟨encK x,1,false⟩])[il]? = some (itLine c o gl):=by
    rw [List.append_assoc,List.getElem?_append_left (by simpa using hlt2),List.getElem?_set_ne (Ne.symm hne)]; exact hil
   have hip2:((L.set ip (itPl p op down lj) ++ [itBlk H.n ⟨[.int .i64 0,.int .i64 0,.int .i64 0],1,false⟩]) ++ [itBlk H'.n ⟨encK x,1,false⟩])[ip]? = some (itPl p op down lj):=by
    rw [List.append_assoc,List.getElem?_append_left (by simpa using hlt),List.getElem?_set_self hlt]
   unfold runKs at hrun;cases hT:runsS x.cov dir with
   | false =>
    rw [hT] at hru;rw [hT,if_neg (by simp)] at hrun;refine .inl ⟨_,H'.push ⟨encK x,1,false⟩,?_,rfl,lj,?_,hlj,hokj,hrun⟩
    ·rw [ζ2r];simp -implicitDefEqProofs [hjl,i0,hru,ζ9m,w2,mv_st,mv_cells]
    ·exact st.rest ((Ext.refl H').push _)
   | true =>
    rw [hT] at hru;rw [hT,if_pos rfl] at hrun;obtain ⟨H2,e2,g2,hko⟩:=ζkg k hk x hxm dir st2 il ip hne hil2 hip2 (pv:=pv) (pg:=pg) (hpg.more fun i y h1 h2 h3 => by
     rw [List.append_assoc,List.getElem?_append_left (by simpa using (List.getElem?_eq_some_iff.1 h3).1),List.getElem?_set_ne (Ne.symm h2)]; exact h3) hl (by omega) hokj
    have hlen:=ζhr x hxm dir gl down pg lj;generalize subRun x dir gl down pg lj = res at e2 g2 hko hrun hlen;rw [List.append_assoc,List.set_append_left _ _ (by simpa using hlt),List.set_set,← List.append_assoc] at g2;have g2:=g2.take ((L.set ip (itPl p op down lj)).length + 1);rw [List.take_append_of_le_length (by simp),List.take_of_length_le (by simp)] at g2;by_cases hz:res.2 = 0
    ·rw [if_pos hz] at hrun;refine .inl ⟨_,H2,?_,rfl,res.1,g2,by omega,hko,hrun⟩;rw [ζ2r];simp -implicitDefEqProofs [hjl,i0,hru,ζ9n,w2,mv_st,mv_cells,e2,hz]
    ·rw [if_neg hz] at hrun;have hz2:(res.2 != 0) = true:=by simpa using hz
     have hlast:(L.set ip (itPl p op down res.1) ++ [itBlk H.n ⟨[.int .i64 0,.int .i64 0,.int .i64 0],1,false⟩])[L.length]? = some (itBlk H.n ⟨[.int .i64 0,.int .i64 0,.int .i64 0],1,false⟩):=by
      rw [List.getElem?_append_right (by simp)]; simp
     obtain ⟨H3,e3,g3,_⟩:=Star.stAll g2 L.length hlast [.int .i64 res.2,.int .i64 0,.int .i64 j] 3 rfl rfl;rw [List.set_append_right _ _ (by simp)] at g3;simp only [List.length_set,Nat.sub_self,List.set_cons_zero] at g3;refine .inr ⟨.ret,_,H3,?_,by simp,?_,.inl ⟨rfl,rfl,?_⟩⟩
     ·rw [ζ2r];simp -implicitDefEqProofs [hjl,i0,hru,mv_st,mv_cells,e2,hz2,e3]
     ·rw [hrun]; exact hko
     ·rw [hrun]; exact g3)
  (fun e' H' ⟨he',lj,st,hlj,hokj,hrun⟩ => by
   subst he';rw [List.drop_length] at hrun;replace hrun:W = (lj,0,0):=hrun;refine ⟨.exit 0,[(1,ptrV c),(2,ptrV p),(3,.int .i64 dir),(4,pv),(10,ptrV H.n),(17,lv encK t),(18,.int .i64 t.length),(19,.int .i64 t.length),(20,.bool false)],H',?_,by simp,?_,.inr ⟨rfl,⟨_,rfl⟩,?_,?_⟩⟩
   ·rw [ζ2r];simp -implicitDefEqProofs
   ·rw [hrun]; exact hokj
   ·rw [hrun]
   ·rw [hrun]; exact st)
 obtain ⟨hko,hQ⟩:=hQ;have fin:∀ {H':Heap} {b:It},Star H0 H' (L.set ip (itPl p op down W.1) ++ [b]) → Star H0 H' (L.set ip (itPl p op down W.1)):=fun g => by
  have:=g.take (L.set ip (itPl p op down W.1)).length
  rwa [List.take_append_of_le_length (by simp),List.take_of_length_le (by simp)] at this
 have hlast:∀ (b:It),(L.set ip (itPl p op down W.1) ++ [b])[L.length]? = some b:=fun b => by
  rw [List.getElem?_append_right (by simp)]; simp
 rcases hQ with ⟨rfl,rfl,st1⟩ | ⟨rfl,⟨z,rfl⟩,hz,st1⟩
 ·have hg:=st1.get _ (hlast _);refine ⟨H1,?_,fin st1,hko⟩;rw [ζ87,nrm_of];simp -implicitDefEqProofs [ζp,hr1,ζ9o,hg]
 ·obtain ⟨H2,e2,g2,_⟩:=Star.stAll st1 L.length (hlast _) [.int .i64 0,.int .i64 0,.int .i64 0] 3 rfl rfl;rw [List.set_append_right _ _ (by simp)] at g2;simp only [List.length_set,Nat.sub_self,List.set_cons_zero] at g2;have hg:=g2.get _ (hlast _);have h1:W.2.1 = 0:=by rw [hz]
  have h2:W.2.2 = 0:=by rw [hz]
  rw [h1,h2];refine ⟨H2,?_,fin g2,hko⟩;rw [ζ87,nrm_of];simp -implicitDefEqProofs [ζp,hr1,ζ8z,e2,hg]
end Go.Sw
end
section
set_option maxRecDepth 100000
set_option linter.unusedVariables false
namespace Go.Sw
noncomputable section
def ζ27 (k:Nat) (call:Caller):Env → Heap → Res (AExit × Env):=loopB (C k) call F.ζd [1,1,1,1,1,1,0,1,0,0]
def ζ4i (k:Nat) (call:Caller):Kont Value:=kBlock 0 (kSeq (pieceK (C k) call F.ζd [1,1,1,1,1,1,1]) (kDone Prog (resOf Prog F.ζd)))
def ζd (k:Nat) (call:Caller) (a0 a1:Value) (h:Heap):Res Value :=
 (call F.ζ2c [] h).bind fun v1 h2 =>
 (unR .not v1 h2).bind fun v3 h4 =>
 condV (some v3) (
 .ok (.bool false) h4)
 (
 (builtinV Prog .len [116] [a0] h4).bind fun v5 h6 =>
 (binR Prog .gtr 3 v5 (.int .i64 60) h6).bind fun v7 h8 =>
 ((bif wantVal v7 false then Res.ok a1 h8 else Res.ok undef h8)).bind fun v9 h10 =>
 ((bif wantVal v7 false then builtinV Prog .len [30] [v9] h10 else Res.ok undef h10)).bind fun v11 h12 =>
 ((bif wantVal v7 false then binR Prog .gtr 3 v11 (.int .i64 30) h12 else Res.ok undef h12)).bind fun v13 h14 =>
 (condV (some v7) (Res.ok (.bool true) h14) (Res.ok v13 h14)).bind fun v15 h16 =>
 condV (some v15) (
 .ok (.bool true) h16)
 (
 (call F.ζ1k [a0] h16).bind fun v17 h18 =>
 (buildR Prog 104 [(1,v17)] h18).bind fun v19 h20 =>
 (buildSliceR Prog 94 1 [(0,v19)] h20).bind fun v21 h22 =>
 (call F.ζ1l [v21] h22).bind fun v23 h24 =>
 (call F.ζ5u [v23,(.int .i64 40)] h24).bind fun v25 h26 =>
 (extractR v25 0 h26).bind fun v27 h28 =>
 (extractR v25 1 h28).bind fun v29 h30 =>
 (binR Prog .eql 98 v27 (.pointer none) h30).bind fun v31 h32 =>
 condV (some v31) (
 .ok (.bool true) h32)
 (
 (builtinV Prog .len [30] [a1] h32).bind fun v33 h34 =>
 (loopN (ζ27 k call) loopFuel [(1,a1),(5,v27),(7,(.slice none 0 0)),(34,v33),(35,(.int .i64 0))] h34).bind fun r35 h36 =>
 ζ4i k call r35.1 r35.2 h36)))
theorem ζ83 (k:Nat) (a0 a1:Value) (h:Heap):R (T k) F.ζd [a0,a1] h = nrm .gc h (ζd k (R (T k)) a0 a1 h) :=
 (R_body (t:=T k) (T_scott k) (by kernel_rfl) (by kernel_rfl) _ _).trans (by kernel_rfl)
theorem ζ3n (k:Nat) (call:Caller) (a1 a5 a7 a34 a35:Value) (h:Heap):ζ27 k call [(1,a1),(5,a5),(7,a7),(34,a34),(35,a35)] h =
 (binR Prog .lss 3 a35 a34 h).bind fun v37 h38 =>
 condV (some v37) (
 (builtinV Prog .len [30] [a1] h38).bind fun v39 h40 =>
 (binR Prog .sub 3 v39 (.int .i64 1) h40).bind fun v41 h42 =>
 (binR Prog .sub 3 v41 a35 h42).bind fun v43 h44 =>
 (indexAddrR Prog 30 a1 v43 h44).bind fun v45 h46 =>
 (loadR Prog 3 v45 h46).bind fun v47 h48 =>
 (buildSliceR Prog 30 1 [(0,v47)] h48).bind fun v49 h50 =>
 (builtinV Prog .append [30,30] [a7,v49] h50).bind fun v51 h52 =>
 (binR Prog .add 3 a35 (.int .i64 1) h52).bind fun v53 h54 =>
 .ok (.normal,[(1,a1),(5,a5),(7,v51),(34,a34),(35,v53)]) h54)
 (
 .ok ((.exit 0),[(1,a1),(5,a5),(7,a7),(34,a34),(35,a35),(36,v37)]) h38) :=
 (loopB_eq _ _).trans (by kernel_rfl)
theorem ζ6m (k:Nat) (call:Caller) (a1 a5 a7 a34 a35 a36:Value) (h:Heap):ζ4i k call (.exit 0) [(1,a1),(5,a5),(7,a7),(34,a34),(35,a35),(36,a36)] h =
 (builtinV Prog .len [30] [a1] h).bind fun v55 h56 =>
 (makeSliceV Prog 30 v55 v55 h56).bind fun v57 h58 =>
 (call F.ζ4n [(.int .i64 1),v57] h58).bind fun v59 h60 =>
 (call F.ζ4n [(.int .i64 0),v57] h60).bind fun v61 h62 =>
 (call F.line_New [a1] h62).bind fun v63 h64 =>
 (buildR Prog 115 [] h64).bind fun v65 h66 =>
 (boxR v65 h66).bind fun v67 h68 =>
 (call F.ζp [a5,v63,v59,(.int .i64 1),v67] h68).bind fun v69 h70 =>
 (call F.line_New [a7] h70).bind fun v71 h72 =>
 (buildR Prog 115 [] h72).bind fun v73 h74 =>
 (boxR v73 h74).bind fun v75 h76 =>
 (call F.ζp [a5,v71,v61,(.int .i64 0),v75] h76).bind fun v77 h78 =>
 (call F.ζ1y [v59] h78).bind fun v79 h80 =>
 (call F.ζ1y [v61] h80).bind fun v81 h82 =>
 (call F.ζ1w [v81] h82).bind fun v83 h84 =>
 (call F.ζ11 [v79,v83] h84).bind fun v85 h86 =>
 .ok v85 h86:=by kernel_rfl
def ζ34 (k:Nat) (call:Caller):Env → Heap → Res (AExit × Env):=loopB (C k) call F.ζ1l [1,1,0,1,0,0]
def ζ6n (k:Nat) (call:Caller):Kont Value:=kBlock 0 (kSeq (pieceK (C k) call F.ζ1l [1,1,1]) (kDone Prog (resOf Prog F.ζ1l)))
def ζ1l (k:Nat) (call:Caller) (a0:Value) (h:Heap):Res Value :=
 (call F.ζe [(.slice none 0 0),(.int .i64 2),(.int .i64 2)] h).bind fun v1 h2 =>
 (call F.ζe [v1,(.int .i64 0),(.int .i64 2)] h2).bind fun v3 h4 =>
 (builtinV Prog .len [94] [a0] h4).bind fun v5 h6 =>
 (call F.ζe [v3,v5,(.int .i64 4)] h6).bind fun v7 h8 =>
 (builtinV Prog .len [94] [a0] h8).bind fun v9 h10 =>
 (loopN (ζ34 k call) loopFuel [(3,v7),(11,a0),(12,v9),(13,(.int .i64 0))] h10).bind fun r11 h12 =>
 ζ6n k call r11.1 r11.2 h12
theorem ζb6 (k:Nat) (a0:Value) (h:Heap):R (T k) F.ζ1l [a0] h = nrm .fz h (ζ1l k (R (T k)) a0 h) :=
 (R_body (t:=T k) (T_scott k) (by kernel_rfl) (by kernel_rfl) _ _).trans (by kernel_rfl)
theorem ζ5j (k:Nat) (call:Caller) (a3 a11 a12 a13:Value) (h:Heap):ζ34 k call [(3,a3),(11,a11),(12,a12),(13,a13)] h =
 (binR Prog .lss 3 a13 a12 h).bind fun v13 h14 =>
 condV (some v13) (
 (indexAddrR Prog 94 a11 a13 h14).bind fun v15 h16 =>
 (loadR Prog 104 v15 h16).bind fun v17 h18 =>
 (allocR Prog 104 h18).bind fun v19 h20 =>
 (storeR Prog 104 v19 v17 h20).bind fun _v21 h22 =>
 (fieldAddrR Prog 104 v19 1 h22).bindN fun v23 h24 =>
 (loadR Prog 22 v23 h24).bindN fun v25 h26 =>
 (builtinV Prog .len [22] [v25] h26).bindN fun v27 h28 =>
 (binR Prog .add 3 (.int .i64 12) v27 h28).bindN fun v29 h30 =>
 (call F.ζe [a3,v29,(.int .i64 4)] h30).bindT (fun p33 h34 => (fieldAddrR Prog 104 v19 0 h30).bindN fun v35 h36 => (loadR Prog 102 v35 h36).bindN fun v37 h38 => (convR Prog 102 3 v37 h38).bindN fun v39 h40 => chkR ((okVal (loadR Prog 102 v35 h22) v37 && true) && true) (.panic p33 h34)) fun v31 h32 =>
 (fieldAddrR Prog 104 v19 0 h32).bindN fun v41 h42 =>
 (loadR Prog 102 v41 h42).bindN fun v43 h44 =>
 (convR Prog 102 3 v43 h44).bindN fun v45 h46 =>
 (call F.ζe [v31,v45,(.int .i64 4)] h46).bindT (fun p49 h50 => chkR ((okVal (loadR Prog 102 v41 h22) v43 && true) && true) (.panic p49 h50)) fun v47 h48 =>
 chkR ((okVal (loadR Prog 102 v41 h22) v43 && true) && true) (
 (buildSliceR Prog 22 4 [(0,(.int .u8 0)),(1,(.int .u8 0)),(2,(.int .u8 0)),(3,(.int .u8 0))] h48).bindN fun v51 h52 =>
 (builtinV Prog .append [22,22] [v47,v51] h52).bindN fun v53 h54 =>
 (fieldAddrR Prog 104 v19 1 h54).bindN fun v55 h56 =>
 (loadR Prog 22 v55 h56).bindN fun v57 h58 =>
 (builtinV Prog .append [22,22] [v53,v57] h58).bindN fun v59 h60 =>
 chkR ((okVal (loadR Prog 22 v55 h48) v57 && (okVal (loadR Prog 22 v55 h52) v57 && true)) && true) (
 (binR Prog .add 3 a13 (.int .i64 1) h60).bind fun v61 h62 =>
 .ok (.normal,[(3,v59),(11,a11),(12,a12),(13,v61)]) h62)))
 (
 .ok ((.exit 0),[(3,a3),(11,a11),(12,a12),(13,a13),(14,v13)]) h14) :=
 (loopB_eq _ _).trans (by kernel_rfl)
theorem ζ84 (k:Nat) (call:Caller) (a3 a11 a12 a13 a14:Value) (h:Heap):ζ6n k call (.exit 0) [(3,a3),(11,a11),(12,a12),(13,a13),(14,a14)] h =
 .ok a3 h:=by kernel_rfl
end
end Go.Sw
end
section
namespace Go.Sw
open Go.RowKit
theorem ζi2 (k:Nat) {H:Heap} {v:Value} {ids:List Int} (hv:Sl H 1 v encI ids) (hl:ids.length < 2 ^ 31) :
  ∃ c o H',R (T k) F.line_New [v] H = .ok (ptrV c) H' ∧ Star H H' [itLine c o (newG ids)]:=by
 have g:=((Star.nil H).more_row (Ext.refl _) (OwnO.nil encG _ 2) (fun b hb => by cases hb)).push ⟨[.slice none 0 0],1,false⟩;rw [List.append_assoc] at g
 obtain ⟨x,e',H1,hr,rfl,⟨a,rfl⟩,s,o,g⟩:=loop_up (body:=ζ8q k (R (T k))) ids.length
  (fun j e H' => e = [(3,ptrV H.n),(8,v),(9,.int .i64 ids.length),(10,.int .i64 j)] ∧ ∃ s o,Star H H' ([] ++ [itRow o 2 s encG (newG (ids.take j)),itBlk H.n ⟨[s],1,false⟩]))
  (fun x e H' => x = .exit 0 ∧ (∃ a,e = [(3,ptrV H.n),(8,v),(9,.int .i64 ids.length),(10,.int .i64 ids.length),(11,a)]) ∧ ∃ s o,Star H H' ([] ++ [itRow o 2 s encG (newG ids),itBlk H.n ⟨[s],1,false⟩]))
  (e0:=[(3,ptrV H.n),(8,v),(9,.int .i64 ids.length),(10,.int .i64 0)]) (H0:=H.push ⟨[.slice none 0 0],1,false⟩) ⟨rfl,_,_,g⟩ (by omega)
  (fun j e H' hj ⟨he,s,o,g⟩ => by
   subst he;have hlt:(j:Int) < ids.length:=by omega
   obtain ⟨x,hx⟩:∃ x,ids[j]? = some x:=⟨_,List.getElem?_eq_getElem hj⟩
   obtain ⟨p,i1,i2⟩:=hv.ix1 encI_len j x hx _ rfl;have i2:=i2 H' g.ext;have hc:=g.get (List.length ([]:List It) + 1) (at2_1 _ _ _);have hcn:¬ H.n = H'.n:=by have:=Heap.get_lt hc; omega
   obtain ⟨s',o',H2,e1,g⟩:=g.append1 (bytes:=16) (List.length ([]:List It)) encG_len (at2_0 _ _ _) (⟨x,(j:Nat)⟩:Gl) (by simp; omega) (by decide);rw [set2_0] at g;have hc2:=g.get (List.length ([]:List It) + 1) (at2_1 _ _ _);have st:=(g.row (List.length ([]:List It)) (at2_0 _ _ _)).storable;have ce:=(g.row (List.length ([]:List It)) (at2_0 _ _ _)).cells;have g:=g.setBlk (List.length ([]:List It) + 1) (at2_1 _ _ _) ⟨[s'],1,false⟩;rw [set2_1] at g;refine .inl ⟨_,_,?_,rfl,s',o',by rw [ζ3z hx,ζix,List.length_take,Nat.min_eq_left (by omega)]; exact g⟩;rw [ζ5v];have e1:apR 2 16 s (.slice (some ⟨H'.n,0,none⟩) 1 1) (H'.push ⟨[.int .i64 x,.int .i64 (j:Nat)],2,false⟩) = .ok s' H2:=e1;simp -implicitDefEqProofs (disch:=omega) [hlt,i1,i2,hc,hcn,e1,hc2,st,ce])
  (fun e H' ⟨he,s,o,g⟩ => by
   subst he;refine ⟨.exit 0,_,H',?_,by simp,rfl,⟨.bool false,rfl⟩,s,o,by simpa using g⟩;rw [ζ5v];simp -implicitDefEqProofs)
 have g:=Star.join2 [] g;refine ⟨H.n,o,H1,?_,g⟩;rw [ζh4];refine nrm_of ?_;have hlv:=fun H' => hv.len H';simp -implicitDefEqProofs [line_New,hr,ζ99,hlv]
theorem ζh2 (k:Nat) {H0 H:Heap} {L:List It} (h:Star H0 H L) {v:Value} {ids:List Int} (hv:Sl H 1 v encI ids) (hl:ids.length < 2 ^ 31) :
  ∃ c o H',R (T k) F.line_New [v] H = .ok (ptrV c) H' ∧ Star H0 H' (L ++ [itLine c o (newG ids)]):=by
 obtain ⟨c,o,H',e,g⟩:=ζi2 k hv hl;exact ⟨c,o,H',e,h.more g.ext _ (g.at 0 rfl) fun b hb => g.lt 0 rfl b hb⟩
end Go.Sw
end
section
set_option maxRecDepth 100000
set_option linter.unusedVariables false
namespace Go.Sw
noncomputable section
end
end Go.Sw
end
section
namespace Go.Sw
open Go.RowKit
theorem ζez:∀ n:Nat,repeatCells [Value.int .i64 0] n = rows encI (List.replicate n 0)
 | 0 => rfl
 | n + 1 => by
  have ih:=ζez n;show [Value.int .i64 0] ++ repeatCells [Value.int .i64 0] n = _;rw [ih,List.replicate_succ];rfl
theorem ζiy {H:Heap} {b n:Nat} (hg:H.get b = some ⟨repeatCells [Value.int .i64 0] n,1,false⟩):Sl H 1 (.slice (some ⟨b,0,none⟩) n n) encI (List.replicate n 0) :=
 .inr (.inr ⟨b,0,n,_,by rw [List.length_replicate],by rw [List.length_replicate]; exact Nat.le_refl _,hg,by rw [List.drop_zero,ζez,List.take_of_length_le (by rw [ζh encI_len]; exact Nat.le_refl _)]⟩)
end Go.Sw
end
section
namespace Go.Sw
open Go.RowKit
theorem ζi7 (k:Nat) (hk:k % 1000000 = F.ζ2c) (H:Heap):R (T k) F.ζ2c [] H = .ok (.bool true) H :=
 (R_sp (t:=T k) (T_scott k) (s:=constSp (.bool true)) (by unfold T C; dsimp only; rw [hk]; kernel_rfl) [] H).trans (nrm_gc (Pure.of rfl) (.bool _))
theorem AnkIn.nil {k:Nat} {L:List It} {il ip ia an:Nat} (h1:ia ≠ il) (h2:ia ≠ ip) (h:L[ia]? = some (itBlk an ⟨nilAnk,1,false⟩)):AnkIn k L il ip (ptrV an) noPg :=
 ⟨rfl,rfl,noPg_ok,.inr ⟨ia,an,h1,h2,h,rfl,rfl⟩⟩
end Go.Sw
end
section
namespace Go.Sw
open Go.RowKit
abbrev encSb (x:Int × List Int):List Value:=[.int .u32 x.1,lv encB x.2]
theorem ζmk (x:Int × List Int):(encSb x).length = 2:=rfl
def sub26 (x:Int × List Int):List Int:=bytesOf (12 + x.2.length) 4 ++ bytesOf x.1 4 ++ [0,0,0,0] ++ x.2
def w26 (l:List (Int × List Int)):List Int:=bytesOf 2 2 ++ bytesOf 0 2 ++ bytesOf l.length 4 ++ l.flatMap sub26
structure SbSl (H:Heap) (v:Value) (l:List (Int × List Int)):Prop where
 ln:∀ H',lnS v H' = .ok (.int .i64 l.length) H'
 ix:∀ j x,l[j]? = some x → ∃ p,(∀ H',ixS 2 v (.int .i64 (j:Nat)) H' = .ok p H') ∧ ∀ H',Ext H H' → ldA 2 p H' = .ok (.agg (encSb x).toArray) H'
theorem SbSl.lv (H:Heap) (l:List (Int × List Int)):SbSl H (Go.Sw.lv encSb l) l:=by
 refine ⟨fun H' => by simp,fun j x hx => ⟨boxV (encSb x).toArray,fun H' => ixS_lvN ζmk l .i64 j x hx H',fun H' _ => by simp⟩⟩
theorem ζck {α β:Type} (f:α → List β) {l:List α} {j:Nat} {x:α} (h:l[j]? = some x):(l.take (j + 1)).flatMap f = (l.take j).flatMap f ++ f x:=by
 rw [ζ3z h,List.flatMap_append];simp
theorem ζc6 (x:Int × List Int):(sub26 x).length = 12 + x.2.length:=by unfold sub26; simp [ζ17]; omega
theorem ζgv {l:List (Int × List Int)} (hd:∀ x,x ∈ l → x.2.length ≤ 2 ^ 19):(l.flatMap sub26).length ≤ l.length * (2 ^ 19 + 12):=by
 induction l with
 | nil => simp
 | cons x l ih =>
  have:=ih fun y hy => hd y (List.mem_cons_of_mem _ hy);have h1:=hd x List.mem_cons_self;rw [List.flatMap_cons,List.length_append,ζc6,List.length_cons,Nat.add_mul];omega
set_option maxHeartbeats 1000000 in
theorem w26_l1 (k:Nat) {H0 H:Heap} {o:Option Nat} {s7:Value} {lk:List Int} (g:Star H0 H [itRow o 1 s7 encB lk]) {v:Value} {l:List (Int × List Int)} (hv:SbSl H0 v l) (hl:l.length ≤ 100) (hlk:lk.length ≤ 100) (hd:∀ x,x ∈ l → 0 ≤ x.1 ∧ x.1 < 4294967296 ∧ x.2.length ≤ 2 ^ 19) :
  ∃ s' o' zz H',loopN (ζ34 k (R (T k))) loopFuel [(3,s7),(11,v),(12,.int .i64 l.length),(13,.int .i64 0)] H =
   .ok (.exit 0,[(3,s'),(11,v),(12,.int .i64 l.length),(13,zz),(14,.bool false)]) H' ∧ Star H0 H' [itRow o' 1 s' encB (lk ++ l.flatMap sub26)]:=by
 obtain ⟨xx,e',H1,hr1,rfl,s',o',rfl,g1⟩:=loop_up (body:=ζ34 k (R (T k))) l.length
  (fun j e H' => ∃ s' o',e = [(3,s'),(11,v),(12,.int .i64 l.length),(13,.int .i64 j)] ∧ Star H0 H' [itRow o' 1 s' encB (lk ++ (l.take j).flatMap sub26)])
  (fun xx e H' => xx = .exit 0 ∧ ∃ s' o',e = [(3,s'),(11,v),(12,.int .i64 l.length),(13,.int .i64 l.length),(14,.bool false)] ∧ Star H0 H' [itRow o' 1 s' encB (lk ++ l.flatMap sub26)])
  (e0:=[(3,s7),(11,v),(12,.int .i64 l.length),(13,.int .i64 0)]) (H0:=H) ⟨s7,o,rfl,by simpa using g⟩ (by omega)
  (fun j e H' hj ⟨s',o',he,g⟩ => by
   subst he;have hjl:(j:Int) < l.length:=by omega
   obtain ⟨x,hx⟩:∃ x,l[j]? = some x:=⟨_,List.getElem?_eq_getElem hj⟩
   have hxd:=hd x (List.mem_of_getElem? hx);have hfl:=ζgv (l:=l.take j) fun y hy => (hd y (List.mem_of_mem_take hy)).2.2;have hfl2:(l.take j).length * (2 ^ 19 + 12) ≤ 100 * (2 ^ 19 + 12):=Nat.mul_le_mul_right _ (by rw [List.length_take]; omega);obtain ⟨p,i1,i2⟩:=hv.ix j x hx;have i2:=i2 H' g.ext;have g0:=g.push ⟨encSb x,1,false⟩;simp only [List.cons_append,List.nil_append] at g0;have c0:=g0.get 1 rfl;obtain ⟨s1,o1,H1,e1,g1⟩:=Put_star k g0 0 rfl (12 + x.2.length:Int) 4 4 rfl (by omega) (by omega) (by omega) (by rw [List.length_append]; omega);simp only [List.set_cons_zero] at g1;have c1:=g1.get 1 rfl;obtain ⟨s2,o2,H2,e2,g2⟩:=Put_star k g1 0 rfl x.1 4 4 rfl hxd.1 (by omega) (by omega) (by simp only [List.length_append,ζ17]; omega);simp only [List.set_cons_zero] at g2;have c2:=g2.get 1 rfl;have g3:=g2.rest ((Ext.refl H2).push ⟨rows encB [0,0,0,0],1,false⟩);obtain ⟨s3,o3,H3,e3,g3⟩:=g3.append (bytes:=1) 0 encB_len rfl (b:=.slice (some ⟨H2.n,0,none⟩) 4 4) (l2:=[0,0,0,0]) rfl (by
    unfold firstV;dsimp only;rw [if_neg (by simp),ζ66,ζb _ _ _ rfl];rfl) (by simp only [List.length_append,ζ17,List.length_cons,List.length_nil]; omega) (by decide)
   simp only [List.set_cons_zero] at g3;have c3:=g3.get 1 rfl;obtain ⟨s4,o4,H4,e4,g4⟩:=g3.append (bytes:=1) 0 encB_len rfl (b:=Go.Sw.lv encB x.2) (l2:=x.2) rfl (lv_first encB_len x.2 H3) (by simp only [List.length_append,ζ17,List.length_cons,List.length_nil]; omega) (by decide);simp only [List.set_cons_zero] at g4;have g4:=g4.take 1;simp only [List.take_succ_cons,List.take_zero] at g4;have hw1:IntKind.i64.wrap (12 + (x.2.length:Int)) = 12 + (x.2.length:Int):=wrap_i64 (by omega) (by omega);have hw2:IntKind.i64.wrap x.1 = x.1:=wrap_i64 (by omega) (by omega);have hw3:IntKind.i64.wrap ((j:Int) + 1) = ((j + 1:Nat):Int):=by rw [wrap_i64 (by omega) (by omega)]; omega
   simp [rows] at e3;have hne:¬ H'.n = H2.n:=by have:=Heap.get_lt c2; omega
   refine .inl ⟨_,H4,?_,s4,o4,rfl,?_⟩
   ·rw [ζ5j];simp -implicitDefEqProofs (disch:=omega) [hjl,i1,i2,c0,c1,c2,c3,hw1,hw2,hw3,hne,e1,e2,e3,e4]
   ·rw [ζck sub26 hx];simpa [sub26,List.append_assoc] using g4)
  (fun e H' ⟨s',o',he,g⟩ => by
   subst he;rw [List.take_of_length_le (by simp)] at g;refine ⟨.exit 0,_,H',?_,by simp,rfl,s',o',rfl,g⟩;rw [ζ5j];simp -implicitDefEqProofs)
 exact ⟨s',o',_,H1,hr1,g1⟩
theorem w26_run (k:Nat) {H:Heap} {v:Value} {l:List (Int × List Int)} (hv:SbSl H v l) (hl:l.length ≤ 100) (hd:∀ x,x ∈ l → 0 ≤ x.1 ∧ x.1 < 4294967296 ∧ x.2.length ≤ 2 ^ 19) :
  R (T k) F.ζ1l [v] H = .ok (lv encB (w26 l)) H:=by
 rw [ζb6];have g:=(Star.nil H).more_row (Ext.refl _) (OwnO.nil encB _ 1) (fun b hb => by cases hb);simp only [List.nil_append] at g;obtain ⟨s1,o1,H1,e1,g⟩:=Put_star k g 0 rfl 2 2 2 rfl (by omega) (by omega) (by omega) (by simp);simp only [List.set_cons_zero] at g;obtain ⟨s2,o2,H2,e2,g⟩:=Put_star k g 0 rfl 0 2 2 rfl (by omega) (by omega) (by omega) (by simp [ζ17]);simp only [List.set_cons_zero] at g;obtain ⟨s3,o3,H3,e3,g⟩:=Put_star k g 0 rfl (l.length:Int) 4 4 rfl (by omega) (by omega) (by omega) (by simp [ζ17]);simp only [List.set_cons_zero,List.nil_append] at g;obtain ⟨s,o,zz,H4,e4,g⟩:=w26_l1 k g hv hl (by simp [ζ17]) hd;obtain ⟨L,hf⟩:=(g.own 0 rfl).freeze encB_len (fun n _ v hv => by simp at hv; subst hv; trivial) 6;refine nrm_fz (v:=s) (H':=H4) ?_ hf g.ext (Flat.B _).alive;have hln:=fun H' => hv.ln H';simp -implicitDefEqProofs (disch:=omega) [ζ1l,e1,e2,hln,e3,e4,ζ84]
end Go.Sw
end
section
namespace Go.Sw
open Go.RowKit
theorem ksubS_26 (p q:List Int) (x:Int × List Int) (hx:0 ≤ x.1 ∧ x.1 < 4294967296 ∧ x.2.length ≤ 2 ^ 19) (g:Int) :
  ksubS (p ++ (sub26 x ++ q)) g p.length = (mvS (covS x.1) x.2 g).map fun m => ((12 + x.2.length:Int),(⟨covS x.1,m⟩:KSub)):=by
 have e1:uS (p ++ (sub26 x ++ q)) p.length 4 = some (12 + x.2.length:Int):=by
  have:=uS_at p (bytesOf x.1 4 ++ [0,0,0,0] ++ x.2 ++ q) (n:=(12 + x.2.length:Int)) (k:=4) p.length 4 rfl rfl (by omega) (by omega);simpa [sub26,List.append_assoc] using this
 have e2:pieceS (p ++ (sub26 x ++ q)) p.length (12 + x.2.length:Int) = some (sub26 x):=ζj1 p (sub26 x) q _ _ rfl (by rw [ζc6]; omega);have e3:uS (sub26 x) 4 4 = some x.1:=by
  have:=uS_at (bytesOf (12 + x.2.length:Int) 4) ([0,0,0,0] ++ x.2) (n:=x.1) (k:=4) 4 4 (by rw [ζ17]; rfl) rfl hx.1 (by omega);simpa [sub26,List.append_assoc] using this
 have e4:restS (sub26 x) 12 = some x.2:=by
  rw [ζnm];refine ⟨⟨by omega,by rw [ζc6]; omega⟩,?_⟩;unfold sub26;rw [List.drop_append_of_le_length (by simp [ζ17]),List.drop_of_length_le (by simp [ζ17])];rfl
 unfold ksubS;rw [e1,Option.bind_some,if_pos (by omega),e2,Option.bind_some,e3,Option.bind_some,e4,Option.bind_some]
def kmapTo (g:Int) (l:List (Int × List Int)):Nat → Option (List KSub)
 | 0 => some []
 | j + 1 => (kmapTo g l j).bind fun t => (l[j]?).bind fun x => (mvS (covS x.1) x.2 g).map fun m => t ++ [⟨covS x.1,m⟩]
theorem ζo6 {l:List (Int × List Int)} {j:Nat} {x:Int × List Int} (h:l[j]? = some x):w26 l = (bytesOf 2 2 ++ bytesOf 0 2 ++ bytesOf l.length 4 ++ (l.take j).flatMap sub26) ++ (sub26 x ++ (l.drop (j + 1)).flatMap sub26):=by
 obtain ⟨hlt,hx⟩:=List.getElem?_eq_some_iff.1 h;unfold w26;rw [List.append_assoc,List.append_assoc (bytesOf 2 2 ++ bytesOf 0 2)];rw [List.append_assoc (bytesOf 2 2 ++ bytesOf 0 2)];congr 1;rw [List.append_assoc];congr 1;rw [← List.flatMap_cons,← List.flatMap_append];congr 1;rw [← hx,← List.drop_eq_getElem_cons hlt,List.take_append_drop]
theorem ksubs26 (g:Int) {l:List (Int × List Int)} (hd:∀ x,x ∈ l → 0 ≤ x.1 ∧ x.1 < 4294967296 ∧ x.2.length ≤ 2 ^ 19):∀ j,j ≤ l.length → ksubsTo (w26 l) g j = (kmapTo g l j).map fun t => (t,(8 + ((l.take j).flatMap sub26).length:Int))
 | 0,_ => by simp [ksubsTo,kmapTo]
 | j + 1,h => by
  obtain ⟨x,hx⟩:∃ x,l[j]? = some x:=⟨_,List.getElem?_eq_getElem (by omega)⟩
  have ih:=ksubs26 g hd j (by omega);unfold ksubsTo kmapTo;rw [ih,hx];cases ht:kmapTo g l j with
  | none => rfl
  | some t =>
   have hk:=ksubS_26 (bytesOf 2 2 ++ bytesOf 0 2 ++ bytesOf l.length 4 ++ (l.take j).flatMap sub26) ((l.drop (j + 1)).flatMap sub26) x (hd x (List.mem_of_getElem? hx)) g;rw [← ζo6 hx] at hk;have hlen:((bytesOf 2 2 ++ bytesOf 0 2 ++ bytesOf l.length 4 ++ (l.take j).flatMap sub26).length:Int) = 8 + ((l.take j).flatMap sub26).length:=by
    simp only [List.length_append,ζ17]; omega
   rw [hlen] at hk;simp only [Option.map_some,Option.bind_some];rw [hk];cases hm:mvS (covS x.1) x.2 g with
   | none => rfl
   | some m =>
    simp only [Option.map_some];rw [ζck sub26 hx,List.length_append,ζc6];congr 2;omega
theorem kerxS_26 (g:Int) {l:List (Int × List Int)} (hl:l.length ≤ 100) (hd:∀ x,x ∈ l → 0 ≤ x.1 ∧ x.1 < 4294967296 ∧ x.2.length ≤ 2 ^ 19):kerxS (w26 l) g = kmapTo g l l.length:=by
 have e1:uS (w26 l) 0 2 = some 2:=by
  have:=uS_at [] (bytesOf 0 2 ++ bytesOf l.length 4 ++ l.flatMap sub26) (n:=2) (k:=2) 0 2 rfl rfl (by omega) (by omega);simpa [w26,List.append_assoc] using this
 have e2:uS (w26 l) 4 4 = some (l.length:Int):=by
  have:=uS_at (bytesOf 2 2 ++ bytesOf 0 2) (l.flatMap sub26) (n:=l.length) (k:=4) 4 4 (by simp [ζ17]) rfl (by omega) (by omega);simpa [w26,List.append_assoc] using this
 unfold kerxS;rw [e1,Option.bind_some,e2,Option.bind_some,if_pos (by omega),Int.toNat_natCast,ksubs26 g hd _ (Nat.le_refl _)];cases kmapTo g l l.length <;> rfl
theorem Byt_w26 {l:List (Int × List Int)} (h:∀ x,x ∈ l → Byt x.2):Byt (w26 l):=by
 have app:∀ {a b:List Int},Byt a → Byt b → Byt (a ++ b):=fun ha hb x hx => by
  rcases List.mem_append.1 hx with hx | hx
  ·exact ha x hx
  ·exact hb x hx
 refine app (app (app (ζ2y _ _) (ζ2y _ _)) (ζ2y _ _)) fun y hy => ?_;obtain ⟨x,hx,hy⟩:=List.mem_flatMap.1 hy;exact app (app (app (ζ2y _ _) (ζ2y _ _)) (fun z hz => by simp at hz; omega)) (h x hx) y hy
theorem w26_len {l:List (Int × List Int)} (hl:l.length ≤ 100) (hd:∀ x,x ∈ l → x.2.length ≤ 2 ^ 19):(w26 l).length ≤ 2 ^ 29:=by
 have h1:=ζgv hd;have h2:l.length * (2 ^ 19 + 12) ≤ 100 * (2 ^ 19 + 12):=Nat.mul_le_mul_right _ hl;unfold w26;simp only [List.length_append,ζ17];omega
theorem cov0:covS 0 = ⟨0,false,false,false,false⟩:=by rfl
theorem mv_pairs (d:List Int) (g:Int):mvS (covS 0) d g = (pTakeS 0 d g).map .pairs:=by
 rw [cov0];unfold mvS;rw [if_neg (by simp),if_pos (.inl rfl)]
end Go.Sw
end
section
set_option maxRecDepth 100000
set_option linter.unusedVariables false
namespace Go.Sw
noncomputable section
def ζ4r (k:Nat) (call:Caller):Env → Heap → Res (AExit × Env):=loopB (C k) call F.ζ1k [1,1,0,1,0,0]
def ζ6l (k:Nat) (call:Caller):Kont Value:=kBlock 0 (kSeq (pieceK (C k) call F.ζ1k [1,1,1]) (kDone Prog (resOf Prog F.ζ1k)))
def ζ1k (k:Nat) (call:Caller) (a0:Value) (h:Heap):Res Value :=
 (builtinV Prog .len [116] [a0] h).bind fun v1 h2 =>
 (call F.ζe [(.slice none 0 0),v1,(.int .i64 4)] h2).bind fun v3 h4 =>
 (builtinV Prog .append [22,3] [v3,(.int .i64 12)] h4).bind fun v5 h6 =>
 (builtinV Prog .len [116] [a0] h6).bind fun v7 h8 =>
 (loopN (ζ4r k call) loopFuel [(3,v5),(10,a0),(11,v7),(12,(.int .i64 0))] h8).bind fun r9 h10 =>
 ζ6l k call r9.1 r9.2 h10
theorem ζb5 (k:Nat) (a0:Value) (h:Heap):R (T k) F.ζ1k [a0] h = nrm .fz h (ζ1k k (R (T k)) a0 h) :=
 (R_body (t:=T k) (T_scott k) (by kernel_rfl) (by kernel_rfl) _ _).trans (by kernel_rfl)
theorem ζ5i (k:Nat) (call:Caller) (a3 a10 a11 a12:Value) (h:Heap):ζ4r k call [(3,a3),(10,a10),(11,a11),(12,a12)] h =
 (binR Prog .lss 3 a12 a11 h).bind fun v11 h12 =>
 condV (some v11) (
 (indexAddrR Prog 116 a10 a12 h12).bind fun v13 h14 =>
 (loadR Prog 202 v13 h14).bind fun v15 h16 =>
 (allocR Prog 202 h16).bind fun v17 h18 =>
 (storeR Prog 202 v17 v15 h18).bind fun _v19 h20 =>
 (fieldAddrR Prog 202 v17 0 h20).bindN fun v21 h22 =>
 (loadR Prog 135 v21 h22).bindN fun v23 h24 =>
 (convR Prog 135 3 v23 h24).bindN fun v25 h26 =>
 (call F.ζe [a3,v25,(.int .i64 2)] h26).bindT (fun p29 h30 => (fieldAddrR Prog 202 v17 1 h26).bindN fun v31 h32 => (loadR Prog 135 v31 h32).bindN fun v33 h34 => (convR Prog 135 3 v33 h34).bindN fun v35 h36 => (fieldAddrR Prog 202 v17 2 h36).bindN fun v37 h38 => (loadR Prog 125 v37 h38).bindN fun v39 h40 => (convR Prog 125 135 v39 h40).bindN fun v41 h42 => (convR Prog 135 3 v41 h42).bindN fun v43 h44 => chkR ((okVal (loadR Prog 135 v31 h20) v33 && true) && ((okVal (loadR Prog 125 v37 h20) v39 && true) && true)) (.panic p29 h30)) fun v27 h28 =>
 (fieldAddrR Prog 202 v17 1 h28).bindN fun v45 h46 =>
 (loadR Prog 135 v45 h46).bindN fun v47 h48 =>
 (convR Prog 135 3 v47 h48).bindN fun v49 h50 =>
 (call F.ζe [v27,v49,(.int .i64 2)] h50).bindT (fun p53 h54 => (fieldAddrR Prog 202 v17 2 h50).bindN fun v55 h56 => (loadR Prog 125 v55 h56).bindN fun v57 h58 => (convR Prog 125 135 v57 h58).bindN fun v59 h60 => (convR Prog 135 3 v59 h60).bindN fun v61 h62 => chkR ((okVal (loadR Prog 135 v45 h20) v47 && true) && ((okVal (loadR Prog 125 v55 h20) v57 && (okVal (loadR Prog 125 v55 h28) v57 && true)) && true)) (.panic p53 h54)) fun v51 h52 =>
 (fieldAddrR Prog 202 v17 2 h52).bindN fun v63 h64 =>
 (loadR Prog 125 v63 h64).bindN fun v65 h66 =>
 (convR Prog 125 135 v65 h66).bindN fun v67 h68 =>
 (convR Prog 135 3 v67 h68).bindN fun v69 h70 =>
 (call F.ζe [v51,v69,(.int .i64 2)] h70).bindT (fun p73 h74 => chkR ((okVal (loadR Prog 135 v45 h20) v47 && true) && ((okVal (loadR Prog 125 v63 h20) v65 && (okVal (loadR Prog 125 v63 h28) v65 && true)) && true)) (.panic p73 h74)) fun v71 h72 =>
 chkR ((okVal (loadR Prog 135 v45 h20) v47 && true) && ((okVal (loadR Prog 125 v63 h20) v65 && (okVal (loadR Prog 125 v63 h28) v65 && true)) && true)) (
 (binR Prog .add 3 a12 (.int .i64 1) h72).bind fun v75 h76 =>
 .ok (.normal,[(3,v71),(10,a10),(11,a11),(12,v75)]) h76))
 (
 .ok ((.exit 0),[(3,a3),(10,a10),(11,a11),(12,a12),(13,v11)]) h12) :=
 (loopB_eq _ _).trans (by kernel_rfl)
theorem ζ82 (k:Nat) (call:Caller) (a3 a10 a11 a12 a13:Value) (h:Heap):ζ6l k call (.exit 0) [(3,a3),(10,a10),(11,a11),(12,a12),(13,a13)] h =
 .ok a3 h:=by kernel_rfl
end
end Go.Sw
end
section
namespace Go.Sw
open Go.RowKit
end Go.Sw
end
section
namespace Go.Sw
open Go.RowKit
structure PW where
 l:Int
 r:Int
 v:Int
abbrev encPW (p:PW):List Value:=[.int .u16 p.l,.int .u16 p.r,.int .i16 p.v]
theorem ζmi (p:PW):(encPW p).length = 3:=rfl
def PW.ok (p:PW):Prop:=(0 ≤ p.l ∧ p.l < 65536) ∧ (0 ≤ p.r ∧ p.r < 65536) ∧ -32768 ≤ p.v ∧ p.v < 32768
def PW.key (p:PW):Int:=p.l * 65536 + p.r
def prB (p:PW):List Int:=bytesOf p.l 2 ++ bytesOf p.r 2 ++ bytesOf (m16 p.v) 2
def prsB (l:List PW):List Int:=(l.map prB).flatten
def listW (l:List PW):List Int:=bytesOf (l.length:Int) 4 ++ List.replicate 12 0 ++ prsB l
theorem prB_len (p:PW):(prB p).length = 6:=by simp [prB]
theorem ζnj (l:List PW) (x:PW):prsB (l ++ [x]) = prsB l ++ prB x:=by simp [prsB]
theorem prsB_len (l:List PW):(prsB l).length = l.length * 6:=flat_len (z:=6) (fun r hr => by obtain ⟨p,_,rfl⟩:=List.mem_map.1 hr; exact prB_len p) |>.trans (by simp)
theorem wrap_m16 (n:Int):IntKind.u16.wrap n = m16 n:=by
 unfold IntKind.wrap m16;simp [IntKind.signed,IntKind.bits]
set_option maxHeartbeats 1000000 in
theorem ζld (k:Nat) (l:List PW) (hl:∀ p,p ∈ l → p.ok) (hn:l.length ≤ 1000) (H:Heap):R (T k) F.ζ1k [lv encPW l] H = .ok (lv encB (listW l)) H:=by
 rw [ζb5];have g:=(Star.nil H).more_row (Ext.refl _) (OwnO.nil encB _ 1) (fun b hb => by cases hb);simp only [List.nil_append] at g;obtain ⟨t1,u1,J1,f1,g⟩:=Put_star k g 0 rfl l.length 4 4 rfl (by omega) (by omega) (by omega) (by simp);simp only [List.set_cons_zero,List.set_cons_succ,List.nil_append] at g;obtain ⟨a4,l4,c4,ht4⟩:=(g.row 0 rfl).shape;obtain ⟨t5,u5,J5,f5,g⟩:=g.append (bytes:=1) 0 encB_len rfl (b:=lv encB (List.replicate 12 0)) (l2:=List.replicate 12 0) (by rw [lv,List.length_replicate]; rfl) (by have:=lv_first encB_len (List.replicate 12 0) J1; exact this) (by simp) (by decide);simp only [List.set_cons_zero,List.set_cons_succ] at g;have f5':azR 1 1 [.int .u8 0] t1 (.int .i64 12) J1 = .ok t5 J5:=by
  rw [ht4] at f5 ⊢;rw [show ((12:Int)) = ((12:Nat):Int) from rfl,azR_eq encB_len a4 l4 c4 (0:Int) _ rfl .i64 12 (by omega)];exact f5
 obtain ⟨x,e',H4,hr4,rfl,z4,s4,o4,rfl,g⟩:=loop_up (body:=ζ4r k (R (T k))) l.length
  (fun j e H' => ∃ s o,e = [(3,s),(10,lv encPW l),(11,.int .i64 l.length),(12,.int .i64 j)] ∧ Star H H' [itRow o 1 s encB ((bytesOf (l.length:Int) 4 ++ List.replicate 12 0) ++ prsB (l.take j))])
  (fun x e H' => x = .exit 0 ∧ ∃ z s o,e = [(3,s),(10,lv encPW l),(11,.int .i64 l.length),(12,z),(13,.bool false)] ∧ Star H H' [itRow o 1 s encB (listW l)])
  (e0:=[(3,t5),(10,lv encPW l),(11,.int .i64 l.length),(12,.int .i64 0)]) (H0:=J5) ⟨t5,u5,rfl,by simpa [prsB] using g⟩ (by omega)
  (fun j e H' hj ⟨s,o,he,g⟩ => by
   subst he;have hlt:(j:Int) < l.length:=by omega
   obtain ⟨c,hc⟩:∃ c,l[j]? = some c:=⟨_,List.getElem?_eq_getElem hj⟩
   obtain ⟨q,i1,i2⟩:=((Sl.lv H' 3 l).rd (by decide) ζmi).2 j c hc;have hcb:=hl c (List.mem_of_getElem? hc);obtain ⟨hc1,hc2,hc3⟩:=hcb;have b3:=ζn4 c.v;have wu:=wrap_m16 c.v;have hlen:(bytesOf (l.length:Int) 4 ++ List.replicate 12 0 ++ prsB (l.take j)).length ≤ 16 + 6000:=by
    simp [prsB_len,List.length_take];omega
   have g:=g.push ⟨encPW c,1,false⟩;simp only [List.cons_append,List.nil_append] at g;obtain ⟨s1,o1,H1,e1,g1⟩:=Put_star k g 0 rfl c.l 2 2 rfl hc1.1 (by omega) (by omega) (by omega);simp only [List.set_cons_zero,List.set_cons_succ] at g1;have h1:=g1.get 1 rfl;obtain ⟨s2,o2,H2,e2,g2⟩:=Put_star k g1 0 rfl c.r 2 2 rfl hc2.1 (by omega) (by omega) (by rw [List.length_append]; simp only [ζ17]; omega);simp only [List.set_cons_zero,List.set_cons_succ] at g2;have h2:=g2.get 1 rfl;obtain ⟨s3,o3,H3,e3,g3⟩:=Put_star k g2 0 rfl (m16 c.v) 2 2 rfl b3.1 (by omega) (by omega) (by rw [List.length_append,List.length_append]; simp only [ζ17]; omega);simp only [List.set_cons_zero,List.set_cons_succ] at g3;refine .inl ⟨_,H3,?_,s3,o3,rfl,by rw [ζ3z hc,ζnj]; simpa [prB] using g3.take 1⟩;rw [ζ5i];simp -implicitDefEqProofs (disch:=omega) [hlt,i1,i2,e1,h1,wu,e2,h2,e3])
  (fun e H' ⟨s,o,he,g⟩ => by
   subst he;rw [List.take_length] at g;refine ⟨.exit 0,_,H',?_,by simp,rfl,.int .i64 l.length,s,o,rfl,g⟩;rw [ζ5i];simp -implicitDefEqProofs)
 obtain ⟨L,hf⟩:=(g.own 0 rfl).freeze encB_len (fun n _ v hv => by simp at hv; subst hv; trivial) 6;refine nrm_fz (v:=s4) (H':=H4) ?_ hf g.ext (Flat.B _).alive;simp -implicitDefEqProofs (disch:=omega) [ζ1k,f1,f5',hr4,ζ82]
theorem prB_byt (p:PW):Byt (prB p):=((ζ2y _ _).app (ζ2y _ _)).app (ζ2y _ _)
theorem prsB_byt (l:List PW):Byt (prsB l):=Byt.flat fun r hr => by obtain ⟨p,_,rfl⟩:=List.mem_map.1 hr; exact prB_byt p
theorem rep0_byt (n:Nat):Byt (List.replicate n 0):=fun x hx => by rw [List.eq_of_mem_replicate hx]; omega
theorem ζn2 (l:List PW):Byt (listW l):=((ζ2y _ _).app (rep0_byt _)).app (prsB_byt l)
theorem ζn3 (l:List PW):(listW l).length = 16 + l.length * 6:=by simp [listW,prsB_len]; omega
end Go.Sw
end
section
namespace Go.Sw
open Go.RowKit
end Go.Sw
end
section
namespace Go.Sw
open Go.RowKit
theorem row_PW {r:List Da} {cs:List Value} (h:LayRow [.int .u16,.int .u16,.int .i16] r cs):∃ p:PW,cs = encPW p ∧ p.ok:=by
 obtain ⟨_,v1,_,_,rfl,h1,h⟩:=h.head;obtain ⟨_,v2,_,_,rfl,h2,h⟩:=h.head;obtain ⟨_,v3,_,_,rfl,h3,h⟩:=h.head;obtain rfl:=h.done;obtain ⟨a,rfl,ha⟩:=h1.intv;obtain ⟨b,rfl,hb⟩:=h2.intv;obtain ⟨c,rfl,hc⟩:=h3.intv;refine ⟨⟨a,b,c⟩,rfl,wf_u16 ha,wf_u16 hb,?_⟩;simp [Lit.wf,IntKind.min,IntKind.max,IntKind.signed,IntKind.bits] at hc;dsimp only;omega
end Go.Sw
end
section
namespace Go.Sw
open Go.RowKit
theorem SbSl.one {H:Heap} {b:Nat} {x:Int × List Int} {e:Nat} (hb:H.get b = some ⟨encSb x,e,false⟩):SbSl H (.slice (some ⟨b,0,none⟩) 1 1) [x]:=by
 refine ⟨fun H' => by simp,fun j y hy => ?_⟩;cases j with
 | succ j => simp at hy
 | zero =>
  simp at hy;subst hy;exact ⟨ptrV b,fun H' => by simp [ixS],fun H' hx => by have:=hx.get hb; simp [this]⟩
theorem kmap_one (d:List Int) (g:Int):kmapTo g [(0,d)] 1 = (pTakeS 0 d g).map fun t => [⟨covS 0,.pairs t⟩]:=by
 simp only [kmapTo,Option.bind_some,List.getElem?_cons_zero,mv_pairs,List.nil_append];cases pTakeS 0 d g <;> rfl
theorem turned01:turnedS ⟨0,false,false,false,false⟩ 1 = true:=rfl
theorem turned00:turnedS ⟨0,false,false,false,false⟩ 0 = false:=rfl
theorem runs01:runsS ⟨0,false,false,false,false⟩ 1 = true:=rfl
theorem runs00:runsS ⟨0,false,false,false,false⟩ 0 = true:=rfl
theorem sub_left (t:PTab) (gl:List Gl) (down:Bool) (pg:Int → Int → Option (Int × Int)) (l:List Pl):subRun ⟨covS 0,.pairs t⟩ 1 gl down pg l = ((pairsTo t gl.reverse false down l.reverse (gl.length - 1)).reverse,0):=by
 unfold subRun;simp only [cov0,turned01,if_true,kmoveS,List.length_reverse]
theorem ζo0 (t:PTab) (gl:List Gl) (down:Bool) (pg:Int → Int → Option (Int × Int)) (l:List Pl):subRun ⟨covS 0,.pairs t⟩ 0 gl down pg l = (pairsTo t gl false down l (gl.length - 1),0):=by
 unfold subRun;simp only [cov0,turned00,Bool.false_eq_true,if_false,kmoveS]
theorem ζlk (t:PTab) (gl:List Gl) (down:Bool) (pg:Int → Int → Option (Int × Int)) (l:List Pl):runKs 1 gl down pg [⟨covS 0,.pairs t⟩] 0 l = ((pairsTo t gl.reverse false down l.reverse (gl.length - 1)).reverse,0,0):=by
 simp only [runKs,sub_left];rw [cov0,runs01];simp
theorem ζka (t:PTab) (ts:List KSub) (j:Nat) (gl:List Gl) (down:Bool) (pg:Int → Int → Option (Int × Int)) (l:List Pl):runKs 0 gl down pg (⟨covS 0,.pairs t⟩ :: ts) j l = runKs 0 gl down pg ts (j + 1) (pairsTo t gl false down l (gl.length - 1)):=by
 simp only [runKs,ζo0];rw [cov0,runs00];simp
theorem ζf0 (t:PTab) {gl gm:List Gl} (h:gl.map (·.id) = gm.map (·.id)) (cross down:Bool) (l:List Pl):∀ j,j < gl.length → pairsTo t gl cross down l j = pairsTo t gm cross down l j
 | 0,_ => rfl
 | j + 1,hj => by
  have hlen:gl.length = gm.length:=by simpa using congrArg List.length h
  have he:∀ i,i < gl.length → ((gl[i]?).getD ⟨0,0⟩).id = ((gm[i]?).getD ⟨0,0⟩).id:=fun i hi => by
   have:=congrArg (fun l => l[i]?) h;simp only [List.getElem?_map] at this;rw [List.getElem?_eq_getElem hi,List.getElem?_eq_getElem (by omega)] at this ⊢;simpa using this
  unfold pairsTo;rw [ζf0 t h cross down l j (by omega),he j (by omega),he (j + 1) hj]
theorem newG_ids (ids:List Int):(newG ids).map (·.id) = ids:=by
 unfold newG;rw [List.map_map];exact List.zipIdx_map_fst 0 ids
theorem ζn6 (t:PTab) (ids:List Int) (down:Bool) (l:List Pl) (hl:l.reverse = l):(pairsTo t (newG ids).reverse false down l.reverse ((newG ids).length - 1)).reverse = (pairsTo t (newG ids.reverse) false down l ((newG ids.reverse).length - 1)).reverse:=by
 rw [hl,newG_len,newG_len,List.length_reverse];congr 1;by_cases h0:ids.length = 0
 ·rw [h0];rfl
 ·exact ζf0 t (by rw [List.map_reverse,newG_ids,newG_ids]) false down l _ (by simp; omega)
theorem ζn9 (n:Nat):(newPl (List.replicate n 0)).reverse = newPl (List.replicate n 0):=by
 unfold newPl;rw [List.map_replicate,List.reverse_replicate]
theorem ζn7 (k:Nat) (ids:List Int) (hi:ids.length ≤ 30) (t:Value) {H0 H:Heap} {L:List It} (g:Star H0 H L) :
  ∃ s o zz H',loopN (ζ27 k (R (T k))) loopFuel [(1,lv encI ids),(5,t),(7,.slice none 0 0),(34,.int .i64 ids.length),(35,.int .i64 0)] H =
   .ok (.exit 0,[(1,lv encI ids),(5,t),(7,s),(34,.int .i64 ids.length),(35,zz),(36,.bool false)]) H' ∧ Star H0 H' (L ++ [itRow o 1 s encI ids.reverse]):=by
 have at_:∀ x:It,(L ++ [x])[L.length]? = some x:=fun x => by simp
 have set_:∀ x y:It,(L ++ [x]).set L.length y = L ++ [y]:=fun x y => by simp
 have g0:=g.more_row (Ext.refl _) (OwnO.nil encI _ 1) (fun b hb => by cases hb)
 obtain ⟨xx,e',H1,hr1,rfl,s,o,rfl,g1⟩:=loop_up (body:=ζ27 k (R (T k))) ids.length
  (fun j e H' => ∃ s o,e = [(1,lv encI ids),(5,t),(7,s),(34,.int .i64 ids.length),(35,.int .i64 j)] ∧ Star H0 H' (L ++ [itRow o 1 s encI (ids.reverse.take j)]))
  (fun xx e H' => xx = .exit 0 ∧ ∃ s o,e = [(1,lv encI ids),(5,t),(7,s),(34,.int .i64 ids.length),(35,.int .i64 ids.length),(36,.bool false)] ∧ Star H0 H' (L ++ [itRow o 1 s encI ids.reverse]))
  (e0:=[(1,lv encI ids),(5,t),(7,.slice none 0 0),(34,.int .i64 ids.length),(35,.int .i64 0)]) (H0:=H) ⟨_,none,rfl,by simpa using g0⟩ (by omega)
  (fun j e H' hj ⟨s,o,he,g⟩ => by
   subst he;have hjl:(j:Int) < ids.length:=by omega
   have hjr:ids.reverse[j]? = some (ids[ids.length - 1 - j]):=by
    rw [List.getElem?_reverse hj,List.getElem?_eq_getElem (by omega)]
   obtain ⟨x,hx⟩:∃ x,x = ids[ids.length - 1 - j]:=⟨_,rfl⟩
   rw [← hx] at hjr;have hix:ids[ids.length - 1 - j]? = some x:=by rw [hx]; exact List.getElem?_eq_getElem (by omega)
   have i1:=fun H' => ixS_lvN encI_len ids .i64 (ids.length - 1 - j) x hix H';have hc:((ids.length - 1 - j:Nat):Int) = (ids.length:Int) - 1 - j:=by omega
   rw [hc] at i1;have hw1:IntKind.i64.wrap ((ids.length:Int) - 1) = (ids.length:Int) - 1:=wrap_i64 (by omega) (by omega);have hw2:IntKind.i64.wrap ((ids.length:Int) - 1 - j) = (ids.length:Int) - 1 - j:=wrap_i64 (by omega) (by omega);have hw3:IntKind.i64.wrap ((j:Int) + 1) = ((j + 1:Nat):Int):=by rw [wrap_i64 (by omega) (by omega)]; omega
   obtain ⟨s2,o2,H2,e2,g2⟩:=g.append1 (bytes:=8) L.length encI_len (at_ _) x (by rw [List.length_take]; omega) (by decide);rw [set_,← ζ3z hjr] at g2;have g2:=g2.take (L.length + 1);rw [List.take_of_length_le (by simp)] at g2;refine .inl ⟨_,H2,?_,s2,o2,rfl,g2⟩;rw [ζ3n];simp -implicitDefEqProofs (disch:=omega) [hjl,i1,hw1,hw2,hw3,e2])
  (fun e H' ⟨s,o,he,g⟩ => by
   subst he;rw [List.take_of_length_le (by simp)] at g;refine ⟨.exit 0,_,H',?_,by simp,rfl,s,o,rfl,g⟩;rw [ζ3n];simp -implicitDefEqProofs)
 exact ⟨s,o,_,H1,hr1,g1⟩
end Go.Sw
end
section
namespace Go.Sw
open Go.RowKit
set_option maxHeartbeats 2000000 in
theorem ζfh (ps:List PW) (hps:∀ p,p ∈ ps → p.ok) (ids:List Int):R (T F.ζ2c) F.ζd [lv encPW ps,lv encI ids] Heap.empty = .ok (.bool true) Heap.empty:=by
 generalize hk:F.ζ2c = k;have hs:=ζi7 k (by subst hk; rfl);have hk6:k < 1000000:=by subst hk; decide
 clear hk;rw [ζ83];generalize Heap.empty = H;by_cases hl:ps.length > 60
 ·have hl':(ps.length:Int) > 60:=by omega
  refine nrm_gc ⟨_,?_,Ext.refl H⟩ (.bool _);simp -implicitDefEqProofs (disch:=omega) [ζd,hs,hl']
 have hl':¬ (ps.length:Int) > 60:=by omega
 by_cases hi:ids.length > 30
 ·have hi':(ids.length:Int) > 30:=by omega
  refine nrm_gc ⟨_,?_,Ext.refl H⟩ (.bool _);simp -implicitDefEqProofs (disch:=omega) [ζd,hs,hl',hi']
 have hi':¬ (ids.length:Int) > 30:=by omega
 have hw:=fun H' => ζld k ps hps (by omega) H';have hdb:=ζn2 ps;have hdl:=ζn3 ps;generalize listW ps = d at hw hdb hdl;have hd:∀ x,x ∈ [((0:Int),d)] → 0 ≤ x.1 ∧ x.1 < 4294967296 ∧ x.2.length ≤ 2 ^ 19:=fun x hx => by
  rw [List.mem_singleton.1 hx]; dsimp only; omega
 have g:=(Star.nil H).push ⟨encSb (0,d),2,false⟩;simp only [List.nil_append] at g;have hsb:SbSl (H.push ⟨encSb (0,d),2,false⟩) (.slice (some ⟨H.n,0,none⟩) 1 1) [(0,d)]:=SbSl.one (g.get 0 rfl);have h26:=w26_run k hsb (by simp) hd;have hby:Byt (w26 [((0:Int),d)]):=Byt_w26 fun x hx => by rw [List.mem_singleton.1 hx]; exact hdb
 have hwl:=w26_len (l:=[((0:Int),d)]) (by simp) fun x hx => (hd x hx).2.2;have hrd:=fun H' => ζhy k (H:=H') (Sl.lv H' 1 (w26 [((0:Int),d)])) hby 40 (by omega) (fun _ H' => ζhz k hk6 _ hby 40 (by omega) (by omega) H');unfold kerxO kerxN at hrd;rw [if_pos (by omega),if_pos (by omega)] at hrd;have hS:=kerxS_26 40 (l:=[((0:Int),d)]) (by simp) hd;rw [show [((0:Int),d)].length = 1 from rfl,kmap_one] at hS;cases h:kerxS (w26 [((0:Int),d)]) 40 with
 | none =>
  rw [h] at hrd;simp only [kerxP,Option.isSome_none,Bool.false_eq_true,if_false] at hrd;refine nrm_gc ⟨_,?_,g.ext⟩ (.bool _);simp -implicitDefEqProofs (disch:=omega) [ζd,hs,hl',hi',hw,h26,hrd]
 | some t =>
  obtain ⟨hok,htl⟩:=kerxS_ok hby (by omega) (by omega) h;rw [h] at hrd hS;simp only [kerxP,Option.isSome_some,if_true] at hrd;obtain ⟨pt,_,hpt⟩:=Option.map_eq_some_iff.1 hS.symm;obtain ⟨s1,o1,zz,H1,e1,g⟩:=ζn7 k ids (by omega) (kerxV t) g;simp only [List.cons_append,List.nil_append] at g;have g:=g.push ⟨repeatCells [Value.int .i64 0] ids.length,1,false⟩;simp only [List.nil_append,List.cons_append] at g;have hmk:=fun (h:Heap) => mkR_nat 1 8 [Value.int .i64 0] .i64 .i64 ids.length h (by omega) (by decide);have hz:=ζiy (g.get 2 rfl);obtain ⟨o3,H3,e3,g⟩:=ζaf k g 1 (List.replicate ids.length 0) (by simp; omega) hz;simp only [List.nil_append,List.cons_append,hn_push] at g e3;have hz:=ζiy (g.get 2 rfl);obtain ⟨o4,H4,e4,g⟩:=ζaf k g 0 (List.replicate ids.length 0) (by simp; omega) hz;simp only [List.nil_append,List.cons_append] at g;obtain ⟨c1,o5,H5,e5,g⟩:=ζi3 k g ids (by omega);simp only [List.nil_append,List.cons_append] at g;have g:=g.push ⟨nilAnk,1,false⟩;simp only [List.nil_append,List.cons_append] at g;obtain ⟨H6,e6,g,ok6⟩:=ζcp k hk6 t hok htl 1 g 5 3 (by decide) rfl rfl (AnkIn.nil (ia:=6) (by decide) (by decide) rfl) (by simp; omega) (by simp; omega) (newPl_ok _);simp only [List.set_cons_zero,List.set_cons_succ] at g;obtain ⟨c2,o7,H7,e7,g⟩:=ζh2 k g ((g.row 1 rfl).sl encI_len) (by simp; omega);simp only [List.nil_append,List.cons_append] at g;have g:=g.push ⟨nilAnk,1,false⟩;simp only [List.nil_append,List.cons_append] at g;obtain ⟨H8,e8,g,ok8⟩:=ζcp k hk6 t hok htl 0 g 7 4 (by decide) rfl rfl (AnkIn.nil (ia:=8) (by decide) (by decide) rfl) (by simp; omega) (by simp; omega) (newPl_ok _);simp only [List.set_cons_zero,List.set_cons_succ] at g;have hlen1:=ζc5 1 (newG ids) ((1:Int) == 2) noPg t 0 (newPl (List.replicate ids.length 0)) hok;have hlen2:=ζc5 0 (newG ids.reverse) ((0:Int) == 2) noPg t 0 (newPl (List.replicate ids.length 0)) hok;rw [ζn8,List.length_replicate] at hlen1 hlen2;have hmir:(runKs 1 (newG ids) ((1:Int) == 2) noPg t 0 (newPl (List.replicate ids.length 0))).1 = (runKs 0 (newG ids.reverse) ((0:Int) == 2) noPg t 0 (newPl (List.replicate ids.length 0))).1.reverse:=by
   rw [← hpt,ζlk,ζka];exact ζn6 pt ids false _ (ζn9 _)
  have a1:=ζdc k hk6 g 3 rfl (by omega);have a2:=ζdc k hk6 g 4 rfl (by omega);rw [hmir] at a1;have htu:=ζk5 k _ (by rw [hlen2]; omega:(runKs 0 (newG ids.reverse) ((0:Int) == 2) noPg t 0 (newPl (List.replicate ids.length 0))).1.length ≤ 2 ^ 20) H8;have hsame:=ζk4 k (runKs 0 (newG ids.reverse) ((0:Int) == 2) noPg t 0 (newPl (List.replicate ids.length 0))).1.reverse (runKs 0 (newG ids.reverse) ((0:Int) == 2) noPg t 0 (newPl (List.replicate ids.length 0))).1.reverse (by rw [List.length_reverse]; omega) H8;generalize (runKs 0 (newG ids.reverse) ((0:Int) == 2) noPg t 0 (newPl (List.replicate ids.length 0))) = r at e8 a1 a2 htu hsame;unfold nilAnk at e6 e8;refine nrm_gc ⟨H8,?_,g.ext⟩ (.bool _);simp -implicitDefEqProofs (disch:=omega) [ζd,hs,hl',hi',hw,h26,hrd,e1,ζ6m,hmk,e3,e4,e5,e6,e7,e8,a1,a2,htu,hsame]
theorem ζdz (vs:List Value) (h:ArgsLay [.one (.slice [.int .u16,.int .u16,.int .i16]),.one (.slice [.int .i64])] vs):∃ H',R (T F.ζ2c) F.ζd vs Heap.empty = .ok (.bool true) H':=by
 obtain ⟨v1,_,rfl,h1,h⟩:=h.head;obtain ⟨v2,_,rfl,h2,h⟩:=h.head;obtain rfl:=h.done;obtain ⟨d,h1⟩:=h1.cell;obtain ⟨l,rfl,hl⟩:=Lay.list (enc:=encPW) (ok:=PW.ok) (fun r cs h => row_PW h) h1;obtain ⟨ids,rfl,_⟩:=arg_I h2;exact ⟨_,ζfh l hl ids⟩
end Go.Sw
end
