/-
  Functions' forms, and what is proved of them, part 10.
-/
import Derived.Test.YtanfippcmdialaaGreatSwW9
import Derived.Test.YtanfippcmdialaaGreatSwCfg
import Derived.Test.YtanfippcmdialaaGreatSwW3
import Derived.Test.YtanfippcmdialaaGreatSwW6
import Derived.Test.YtanfippcmdialaaGreatSwW8
import Derived.Test.YtanfippcmdialaaGreatSwW5
import Derived.Test.YtanfippcmdialaaGreatSwW2
import Derived.Test.YtanfippcmdialaaGreatSwW1
import Derived.Test.YtanfippcmdialaaGreatSwLib10
import Derived.Test.YtanfippcmdialaaGreatSwW7
set_option linter.unusedSimpArgs false
set_option linter.unusedVariables false
set_option linter.unusedSectionVars false
section
namespace Go.Sw
open Go.RowKit
theorem ζgg {α:Type} {L:List α} {i:Nat} {x:α} (h:L[i]? = some x):L.set i x = L:=by
 obtain ⟨hlt,hx⟩:=List.getElem?_eq_some_iff.1 h;rw [← hx,List.set_getElem_self]
theorem ζhk (k:Nat) (hk:k < 1000000) (m:Mv) (hm:m.ok) {H0 H:Heap} {L:List It} (h:Star H0 H L) (il ip:Nat) (hne:il ≠ ip) {c p:Nat} {o op:Option Nat} {down:Bool} (cross:Bool) {gl:List Gl} {l:List Pl} (hil:L[il]? = some (itLine c o gl)) (hip:L[ip]? = some (itPl p op down l)) {pv:Value} {pg:Int → Int → Option (Int × Int)} (hpg:AnkIn k L il ip pv pg) (hl:gl.length < 2 ^ 30) (hok:∀ q,q ∈ l → q.ok) :
  ∃ H',invokeR Prog (R (T k)) (mvV m) kmvN [ptrV c,ptrV p,pv,.bool cross] H = .ok (.int .i64 (kmoveS m gl cross down pg l).2) H' ∧ Star H0 H' (L.set ip (itPl p op down (kmoveS m gl cross down pg l).1)) ∧ ∀ q,q ∈ (kmoveS m gl cross down pg l).1 → q.ok:=by
 have hlt:=(List.getElem?_eq_some_iff.1 hip).1;have hll:=(List.getElem?_eq_some_iff.1 hil).1;cases m with
 | no =>
  refine ⟨H.push ⟨[],1,false⟩,?_,?_,hok⟩
  ·show invokeR Prog (R (T k)) (.iface tyNo _) _ _ _ = _;rw [inv_no,ζdd,nrm_of];simp -implicitDefEqProofs [ζ4t,kmoveS]
  ·show Star H0 _ (L.set ip (itPl p op down l));rw [ζgg hip];exact h.rest ((Ext.refl H).push _)
 | pairs t =>
  obtain ⟨H',e,g⟩:=ζgr k hk t hm h il ip hne cross hil hip pv hl hok;refine ⟨H',?_,g,ζdw t gl cross down hok _⟩;show invokeR Prog (R (T k)) (.iface tyPairs _) _ _ _ = _;rw [ζnj];exact e
 | stacks t =>
  have st:=h.push ⟨[stackV t],1,false⟩;obtain ⟨H',e,g⟩:=ζi7 k t hm st il ip hne (c:=c) (p:=p) (o:=o) (op:=op) (down:=down) cross (gl:=gl) (l:=l) (by rw [List.getElem?_append_left hll]; exact hil) (by rw [List.getElem?_append_left hlt]; exact hip) (by omega) hok;rw [List.set_append_left _ _ hlt] at g;have g:=g.take L.length;rw [List.take_append_of_le_length (by simp),List.take_of_length_le (by simp)] at g;refine ⟨H',?_,g,runSt_ok t hm.m gl down cross l hok⟩;show invokeR Prog (R (T k)) (.iface tyStacks _) _ _ _ = _;rw [ζlr,ζbb,nrm_of];simp -implicitDefEqProofs [ζ3e,e,kmoveS]
 | binds t =>
  have st:=h.push ⟨[bindV t],1,false⟩;obtain ⟨H',e,g,hko⟩:=ζh3 k t hm st il ip hne (c:=c) (p:=p) (o:=o) (op:=op) (down:=down) (gl:=gl) (l:=l) (by rw [List.getElem?_append_left hll]; exact hil) (by rw [List.getElem?_append_left hlt]; exact hip) hpg.ok (fun H2 l2 Y h2 => hpg.has (fun i x h1 h3 h4 => by
   have hi:=(List.getElem?_eq_some_iff.1 h4).1;rw [List.getElem?_append_left (by simp; omega),List.getElem?_set_ne (by omega),List.getElem?_append_left hi];exact h4) h2) hpg.st hpg.ce (by omega) hok
  rw [List.set_append_left _ _ hlt] at g;have g:=g.take L.length;rw [List.take_append_of_le_length (by simp),List.take_of_length_le (by simp)] at g;refine ⟨H',?_,g,hko⟩;show invokeR Prog (R (T k)) (.iface tyBinds _) _ _ _ = _;rw [ζni,ζc7,nrm_of];simp -implicitDefEqProofs [ζ41,e,kmoveS]
theorem AnkIn.more {k:Nat} {L L':List It} {il ip:Nat} {pv:Value} {pg:Int → Int → Option (Int × Int)} (h:AnkIn k L il ip pv pg) (hL:∀ i x,i ≠ il → i ≠ ip → L[i]? = some x → L'[i]? = some x):AnkIn k L' il ip pv pg:=by
 refine ⟨h.st,h.ce,h.ok,?_⟩;rcases h.at_ with h | ⟨ia,an,h1,h2,h3,h4⟩
 ·exact .inl h
 ·exact .inr ⟨ia,an,h1,h2,hL _ _ h1 h2 h3,h4⟩
theorem ζfw {k:Nat} {H H':Heap} {x:KSub} {q:Nat} (hq:H.get q = some ⟨encK x,1,false⟩) {c p v pv:Value} (h:invokeR Prog (R (T k)) (mvV x.mv) kmvN [c,p,pv,.bool x.cov.cross] H = .ok v H'):subTail (R (T k)) c p pv (ptrV q) H = .ok v H':=by
 unfold subTail;simp -implicitDefEqProofs [hq,mv_cells,h]
theorem ζl1 (k:Nat) (hk:k < 1000000) (x:KSub) (hx:x.mv.ok) (dir:Int) {H0 H:Heap} {L:List It} (h:Star H0 H L) (il ip:Nat) (hne:il ≠ ip) {c p:Nat} {o op:Option Nat} {down:Bool} {gl:List Gl} {l:List Pl} (hil:L[il]? = some (itLine c o gl)) (hip:L[ip]? = some (itPl p op down l)) {pv:Value} {pg:Int → Int → Option (Int × Int)} (hpg:AnkIn k L il ip pv pg) (hl:gl.length < 2 ^ 30) (hll:l.length < 2 ^ 30) (hok:∀ q,q ∈ l → q.ok) :
  ∃ H',R (T k) F.ζ0 [ksubV x,ptrV c,ptrV p,.int .i64 dir,pv] H = .ok (.int .i64 (subRun x dir gl down pg l).2) H' ∧ Star H0 H' (L.set ip (itPl p op down (subRun x dir gl down pg l).1)) ∧ ∀ q,q ∈ (subRun x dir gl down pg l).1 → q.ok:=by
 have hlt:=(List.getElem?_eq_some_iff.1 hip).1;have hlt2:=(List.getElem?_eq_some_iff.1 hil).1;have hbx:boxR (ksubV x) H = .ok (ptrV H.n) (H.push ⟨encK x,1,false⟩):=by
  simp -implicitDefEqProofs [mv_st]
 have hf0:∀ H',fieldAddrR Prog 213 (ptrV H.n) 0 H' = .ok (ptrV H.n) H':=fun H' => by
  simp -implicitDefEqProofs
 have st:=h.push ⟨encK x,1,false⟩;have hil1:(L ++ [itBlk H.n ⟨encK x,1,false⟩])[il]? = some (itLine c o gl):=by rw [List.getElem?_append_left hlt2]; exact hil
 have hip1:(L ++ [itBlk H.n ⟨encK x,1,false⟩])[ip]? = some (itPl p op down l):=by rw [List.getElem?_append_left hlt]; exact hip
 have hq1:(L ++ [itBlk H.n ⟨encK x,1,false⟩])[L.length]? = some (itBlk H.n ⟨encK x,1,false⟩):=by simp
 have hld:∀ H':Heap,H'.get H.n = some ⟨encK x,1,false⟩ → loadR Prog 209 (ptrV H.n) H' = .ok (covV x.cov) H':=fun H' hg => by
  simp -implicitDefEqProofs [hg]
 have ht:=fun H' => ζml k x.cov dir H';have hmore:∀ i y,i ≠ il → i ≠ ip → L[i]? = some y → (L ++ [itBlk H.n ⟨encK x,1,false⟩])[i]? = some y:=fun i y h1 h2 h3 => by
  rw [List.getElem?_append_left (List.getElem?_eq_some_iff.1 h3).1]; exact h3
 rw [ζgf];unfold subRun;cases hT:turnedS x.cov dir with
 | false =>
  rw [hT] at ht;obtain ⟨H2,e2,g2,hko⟩:=ζhk k hk x.mv hx st il ip hne x.cov.cross hil1 hip1 (pv:=pv) (pg:=pg) (hpg.more hmore) hl hok;rw [List.set_append_left _ _ hlt] at g2;have g2:=g2.take L.length;rw [List.take_append_of_le_length (by simp),List.take_of_length_le (by simp)] at g2;refine ⟨H2,?_,g2,hko⟩;exact nrm_of (sub_no (R (T k)) hbx (hf0 _) (hld _ (st.get _ hq1)) (ht _) (ζfw (st.get _ hq1) e2))
 | true =>
  rw [hT] at ht;obtain ⟨H2,e2,g2⟩:=ζbw k st il hil1 (by omega);have hip2:((L ++ [itBlk H.n ⟨encK x,1,false⟩]).set il (itLine c o gl.reverse))[ip]? = some (itPl p op down l):=by rw [List.getElem?_set_ne hne]; exact hip1
  obtain ⟨H3,e3,g3⟩:=ζfy k g2 ip hip2 (by omega);have hil3:(((L ++ [itBlk H.n ⟨encK x,1,false⟩]).set il (itLine c o gl.reverse)).set ip (itPl p op down l.reverse))[il]? = some (itLine c o gl.reverse):=by
   rw [List.getElem?_set_ne (Ne.symm hne),List.getElem?_set_self (by simp; omega)]
  have hip3:(((L ++ [itBlk H.n ⟨encK x,1,false⟩]).set il (itLine c o gl.reverse)).set ip (itPl p op down l.reverse))[ip]? = some (itPl p op down l.reverse):=by
   rw [List.getElem?_set_self (by simp; omega)]
  have hq3:(((L ++ [itBlk H.n ⟨encK x,1,false⟩]).set il (itLine c o gl.reverse)).set ip (itPl p op down l.reverse))[L.length]? = some (itBlk H.n ⟨encK x,1,false⟩):=by
   rw [List.getElem?_set_ne (by omega),List.getElem?_set_ne (by omega)]; exact hq1
  obtain ⟨H4,e4,g4,hko⟩:=ζhk k hk x.mv hx g3 il ip hne x.cov.cross hil3 hip3 (pv:=pv) (pg:=pg) (hpg.more fun i y h1 h2 h3 => by
   rw [List.getElem?_set_ne (Ne.symm h2),List.getElem?_set_ne (Ne.symm h1)]; exact hmore i y h1 h2 h3) (by simpa using hl) (fun q hq => hok q (by simpa using hq))
  have hlen:=ζdl x.mv hx gl.reverse x.cov.cross down pg l.reverse;generalize kmoveS x.mv gl.reverse x.cov.cross down pg l.reverse = res at e4 g4 hlen hko;rw [List.set_set] at g4;have hip4:(((L ++ [itBlk H.n ⟨encK x,1,false⟩]).set il (itLine c o gl.reverse)).set ip (itPl p op down res.1))[ip]? = some (itPl p op down res.1):=by
   rw [List.getElem?_set_self (by simp; omega)]
  obtain ⟨H5,e5,g5⟩:=ζfy k g4 ip hip4 (by rw [hlen,List.length_reverse]; omega);rw [List.set_set] at g5;have hil5:(((L ++ [itBlk H.n ⟨encK x,1,false⟩]).set il (itLine c o gl.reverse)).set ip (itPl p op down res.1.reverse))[il]? = some (itLine c o gl.reverse):=by
   rw [List.getElem?_set_ne (Ne.symm hne),List.getElem?_set_self (by simp; omega)]
  obtain ⟨H6,e6,g6⟩:=ζbw k g5 il hil5 (by simp; omega);rw [List.reverse_reverse,List.set_comm _ _ (Ne.symm hne),List.set_set,ζgg hil1,List.set_append_left _ _ hlt] at g6;have g6:=g6.take L.length;rw [List.take_append_of_le_length (by simp),List.take_of_length_le (by simp)] at g6;refine ⟨H6,?_,g6,fun q hq => hko q (by simpa using hq)⟩;exact nrm_of (sub_yes (R (T k)) hbx (hf0 _) (hld _ (st.get _ hq1)) (ht _) e2 e3 (ζfw (g3.get _ hq3) e4) (ζex e5) (ζhn e6))
end Go.Sw
end
section
namespace Go.Sw
open Go.RowKit
def runKs (dir:Int) (gl:List Gl) (down:Bool) (pg:Int → Int → Option (Int × Int)):List KSub → Nat → List Pl → List Pl × Int × Nat
 | [],_,l => (l,0,0)
 | x :: xs,j,l => if runsS x.cov dir then (if (subRun x dir gl down pg l).2 = 0 then runKs dir gl down pg xs (j + 1) (subRun x dir gl down pg l).1 else ((subRun x dir gl down pg l).1,(subRun x dir gl down pg l).2,j)) else runKs dir gl down pg xs (j + 1) l
abbrev fltV (z:Int) (j:Nat):Value:=.agg #[.int .i64 z,.int .i64 0,.int .i64 j]
set_option maxHeartbeats 1000000 in
theorem ζik (k:Nat) (hk:k < 1000000) (t:List KSub) (ht:∀ x,x ∈ t → x.mv.ok) (htl:t.length < 2 ^ 31) (dir:Int) {H0 H:Heap} {L:List It} (h:Star H0 H L) (il ip:Nat) (hne:il ≠ ip) {c p:Nat} {o op:Option Nat} {down:Bool} {gl:List Gl} {l:List Pl} (hil:L[il]? = some (itLine c o gl)) (hip:L[ip]? = some (itPl p op down l)) {pv:Value} {pg:Int → Int → Option (Int × Int)} (hpg:AnkIn k L il ip pv pg) (hl:gl.length < 2 ^ 30) (hll:l.length < 2 ^ 30) (hok:∀ q,q ∈ l → q.ok) :
  ∃ H',R (T k) F.ζv [kerxV t,ptrV c,ptrV p,.int .i64 dir,pv] H = .ok (fltV (runKs dir gl down pg t 0 l).2.1 (runKs dir gl down pg t 0 l).2.2) H' ∧ Star H0 H' (L.set ip (itPl p op down (runKs dir gl down pg t 0 l).1)) ∧ ∀ q,q ∈ (runKs dir gl down pg t 0 l).1 → q.ok:=by
 generalize hW:runKs dir gl down pg t 0 l = W;have hlt:=(List.getElem?_eq_some_iff.1 hip).1;have hlt2:=(List.getElem?_eq_some_iff.1 hil).1;have st:=h.push ⟨[.int .i64 0,.int .i64 0,.int .i64 0],1,false⟩
 obtain ⟨xx,e',H1,hr1,hQ⟩:=loop_up (body:=ζ5u k (R (T k))) t.length
  (fun j e' H' => e' = [(1,ptrV c),(2,ptrV p),(3,.int .i64 dir),(4,pv),(10,ptrV H.n),(17,lv encK t),(18,.int .i64 t.length),(19,.int .i64 j)] ∧ ∃ lj,Star H0 H' (L.set ip (itPl p op down lj) ++ [itBlk H.n ⟨[.int .i64 0,.int .i64 0,.int .i64 0],1,false⟩]) ∧ lj.length = l.length ∧ (∀ q,q ∈ lj → q.ok) ∧ W = runKs dir gl down pg (t.drop j) j lj)
  (fun xx e' H' => (∀ q,q ∈ W.1 → q.ok) ∧ ((xx = .ret ∧ e' = [(10,ptrV H.n)] ∧ Star H0 H' (L.set ip (itPl p op down W.1) ++ [itBlk H.n ⟨[.int .i64 W.2.1,.int .i64 0,.int .i64 W.2.2],1,false⟩])) ∨
   (xx = .exit 0 ∧ (∃ z,e' = [(1,ptrV c),(2,ptrV p),(3,.int .i64 dir),(4,pv),(10,ptrV H.n),(17,lv encK t),(18,.int .i64 t.length),(19,z),(20,.bool false)]) ∧ W.2 = (0,0) ∧ Star H0 H' (L.set ip (itPl p op down W.1) ++ [itBlk H.n ⟨[.int .i64 0,.int .i64 0,.int .i64 0],1,false⟩]))))
  (e0:=[(1,ptrV c),(2,ptrV p),(3,.int .i64 dir),(4,pv),(10,ptrV H.n),(17,lv encK t),(18,.int .i64 t.length),(19,.int .i64 0)]) (H0:=H.push ⟨[.int .i64 0,.int .i64 0,.int .i64 0],1,false⟩) ⟨rfl,l,by rw [ζgg hip]; exact st,rfl,hok,hW.symm⟩ (by omega)
  (fun j e' H' hj ⟨he',lj,st,hlj,hokj,hrun⟩ => by
   subst he';have hjl:(j:Int) < t.length:=by omega
   have hx:t[j]? = some t[j]:=List.getElem?_eq_getElem hj;have hxm:t[j].mv.ok:=ht _ (List.getElem_mem hj);rw [List.drop_eq_getElem_cons hj] at hrun;generalize t[j] = x at hx hxm hrun;have i0:=fun H' => ixS_lvN encK_len t .i64 j x hx H';have w2:IntKind.i64.wrap ((j:Int) + 1) = ((j + 1:Nat):Int):=by rw [wrap_i64 (by omega) (by omega)]; omega
   have hru:=fun H' => runs_run k x.cov dir H';have st2:=st.push ⟨encK x,1,false⟩;have hil2:((L.set ip (itPl p op down lj) ++ [itBlk H.n ⟨[.int .i64 0,.int .i64 0,.int .i64 0],1,false⟩]) ++ [itBlk H'.n ⟨encK x,1,false⟩])[il]? = some (itLine c o gl):=by
    rw [List.append_assoc,List.getElem?_append_left (by simpa using hlt2),List.getElem?_set_ne (Ne.symm hne)]; exact hil
   have hip2:((L.set ip (itPl p op down lj) ++ [itBlk H.n ⟨[.int .i64 0,.int .i64 0,.int .i64 0],1,false⟩]) ++ [itBlk H'.n ⟨encK x,1,false⟩])[ip]? = some (itPl p op down lj):=by
    rw [List.append_assoc,List.getElem?_append_left (by simpa using hlt),List.getElem?_set_self hlt]
   unfold runKs at hrun;cases hT:runsS x.cov dir with
   | false =>
    rw [hT] at hru;rw [hT,if_neg (by simp)] at hrun;refine .inl ⟨_,H'.push ⟨encK x,1,false⟩,?_,rfl,lj,?_,hlj,hokj,hrun⟩
    ·rw [ζ2y];simp -implicitDefEqProofs [hjl,i0,hru,ζa5,w2,mv_st,mv_cells]
    ·exact st.rest ((Ext.refl H').push _)
   | true =>
    rw [hT] at hru;rw [hT,if_pos rfl] at hrun;obtain ⟨H2,e2,g2,hko⟩:=ζl1 k hk x hxm dir st2 il ip hne hil2 hip2 (pv:=pv) (pg:=pg) (hpg.more fun i y h1 h2 h3 => by
     rw [List.append_assoc,List.getElem?_append_left (by simpa using (List.getElem?_eq_some_iff.1 h3).1),List.getElem?_set_ne (Ne.symm h2)]; exact h3) hl (by omega) hokj
    have hlen:=ζmi x hxm dir gl down pg lj;generalize subRun x dir gl down pg lj = res at e2 g2 hko hrun hlen;rw [List.append_assoc,List.set_append_left _ _ (by simpa using hlt),List.set_set,← List.append_assoc] at g2;have g2:=g2.take ((L.set ip (itPl p op down lj)).length + 1);rw [List.take_append_of_le_length (by simp),List.take_of_length_le (by simp)] at g2;by_cases hz:res.2 = 0
    ·rw [if_pos hz] at hrun;refine .inl ⟨_,H2,?_,rfl,res.1,g2,by omega,hko,hrun⟩;rw [ζ2y];simp -implicitDefEqProofs [hjl,i0,hru,ζa6,w2,mv_st,mv_cells,e2,hz]
    ·rw [if_neg hz] at hrun;have hz2:(res.2 != 0) = true:=by simpa using hz
     have hlast:(L.set ip (itPl p op down res.1) ++ [itBlk H.n ⟨[.int .i64 0,.int .i64 0,.int .i64 0],1,false⟩])[L.length]? = some (itBlk H.n ⟨[.int .i64 0,.int .i64 0,.int .i64 0],1,false⟩):=by
      rw [List.getElem?_append_right (by simp)]; simp
     obtain ⟨H3,e3,g3,_⟩:=Star.stAll g2 L.length hlast [.int .i64 res.2,.int .i64 0,.int .i64 j] 3 rfl rfl;rw [List.set_append_right _ _ (by simp)] at g3;simp only [List.length_set,Nat.sub_self,List.set_cons_zero] at g3;refine .inr ⟨.ret,_,H3,?_,by simp,?_,.inl ⟨rfl,rfl,?_⟩⟩
     ·rw [ζ2y];simp -implicitDefEqProofs [hjl,i0,hru,mv_st,mv_cells,e2,hz2,e3]
     ·rw [hrun]; exact hko
     ·rw [hrun]; exact g3)
  (fun e' H' ⟨he',lj,st,hlj,hokj,hrun⟩ => by
   subst he';rw [List.drop_length] at hrun;replace hrun:W = (lj,0,0):=hrun;refine ⟨.exit 0,[(1,ptrV c),(2,ptrV p),(3,.int .i64 dir),(4,pv),(10,ptrV H.n),(17,lv encK t),(18,.int .i64 t.length),(19,.int .i64 t.length),(20,.bool false)],H',?_,by simp,?_,.inr ⟨rfl,⟨_,rfl⟩,?_,?_⟩⟩
   ·rw [ζ2y];simp -implicitDefEqProofs
   ·rw [hrun]; exact hokj
   ·rw [hrun]
   ·rw [hrun]; exact st)
 obtain ⟨hko,hQ⟩:=hQ;have fin:∀ {H':Heap} {b:It},Star H0 H' (L.set ip (itPl p op down W.1) ++ [b]) → Star H0 H' (L.set ip (itPl p op down W.1)):=fun g => by
  have:=g.take (L.set ip (itPl p op down W.1)).length
  rwa [List.take_append_of_le_length (by simp),List.take_of_length_le (by simp)] at this
 have hlast:∀ (b:It),(L.set ip (itPl p op down W.1) ++ [b])[L.length]? = some b:=fun b => by
  rw [List.getElem?_append_right (by simp)]; simp
 rcases hQ with ⟨rfl,rfl,st1⟩ | ⟨rfl,⟨z,rfl⟩,hz,st1⟩
 ·have hg:=st1.get _ (hlast _);refine ⟨H1,?_,fin st1,hko⟩;rw [ζ8m,nrm_of];simp -implicitDefEqProofs [ζv,hr1,ζa7,hg]
 ·obtain ⟨H2,e2,g2,_⟩:=Star.stAll st1 L.length (hlast _) [.int .i64 0,.int .i64 0,.int .i64 0] 3 rfl rfl;rw [List.set_append_right _ _ (by simp)] at g2;simp only [List.length_set,Nat.sub_self,List.set_cons_zero] at g2;have hg:=g2.get _ (hlast _);have h1:W.2.1 = 0:=by rw [hz]
  have h2:W.2.2 = 0:=by rw [hz]
  rw [h1,h2];refine ⟨H2,?_,fin g2,hko⟩;rw [ζ8m,nrm_of];simp -implicitDefEqProofs [ζv,hr1,ζ9f,e2,hg]
end Go.Sw
end
section
set_option maxRecDepth 100000
set_option linter.unusedVariables false
namespace Go.Sw
noncomputable section
def ζ2j (k:Nat) (call:Caller):Env → Heap → Res (AExit × Env):=loopB (C k) call F.ζe [1,1,1,1,1,0,1,0,0]
def ζ39 (k:Nat) (call:Caller):Kont Value:=kBlock 0 (kSeq (pieceK (C k) call F.ζe [1,1,1,1,1,1]) (kDone Prog (resOf Prog F.ζe)))
def ζe (k:Nat) (call:Caller) (a0:Value) (h:Heap):Res Value :=
 (boxR a0 h).bind fun v1 h2 =>
 (call F.ζ2g [] h2).bind fun v3 h4 =>
 (unR .not v3 h4).bind fun v5 h6 =>
 condV (some v5) (
 .ok (.bool false) h6)
 (
 (loadR Prog 96 v1 h6).bind fun v7 h8 =>
 (call F.ζb [v7] h8).bind fun v9 h10 =>
 (unR .not v9 h10).bind fun v11 h12 =>
 condV (some v11) (
 .ok (.bool true) h12)
 (
 (fieldAddrR Prog 96 v1 0 h12).bind fun v13 h14 =>
 (loadR Prog 94 v13 h14).bind fun v15 h16 =>
 (call F.ζ1n [v15] h16).bind fun v17 h18 =>
 (call F.ζ5i [v17,(.int .i64 40)] h18).bind fun v19 h20 =>
 (extractR v19 0 h20).bind fun v21 h22 =>
 (extractR v19 1 h22).bind fun v23 h24 =>
 (binR Prog .eql 98 v21 (.pointer none) h24).bind fun v25 h26 =>
 condV (some v25) (
 .ok (.bool true) h26)
 (
 (fieldAddrR Prog 96 v1 0 h26).bind fun v27 h28 =>
 (loadR Prog 94 v27 h28).bind fun v29 h30 =>
 (builtinV Prog .len [94] [v29] h30).bind fun v31 h32 =>
 (loopN (ζ2j k call) loopFuel [(1,v1),(3,v21),(25,v29),(26,v31),(27,(.int .i64 0))] h32).bind fun r33 h34 =>
 ζ39 k call r33.1 r33.2 h34)))
theorem ζ9k (k:Nat) (a0:Value) (h:Heap):R (T k) F.ζe [a0] h = nrm .gc h (ζe k (R (T k)) a0 h) :=
 (R_body (t:=T k) (T_scott k) (by kernel_rfl) (by kernel_rfl) _ _).trans (by kernel_rfl)
theorem ζ2v (k:Nat) (call:Caller) (a1 a3 a25 a26 a27:Value) (h:Heap):ζ2j k call [(1,a1),(3,a3),(25,a25),(26,a26),(27,a27)] h =
 (binR Prog .lss 3 a27 a26 h).bind fun v35 h36 =>
 condV (some v35) (
 (indexAddrR Prog 94 a25 a27 h36).bind fun v37 h38 =>
 (loadR Prog 104 v37 h38).bind fun v39 h40 =>
 (allocR Prog 104 h40).bind fun v41 h42 =>
 (storeR Prog 104 v41 v39 h42).bind fun _v43 h44 =>
 (fieldAddrR Prog 104 v41 0 h44).bind fun v45 h46 =>
 (loadR Prog 102 v45 h46).bind fun v47 h48 =>
 (fieldAddrR Prog 96 a1 3 h48).bind fun v49 h50 =>
 (loadR Prog 3 v49 h50).bind fun v51 h52 =>
 (call F.ζ18 [v47,v51] h52).bind fun v53 h54 =>
 condV (some v53) (
 .ok (.ret,[(2,(.bool true))]) h54)
 (
 (binR Prog .add 3 a27 (.int .i64 1) h54).bind fun v55 h56 =>
 .ok (.normal,[(1,a1),(3,a3),(25,a25),(26,a26),(27,v55)]) h56))
 (
 .ok ((.exit 0),[(1,a1),(3,a3),(25,a25),(26,a26),(27,a27),(28,v35)]) h36) :=
 (loopB_eq _ _).trans (by kernel_rfl)
theorem ζ7m (k:Nat) (call:Caller) (a2:Value) (h:Heap):ζ39 k call .ret [(2,a2)] h =
 .ok a2 h:=by kernel_rfl
theorem ζ7c (k:Nat) (call:Caller) (a1 a3 a25 a26 a27 a28:Value) (h:Heap):ζ39 k call (.exit 0) [(1,a1),(3,a3),(25,a25),(26,a26),(27,a27),(28,a28)] h =
 (loadR Prog 96 a1 h).bind fun v57 h58 =>
 (call F.ζ1a [v57] h58).bind fun v59 h60 =>
 (extractR v59 0 h60).bind fun v61 h62 =>
 (extractR v59 1 h62).bind fun v63 h64 =>
 (fieldAddrR Prog 96 a1 2 h64).bindN fun v65 h66 =>
 (loadR Prog 30 v65 h66).bindN fun v67 h68 =>
 (call F.line_New [v67] h68).bindT (fun p71 h72 => (fieldAddrR Prog 96 a1 3 h68).bindN fun v73 h74 => (loadR Prog 3 v73 h74).bindN fun v75 h76 => (buildR Prog 115 [] h76).bindN fun v77 h78 => (boxR v77 h78).bindN fun v79 h80 => (allocR Prog 109 h80).bindN fun v81 h82 => chkR ((okVal (loadR Prog 3 v73 h64) v75 && (okVal (loadR Prog 3 v73 h80) v75 && true)) && true) (.panic p71 h72)) fun v69 h70 =>
 (fieldAddrR Prog 96 a1 3 h70).bindN fun v83 h84 =>
 (loadR Prog 3 v83 h84).bindN fun v85 h86 =>
 (buildR Prog 115 [] h86).bindN fun v87 h88 =>
 (boxR v87 h88).bindN fun v89 h90 =>
 (call F.ζv [a3,v69,v63,v85,v89] h90).bindT (fun p93 h94 => (allocR Prog 109 h90).bindN fun v95 h96 => chkR ((okVal (loadR Prog 3 v83 h64) v85 && (okVal (loadR Prog 3 v83 h90) v85 && true)) && true) (.panic p93 h94)) fun v91 h92 =>
 (allocR Prog 109 h92).bindN fun v97 h98 =>
 (storeR Prog 109 v97 v91 h98).bindN fun _v99 h100 =>
 chkR ((okVal (loadR Prog 3 v83 h64) v85 && (okVal (loadR Prog 3 v83 h90) v85 && true)) && true) (
 (loadR Prog 109 v97 h100).bind fun v101 h102 =>
 (buildR Prog 109 [] h102).bind fun v103 h104 =>
 (binR Prog .eql 109 v101 v103 h104).bind fun v105 h106 =>
 ((bif wantVal v105 true then Res.ok v63 h106 else Res.ok undef h106)).bind fun v107 h108 =>
 ((bif wantVal v105 true then call F.ζ2c [v107] h108 else Res.ok undef h108)).bind fun v109 h110 =>
 ((bif wantVal v105 true then Res.ok v61 h110 else Res.ok undef h110)).bind fun v111 h112 =>
 ((bif wantVal v105 true then call F.ζ29 [v111] h112 else Res.ok undef h112)).bind fun v113 h114 =>
 ((bif wantVal v105 true then call F.ζ12 [v109,v113] h114 else Res.ok undef h114)).bind fun v115 h116 =>
 (condV (some v105) (Res.ok v115 h116) (Res.ok (.bool false) h116)).bind fun v117 h118 =>
 .ok v117 h118):=by kernel_rfl
def ζ3c (k:Nat) (call:Caller):Env → Heap → Res (AExit × Env):=loopB (C k) call F.ζb [1,0,1,0,0]
def ζ4d (k:Nat) (call:Caller):Kont Value:=kBlock 0 (kSeq (pieceK (C k) call F.ζb [1,1]) (kDone Prog (resOf Prog F.ζb)))
def ζ3d (k:Nat) (call:Caller):Env → Heap → Res (AExit × Env):=loopB (C k) call F.ζb [1,1,0,1,0,0]
def ζ4e (k:Nat) (call:Caller):Kont Value:=kBlock 2 (kSeq (pieceK (C k) call F.ζb [1,1,1]) (kDone Prog (resOf Prog F.ζb)))
def ζb (k:Nat) (call:Caller) (a0:Value) (h:Heap):Res Value :=
 (boxR a0 h).bind fun v1 h2 =>
 (fieldAddrR Prog 96 v1 0 h2).bind fun v3 h4 =>
 (loadR Prog 94 v3 h4).bind fun v5 h6 =>
 (builtinV Prog .len [94] [v5] h6).bind fun v7 h8 =>
 (loopN (ζ3c k call) loopFuel [(1,v1),(8,v5),(9,v7),(10,(.int .i64 0))] h8).bind fun r9 h10 =>
 ζ4d k call r9.1 r9.2 h10
theorem ζbr (k:Nat) (a0:Value) (h:Heap):R (T k) F.ζb [a0] h = nrm .gc h (ζb k (R (T k)) a0 h) :=
 (R_body (t:=T k) (T_scott k) (by kernel_rfl) (by kernel_rfl) _ _).trans (by kernel_rfl)
theorem ζ3o (k:Nat) (call:Caller) (a1 a8 a9 a10:Value) (h:Heap):ζ3c k call [(1,a1),(8,a8),(9,a9),(10,a10)] h =
 (binR Prog .lss 3 a10 a9 h).bind fun v11 h12 =>
 condV (some v11) (
 (indexAddrR Prog 94 a8 a10 h12).bind fun v13 h14 =>
 (loadR Prog 104 v13 h14).bind fun v15 h16 =>
 (allocR Prog 104 h16).bind fun v17 h18 =>
 (storeR Prog 104 v17 v15 h18).bind fun _v19 h20 =>
 (fieldAddrR Prog 104 v17 1 h20).bind fun v21 h22 =>
 (loadR Prog 22 v21 h22).bind fun v23 h24 =>
 (builtinV Prog .len [22] [v23] h24).bind fun v25 h26 =>
 (binR Prog .gtr 3 v25 (.int .i64 400) h26).bind fun v27 h28 =>
 condV (some v27) (
 .ok (.ret,[(2,(.bool false))]) h28)
 (
 (binR Prog .add 3 a10 (.int .i64 1) h28).bind fun v29 h30 =>
 .ok (.normal,[(1,a1),(8,a8),(9,a9),(10,v29)]) h30))
 (
 .ok ((.exit 0),[(1,a1),(8,a8),(9,a9),(10,a10),(11,v11)]) h12) :=
 (loopB_eq _ _).trans (by kernel_rfl)
theorem ζ8y (k:Nat) (call:Caller) (a2:Value) (h:Heap):ζ4d k call .ret [(2,a2)] h =
 .ok a2 h:=by kernel_rfl
theorem ζ1q (k:Nat) (call:Caller) (a1 a8 a9 a10 a11:Value) (h:Heap):ζ4d k call (.exit 0) [(1,a1),(8,a8),(9,a9),(10,a10),(11,a11)] h =
 (fieldAddrR Prog 96 a1 1 h).bind fun v31 h32 =>
 (loadR Prog 70 v31 h32).bind fun v33 h34 =>
 (builtinV Prog .len [70] [v33] h34).bind fun v35 h36 =>
 (loopN (ζ3d k call) loopFuel [(1,a1),(20,v33),(21,v35),(22,(.int .i64 0))] h36).bind fun r37 h38 =>
 ζ4e k call r37.1 r37.2 h38:=by kernel_rfl
theorem ζ3p (k:Nat) (call:Caller) (a1 a20 a21 a22:Value) (h:Heap):ζ3d k call [(1,a1),(20,a20),(21,a21),(22,a22)] h =
 (binR Prog .lss 3 a22 a21 h).bind fun v39 h40 =>
 condV (some v39) (
 (indexAddrR Prog 70 a20 a22 h40).bind fun v41 h42 =>
 (loadR Prog 130 v41 h42).bind fun v43 h44 =>
 (builtinV Prog .len [130] [v43] h44).bind fun v45 h46 =>
 (binR Prog .gtr 3 v45 (.int .i64 20) h46).bind fun v47 h48 =>
 condV (some v47) (
 .ok (.ret,[(2,(.bool false))]) h48)
 (
 (binR Prog .add 3 a22 (.int .i64 1) h48).bind fun v49 h50 =>
 .ok (.normal,[(1,a1),(20,a20),(21,a21),(22,v49)]) h50))
 (
 .ok ((.exit 2),[(1,a1),(20,a20),(21,a21),(22,a22),(23,v39)]) h40) :=
 (loopB_eq _ _).trans (by kernel_rfl)
theorem ζ8z (k:Nat) (call:Caller) (a2:Value) (h:Heap):ζ4e k call .ret [(2,a2)] h =
 .ok a2 h:=by kernel_rfl
theorem ζ2f (k:Nat) (call:Caller) (a1 a20 a21 a22 a23:Value) (h:Heap):ζ4e k call (.exit 2) [(1,a1),(20,a20),(21,a21),(22,a22),(23,a23)] h =
 (fieldAddrR Prog 96 a1 0 h).bind fun v51 h52 =>
 (loadR Prog 94 v51 h52).bind fun v53 h54 =>
 (builtinV Prog .len [94] [v53] h54).bind fun v55 h56 =>
 (binR Prog .leq 3 v55 (.int .i64 5) h56).bind fun v57 h58 =>
 ((bif wantVal v57 true then fieldAddrR Prog 96 a1 1 h58 else Res.ok undef h58)).bind fun v59 h60 =>
 ((bif wantVal v57 true then loadR Prog 70 v59 h60 else Res.ok undef h60)).bind fun v61 h62 =>
 ((bif wantVal v57 true then builtinV Prog .len [70] [v61] h62 else Res.ok undef h62)).bind fun v63 h64 =>
 ((bif wantVal v57 true then binR Prog .leq 3 v63 (.int .i64 20) h64 else Res.ok undef h64)).bind fun v65 h66 =>
 (condV (some v57) (Res.ok v65 h66) (Res.ok (.bool false) h66)).bind fun v67 h68 =>
 ((bif wantVal v67 true then fieldAddrR Prog 96 a1 2 h68 else Res.ok undef h68)).bind fun v69 h70 =>
 ((bif wantVal v67 true then loadR Prog 30 v69 h70 else Res.ok undef h70)).bind fun v71 h72 =>
 ((bif wantVal v67 true then builtinV Prog .len [30] [v71] h72 else Res.ok undef h72)).bind fun v73 h74 =>
 ((bif wantVal v67 true then binR Prog .leq 3 v73 (.int .i64 30) h74 else Res.ok undef h74)).bind fun v75 h76 =>
 (condV (some v67) (Res.ok v75 h76) (Res.ok (.bool false) h76)).bind fun v77 h78 =>
 .ok v77 h78:=by kernel_rfl
def ζ3b (k:Nat) (call:Caller):Env → Heap → Res (AExit × Env):=loopB (C k) call F.ζ1n [1,1,0,1,0,0]
def ζ6v (k:Nat) (call:Caller):Kont Value:=kBlock 0 (kSeq (pieceK (C k) call F.ζ1n [1,1,1]) (kDone Prog (resOf Prog F.ζ1n)))
def ζ1n (k:Nat) (call:Caller) (a0:Value) (h:Heap):Res Value :=
 (call F.ζj [(.slice none 0 0),(.int .i64 2),(.int .i64 2)] h).bind fun v1 h2 =>
 (call F.ζj [v1,(.int .i64 0),(.int .i64 2)] h2).bind fun v3 h4 =>
 (builtinV Prog .len [94] [a0] h4).bind fun v5 h6 =>
 (call F.ζj [v3,v5,(.int .i64 4)] h6).bind fun v7 h8 =>
 (builtinV Prog .len [94] [a0] h8).bind fun v9 h10 =>
 (loopN (ζ3b k call) loopFuel [(3,v7),(11,a0),(12,v9),(13,(.int .i64 0))] h10).bind fun r11 h12 =>
 ζ6v k call r11.1 r11.2 h12
theorem ζbp (k:Nat) (a0:Value) (h:Heap):R (T k) F.ζ1n [a0] h = nrm .fz h (ζ1n k (R (T k)) a0 h) :=
 (R_body (t:=T k) (T_scott k) (by kernel_rfl) (by kernel_rfl) _ _).trans (by kernel_rfl)
theorem ζ5s (k:Nat) (call:Caller) (a3 a11 a12 a13:Value) (h:Heap):ζ3b k call [(3,a3),(11,a11),(12,a12),(13,a13)] h =
 (binR Prog .lss 3 a13 a12 h).bind fun v13 h14 =>
 condV (some v13) (
 (indexAddrR Prog 94 a11 a13 h14).bind fun v15 h16 =>
 (loadR Prog 104 v15 h16).bind fun v17 h18 =>
 (allocR Prog 104 h18).bind fun v19 h20 =>
 (storeR Prog 104 v19 v17 h20).bind fun _v21 h22 =>
 (fieldAddrR Prog 104 v19 1 h22).bindN fun v23 h24 =>
 (loadR Prog 22 v23 h24).bindN fun v25 h26 =>
 (builtinV Prog .len [22] [v25] h26).bindN fun v27 h28 =>
 (binR Prog .add 3 (.int .i64 12) v27 h28).bindN fun v29 h30 =>
 (call F.ζj [a3,v29,(.int .i64 4)] h30).bindT (fun p33 h34 => (fieldAddrR Prog 104 v19 0 h30).bindN fun v35 h36 => (loadR Prog 102 v35 h36).bindN fun v37 h38 => (convR Prog 102 3 v37 h38).bindN fun v39 h40 => chkR ((okVal (loadR Prog 102 v35 h22) v37 && true) && true) (.panic p33 h34)) fun v31 h32 =>
 (fieldAddrR Prog 104 v19 0 h32).bindN fun v41 h42 =>
 (loadR Prog 102 v41 h42).bindN fun v43 h44 =>
 (convR Prog 102 3 v43 h44).bindN fun v45 h46 =>
 (call F.ζj [v31,v45,(.int .i64 4)] h46).bindT (fun p49 h50 => chkR ((okVal (loadR Prog 102 v41 h22) v43 && true) && true) (.panic p49 h50)) fun v47 h48 =>
 chkR ((okVal (loadR Prog 102 v41 h22) v43 && true) && true) (
 (buildSliceR Prog 22 4 [(0,(.int .u8 0)),(1,(.int .u8 0)),(2,(.int .u8 0)),(3,(.int .u8 0))] h48).bindN fun v51 h52 =>
 (builtinV Prog .append [22,22] [v47,v51] h52).bindN fun v53 h54 =>
 (fieldAddrR Prog 104 v19 1 h54).bindN fun v55 h56 =>
 (loadR Prog 22 v55 h56).bindN fun v57 h58 =>
 (builtinV Prog .append [22,22] [v53,v57] h58).bindN fun v59 h60 =>
 chkR ((okVal (loadR Prog 22 v55 h48) v57 && (okVal (loadR Prog 22 v55 h52) v57 && true)) && true) (
 (binR Prog .add 3 a13 (.int .i64 1) h60).bind fun v61 h62 =>
 .ok (.normal,[(3,v59),(11,a11),(12,a12),(13,v61)]) h62)))
 (
 .ok ((.exit 0),[(3,a3),(11,a11),(12,a12),(13,a13),(14,v13)]) h14) :=
 (loopB_eq _ _).trans (by kernel_rfl)
theorem ζ8i (k:Nat) (call:Caller) (a3 a11 a12 a13 a14:Value) (h:Heap):ζ6v k call (.exit 0) [(3,a3),(11,a11),(12,a12),(13,a13),(14,a14)] h =
 .ok a3 h:=by kernel_rfl
def ζ50 (k:Nat) (call:Caller):Env → Heap → Res (AExit × Env):=loopB (C k) call F.ζ1a [1,1,0,1,0,0]
def ζ6w (k:Nat) (call:Caller):Kont Value:=kBlock 0 (kSeq (pieceK (C k) call F.ζ1a [1,1,1]) (kDone Prog (resOf Prog F.ζ1a)))
def ζ1a (k:Nat) (call:Caller) (a0:Value) (h:Heap):Res Value :=
 (boxR a0 h).bind fun v1 h2 =>
 (fieldAddrR Prog 96 v1 2 h2).bind fun v3 h4 =>
 (loadR Prog 30 v3 h4).bind fun v5 h6 =>
 (builtinV Prog .len [30] [v5] h6).bind fun v7 h8 =>
 (loopN (ζ50 k call) loopFuel [(1,v1),(4,(.slice none 0 0)),(8,v7),(9,(.int .i64 0))] h8).bind fun r9 h10 =>
 ζ6w k call r9.1 r9.2 h10
theorem ζbq (k:Nat) (a0:Value) (h:Heap):R (T k) F.ζ1a [a0] h = nrm .gc h (ζ1a k (R (T k)) a0 h) :=
 (R_body (t:=T k) (T_scott k) (by kernel_rfl) (by kernel_rfl) _ _).trans (by kernel_rfl)
theorem ζ5t (k:Nat) (call:Caller) (a1 a4 a8 a9:Value) (h:Heap):ζ50 k call [(1,a1),(4,a4),(8,a8),(9,a9)] h =
 (binR Prog .lss 3 a9 a8 h).bind fun v11 h12 =>
 condV (some v11) (
 (binR Prog .add 3 (.int .i64 1000) a9 h12).bind fun v13 h14 =>
 (buildSliceR Prog 30 1 [(0,v13)] h14).bind fun v15 h16 =>
 (builtinV Prog .append [30,30] [a4,v15] h16).bind fun v17 h18 =>
 (binR Prog .add 3 a9 (.int .i64 1) h18).bind fun v19 h20 =>
 .ok (.normal,[(1,a1),(4,v17),(8,a8),(9,v19)]) h20)
 (
 .ok ((.exit 0),[(1,a1),(4,a4),(8,a8),(9,a9),(10,v11)]) h12) :=
 (loopB_eq _ _).trans (by kernel_rfl)
theorem ζ8j (k:Nat) (call:Caller) (a1 a4 a8 a9 a10:Value) (h:Heap):ζ6w k call (.exit 0) [(1,a1),(4,a4),(8,a8),(9,a9),(10,a10)] h =
 (fieldAddrR Prog 96 a1 3 h).bind fun v21 h22 =>
 (loadR Prog 3 v21 h22).bind fun v23 h24 =>
 (call F.ζ5k [v23,a4] h24).bind fun v25 h26 =>
 .ok (.tuple #[a4,v25]) h26:=by kernel_rfl
end
end Go.Sw
end
section
namespace Go.Sw
open Go.RowKit
end Go.Sw
end
section
set_option maxRecDepth 100000
set_option linter.unusedVariables false
namespace Go.Sw
noncomputable section
end
end Go.Sw
end
section
namespace Go.Sw
open Go.RowKit
end Go.Sw
end
section
namespace Go.Sw
open Go.RowKit
theorem ζit (k:Nat) (hk:k % 1000000 = F.ζ2g) (H:Heap):R (T k) F.ζ2g [] H = .ok (.bool true) H :=
 (R_sp (t:=T k) (T_scott k) (s:=constSp (.bool true)) (by unfold T C; dsimp only; rw [hk]; kernel_rfl) [] H).trans (nrm_gc (Pure.of rfl) (.bool _))
theorem AnkIn.nil {k:Nat} {L:List It} {il ip ia an:Nat} (h1:ia ≠ il) (h2:ia ≠ ip) (h:L[ia]? = some (itBlk an ⟨nilAnk,1,false⟩)):AnkIn k L il ip (ptrV an) noPg :=
 ⟨rfl,rfl,noPg_ok,.inr ⟨ia,an,h1,h2,h,rfl,rfl⟩⟩
end Go.Sw
end
section
namespace Go.Sw
open Go.RowKit
abbrev encSb (x:Int × List Int):List Value:=[.int .u32 x.1,lv encB x.2]
theorem ζg7 (x:Int × List Int):(encSb x).length = 2:=rfl
def sub26 (x:Int × List Int):List Int:=bytesOf (12 + x.2.length) 4 ++ bytesOf x.1 4 ++ [0,0,0,0] ++ x.2
def w26 (l:List (Int × List Int)):List Int:=bytesOf 2 2 ++ bytesOf 0 2 ++ bytesOf l.length 4 ++ l.flatMap sub26
structure SbSl (H:Heap) (v:Value) (l:List (Int × List Int)):Prop where
 ln:∀ H',lnS v H' = .ok (.int .i64 l.length) H'
 ix:∀ j x,l[j]? = some x → ∃ p,(∀ H',ixS 2 v (.int .i64 (j:Nat)) H' = .ok p H') ∧ ∀ H',Ext H H' → ldA 2 p H' = .ok (.agg (encSb x).toArray) H'
theorem SbSl.lv (H:Heap) (l:List (Int × List Int)):SbSl H (Go.Sw.lv encSb l) l:=by
 refine ⟨fun H' => by simp,fun j x hx => ⟨boxV (encSb x).toArray,fun H' => ixS_lvN ζg7 l .i64 j x hx H',fun H' _ => by simp⟩⟩
theorem ζd7 {α β:Type} (f:α → List β) {l:List α} {j:Nat} {x:α} (h:l[j]? = some x):(l.take (j + 1)).flatMap f = (l.take j).flatMap f ++ f x:=by
 rw [ζ53 h,List.flatMap_append];simp
theorem ζcs (x:Int × List Int):(sub26 x).length = 12 + x.2.length:=by unfold sub26; simp [ζ1o]; omega
theorem ζhf {l:List (Int × List Int)} (hd:∀ x,x ∈ l → x.2.length ≤ 2 ^ 19):(l.flatMap sub26).length ≤ l.length * (2 ^ 19 + 12):=by
 induction l with
 | nil => simp
 | cons x l ih =>
  have:=ih fun y hy => hd y (List.mem_cons_of_mem _ hy);have h1:=hd x List.mem_cons_self;rw [List.flatMap_cons,List.length_append,ζcs,List.length_cons,Nat.add_mul];omega
set_option maxHeartbeats 1000000 in
theorem w26_l1 (k:Nat) {H0 H:Heap} {o:Option Nat} {s7:Value} {lk:List Int} (g:Star H0 H [itRow o 1 s7 encB lk]) {v:Value} {l:List (Int × List Int)} (hv:SbSl H0 v l) (hl:l.length ≤ 100) (hlk:lk.length ≤ 100) (hd:∀ x,x ∈ l → 0 ≤ x.1 ∧ x.1 < 4294967296 ∧ x.2.length ≤ 2 ^ 19) :
  ∃ s' o' zz H',loopN (ζ3b k (R (T k))) loopFuel [(3,s7),(11,v),(12,.int .i64 l.length),(13,.int .i64 0)] H =
   .ok (.exit 0,[(3,s'),(11,v),(12,.int .i64 l.length),(13,zz),(14,.bool false)]) H' ∧ Star H0 H' [itRow o' 1 s' encB (lk ++ l.flatMap sub26)]:=by
 obtain ⟨xx,e',H1,hr1,rfl,s',o',rfl,g1⟩:=loop_up (body:=ζ3b k (R (T k))) l.length
  (fun j e H' => ∃ s' o',e = [(3,s'),(11,v),(12,.int .i64 l.length),(13,.int .i64 j)] ∧ Star H0 H' [itRow o' 1 s' encB (lk ++ (l.take j).flatMap sub26)])
  (fun xx e H' => xx = .exit 0 ∧ ∃ s' o',e = [(3,s'),(11,v),(12,.int .i64 l.length),(13,.int .i64 l.length),(14,.bool false)] ∧ Star H0 H' [itRow o' 1 s' encB (lk ++ l.flatMap sub26)])
  (e0:=[(3,s7),(11,v),(12,.int .i64 l.length),(13,.int .i64 0)]) (H0:=H) ⟨s7,o,rfl,by simpa using g⟩ (by omega)
  (fun j e H' hj ⟨s',o',he,g⟩ => by
   subst he;have hjl:(j:Int) < l.length:=by omega
   obtain ⟨x,hx⟩:∃ x,l[j]? = some x:=⟨_,List.getElem?_eq_getElem hj⟩
   have hxd:=hd x (List.mem_of_getElem? hx);have hfl:=ζhf (l:=l.take j) fun y hy => (hd y (List.mem_of_mem_take hy)).2.2;have hfl2:(l.take j).length * (2 ^ 19 + 12) ≤ 100 * (2 ^ 19 + 12):=Nat.mul_le_mul_right _ (by rw [List.length_take]; omega);obtain ⟨p,i1,i2⟩:=hv.ix j x hx;have i2:=i2 H' g.ext;have g0:=g.push ⟨encSb x,1,false⟩;simp only [List.cons_append,List.nil_append] at g0;have c0:=g0.get 1 rfl;obtain ⟨s1,o1,H1,e1,g1⟩:=Put_star k g0 0 rfl (12 + x.2.length:Int) 4 4 rfl (by omega) (by omega) (by omega) (by rw [List.length_append]; omega);simp only [List.set_cons_zero] at g1;have c1:=g1.get 1 rfl;obtain ⟨s2,o2,H2,e2,g2⟩:=Put_star k g1 0 rfl x.1 4 4 rfl hxd.1 (by omega) (by omega) (by simp only [List.length_append,ζ1o]; omega);simp only [List.set_cons_zero] at g2;have c2:=g2.get 1 rfl;have g3:=g2.rest ((Ext.refl H2).push ⟨rows encB [0,0,0,0],1,false⟩);obtain ⟨s3,o3,H3,e3,g3⟩:=g3.append (bytes:=1) 0 encB_len rfl (b:=.slice (some ⟨H2.n,0,none⟩) 4 4) (l2:=[0,0,0,0]) rfl (by
    unfold firstV;dsimp only;rw [if_neg (by simp),ζ6g,ζa _ _ _ rfl];rfl) (by simp only [List.length_append,ζ1o,List.length_cons,List.length_nil]; omega) (by decide)
   simp only [List.set_cons_zero] at g3;have c3:=g3.get 1 rfl;obtain ⟨s4,o4,H4,e4,g4⟩:=g3.append (bytes:=1) 0 encB_len rfl (b:=Go.Sw.lv encB x.2) (l2:=x.2) rfl (lv_first encB_len x.2 H3) (by simp only [List.length_append,ζ1o,List.length_cons,List.length_nil]; omega) (by decide);simp only [List.set_cons_zero] at g4;have g4:=g4.take 1;simp only [List.take_succ_cons,List.take_zero] at g4;have hw1:IntKind.i64.wrap (12 + (x.2.length:Int)) = 12 + (x.2.length:Int):=wrap_i64 (by omega) (by omega);have hw2:IntKind.i64.wrap x.1 = x.1:=wrap_i64 (by omega) (by omega);have hw3:IntKind.i64.wrap ((j:Int) + 1) = ((j + 1:Nat):Int):=by rw [wrap_i64 (by omega) (by omega)]; omega
   simp [rows] at e3;have hne:¬ H'.n = H2.n:=by have:=Heap.get_lt c2; omega
   refine .inl ⟨_,H4,?_,s4,o4,rfl,?_⟩
   ·rw [ζ5s];simp -implicitDefEqProofs (disch:=omega) [hjl,i1,i2,c0,c1,c2,c3,hw1,hw2,hw3,hne,e1,e2,e3,e4]
   ·rw [ζd7 sub26 hx];simpa [sub26,List.append_assoc] using g4)
  (fun e H' ⟨s',o',he,g⟩ => by
   subst he;rw [List.take_of_length_le (by simp)] at g;refine ⟨.exit 0,_,H',?_,by simp,rfl,s',o',rfl,g⟩;rw [ζ5s];simp -implicitDefEqProofs)
 exact ⟨s',o',_,H1,hr1,g1⟩
theorem w26_run (k:Nat) {H:Heap} {v:Value} {l:List (Int × List Int)} (hv:SbSl H v l) (hl:l.length ≤ 100) (hd:∀ x,x ∈ l → 0 ≤ x.1 ∧ x.1 < 4294967296 ∧ x.2.length ≤ 2 ^ 19) :
  R (T k) F.ζ1n [v] H = .ok (lv encB (w26 l)) H:=by
 rw [ζbp];have g:=(Star.nil H).more_row (Ext.refl _) (OwnO.nil encB _ 1) (fun b hb => by cases hb);simp only [List.nil_append] at g;obtain ⟨s1,o1,H1,e1,g⟩:=Put_star k g 0 rfl 2 2 2 rfl (by omega) (by omega) (by omega) (by simp);simp only [List.set_cons_zero] at g;obtain ⟨s2,o2,H2,e2,g⟩:=Put_star k g 0 rfl 0 2 2 rfl (by omega) (by omega) (by omega) (by simp [ζ1o]);simp only [List.set_cons_zero] at g;obtain ⟨s3,o3,H3,e3,g⟩:=Put_star k g 0 rfl (l.length:Int) 4 4 rfl (by omega) (by omega) (by omega) (by simp [ζ1o]);simp only [List.set_cons_zero,List.nil_append] at g;obtain ⟨s,o,zz,H4,e4,g⟩:=w26_l1 k g hv hl (by simp [ζ1o]) hd;obtain ⟨L,hf⟩:=(g.own 0 rfl).freeze encB_len (fun n _ v hv => by simp at hv; subst hv; trivial) 6;refine nrm_fz (v:=s) (H':=H4) ?_ hf g.ext (Flat.B _).alive;have hln:=fun H' => hv.ln H';simp -implicitDefEqProofs (disch:=omega) [ζ1n,e1,e2,hln,e3,e4,ζ8i]
end Go.Sw
end
section
namespace Go.Sw
open Go.RowKit
theorem ksubS_26 (p q:List Int) (x:Int × List Int) (hx:0 ≤ x.1 ∧ x.1 < 4294967296 ∧ x.2.length ≤ 2 ^ 19) (g:Int) :
  ksubS (p ++ (sub26 x ++ q)) g p.length = (mvS (covS x.1) x.2 g).map fun m => ((12 + x.2.length:Int),(⟨covS x.1,m⟩:KSub)):=by
 have e1:uS (p ++ (sub26 x ++ q)) p.length 4 = some (12 + x.2.length:Int):=by
  have:=uS_at p (bytesOf x.1 4 ++ [0,0,0,0] ++ x.2 ++ q) (n:=(12 + x.2.length:Int)) (k:=4) p.length 4 rfl rfl (by omega) (by omega);simpa [sub26,List.append_assoc] using this
 have e2:pieceS (p ++ (sub26 x ++ q)) p.length (12 + x.2.length:Int) = some (sub26 x):=ζjl p (sub26 x) q _ _ rfl (by rw [ζcs]; omega);have e3:uS (sub26 x) 4 4 = some x.1:=by
  have:=uS_at (bytesOf (12 + x.2.length:Int) 4) ([0,0,0,0] ++ x.2) (n:=x.1) (k:=4) 4 4 (by rw [ζ1o]; rfl) rfl hx.1 (by omega);simpa [sub26,List.append_assoc] using this
 have e4:restS (sub26 x) 12 = some x.2:=by
  rw [ζo3];refine ⟨⟨by omega,by rw [ζcs]; omega⟩,?_⟩;unfold sub26;rw [List.drop_append_of_le_length (by simp [ζ1o]),List.drop_of_length_le (by simp [ζ1o])];rfl
 unfold ksubS;rw [e1,Option.bind_some,if_pos (by omega),e2,Option.bind_some,e3,Option.bind_some,e4,Option.bind_some]
def kmapTo (g:Int) (l:List (Int × List Int)):Nat → Option (List KSub)
 | 0 => some []
 | j + 1 => (kmapTo g l j).bind fun t => (l[j]?).bind fun x => (mvS (covS x.1) x.2 g).map fun m => t ++ [⟨covS x.1,m⟩]
theorem ζom {l:List (Int × List Int)} {j:Nat} {x:Int × List Int} (h:l[j]? = some x):w26 l = (bytesOf 2 2 ++ bytesOf 0 2 ++ bytesOf l.length 4 ++ (l.take j).flatMap sub26) ++ (sub26 x ++ (l.drop (j + 1)).flatMap sub26):=by
 obtain ⟨hlt,hx⟩:=List.getElem?_eq_some_iff.1 h;unfold w26;rw [List.append_assoc,List.append_assoc (bytesOf 2 2 ++ bytesOf 0 2)];rw [List.append_assoc (bytesOf 2 2 ++ bytesOf 0 2)];congr 1;rw [List.append_assoc];congr 1;rw [← List.flatMap_cons,← List.flatMap_append];congr 1;rw [← hx,← List.drop_eq_getElem_cons hlt,List.take_append_drop]
theorem ksubs26 (g:Int) {l:List (Int × List Int)} (hd:∀ x,x ∈ l → 0 ≤ x.1 ∧ x.1 < 4294967296 ∧ x.2.length ≤ 2 ^ 19):∀ j,j ≤ l.length → ksubsTo (w26 l) g j = (kmapTo g l j).map fun t => (t,(8 + ((l.take j).flatMap sub26).length:Int))
 | 0,_ => by simp [ksubsTo,kmapTo]
 | j + 1,h => by
  obtain ⟨x,hx⟩:∃ x,l[j]? = some x:=⟨_,List.getElem?_eq_getElem (by omega)⟩
  have ih:=ksubs26 g hd j (by omega);unfold ksubsTo kmapTo;rw [ih,hx];cases ht:kmapTo g l j with
  | none => rfl
  | some t =>
   have hk:=ksubS_26 (bytesOf 2 2 ++ bytesOf 0 2 ++ bytesOf l.length 4 ++ (l.take j).flatMap sub26) ((l.drop (j + 1)).flatMap sub26) x (hd x (List.mem_of_getElem? hx)) g;rw [← ζom hx] at hk;have hlen:((bytesOf 2 2 ++ bytesOf 0 2 ++ bytesOf l.length 4 ++ (l.take j).flatMap sub26).length:Int) = 8 + ((l.take j).flatMap sub26).length:=by
    simp only [List.length_append,ζ1o]; omega
   rw [hlen] at hk;simp only [Option.map_some,Option.bind_some];rw [hk];cases hm:mvS (covS x.1) x.2 g with
   | none => rfl
   | some m =>
    simp only [Option.map_some];rw [ζd7 sub26 hx,List.length_append,ζcs];congr 2;omega
theorem kerxS_26 (g:Int) {l:List (Int × List Int)} (hl:l.length ≤ 100) (hd:∀ x,x ∈ l → 0 ≤ x.1 ∧ x.1 < 4294967296 ∧ x.2.length ≤ 2 ^ 19):kerxS (w26 l) g = kmapTo g l l.length:=by
 have e1:uS (w26 l) 0 2 = some 2:=by
  have:=uS_at [] (bytesOf 0 2 ++ bytesOf l.length 4 ++ l.flatMap sub26) (n:=2) (k:=2) 0 2 rfl rfl (by omega) (by omega);simpa [w26,List.append_assoc] using this
 have e2:uS (w26 l) 4 4 = some (l.length:Int):=by
  have:=uS_at (bytesOf 2 2 ++ bytesOf 0 2) (l.flatMap sub26) (n:=l.length) (k:=4) 4 4 (by simp [ζ1o]) rfl (by omega) (by omega);simpa [w26,List.append_assoc] using this
 unfold kerxS;rw [e1,Option.bind_some,e2,Option.bind_some,if_pos (by omega),Int.toNat_natCast,ksubs26 g hd _ (Nat.le_refl _)];cases kmapTo g l l.length <;> rfl
theorem ζhj {g:Int} {l:List (Int × List Int)}:∀ {j:Nat} {t:List KSub},kmapTo g l j = some t → ∀ x,x ∈ t → ∃ y,y ∈ l ∧ x.cov = covS y.1
 | 0,t,h,x,hx => by injection h with h; subst h; cases hx
 | j + 1,t,h,x,hx => by
  simp only [kmapTo] at h;obtain ⟨t',ht,h⟩:=Option.bind_eq_some_iff.1 h;obtain ⟨y,hy,h⟩:=Option.bind_eq_some_iff.1 h;obtain ⟨m,_,rfl⟩:=Option.map_eq_some_iff.1 h;rcases List.mem_append.1 hx with hx | hx
  ·exact ζhj ht x hx
  ·rw [List.mem_singleton.1 hx];exact ⟨y,List.mem_of_getElem? hy,rfl⟩
theorem Byt_w26 {l:List (Int × List Int)} (h:∀ x,x ∈ l → Byt x.2):Byt (w26 l):=by
 have app:∀ {a b:List Int},Byt a → Byt b → Byt (a ++ b):=fun ha hb x hx => by
  rcases List.mem_append.1 hx with hx | hx
  ·exact ha x hx
  ·exact hb x hx
 refine app (app (app (ζ6b _ _) (ζ6b _ _)) (ζ6b _ _)) fun y hy => ?_;obtain ⟨x,hx,hy⟩:=List.mem_flatMap.1 hy;exact app (app (app (ζ6b _ _) (ζ6b _ _)) (fun z hz => by simp at hz; omega)) (h x hx) y hy
theorem w26_len {l:List (Int × List Int)} (hl:l.length ≤ 100) (hd:∀ x,x ∈ l → x.2.length ≤ 2 ^ 19):(w26 l).length ≤ 2 ^ 29:=by
 have h1:=ζhf hd;have h2:l.length * (2 ^ 19 + 12) ≤ 100 * (2 ^ 19 + 12):=Nat.mul_le_mul_right _ hl;unfold w26;simp only [List.length_append,ζ1o];omega
end Go.Sw
end
section
set_option maxRecDepth 100000
set_option linter.unusedVariables false
namespace Go.Sw
noncomputable section
end
end Go.Sw
end
section
namespace Go.Sw
open Go.RowKit
end Go.Sw
end
section
namespace Go.Sw
open Go.RowKit
structure PW where
 l:Int
 r:Int
 v:Int
def PW.ok (p:PW):Prop:=(0 ≤ p.l ∧ p.l < 65536) ∧ (0 ≤ p.r ∧ p.r < 65536) ∧ -32768 ≤ p.v ∧ p.v < 32768
def PW.key (p:PW):Int:=p.l * 65536 + p.r
end Go.Sw
end
section
namespace Go.Sw
open Go.RowKit
end Go.Sw
end
section
namespace Go.Sw
open Go.RowKit
end Go.Sw
end
section
namespace Go.Sw
open Go.RowKit
end Go.Sw
end
section
namespace Go.Sw
open Go.RowKit
end Go.Sw
end
section
namespace Go.Sw
open Go.RowKit
theorem read26 (k:Nat) (hk:k < 1000000) {l:List (Int × List Int)} (hl:l.length ≤ 100) (hd:∀ x,x ∈ l → 0 ≤ x.1 ∧ x.1 < 4294967296 ∧ x.2.length ≤ 2 ^ 19) (hb:∀ x,x ∈ l → Byt x.2) (H:Heap) :
  R (T k) F.ζ5i [lv encB (w26 l),.int .i64 40] H = .ok (.tuple #[kerxP (kmapTo 40 l l.length),.int .i64 (if (kmapTo 40 l l.length).isSome then 0 else 2)]) H:=by
 have hby:=Byt_w26 hb;have hwl:=w26_len hl fun x hx => (hd x hx).2.2;have hrd:=ζij k (H:=H) (Sl.lv H 1 (w26 l)) hby 40 (by omega) (fun _ H' => ζil k hk _ hby 40 (by omega) (by omega) H');unfold kerxO kerxN at hrd;rw [if_pos (by omega),if_pos (by omega),kerxS_26 40 hl hd] at hrd;exact hrd
theorem kmap_ok {l:List (Int × List Int)} (hl:l.length ≤ 100) (hd:∀ x,x ∈ l → 0 ≤ x.1 ∧ x.1 < 4294967296 ∧ x.2.length ≤ 2 ^ 19) (hb:∀ x,x ∈ l → Byt x.2) {t:List KSub} (h:kmapTo 40 l l.length = some t):(∀ y,y ∈ t → y.mv.ok) ∧ t.length < 2 ^ 31:=by
 have hby:=Byt_w26 hb;have hwl:=w26_len hl fun x hx => (hd x hx).2.2;rw [← kerxS_26 40 hl hd] at h;exact kerxS_ok hby (by omega) (by omega) h
end Go.Sw
end
section
set_option maxRecDepth 100000
set_option linter.unusedVariables false
namespace Go.Sw
noncomputable section
def ζ18 (k:Nat) (call:Caller) (a0 a1:Value) (h:Heap):Res Value :=
 (binR Prog .lss 3 a1 (.int .i64 0) h).bind fun v1 h2 =>
 ((bif wantVal v1 false then Res.ok a1 h2 else Res.ok undef h2)).bind fun v3 h4 =>
 ((bif wantVal v1 false then binR Prog .gtr 3 v3 (.int .i64 2) h4 else Res.ok undef h4)).bind fun v5 h6 =>
 (condV (some v1) (Res.ok (.bool true) h6) (Res.ok v5 h6)).bind fun v7 h8 =>
 ((bif wantVal v7 false then Res.ok a0 h8 else Res.ok undef h8)).bind fun v9 h10 =>
 ((bif wantVal v7 false then call F.ζ1e [v9,(.int .i64 29)] h10 else Res.ok undef h10)).bind fun v11 h12 =>
 (condV (some v7) (Res.ok (.bool true) h12) (Res.ok v11 h12)).bind fun v13 h14 =>
 condV (some v13) (
 .ok (.bool false) h14)
 (
 (call F.ζ1e [a0,(.int .i64 31)] h14).bind fun v15 h16 =>
 (binR Prog .eql 3 a1 (.int .i64 2) h16).bind fun v17 h18 =>
 (binR Prog .eql 4 v15 v17 h18).bind fun v19 h20 =>
 .ok v19 h20)
theorem ζ9n (k:Nat) (a0 a1:Value) (h:Heap):R (T k) F.ζ18 [a0,a1] h = nrm .gc h (ζ18 k (R (T k)) a0 a1 h) :=
 (R_body (t:=T k) (T_scott k) (by kernel_rfl) (by kernel_rfl) _ _).trans (by kernel_rfl)
def ζ5w (k:Nat) (call:Caller):Env → Heap → Res (AExit × Env):=loopB (C k) call F.ζ1e [1,0,1,0,0]
def ζ7p (k:Nat) (call:Caller):Kont Value:=kBlock 0 (kSeq (pieceK (C k) call F.ζ1e [1,1]) (kDone Prog (resOf Prog F.ζ1e)))
def ζ1e (k:Nat) (call:Caller) (a0 a1:Value) (h:Heap):Res Value :=
 (loopN (ζ5w k call) loopFuel [(0,a0),(1,a1),(5,(.int .i64 0))] h).bind fun r1 h2 =>
 ζ7p k call r1.1 r1.2 h2
theorem ζee (k:Nat) (a0 a1:Value) (h:Heap):R (T k) F.ζ1e [a0,a1] h = nrm .gc h (ζ1e k (R (T k)) a0 a1 h) :=
 (R_body (t:=T k) (T_scott k) (by kernel_rfl) (by kernel_rfl) _ _).trans (by kernel_rfl)
theorem ζ6z (k:Nat) (call:Caller) (a0 a1 a5:Value) (h:Heap):ζ5w k call [(0,a0),(1,a1),(5,a5)] h =
 (binR Prog .lss 3 a5 a1 h).bind fun v3 h4 =>
 condV (some v3) (
 (binR Prog .quo 102 a0 (.int .u32 2) h4).bind fun v5 h6 =>
 (binR Prog .add 3 a5 (.int .i64 1) h6).bind fun v7 h8 =>
 .ok (.normal,[(0,v5),(1,a1),(5,v7)]) h8)
 (
 .ok ((.exit 0),[(0,a0),(1,a1),(5,a5),(8,v3)]) h4) :=
 (loopB_eq _ _).trans (by kernel_rfl)
theorem ζ9o (k:Nat) (call:Caller) (a0 a1 a5 a8:Value) (h:Heap):ζ7p k call (.exit 0) [(0,a0),(1,a1),(5,a5),(8,a8)] h =
 (binR Prog .rem 102 a0 (.int .u32 2) h).bind fun v9 h10 =>
 (binR Prog .eql 102 v9 (.int .u32 1) h10).bind fun v11 h12 =>
 .ok v11 h12:=by kernel_rfl
end
end Go.Sw
end
section
namespace Go.Sw
open Go.RowKit
def halfs (w:Int):Nat → Int
 | 0 => w
 | n + 1 => halfs w n / 2
theorem halfs_eq (w:Int):∀ n:Nat,halfs w n = w / 2 ^ n
 | 0 => by simp [halfs]
 | n + 1 => by
  have h2:(0:Int) ≤ 2 ^ n:=Int.pow_nonneg (by decide);rw [halfs,halfs_eq w n,Int.pow_succ,Int.ediv_ediv_of_nonneg h2]
theorem ζ96 {w:Int} (h:0 ≤ w ∧ w < 4294967296):∀ n,0 ≤ halfs w n ∧ halfs w n < 4294967296
 | 0 => h
 | n + 1 => by have:=ζ96 h n; unfold halfs; omega
theorem ζiz (k:Nat) {w:Int} (hw:0 ≤ w ∧ w < 4294967296) (n:Nat) (hn:n ≤ 40) (H:Heap):R (T k) F.ζ1e [.int .u32 w,.int .i64 n] H = .ok (.bool (decide (w / 2 ^ n % 2 = 1))) H:=by
 rw [ζee];have hq:=fun (a:Int) H => bin_quo Prog 102 H .u32 a 2 (by decide);have hr:=fun (a:Int) H => bin_rem Prog 102 H .u32 a 2 (by decide)
 obtain ⟨x,e',H1,hl,rfl,rfl,rfl⟩:=loop_up (body:=ζ5w k (R (T k))) n
  (fun i e H' => e = [(0,.int .u32 (halfs w i)),(1,.int .i64 n),(5,.int .i64 i)] ∧ H' = H)
  (fun x e H' => x = .exit 0 ∧ e = [(0,.int .u32 (halfs w n)),(1,.int .i64 n),(5,.int .i64 n),(8,.bool false)] ∧ H' = H)
  (e0:=[(0,.int .u32 w),(1,.int .i64 n),(5,.int .i64 0)]) (H0:=H) ⟨rfl,rfl⟩ (by omega)
  (fun i e H' hi ⟨he,hh⟩ => by
   subst he hh;have hlt:(i:Int) < n:=by omega
   have hb:=ζ96 hw i;have hw3:IntKind.i64.wrap ((i:Int) + 1) = ((i + 1:Nat):Int):=by rw [wrap_i64 (by omega) (by omega)]; omega
   have ht:(halfs w i).tdiv 2 = halfs w (i + 1):=by rw [Int.tdiv_eq_ediv_of_nonneg hb.1]; rfl
   have hw4:IntKind.u32.wrap (halfs w (i + 1)) = halfs w (i + 1):=by have:=ζ96 hw (i + 1); unfold IntKind.wrap; simp [IntKind.signed,IntKind.bits]; omega
   refine .inl ⟨_,H',?_,rfl,rfl⟩;rw [ζ6z];simp -implicitDefEqProofs (disch:=omega) [hlt,hq,ht,hw3,hw4])
  (fun e H' ⟨he,hh⟩ => by
   subst he hh;refine ⟨.exit 0,_,H',?_,by simp,rfl,rfl,rfl⟩;rw [ζ6z];simp -implicitDefEqProofs)
 refine nrm_gc ⟨H1,?_,Ext.refl _⟩ (.bool _);have hb:=ζ96 hw n;have ht:(halfs w n).tmod 2 = halfs w n % 2:=Int.tmod_eq_emod_of_nonneg hb.1;have hw4:IntKind.u32.wrap (halfs w n % 2) = halfs w n % 2:=by unfold IntKind.wrap; simp [IntKind.signed,IntKind.bits]; omega
 simp -implicitDefEqProofs (disch:=omega) [ζ1e,hl,ζ9o,hr,ht,hw4];rw [halfs_eq];by_cases h1:w / 2 ^ n % 2 = 1 <;> simp [h1]
theorem ζig (k:Nat) {w:Int} (hw:0 ≤ w ∧ w < 4294967296) (d:Int) (H:Heap):R (T k) F.ζ18 [.int .u32 w,.int .i64 d] H = .ok (.bool (runsS (covS w) d)) H:=by
 rw [ζ9n];refine nrm_gc (Pure.of ?_) (.bool _);have b29:∀ H,R (T k) F.ζ1e [.int .u32 w,.int .i64 29] H = .ok (.bool (decide (w / 536870912 % 2 = 1))) H:=fun H => ζiz k hw 29 (by omega) H;have b31:∀ H,R (T k) F.ζ1e [.int .u32 w,.int .i64 31] H = .ok (.bool (decide (w / 2147483648 % 2 = 1))) H:=fun H => ζiz k hw 31 (by omega) H;unfold runsS covS isDir;dsimp only;generalize decide (w / 536870912 % 2 = 1) = p at b29;generalize decide (w / 2147483648 % 2 = 1) = q at b31;by_cases h1:d < 0
 ·have h1':¬ 0 ≤ d:=by omega
  simp -implicitDefEqProofs (disch:=omega) [ζ18,h1,h1']
 have h1':0 ≤ d:=by omega
 by_cases h2:d > 2
 ·have h2':¬ d ≤ 2:=by omega
  simp -implicitDefEqProofs (disch:=omega) [ζ18,h1,h1',h2,h2']
 have h2':d ≤ 2:=by omega
 cases p <;> simp -implicitDefEqProofs (disch:=omega) [ζ18,h1,h1',h2,h2',b29,b31]
end Go.Sw
end
section
namespace Go.Sw
open Go.RowKit
structure ATab where
 of:Int × List Pt
 data:List Int
structure ATab.ok (t:ATab):Prop where
 pts:∀ p,p ∈ t.of.2 → p.ok
 rise:risesS t.of.2 = true
 plen:t.of.2.length < 2 ^ 31
 byt:Byt t.data
 len:t.data.length < 2 ^ 31
 has:∀ id at_,getS t.of.2 id = some at_ → 0 ≤ at_ ∧ ∃ n,uS t.data at_ 4 = some n ∧ at_ + 4 + 4 * n ≤ t.data.length
end Go.Sw
end
section
namespace Go.Sw
end Go.Sw
end
section
namespace Go.Sw
open Go.RowKit
end Go.Sw
end
section
namespace Go.Sw
open Go.RowKit
section
variable {β:Type} {c:Cfg} {call:Caller} {f:FuncId} {p:List Nat} {e:Env} {H:Heap} {gs:Gs}
end
end Go.Sw
end
section
namespace Go.Sw
open Go.RowKit
section
variable {β:Type} {call:Caller} {e:Env} {H:Heap} {gs:Gs}
end
end Go.Sw
end
section
namespace Go.Sw
open Go.RowKit
end Go.Sw
end
section
namespace Go.Sw
open Go.RowKit
end Go.Sw
end
section
set_option maxRecDepth 100000
set_option linter.unusedVariables false
namespace Go.Sw
noncomputable section
end
end Go.Sw
end
section
namespace Go.Sw
open Go.RowKit
end Go.Sw
end
section
namespace Go.Sw
open Go.RowKit
end Go.Sw
end
section
set_option maxRecDepth 100000
set_option linter.unusedVariables false
namespace Go.Sw
noncomputable section
end
end Go.Sw
end
section
namespace Go.Sw
open Go.RowKit
structure SPlan where
 p:Plan
 vals:List Int
def SPlan.ok (x:SPlan):Prop:=x.p.ok
def SSmall (x:SPlan) (n:Nat):Prop:=x.p.cls.length ≤ 40 ∧ x.p.rows.length ≤ 20 ∧ x.p.ents.length ≤ 40 ∧ x.vals.length ≤ 100 ∧ n ≤ 60
instance (x:SPlan) (n:Nat):Decidable (SSmall x n):=by unfold SSmall; exact inferInstance
end Go.Sw
end
section
namespace Go.Sw
open Go.RowKit
abbrev enc2 (p:Int × Int):List Value:=[.int .i16 p.1,.int .i16 p.2]
end Go.Sw
end
section
namespace Go.Sw
open Go.RowKit
end Go.Sw
end
section
namespace Go.Sw
open Go.RowKit
abbrev encPs (l:List (Int × Int)):List Value:=[lv enc2 l]
theorem ζn7 (l:List (Int × Int)):(encPs l).length = 1:=rfl
theorem wf_i16 {n:Int} (h:(Lit.int .i16 n).wf = true):-32768 ≤ n ∧ n < 32768:=by
 simp [Lit.wf,IntKind.min,IntKind.max,IntKind.signed,IntKind.bits] at h;omega
theorem row_2 {r:List Da} {cs:List Value} (h:LayRow [.int .i16,.int .i16] r cs):∃ p:Int × Int,cs = enc2 p ∧ ((-32768 ≤ p.1 ∧ p.1 < 32768) ∧ (-32768 ≤ p.2 ∧ p.2 < 32768)):=by
 obtain ⟨d,v,ds,vs,rfl,h1,h2⟩:=h.head;obtain ⟨d',v',ds',vs',rfl,g2,h3⟩:=h2.head;obtain rfl:=h3.done;obtain ⟨n,rfl,w⟩:=h1.intv;obtain ⟨m,rfl,w2⟩:=g2.intv;exact ⟨(n,m),rfl,wf_i16 w,wf_i16 w2⟩
theorem row_Ps {r:List Da} {cs:List Value} (h:LayRow [.slice [.int .i16,.int .i16]] r cs):∃ l:List (Int × Int),cs = encPs l ∧ ∀ p,p ∈ l → ((-32768 ≤ p.1 ∧ p.1 < 32768) ∧ (-32768 ≤ p.2 ∧ p.2 < 32768)):=by
 obtain ⟨d,v,ds,vs,rfl,h1,h2⟩:=h.head;obtain rfl:=h2.done;obtain ⟨l,rfl,hl⟩:=Lay.list (enc:=enc2) (ok:=fun p => (-32768 ≤ p.1 ∧ p.1 < 32768) ∧ (-32768 ≤ p.2 ∧ p.2 < 32768)) (fun r cs h => row_2 h) h1;exact ⟨l,rfl,hl⟩
end Go.Sw
end
section
namespace Go.Sw
open Go.RowKit
structure KCase where
 subs:List (Int × List Int)
 pts:List (List (Int × Int))
 ids:List Int
 dir:Int
structure KCase.ok (x:KCase):Prop where
 nsub:x.subs.length < 2 ^ 63
 npts:x.pts.length < 2 ^ 63
 subs:∀ s,s ∈ x.subs → (0 ≤ s.1 ∧ s.1 < 4294967296) ∧ Byt s.2
abbrev kcC (x:KCase):List Value:=[lv encSb x.subs,lv encPs x.pts,lv encI x.ids,.int .i64 x.dir]
abbrev kcV (x:KCase):Value:=.agg (kcC x).toArray
structure KSmall (x:KCase):Prop where
 data:∀ s,s ∈ x.subs → s.2.length ≤ 400
 subs:x.subs.length ≤ 5
 ids:x.ids.length ≤ 30
theorem ζmb (k:Nat) (x:KCase) (hx:x.ok) (q:Nat) {H0 H:Heap} (hx0:Ext H0 H) :
  ∃ xx e' H1,loopN (ζ3c k (R (T k))) loopFuel [(1,ptrV q),(8,lv encSb x.subs),(9,.int .i64 x.subs.length),(10,.int .i64 0)] H = .ok (xx,e') H1 ∧ Ext H0 H1 ∧ Ext H H1 ∧
   ((xx = .exit 0 ∧ (∀ s,s ∈ x.subs → s.2.length ≤ 400) ∧ e' = [(1,ptrV q),(8,lv encSb x.subs),(9,.int .i64 x.subs.length),(10,.int .i64 x.subs.length),(11,.bool false)]) ∨ (xx = .ret ∧ e' = [(2,.bool false)])):=by
 have hn:=hx.nsub
 obtain ⟨xx,e',H1,hr1,hx1,hx2,hQ⟩:=loop_up (body:=ζ3c k (R (T k))) x.subs.length
  (fun j e H' => e = [(1,ptrV q),(8,lv encSb x.subs),(9,.int .i64 x.subs.length),(10,.int .i64 j)] ∧ (∀ s,s ∈ x.subs.take j → s.2.length ≤ 400) ∧ Ext H0 H' ∧ Ext H H')
  (fun xx e H' => Ext H0 H' ∧ Ext H H' ∧ ((xx = .exit 0 ∧ (∀ s,s ∈ x.subs → s.2.length ≤ 400) ∧ e = [(1,ptrV q),(8,lv encSb x.subs),(9,.int .i64 x.subs.length),(10,.int .i64 x.subs.length),(11,.bool false)]) ∨ (xx = .ret ∧ e = [(2,.bool false)])))
  (e0:=[(1,ptrV q),(8,lv encSb x.subs),(9,.int .i64 x.subs.length),(10,.int .i64 0)]) (H0:=H) ⟨rfl,fun l h => (by cases h),hx0,Ext.refl H⟩ (by omega)
  (fun j e H' hj ⟨he,hall,h0,h1⟩ => by
   subst he;have hjl:(j:Int) < x.subs.length:=by omega
   obtain ⟨s,hs⟩:∃ s,x.subs[j]? = some s:=⟨_,List.getElem?_eq_getElem hj⟩
   have i1:=fun H' => ixS_lvN ζg7 x.subs .i64 j s hs H';have hp:=(Ext.refl H').push ⟨encSb s,1,false⟩;by_cases c:s.2.length > 400
   ·have c':(s.2.length:Int) > 400:=by omega
    refine .inr ⟨.ret,_,H'.push ⟨encSb s,1,false⟩,?_,by simp,h0.trans hp,h1.trans hp,.inr ⟨rfl,rfl⟩⟩;rw [ζ3o];simp -implicitDefEqProofs (disch:=omega) [hjl,i1,c']
   ·have c':¬ (s.2.length:Int) > 400:=by omega
    have hw3:IntKind.i64.wrap ((j:Int) + 1) = ((j + 1:Nat):Int):=by rw [wrap_i64 (by omega) (by omega)]; omega
    refine .inl ⟨_,H'.push ⟨encSb s,1,false⟩,?_,rfl,fun y hy => ?_,h0.trans hp,h1.trans hp⟩
    ·rw [ζ3o];simp -implicitDefEqProofs (disch:=omega) [hjl,i1,c',hw3]
    ·rw [ζ53 hs] at hy;rcases List.mem_append.1 hy with hy | hy
     ·exact hall y hy
     ·rw [List.mem_singleton.1 hy]; omega)
  (fun e H' ⟨he,hall,h0,h1⟩ => by
   subst he;rw [List.take_length] at hall;refine ⟨.exit 0,_,H',?_,by simp,h0,h1,.inl ⟨rfl,hall,rfl⟩⟩;rw [ζ3o];simp -implicitDefEqProofs)
 exact ⟨xx,e',H1,hr1,hx1,hx2,hQ⟩
theorem ζmc (k:Nat) (x:KCase) (hx:x.ok) (q:Nat) (H:Heap) :
  ∃ xx e',loopN (ζ3d k (R (T k))) loopFuel [(1,ptrV q),(20,lv encPs x.pts),(21,.int .i64 x.pts.length),(22,.int .i64 0)] H = .ok (xx,e') H ∧
   ((xx = .exit 2 ∧ e' = [(1,ptrV q),(20,lv encPs x.pts),(21,.int .i64 x.pts.length),(22,.int .i64 x.pts.length),(23,.bool false)]) ∨ (xx = .ret ∧ e' = [(2,.bool false)])):=by
 have hn:=hx.npts
 obtain ⟨xx,e',H1,hr1,rfl,hQ⟩:=loop_up (body:=ζ3d k (R (T k))) x.pts.length
  (fun j e H' => e = [(1,ptrV q),(20,lv encPs x.pts),(21,.int .i64 x.pts.length),(22,.int .i64 j)] ∧ H' = H)
  (fun xx e H' => H' = H ∧ ((xx = .exit 2 ∧ e = [(1,ptrV q),(20,lv encPs x.pts),(21,.int .i64 x.pts.length),(22,.int .i64 x.pts.length),(23,.bool false)]) ∨ (xx = .ret ∧ e = [(2,.bool false)])))
  (e0:=[(1,ptrV q),(20,lv encPs x.pts),(21,.int .i64 x.pts.length),(22,.int .i64 0)]) (H0:=H) ⟨rfl,rfl⟩ (by omega)
  (fun j e H' hj ⟨he,hH⟩ => by
   subst he hH;have hjl:(j:Int) < x.pts.length:=by omega
   obtain ⟨l,hl⟩:∃ l,x.pts[j]? = some l:=⟨_,List.getElem?_eq_getElem hj⟩
   have i1:=fun H' => ixS_lvN ζn7 x.pts .i64 j l hl H';by_cases c:l.length > 20
   ·have c':(l.length:Int) > 20:=by omega
    refine .inr ⟨.ret,_,_,?_,by simp,rfl,.inr ⟨rfl,rfl⟩⟩;rw [ζ3p];simp -implicitDefEqProofs (disch:=omega) [hjl,i1,c']
   ·have c':¬ (l.length:Int) > 20:=by omega
    have hw3:IntKind.i64.wrap ((j:Int) + 1) = ((j + 1:Nat):Int):=by rw [wrap_i64 (by omega) (by omega)]; omega
    refine .inl ⟨_,_,?_,rfl,rfl⟩;rw [ζ3p];simp -implicitDefEqProofs (disch:=omega) [hjl,i1,c',hw3])
  (fun e H' ⟨he,hH⟩ => by
   subst he hH;refine ⟨.exit 2,_,_,?_,by simp,rfl,.inl ⟨rfl,rfl⟩⟩;rw [ζ3p];simp -implicitDefEqProofs)
 exact ⟨xx,e',hr1,hQ⟩
theorem ζkw (k:Nat) (x:KCase) (hx:x.ok) (H:Heap):(KSmall x ∧ R (T k) F.ζb [kcV x] H = .ok (.bool true) H) ∨ R (T k) F.ζb [kcV x] H = .ok (.bool false) H:=by
 have hx1:Ext H (H.push ⟨kcC x,1,false⟩):=(Ext.refl H).push _;have hq:(H.push ⟨kcC x,1,false⟩).get H.n = some ⟨kcC x,1,false⟩:=ζa _ _ _ rfl;obtain ⟨xx,e',H1,hr1,hx2,hx3,hQ⟩:=ζmb k x hx H.n hx1;have hq1:=hx3.get hq;rw [ζbr];rcases hQ with ⟨rfl,hall,rfl⟩ | ⟨rfl,rfl⟩
 rotate_left
 ·refine .inr (nrm_gc ⟨H1,?_,hx2⟩ (.bool _));simp -implicitDefEqProofs (disch:=omega) [ζb,hr1,ζ8y]
 obtain ⟨yy,e2,hr2,hQ2⟩:=ζmc k x hx H.n H1;rcases hQ2 with ⟨rfl,rfl⟩ | ⟨rfl,rfl⟩
 rotate_left
 ·refine .inr (nrm_gc ⟨H1,?_,hx2⟩ (.bool _));simp -implicitDefEqProofs (disch:=omega) [ζb,hr1,ζ1q,hq1,hr2,ζ8z]
 by_cases h1:x.subs.length ≤ 5;rotate_left
 ·refine .inr (nrm_gc ⟨H1,?_,hx2⟩ (.bool _));have h1':¬ (x.subs.length:Int) ≤ 5:=by omega
  simp -implicitDefEqProofs [ζb,hr1,ζ1q,hq1,hr2,ζ2f,h1']
 have h1':(x.subs.length:Int) ≤ 5:=by omega
 by_cases h2:x.pts.length ≤ 20;rotate_left
 ·refine .inr (nrm_gc ⟨H1,?_,hx2⟩ (.bool _));have h2':¬ (x.pts.length:Int) ≤ 20:=by omega
  simp -implicitDefEqProofs [ζb,hr1,ζ1q,hq1,hr2,ζ2f,h1',h2']
 have h2':(x.pts.length:Int) ≤ 20:=by omega
 by_cases h3:x.ids.length ≤ 30;rotate_left
 ·refine .inr (nrm_gc ⟨H1,?_,hx2⟩ (.bool _));have h3':¬ (x.ids.length:Int) ≤ 30:=by omega
  simp -implicitDefEqProofs [ζb,hr1,ζ1q,hq1,hr2,ζ2f,h1',h2',h3']
 have h3':(x.ids.length:Int) ≤ 30:=by omega
 refine .inl ⟨⟨hall,h1,h3⟩,nrm_gc ⟨H1,?_,hx2⟩ (.bool _)⟩;simp -implicitDefEqProofs [ζb,hr1,ζ1q,hq1,hr2,ζ2f,h1',h2',h3']
end Go.Sw
end
section
namespace Go.Sw
open Go.RowKit
theorem ζko (k:Nat) {v:Value} {l:List Int} {H:Heap} (hv:Sl H 1 v encI l) (hl:l.length ≤ 1000):R (T k) F.ζ29 [v] H = .ok (lv encP (newPl l)) H:=by
 rw [ζef];have hln:=fun H' => hv.len H'
 obtain ⟨x,e',H1,hr,s,v2,rfl,rfl,ho,hx⟩:=loop_up (body:=ζ5x k (R (T k))) l.length
  (fun i e H' => ∃ s,e = [(0,v),(3,s),(4,.int .i64 i)] ∧ Own H H' 3 s encP (newPl (l.take i)) ∧ Ext H H')
  (fun x e H' => ∃ s v2,x = .exit 0 ∧ e = [(0,v),(3,s),(4,.int .i64 l.length),(9,v2)] ∧ Own H H' 3 s encP (newPl l) ∧ Ext H H')
  (e0:=[(0,v),(3,bareV),(4,.int .i64 0)]) (H0:=H) ⟨bareV,rfl,Own.bare _ _ _,Ext.refl H⟩ (by omega)
  (fun i e H' hi ⟨s,he,ho,hx⟩ => by
   subst he;obtain ⟨n,hg⟩:∃ n,l[i]? = some n:=⟨l[i],List.getElem?_eq_getElem hi⟩
   obtain ⟨p,i1,i2⟩:=hv.ix1 encI_len i n hg _ rfl;have i2:=i2 H' hx;obtain ⟨s',H2,e1,o1,x1⟩:=ap1_own (bytes:=12) encP_len ho hx ⟨clampI n,0,0⟩ (by simp [newPl]; omega) (by decide);rw [ζ70];have h1:=ζco n;have h2:=ζcn n;have hlt:(i:Int) < l.length:=by omega
   simp only [encP] at e1;have:newPl (l.take (i + 1)) = newPl (l.take i) ++ [⟨clampI n,0,0⟩]:=by simp [newPl,List.take_add_one,hg]
   exact .inl ⟨_,H2,by simp -implicitDefEqProofs (disch:=omega) [hln,hlt,i1,i2,e1],s',rfl,by rw [this]; exact o1,x1⟩)
  (fun e H' ⟨s,he,ho,hx⟩ => by
   subst he;rw [ζ70];exact ⟨.exit 0,_,H',by simp [hln]; rfl,by simp,s,_,rfl,rfl,by simpa using ho,hx⟩)
 obtain ⟨L,hf⟩:=ho.freeze encP_len (ζhb _) 6;refine nrm_fz (v:=s) (H':=H1) ?_ hf hx (Flat.alive (Flat.lv (ζj6 _)));simp -implicitDefEqProofs [ζ29,hr,ζ9p]
def startL (n:Nat):List Int:=(List.range n).map fun (i:Nat) => 1000 + ((i:Nat):Int)
theorem ζ7k (n:Nat):(startL n).length = n:=by simp [startL]
theorem ζky (n:Nat):startL (n + 1) = startL n ++ [1000 + (n:Int)]:=by simp [startL,List.range_succ]
theorem nrm_dead {H H':Heap} {v:Value} (h:¬ Alive H v):nrm .gc H (.ok v H') = .ok v H':=by
 unfold nrm;exact if_neg fun hc => h hc.2
theorem ζl7 (k:Nat) (x:KCase) (hi:x.ids.length ≤ 30) {H0 H:Heap} {L:List It} (g:Star H0 H L) :
  ∃ s o p op H',R (T k) F.ζ1a [kcV x] H = .ok (.tuple #[s,ptrV p]) H' ∧ Star H0 H' (L ++ [itRow o 1 s encI (startL x.ids.length),itPl p op (x.dir == 2) (newPl (startL x.ids.length))]):=by
 have hg1:∀ H',Ext (H.push ⟨kcC x,1,false⟩) H' → H'.get H.n = some ⟨kcC x,1,false⟩:=fun H' hx => hx.get (ζa _ _ _ rfl);have at_:∀ y:It,(L ++ [y])[L.length]? = some y:=fun y => by simp
 have set_:∀ y z:It,(L ++ [y]).set L.length z = L ++ [z]:=fun y z => by simp
 have hx1:Ext H (H.push ⟨kcC x,1,false⟩):=(Ext.refl H).push _;have g0:=((Star.nil (H.push ⟨kcC x,1,false⟩)).more_row (Ext.refl _) (OwnO.nil encI _ 1) (fun b hb => by cases hb))
 simp only [List.nil_append] at g0
 obtain ⟨xx,e',H1,hr1,rfl,s,o,rfl,g1⟩:=loop_up (body:=ζ50 k (R (T k))) x.ids.length
  (fun j e H' => ∃ s o,e = [(1,ptrV H.n),(4,s),(8,.int .i64 x.ids.length),(9,.int .i64 j)] ∧ Star (H.push ⟨kcC x,1,false⟩) H' [itRow o 1 s encI (startL j)])
  (fun xx e H' => xx = .exit 0 ∧ ∃ s o,e = [(1,ptrV H.n),(4,s),(8,.int .i64 x.ids.length),(9,.int .i64 x.ids.length),(10,.bool false)] ∧ Star (H.push ⟨kcC x,1,false⟩) H' [itRow o 1 s encI (startL x.ids.length)])
  (e0:=[(1,ptrV H.n),(4,.slice none 0 0),(8,.int .i64 x.ids.length),(9,.int .i64 0)]) (H0:=H.push ⟨kcC x,1,false⟩) ⟨_,none,rfl,g0⟩ (by omega)
  (fun j e H' hj ⟨s,o,he,g⟩ => by
   subst he;have hjl:(j:Int) < x.ids.length:=by omega
   have hw1:IntKind.i64.wrap (1000 + (j:Int)) = 1000 + (j:Int):=wrap_i64 (by omega) (by omega);have hw3:IntKind.i64.wrap ((j:Int) + 1) = ((j + 1:Nat):Int):=by rw [wrap_i64 (by omega) (by omega)]; omega
   obtain ⟨s2,o2,H2,e2,g2⟩:=g.append1 (bytes:=8) 0 encI_len rfl (1000 + (j:Int)) (by rw [ζ7k]; omega) (by decide);rw [← ζky] at g2;simp only [List.set_cons_zero] at g2;have g2:=g2.take 1;simp only [List.take_succ_cons,List.take_zero] at g2;refine .inl ⟨_,H2,?_,s2,o2,rfl,g2⟩;rw [ζ5t];simp -implicitDefEqProofs (disch:=omega) [hjl,hw1,hw3,e2])
  (fun e H' ⟨s,o,he,g⟩ => by
   subst he;refine ⟨.exit 0,_,H',?_,by simp,rfl,s,o,rfl,g⟩;rw [ζ5t];simp -implicitDefEqProofs)
 have hq:=hg1 H1 g1.ext;have hv:Sl H1 1 s encI (startL x.ids.length):=(g1.row 0 rfl).sl encI_len;obtain ⟨o',g1'⟩:=(g.rest hx1).more_own (g1.own 0 rfl) g1.ext;obtain ⟨op,H2,e2,g2⟩:=ζgt k g1' x.dir (startL x.ids.length) (by rw [ζ7k]; omega) hv;rw [List.append_assoc] at g2;refine ⟨s,o',H1.n,op,H2,?_,g2⟩;rw [ζbq];have e:ζ1a k (R (T k)) (kcV x) H = .ok (.tuple #[s,ptrV H1.n]) H2:=by
  simp -implicitDefEqProofs (disch:=omega) [ζ1a,hr1,ζ8j,hq,e2]
 rw [e];refine nrm_dead fun h => ?_;have hn:H.n ≤ H1.n:=by have:=hx1.n; have:=g1.ext.n; omega
 cases h with
 | tuple vs h1 =>
  have:=h1 1 (ptrV H1.n) rfl;cases this with
  | ptr b off k hg => have:=Heap.get_lt hg; omega
theorem ζi4 (dir:Int) (gl:List Gl) (down:Bool) (pg:Int → Int → Option (Int × Int)):∀ (t:List KSub) (j:Nat) (l:List Pl),(∀ x,x ∈ t → runsS x.cov dir = false) → runKs dir gl down pg t j l = (l,0,0)
 | [],_,_,_ => rfl
 | x :: xs,j,l,h => by
  unfold runKs;rw [h x List.mem_cons_self,if_neg (by simp)];exact ζi4 dir gl down pg xs (j + 1) l fun y hy => h y (List.mem_cons_of_mem _ hy)
theorem idle_l1 (k:Nat) (x:KCase) (hx:x.ok) (q:Nat) (t:Value) {H0 H:Heap} (hq:H0.get q = some ⟨kcC x,1,false⟩) (hx0:Ext H0 H) :
  ∃ xx e' H1,loopN (ζ2j k (R (T k))) loopFuel [(1,ptrV q),(3,t),(25,lv encSb x.subs),(26,.int .i64 x.subs.length),(27,.int .i64 0)] H = .ok (xx,e') H1 ∧ Ext H H1 ∧
   ((xx = .exit 0 ∧ (∀ s,s ∈ x.subs → runsS (covS s.1) x.dir = false) ∧ e' = [(1,ptrV q),(3,t),(25,lv encSb x.subs),(26,.int .i64 x.subs.length),(27,.int .i64 x.subs.length),(28,.bool false)]) ∨ (xx = .ret ∧ e' = [(2,.bool true)])):=by
 have hn:=hx.nsub
 obtain ⟨xx,e',H1,hr1,hx1,hQ⟩:=loop_up (body:=ζ2j k (R (T k))) x.subs.length
  (fun j e H' => e = [(1,ptrV q),(3,t),(25,lv encSb x.subs),(26,.int .i64 x.subs.length),(27,.int .i64 j)] ∧ (∀ s,s ∈ x.subs.take j → runsS (covS s.1) x.dir = false) ∧ Ext H H')
  (fun xx e H' => Ext H H' ∧ ((xx = .exit 0 ∧ (∀ s,s ∈ x.subs → runsS (covS s.1) x.dir = false) ∧ e = [(1,ptrV q),(3,t),(25,lv encSb x.subs),(26,.int .i64 x.subs.length),(27,.int .i64 x.subs.length),(28,.bool false)]) ∨ (xx = .ret ∧ e = [(2,.bool true)])))
  (e0:=[(1,ptrV q),(3,t),(25,lv encSb x.subs),(26,.int .i64 x.subs.length),(27,.int .i64 0)]) (H0:=H) ⟨rfl,fun l h => (by cases h),Ext.refl H⟩ (by omega)
  (fun j e H' hj ⟨he,hall,h1⟩ => by
   subst he;have hjl:(j:Int) < x.subs.length:=by omega
   obtain ⟨s,hs⟩:∃ s,x.subs[j]? = some s:=⟨_,List.getElem?_eq_getElem hj⟩
   have hsk:=(hx.subs s (List.mem_of_getElem? hs)).1;have i1:=fun H' => ixS_lvN ζg7 x.subs .i64 j s hs H';have hp:=(Ext.refl H').push ⟨encSb s,1,false⟩;have hq2:=((hx0.trans h1).trans hp).get hq;have hru:=fun H => ζig k hsk x.dir H;cases hT:runsS (covS s.1) x.dir with
   | true =>
    rw [hT] at hru;refine .inr ⟨.ret,_,H'.push ⟨encSb s,1,false⟩,?_,by simp,h1.trans hp,.inr ⟨rfl,rfl⟩⟩;rw [ζ2v];simp -implicitDefEqProofs (disch:=omega) [hjl,i1,hq2,hru]
   | false =>
    rw [hT] at hru;have hw3:IntKind.i64.wrap ((j:Int) + 1) = ((j + 1:Nat):Int):=by rw [wrap_i64 (by omega) (by omega)]; omega
    refine .inl ⟨_,H'.push ⟨encSb s,1,false⟩,?_,rfl,fun y hy => ?_,h1.trans hp⟩
    ·rw [ζ2v];simp -implicitDefEqProofs (disch:=omega) [hjl,i1,hq2,hru,hw3]
    ·rw [ζ53 hs] at hy;rcases List.mem_append.1 hy with hy | hy
     ·exact hall y hy
     ·rw [List.mem_singleton.1 hy]; exact hT)
  (fun e H' ⟨he,hall,h1⟩ => by
   subst he;rw [List.take_length] at hall;refine ⟨.exit 0,_,H',?_,by simp,h1,.inl ⟨rfl,hall,rfl⟩⟩;rw [ζ2v];simp -implicitDefEqProofs)
 exact ⟨xx,e',H1,hr1,hx1,hQ⟩
end Go.Sw
end
