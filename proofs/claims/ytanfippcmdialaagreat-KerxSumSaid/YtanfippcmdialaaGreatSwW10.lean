/-
  Functions' forms, and what is proved of them, part 10.
-/
import Derived.Test.YtanfippcmdialaaGreatSwW9
import Derived.Test.YtanfippcmdialaaGreatSwCfg
import Derived.Test.YtanfippcmdialaaGreatSwW3
import Derived.Test.YtanfippcmdialaaGreatSwW6
import Derived.Test.YtanfippcmdialaaGreatSwW8
import Derived.Test.YtanfippcmdialaaGreatSwW5
import Derived.Test.YtanfippcmdialaaGreatSwW2
set_option linter.unusedSimpArgs false
set_option linter.unusedVariables false
set_option linter.unusedSectionVars false
section
namespace Go.Sw
open Go.RowKit
theorem ζfm {α:Type} {L:List α} {i:Nat} {x:α} (h:L[i]? = some x):L.set i x = L:=by
 obtain ⟨hlt,hx⟩:=List.getElem?_eq_some_iff.1 h;rw [← hx,List.set_getElem_self]
theorem ζgo (k:Nat) (hk:k < 1000000) (m:Mv) (hm:m.ok) {H0 H:Heap} {L:List It} (h:Star H0 H L) (il ip:Nat) (hne:il ≠ ip) {c p:Nat} {o op:Option Nat} {down:Bool} (cross:Bool) {gl:List Gl} {l:List Pl} (hil:L[il]? = some (itLine c o gl)) (hip:L[ip]? = some (itPl p op down l)) {pv:Value} {pg:Int → Int → Option (Int × Int)} (hpg:AnkIn k L il ip pv pg) (hl:gl.length < 2 ^ 30) (hok:∀ q,q ∈ l → q.ok) :
  ∃ H',invokeR Prog (R (T k)) (mvV m) kmvN [ptrV c,ptrV p,pv,.bool cross] H = .ok (.int .i64 (kmoveS m gl cross down pg l).2) H' ∧ Star H0 H' (L.set ip (itPl p op down (kmoveS m gl cross down pg l).1)) ∧ ∀ q,q ∈ (kmoveS m gl cross down pg l).1 → q.ok:=by
 have hlt:=(List.getElem?_eq_some_iff.1 hip).1;have hll:=(List.getElem?_eq_some_iff.1 hil).1;cases m with
 | no =>
  refine ⟨H.push ⟨[],1,false⟩,?_,?_,hok⟩
  ·show invokeR Prog (R (T k)) (.iface tyNo _) _ _ _ = _;rw [inv_no,ζcj,nrm_of];simp -implicitDefEqProofs [ζ4h,kmoveS]
  ·show Star H0 _ (L.set ip (itPl p op down l));rw [ζfm hip];exact h.rest ((Ext.refl H).push _)
 | pairs t =>
  obtain ⟨H',e,g⟩:=ζfx k hk t hm h il ip hne cross hil hip pv hl hok;refine ⟨H',?_,g,ζd2 t gl cross down hok _⟩;show invokeR Prog (R (T k)) (.iface tyPairs _) _ _ _ = _;rw [ζmd];exact e
 | stacks t =>
  have st:=h.push ⟨[stackV t],1,false⟩;obtain ⟨H',e,g⟩:=ζhc k t hm st il ip hne (c:=c) (p:=p) (o:=o) (op:=op) (down:=down) cross (gl:=gl) (l:=l) (by rw [List.getElem?_append_left hll]; exact hil) (by rw [List.getElem?_append_left hlt]; exact hip) (by omega) hok;rw [List.set_append_left _ _ hlt] at g;have g:=g.take L.length;rw [List.take_append_of_le_length (by simp),List.take_of_length_le (by simp)] at g;refine ⟨H',?_,g,runSt_ok t hm.m gl down cross l hok⟩;show invokeR Prog (R (T k)) (.iface tyStacks _) _ _ _ = _;rw [ζkn,ζak,nrm_of];simp -implicitDefEqProofs [ζ33,e,kmoveS]
 | binds t =>
  have st:=h.push ⟨[bindV t],1,false⟩;obtain ⟨H',e,g,hko⟩:=ζg8 k t hm st il ip hne (c:=c) (p:=p) (o:=o) (op:=op) (down:=down) (gl:=gl) (l:=l) (by rw [List.getElem?_append_left hll]; exact hil) (by rw [List.getElem?_append_left hlt]; exact hip) hpg.ok (fun H2 l2 Y h2 => hpg.has (fun i x h1 h3 h4 => by
   have hi:=(List.getElem?_eq_some_iff.1 h4).1;rw [List.getElem?_append_left (by simp; omega),List.getElem?_set_ne (by omega),List.getElem?_append_left hi];exact h4) h2) hpg.st hpg.ce (by omega) hok
  rw [List.set_append_left _ _ hlt] at g;have g:=g.take L.length;rw [List.take_append_of_le_length (by simp),List.take_of_length_le (by simp)] at g;refine ⟨H',?_,g,hko⟩;show invokeR Prog (R (T k)) (.iface tyBinds _) _ _ _ = _;rw [ζmc,ζbf,nrm_of];simp -implicitDefEqProofs [ζ3p,e,kmoveS]
theorem AnkIn.more {k:Nat} {L L':List It} {il ip:Nat} {pv:Value} {pg:Int → Int → Option (Int × Int)} (h:AnkIn k L il ip pv pg) (hL:∀ i x,i ≠ il → i ≠ ip → L[i]? = some x → L'[i]? = some x):AnkIn k L' il ip pv pg:=by
 refine ⟨h.st,h.ce,h.ok,?_⟩;rcases h.at_ with h | ⟨ia,an,h1,h2,h3,h4⟩
 ·exact .inl h
 ·exact .inr ⟨ia,an,h1,h2,hL _ _ h1 h2 h3,h4⟩
theorem ζf1 {k:Nat} {H H':Heap} {x:KSub} {q:Nat} (hq:H.get q = some ⟨encK x,1,false⟩) {c p v pv:Value} (h:invokeR Prog (R (T k)) (mvV x.mv) kmvN [c,p,pv,.bool x.cov.cross] H = .ok v H'):subTail (R (T k)) c p pv (ptrV q) H = .ok v H':=by
 unfold subTail;simp -implicitDefEqProofs [hq,mv_cells,h]
theorem ζjx (k:Nat) (hk:k < 1000000) (x:KSub) (hx:x.mv.ok) (dir:Int) {H0 H:Heap} {L:List It} (h:Star H0 H L) (il ip:Nat) (hne:il ≠ ip) {c p:Nat} {o op:Option Nat} {down:Bool} {gl:List Gl} {l:List Pl} (hil:L[il]? = some (itLine c o gl)) (hip:L[ip]? = some (itPl p op down l)) {pv:Value} {pg:Int → Int → Option (Int × Int)} (hpg:AnkIn k L il ip pv pg) (hl:gl.length < 2 ^ 30) (hll:l.length < 2 ^ 30) (hok:∀ q,q ∈ l → q.ok) :
  ∃ H',R (T k) F.ζ0 [ksubV x,ptrV c,ptrV p,.int .i64 dir,pv] H = .ok (.int .i64 (subRun x dir gl down pg l).2) H' ∧ Star H0 H' (L.set ip (itPl p op down (subRun x dir gl down pg l).1)) ∧ ∀ q,q ∈ (subRun x dir gl down pg l).1 → q.ok:=by
 have hlt:=(List.getElem?_eq_some_iff.1 hip).1;have hlt2:=(List.getElem?_eq_some_iff.1 hil).1;have hbx:boxR (ksubV x) H = .ok (ptrV H.n) (H.push ⟨encK x,1,false⟩):=by
  simp -implicitDefEqProofs [mv_st]
 have hf0:∀ H',fieldAddrR Prog 213 (ptrV H.n) 0 H' = .ok (ptrV H.n) H':=fun H' => by
  simp -implicitDefEqProofs
 have st:=h.push ⟨encK x,1,false⟩;have hil1:(L ++ [itBlk H.n ⟨encK x,1,false⟩])[il]? = some (itLine c o gl):=by rw [List.getElem?_append_left hlt2]; exact hil
 have hip1:(L ++ [itBlk H.n ⟨encK x,1,false⟩])[ip]? = some (itPl p op down l):=by rw [List.getElem?_append_left hlt]; exact hip
 have hq1:(L ++ [itBlk H.n ⟨encK x,1,false⟩])[L.length]? = some (itBlk H.n ⟨encK x,1,false⟩):=by simp
 have hld:∀ H':Heap,H'.get H.n = some ⟨encK x,1,false⟩ → loadR Prog 209 (ptrV H.n) H' = .ok (covV x.cov) H':=fun H' hg => by
  simp -implicitDefEqProofs [hg]
 have ht:=fun H' => ζle k x.cov dir H';have hmore:∀ i y,i ≠ il → i ≠ ip → L[i]? = some y → (L ++ [itBlk H.n ⟨encK x,1,false⟩])[i]? = some y:=fun i y h1 h2 h3 => by
  rw [List.getElem?_append_left (List.getElem?_eq_some_iff.1 h3).1]; exact h3
 rw [ζfl];unfold subRun;cases hT:turnedS x.cov dir with
 | false =>
  rw [hT] at ht;obtain ⟨H2,e2,g2,hko⟩:=ζgo k hk x.mv hx st il ip hne x.cov.cross hil1 hip1 (pv:=pv) (pg:=pg) (hpg.more hmore) hl hok;rw [List.set_append_left _ _ hlt] at g2;have g2:=g2.take L.length;rw [List.take_append_of_le_length (by simp),List.take_of_length_le (by simp)] at g2;refine ⟨H2,?_,g2,hko⟩;exact nrm_of (sub_no (R (T k)) hbx (hf0 _) (hld _ (st.get _ hq1)) (ht _) (ζf1 (st.get _ hq1) e2))
 | true =>
  rw [hT] at ht;obtain ⟨H2,e2,g2⟩:=ζb4 k st il hil1 (by omega);have hip2:((L ++ [itBlk H.n ⟨encK x,1,false⟩]).set il (itLine c o gl.reverse))[ip]? = some (itPl p op down l):=by rw [List.getElem?_set_ne hne]; exact hip1
  obtain ⟨H3,e3,g3⟩:=ζf3 k g2 ip hip2 (by omega);have hil3:(((L ++ [itBlk H.n ⟨encK x,1,false⟩]).set il (itLine c o gl.reverse)).set ip (itPl p op down l.reverse))[il]? = some (itLine c o gl.reverse):=by
   rw [List.getElem?_set_ne (Ne.symm hne),List.getElem?_set_self (by simp; omega)]
  have hip3:(((L ++ [itBlk H.n ⟨encK x,1,false⟩]).set il (itLine c o gl.reverse)).set ip (itPl p op down l.reverse))[ip]? = some (itPl p op down l.reverse):=by
   rw [List.getElem?_set_self (by simp; omega)]
  have hq3:(((L ++ [itBlk H.n ⟨encK x,1,false⟩]).set il (itLine c o gl.reverse)).set ip (itPl p op down l.reverse))[L.length]? = some (itBlk H.n ⟨encK x,1,false⟩):=by
   rw [List.getElem?_set_ne (by omega),List.getElem?_set_ne (by omega)]; exact hq1
  obtain ⟨H4,e4,g4,hko⟩:=ζgo k hk x.mv hx g3 il ip hne x.cov.cross hil3 hip3 (pv:=pv) (pg:=pg) (hpg.more fun i y h1 h2 h3 => by
   rw [List.getElem?_set_ne (Ne.symm h2),List.getElem?_set_ne (Ne.symm h1)]; exact hmore i y h1 h2 h3) (by simpa using hl) (fun q hq => hok q (by simpa using hq))
  have hlen:=ζcr x.mv hx gl.reverse x.cov.cross down pg l.reverse;generalize kmoveS x.mv gl.reverse x.cov.cross down pg l.reverse = res at e4 g4 hlen hko;rw [List.set_set] at g4;have hip4:(((L ++ [itBlk H.n ⟨encK x,1,false⟩]).set il (itLine c o gl.reverse)).set ip (itPl p op down res.1))[ip]? = some (itPl p op down res.1):=by
   rw [List.getElem?_set_self (by simp; omega)]
  obtain ⟨H5,e5,g5⟩:=ζf3 k g4 ip hip4 (by rw [hlen,List.length_reverse]; omega);rw [List.set_set] at g5;have hil5:(((L ++ [itBlk H.n ⟨encK x,1,false⟩]).set il (itLine c o gl.reverse)).set ip (itPl p op down res.1.reverse))[il]? = some (itLine c o gl.reverse):=by
   rw [List.getElem?_set_ne (Ne.symm hne),List.getElem?_set_self (by simp; omega)]
  obtain ⟨H6,e6,g6⟩:=ζb4 k g5 il hil5 (by simp; omega);rw [List.reverse_reverse,List.set_comm _ _ (Ne.symm hne),List.set_set,ζfm hil1,List.set_append_left _ _ hlt] at g6;have g6:=g6.take L.length;rw [List.take_append_of_le_length (by simp),List.take_of_length_le (by simp)] at g6;refine ⟨H6,?_,g6,fun q hq => hko q (by simpa using hq)⟩;exact nrm_of (sub_yes (R (T k)) hbx (hf0 _) (hld _ (st.get _ hq1)) (ht _) e2 e3 (ζf1 (g3.get _ hq3) e4) (ζe1 e5) (ζgr e6))
end Go.Sw
end
section
namespace Go.Sw
open Go.RowKit
def runKs (dir:Int) (gl:List Gl) (down:Bool) (pg:Int → Int → Option (Int × Int)):List KSub → Nat → List Pl → List Pl × Int × Nat
 | [],_,l => (l,0,0)
 | x :: xs,j,l => if runsS x.cov dir then (if (subRun x dir gl down pg l).2 = 0 then runKs dir gl down pg xs (j + 1) (subRun x dir gl down pg l).1 else ((subRun x dir gl down pg l).1,(subRun x dir gl down pg l).2,j)) else runKs dir gl down pg xs (j + 1) l
abbrev fltV (z:Int) (j:Nat):Value:=.agg #[.int .i64 z,.int .i64 0,.int .i64 j]
set_option maxHeartbeats 1000000 in
theorem ζ9a (k:Nat) (hk:k < 1000000) (t:List KSub) (ht:∀ x,x ∈ t → x.mv.ok) (htl:t.length < 2 ^ 31) (dir:Int) {H0 H:Heap} {L:List It} (h:Star H0 H L) (il ip:Nat) (hne:il ≠ ip) {c p:Nat} {o op:Option Nat} {down:Bool} {gl:List Gl} {l:List Pl} (hil:L[il]? = some (itLine c o gl)) (hip:L[ip]? = some (itPl p op down l)) {pv:Value} {pg:Int → Int → Option (Int × Int)} (hpg:AnkIn k L il ip pv pg) (hl:gl.length < 2 ^ 30) (hll:l.length < 2 ^ 30) (hok:∀ q,q ∈ l → q.ok) :
  ∃ H',R (T k) F.ζk [kerxV t,ptrV c,ptrV p,.int .i64 dir,pv] H = .ok (fltV (runKs dir gl down pg t 0 l).2.1 (runKs dir gl down pg t 0 l).2.2) H' ∧ Star H0 H' (L.set ip (itPl p op down (runKs dir gl down pg t 0 l).1)) ∧ ∀ q,q ∈ (runKs dir gl down pg t 0 l).1 → q.ok:=by
 generalize hW:runKs dir gl down pg t 0 l = W;have hlt:=(List.getElem?_eq_some_iff.1 hip).1;have hlt2:=(List.getElem?_eq_some_iff.1 hil).1;have st:=h.push ⟨[.int .i64 0,.int .i64 0,.int .i64 0],1,false⟩
 obtain ⟨xx,e',H1,hr1,hQ⟩:=loop_up (body:=ζ5h k (R (T k))) t.length
  (fun j e' H' => e' = [(1,ptrV c),(2,ptrV p),(3,.int .i64 dir),(4,pv),(10,ptrV H.n),(17,lv encK t),(18,.int .i64 t.length),(19,.int .i64 j)] ∧ ∃ lj,Star H0 H' (L.set ip (itPl p op down lj) ++ [itBlk H.n ⟨[.int .i64 0,.int .i64 0,.int .i64 0],1,false⟩]) ∧ lj.length = l.length ∧ (∀ q,q ∈ lj → q.ok) ∧ W = runKs dir gl down pg (t.drop j) j lj)
  (fun xx e' H' => (∀ q,q ∈ W.1 → q.ok) ∧ ((xx = .ret ∧ e' = [(10,ptrV H.n)] ∧ Star H0 H' (L.set ip (itPl p op down W.1) ++ [itBlk H.n ⟨[.int .i64 W.2.1,.int .i64 0,.int .i64 W.2.2],1,false⟩])) ∨
   (xx = .exit 0 ∧ (∃ z,e' = [(1,ptrV c),(2,ptrV p),(3,.int .i64 dir),(4,pv),(10,ptrV H.n),(17,lv encK t),(18,.int .i64 t.length),(19,z),(20,.bool false)]) ∧ W.2 = (0,0) ∧ Star H0 H' (L.set ip (itPl p op down W.1) ++ [itBlk H.n ⟨[.int .i64 0,.int .i64 0,.int .i64 0],1,false⟩]))))
  (e0:=[(1,ptrV c),(2,ptrV p),(3,.int .i64 dir),(4,pv),(10,ptrV H.n),(17,lv encK t),(18,.int .i64 t.length),(19,.int .i64 0)]) (H0:=H.push ⟨[.int .i64 0,.int .i64 0,.int .i64 0],1,false⟩) ⟨rfl,l,by rw [ζfm hip]; exact st,rfl,hok,hW.symm⟩ (by omega)
  (fun j e' H' hj ⟨he',lj,st,hlj,hokj,hrun⟩ => by
   subst he';have hjl:(j:Int) < t.length:=by omega
   have hx:t[j]? = some t[j]:=List.getElem?_eq_getElem hj;have hxm:t[j].mv.ok:=ht _ (List.getElem_mem hj);rw [List.drop_eq_getElem_cons hj] at hrun;generalize t[j] = x at hx hxm hrun;have i0:=fun H' => ixS_lvN encK_len t .i64 j x hx H';have w2:IntKind.i64.wrap ((j:Int) + 1) = ((j + 1:Nat):Int):=by rw [wrap_i64 (by omega) (by omega)]; omega
   have hru:=fun H' => runs_run k x.cov dir H';have st2:=st.push ⟨encK x,1,false⟩;have hil2:((L.set ip (itPl p op down lj) ++ [itBlk H.n ⟨[.int .i64 0,.int .i64 0,.int .i64 0],1,false⟩]) ++ [itBlk H'.n ⟨encK x,1,false⟩])[il]? = some (itLine c o gl):=by
    rw [List.append_assoc,List.getElem?_append_left (by simpa using hlt2),List.getElem?_set_ne (Ne.symm hne)]; exact hil
   have hip2:((L.set ip (itPl p op down lj) ++ [itBlk H.n ⟨[.int .i64 0,.int .i64 0,.int .i64 0],1,false⟩]) ++ [itBlk H'.n ⟨encK x,1,false⟩])[ip]? = some (itPl p op down lj):=by
    rw [List.append_assoc,List.getElem?_append_left (by simpa using hlt),List.getElem?_set_self hlt]
   unfold runKs at hrun;cases hT:runsS x.cov dir with
   | false =>
    rw [hT] at hru;rw [hT,if_neg (by simp)] at hrun;refine .inl ⟨_,H'.push ⟨encK x,1,false⟩,?_,rfl,lj,?_,hlj,hokj,hrun⟩
    ·rw [ζ2p];simp -implicitDefEqProofs [hjl,i0,hru,ζ9b,w2,mv_st,mv_cells]
    ·exact st.rest ((Ext.refl H').push _)
   | true =>
    rw [hT] at hru;rw [hT,if_pos rfl] at hrun;obtain ⟨H2,e2,g2,hko⟩:=ζjx k hk x hxm dir st2 il ip hne hil2 hip2 (pv:=pv) (pg:=pg) (hpg.more fun i y h1 h2 h3 => by
     rw [List.append_assoc,List.getElem?_append_left (by simpa using (List.getElem?_eq_some_iff.1 h3).1),List.getElem?_set_ne (Ne.symm h2)]; exact h3) hl (by omega) hokj
    have hlen:=ζlb x hxm dir gl down pg lj;generalize subRun x dir gl down pg lj = res at e2 g2 hko hrun hlen;rw [List.append_assoc,List.set_append_left _ _ (by simpa using hlt),List.set_set,← List.append_assoc] at g2;have g2:=g2.take ((L.set ip (itPl p op down lj)).length + 1);rw [List.take_append_of_le_length (by simp),List.take_of_length_le (by simp)] at g2;by_cases hz:res.2 = 0
    ·rw [if_pos hz] at hrun;refine .inl ⟨_,H2,?_,rfl,res.1,g2,by omega,hko,hrun⟩;rw [ζ2p];simp -implicitDefEqProofs [hjl,i0,hru,ζ9c,w2,mv_st,mv_cells,e2,hz]
    ·rw [if_neg hz] at hrun;have hz2:(res.2 != 0) = true:=by simpa using hz
     have hlast:(L.set ip (itPl p op down res.1) ++ [itBlk H.n ⟨[.int .i64 0,.int .i64 0,.int .i64 0],1,false⟩])[L.length]? = some (itBlk H.n ⟨[.int .i64 0,.int .i64 0,.int .i64 0],1,false⟩):=by
      rw [List.getElem?_append_right (by simp)]; simp
     obtain ⟨H3,e3,g3,_⟩:=Star.stAll g2 L.length hlast [.int .i64 res.2,.int .i64 0,.int .i64 j] 3 rfl rfl;rw [List.set_append_right _ _ (by simp)] at g3;simp only [List.length_set,Nat.sub_self,List.set_cons_zero] at g3;refine .inr ⟨.ret,_,H3,?_,by simp,?_,.inl ⟨rfl,rfl,?_⟩⟩
     ·rw [ζ2p];simp -implicitDefEqProofs [hjl,i0,hru,mv_st,mv_cells,e2,hz2,e3]
     ·rw [hrun]; exact hko
     ·rw [hrun]; exact g3)
  (fun e' H' ⟨he',lj,st,hlj,hokj,hrun⟩ => by
   subst he';rw [List.drop_length] at hrun;replace hrun:W = (lj,0,0):=hrun;refine ⟨.exit 0,[(1,ptrV c),(2,ptrV p),(3,.int .i64 dir),(4,pv),(10,ptrV H.n),(17,lv encK t),(18,.int .i64 t.length),(19,.int .i64 t.length),(20,.bool false)],H',?_,by simp,?_,.inr ⟨rfl,⟨_,rfl⟩,?_,?_⟩⟩
   ·rw [ζ2p];simp -implicitDefEqProofs
   ·rw [hrun]; exact hokj
   ·rw [hrun]
   ·rw [hrun]; exact st)
 obtain ⟨hko,hQ⟩:=hQ;have fin:∀ {H':Heap} {b:It},Star H0 H' (L.set ip (itPl p op down W.1) ++ [b]) → Star H0 H' (L.set ip (itPl p op down W.1)):=fun g => by
  have:=g.take (L.set ip (itPl p op down W.1)).length
  rwa [List.take_append_of_le_length (by simp),List.take_of_length_le (by simp)] at this
 have hlast:∀ (b:It),(L.set ip (itPl p op down W.1) ++ [b])[L.length]? = some b:=fun b => by
  rw [List.getElem?_append_right (by simp)]; simp
 rcases hQ with ⟨rfl,rfl,st1⟩ | ⟨rfl,⟨z,rfl⟩,hz,st1⟩
 ·have hg:=st1.get _ (hlast _);refine ⟨H1,?_,fin st1,hko⟩;rw [ζ7z,nrm_of];simp -implicitDefEqProofs [ζk,hr1,ζ9d,hg]
 ·obtain ⟨H2,e2,g2,_⟩:=Star.stAll st1 L.length (hlast _) [.int .i64 0,.int .i64 0,.int .i64 0] 3 rfl rfl;rw [List.set_append_right _ _ (by simp)] at g2;simp only [List.length_set,Nat.sub_self,List.set_cons_zero] at g2;have hg:=g2.get _ (hlast _);have h1:W.2.1 = 0:=by rw [hz]
  have h2:W.2.2 = 0:=by rw [hz]
  rw [h1,h2];refine ⟨H2,?_,fin g2,hko⟩;rw [ζ7z,nrm_of];simp -implicitDefEqProofs [ζk,hr1,ζ8p,e2,hg]
end Go.Sw
end
section
set_option maxRecDepth 100000
set_option linter.unusedVariables false
namespace Go.Sw
noncomputable section
def ζ2g (k:Nat) (call:Caller):Env → Heap → Res (AExit × Env):=loopB (C k) call F.ζe [1,1,1,1,1,1,1,1,1,1,1,1,1,1,1,0,1,0,0]
def ζ5f (k:Nat) (call:Caller):Kont Value:=kBlock 0 (kSeq (pieceK (C k) call F.ζe [1,1,1,1,1,1,1,1,1,1,1,1,1,1,1,1]) (kDone Prog (resOf Prog F.ζe)))
def ζe (k:Nat) (call:Caller) (a0 a1 a2:Value) (h:Heap):Res Value :=
 (call F.ζ29 [] h).bind fun v1 h2 =>
 (unR .not v1 h2).bind fun v3 h4 =>
 condV (some v3) (
 .ok (.bool false) h4)
 (
 (builtinV Prog .len [116] [a0] h4).bind fun v5 h6 =>
 (binR Prog .gtr 3 v5 (.int .i64 60) h6).bind fun v7 h8 =>
 ((bif wantVal v7 false then Res.ok a1 h8 else Res.ok undef h8)).bind fun v9 h10 =>
 ((bif wantVal v7 false then builtinV Prog .len [116] [v9] h10 else Res.ok undef h10)).bind fun v11 h12 =>
 ((bif wantVal v7 false then binR Prog .gtr 3 v11 (.int .i64 60) h12 else Res.ok undef h12)).bind fun v13 h14 =>
 (condV (some v7) (Res.ok (.bool true) h14) (Res.ok v13 h14)).bind fun v15 h16 =>
 ((bif wantVal v15 false then Res.ok a2 h16 else Res.ok undef h16)).bind fun v17 h18 =>
 ((bif wantVal v15 false then builtinV Prog .len [30] [v17] h18 else Res.ok undef h18)).bind fun v19 h20 =>
 ((bif wantVal v15 false then binR Prog .gtr 3 v19 (.int .i64 30) h20 else Res.ok undef h20)).bind fun v21 h22 =>
 (condV (some v15) (Res.ok (.bool true) h22) (Res.ok v21 h22)).bind fun v23 h24 =>
 condV (some v23) (
 .ok (.bool true) h24)
 (
 (call F.ζ19 [a0] h24).bind fun v25 h26 =>
 (buildR Prog 104 [(1,v25)] h26).bind fun v27 h28 =>
 (call F.ζ19 [a1] h28).bind fun v29 h30 =>
 (buildR Prog 104 [(1,v29)] h30).bind fun v31 h32 =>
 (allocR Prog 104 h32).bind fun v33 h34 =>
 (allocR Prog 104 h34).bind fun v35 h36 =>
 (storeR Prog 104 v33 v27 h36).bind fun _v37 h38 =>
 (storeR Prog 104 v35 v31 h38).bind fun _v39 h40 =>
 (loadR Prog 104 v33 h40).bind fun v41 h42 =>
 (loadR Prog 104 v35 h42).bind fun v43 h44 =>
 (buildSliceR Prog 94 2 [(0,v41),(1,v43)] h44).bind fun v45 h46 =>
 (call F.ζy [v45] h46).bind fun v47 h48 =>
 (call F.ζ3u [v47,(.int .i64 40)] h48).bind fun v49 h50 =>
 (extractR v49 0 h50).bind fun v51 h52 =>
 (extractR v49 1 h52).bind fun v53 h54 =>
 (loadR Prog 104 v33 h54).bind fun v55 h56 =>
 (buildSliceR Prog 94 1 [(0,v55)] h56).bind fun v57 h58 =>
 (call F.ζy [v57] h58).bind fun v59 h60 =>
 (call F.ζ3u [v59,(.int .i64 40)] h60).bind fun v61 h62 =>
 (extractR v61 0 h62).bind fun v63 h64 =>
 (extractR v61 1 h64).bind fun v65 h66 =>
 (loadR Prog 104 v35 h66).bind fun v67 h68 =>
 (buildSliceR Prog 94 1 [(0,v67)] h68).bind fun v69 h70 =>
 (call F.ζy [v69] h70).bind fun v71 h72 =>
 (call F.ζ3u [v71,(.int .i64 40)] h72).bind fun v73 h74 =>
 (extractR v73 0 h74).bind fun v75 h76 =>
 (extractR v73 1 h76).bind fun v77 h78 =>
 (binR Prog .eql 98 v63 (.pointer none) h78).bind fun v79 h80 =>
 ((bif wantVal v79 false then Res.ok v75 h80 else Res.ok undef h80)).bind fun v81 h82 =>
 ((bif wantVal v79 false then binR Prog .eql 98 v81 (.pointer none) h82 else Res.ok undef h82)).bind fun v83 h84 =>
 (condV (some v79) (Res.ok (.bool true) h84) (Res.ok v83 h84)).bind fun v85 h86 =>
 condV (some v85) (
 (binR Prog .eql 98 v51 (.pointer none) h86).bind fun v87 h88 =>
 .ok v87 h88)
 (
 (builtinV Prog .len [30] [a2] h86).bind fun v89 h90 =>
 (makeSliceV Prog 30 v89 v89 h90).bind fun v91 h92 =>
 (call F.ζ3v [(.int .i64 0),v91] h92).bind fun v93 h94 =>
 (call F.ζ3v [(.int .i64 0),v91] h94).bind fun v95 h96 =>
 (call F.ζ3v [(.int .i64 0),v91] h96).bind fun v97 h98 =>
 (binR Prog .eql 98 v51 (.pointer none) h98).bind fun v99 h100 =>
 condV (some v99) (
 .ok (.bool false) h100)
 (
 (call F.line_New [a2] h100).bind fun v101 h102 =>
 (buildR Prog 115 [] h102).bind fun v103 h104 =>
 (boxR v103 h104).bind fun v105 h106 =>
 (call F.ζk [v51,v101,v93,(.int .i64 0),v105] h106).bind fun v107 h108 =>
 (call F.line_New [a2] h108).bind fun v109 h110 =>
 (buildR Prog 115 [] h110).bind fun v111 h112 =>
 (boxR v111 h112).bind fun v113 h114 =>
 (call F.ζk [v63,v109,v95,(.int .i64 0),v113] h114).bind fun v115 h116 =>
 (call F.line_New [a2] h116).bind fun v117 h118 =>
 (buildR Prog 115 [] h118).bind fun v119 h120 =>
 (boxR v119 h120).bind fun v121 h122 =>
 (call F.ζk [v75,v117,v97,(.int .i64 0),v121] h122).bind fun v123 h124 =>
 (call F.ζ1j [v93] h124).bind fun v125 h126 =>
 (call F.ζ1j [v95] h126).bind fun v127 h128 =>
 (call F.ζ1j [v97] h128).bind fun v129 h130 =>
 (builtinV Prog .len [30] [a2] h130).bind fun v131 h132 =>
 (loopN (ζ2g k call) loopFuel [(19,v125),(20,v127),(21,v129),(113,v131),(114,(.int .i64 0))] h132).bind fun r133 h134 =>
 ζ5f k call r133.1 r133.2 h134))))
theorem ζ9p (k:Nat) (a0 a1 a2:Value) (h:Heap):R (T k) F.ζe [a0,a1,a2] h = nrm .gc h (ζe k (R (T k)) a0 a1 a2 h) :=
 (R_body (t:=T k) (T_scott k) (by kernel_rfl) (by kernel_rfl) _ _).trans (by kernel_rfl)
theorem ζ4o (k:Nat) (call:Caller) (a19 a20 a21 a113 a114:Value) (h:Heap):ζ2g k call [(19,a19),(20,a20),(21,a21),(113,a113),(114,a114)] h =
 (binR Prog .lss 3 a114 a113 h).bind fun v135 h136 =>
 condV (some v135) (
 (builtinV Prog .len [56] [a19] h136).bindN fun v137 h138 =>
 (binR Prog .geq 3 a114 v137 h138).bindN fun v139 h140 =>
 ((bif wantVal v139 false then Res.ok a114 h140 else Res.ok undef h140)).bindN fun v141 h142 =>
 ((bif wantVal v139 false then Res.ok a20 h142 else Res.ok undef h142)).bindN fun v143 h144 =>
 ((bif wantVal v139 false then builtinV Prog .len [56] [v143] h144 else Res.ok undef h144)).bindN fun v145 h146 =>
 ((bif wantVal v139 false then binR Prog .geq 3 v141 v145 h146 else Res.ok undef h146)).bindN fun v147 h148 =>
 (condV (some v139) (Res.ok (.bool true) h148) (Res.ok v147 h148)).bindN fun v149 h150 =>
 ((bif wantVal v149 false then Res.ok a114 h150 else Res.ok undef h150)).bindN fun v151 h152 =>
 ((bif wantVal v149 false then Res.ok a21 h152 else Res.ok undef h152)).bindN fun v153 h154 =>
 ((bif wantVal v149 false then builtinV Prog .len [56] [v153] h154 else Res.ok undef h154)).bindN fun v155 h156 =>
 ((bif wantVal v149 false then binR Prog .geq 3 v151 v155 h156 else Res.ok undef h156)).bindN fun v157 h158 =>
 (condV (some v149) (Res.ok (.bool true) h158) (Res.ok v157 h158)).bindN fun v159 h160 =>
 ((bif wantVal v159 false then Res.ok a19 h160 else Res.ok undef h160)).bindN fun v161 h162 =>
 ((bif wantVal v159 false then Res.ok a114 h162 else Res.ok undef h162)).bindN fun v163 h164 =>
 ((bif wantVal v159 false then indexAddrR Prog 56 v161 v163 h164 else Res.ok undef h164)).bindN fun v165 h166 =>
 ((bif wantVal v159 false then fieldAddrR Prog 93 v165 0 h166 else Res.ok undef h166)).bindN fun v167 h168 =>
 ((bif wantVal v159 false then loadR Prog 21 v167 h168 else Res.ok undef h168)).bindN fun v169 h170 =>
 ((bif wantVal v159 false then Res.ok a20 h170 else Res.ok undef h170)).bindN fun v171 h172 =>
 ((bif wantVal v159 false then Res.ok a114 h172 else Res.ok undef h172)).bindN fun v173 h174 =>
 ((bif wantVal v159 false then indexAddrR Prog 56 v171 v173 h174 else Res.ok undef h174)).bindN fun v175 h176 =>
 ((bif wantVal v159 false then fieldAddrR Prog 93 v175 0 h176 else Res.ok undef h176)).bindN fun v177 h178 =>
 ((bif wantVal v159 false then loadR Prog 21 v177 h178 else Res.ok undef h178)).bindN fun v179 h180 =>
 ((bif wantVal v159 false then Res.ok a21 h180 else Res.ok undef h180)).bindN fun v181 h182 =>
 ((bif wantVal v159 false then Res.ok a114 h182 else Res.ok undef h182)).bindN fun v183 h184 =>
 ((bif wantVal v159 false then indexAddrR Prog 56 v181 v183 h184 else Res.ok undef h184)).bindN fun v185 h186 =>
 ((bif wantVal v159 false then fieldAddrR Prog 93 v185 0 h186 else Res.ok undef h186)).bindN fun v187 h188 =>
 ((bif wantVal v159 false then loadR Prog 21 v187 h188 else Res.ok undef h188)).bindN fun v189 h190 =>
 ((bif wantVal v159 false then binR Prog .add 21 v179 v189 h190 else Res.ok undef h190)).bindN fun v191 h192 =>
 ((bif wantVal v159 false then binR Prog .neq 21 v169 v191 h192 else Res.ok undef h192)).bindN fun v193 h194 =>
 (condV (some v159) (Res.ok (.bool true) h194) (Res.ok v193 h194)).bindN fun v195 h196 =>
 condV (some v195) (
 .ok (.ret,[(6,(.bool false))]) h196)
 (
 (binR Prog .add 3 a114 (.int .i64 1) h196).bind fun v197 h198 =>
 .ok (.normal,[(19,a19),(20,a20),(21,a21),(113,a113),(114,v197)]) h198))
 (
 .ok ((.exit 0),[(19,a19),(20,a20),(21,a21),(113,a113),(114,a114),(115,v135)]) h136) :=
 (loopB_eq _ _).trans (by kernel_rfl)
theorem ζ70 (k:Nat) (call:Caller) (a19 a20 a21 a113 a114 a115:Value) (h:Heap):ζ5f k call (.exit 0) [(19,a19),(20,a20),(21,a21),(113,a113),(114,a114),(115,a115)] h =
 .ok (.bool true) h:=by kernel_rfl
def ζ32 (k:Nat) (call:Caller):Env → Heap → Res (AExit × Env):=loopB (C k) call F.ζy [1,1,0,1,0,0]
def ζ6e (k:Nat) (call:Caller):Kont Value:=kBlock 0 (kSeq (pieceK (C k) call F.ζy [1,1,1]) (kDone Prog (resOf Prog F.ζy)))
def ζy (k:Nat) (call:Caller) (a0:Value) (h:Heap):Res Value :=
 (call F.ζd [(.slice none 0 0),(.int .i64 2),(.int .i64 2)] h).bind fun v1 h2 =>
 (call F.ζd [v1,(.int .i64 0),(.int .i64 2)] h2).bind fun v3 h4 =>
 (builtinV Prog .len [94] [a0] h4).bind fun v5 h6 =>
 (call F.ζd [v3,v5,(.int .i64 4)] h6).bind fun v7 h8 =>
 (builtinV Prog .len [94] [a0] h8).bind fun v9 h10 =>
 (loopN (ζ32 k call) loopFuel [(3,v7),(11,a0),(12,v9),(13,(.int .i64 0))] h10).bind fun r11 h12 =>
 ζ6e k call r11.1 r11.2 h12
theorem ζb0 (k:Nat) (a0:Value) (h:Heap):R (T k) F.ζy [a0] h = nrm .fz h (ζy k (R (T k)) a0 h) :=
 (R_body (t:=T k) (T_scott k) (by kernel_rfl) (by kernel_rfl) _ _).trans (by kernel_rfl)
theorem ζ5g (k:Nat) (call:Caller) (a3 a11 a12 a13:Value) (h:Heap):ζ32 k call [(3,a3),(11,a11),(12,a12),(13,a13)] h =
 (binR Prog .lss 3 a13 a12 h).bind fun v13 h14 =>
 condV (some v13) (
 (indexAddrR Prog 94 a11 a13 h14).bind fun v15 h16 =>
 (loadR Prog 104 v15 h16).bind fun v17 h18 =>
 (allocR Prog 104 h18).bind fun v19 h20 =>
 (storeR Prog 104 v19 v17 h20).bind fun _v21 h22 =>
 (fieldAddrR Prog 104 v19 1 h22).bindN fun v23 h24 =>
 (loadR Prog 22 v23 h24).bindN fun v25 h26 =>
 (builtinV Prog .len [22] [v25] h26).bindN fun v27 h28 =>
 (binR Prog .add 3 (.int .i64 12) v27 h28).bindN fun v29 h30 =>
 (call F.ζd [a3,v29,(.int .i64 4)] h30).bindT (fun p33 h34 => (fieldAddrR Prog 104 v19 0 h30).bindN fun v35 h36 => (loadR Prog 102 v35 h36).bindN fun v37 h38 => (convR Prog 102 3 v37 h38).bindN fun v39 h40 => chkR ((okVal (loadR Prog 102 v35 h22) v37 && true) && true) (.panic p33 h34)) fun v31 h32 =>
 (fieldAddrR Prog 104 v19 0 h32).bindN fun v41 h42 =>
 (loadR Prog 102 v41 h42).bindN fun v43 h44 =>
 (convR Prog 102 3 v43 h44).bindN fun v45 h46 =>
 (call F.ζd [v31,v45,(.int .i64 4)] h46).bindT (fun p49 h50 => chkR ((okVal (loadR Prog 102 v41 h22) v43 && true) && true) (.panic p49 h50)) fun v47 h48 =>
 chkR ((okVal (loadR Prog 102 v41 h22) v43 && true) && true) (
 (buildSliceR Prog 22 4 [(0,(.int .u8 0)),(1,(.int .u8 0)),(2,(.int .u8 0)),(3,(.int .u8 0))] h48).bindN fun v51 h52 =>
 (builtinV Prog .append [22,22] [v47,v51] h52).bindN fun v53 h54 =>
 (fieldAddrR Prog 104 v19 1 h54).bindN fun v55 h56 =>
 (loadR Prog 22 v55 h56).bindN fun v57 h58 =>
 (builtinV Prog .append [22,22] [v53,v57] h58).bindN fun v59 h60 =>
 chkR ((okVal (loadR Prog 22 v55 h48) v57 && (okVal (loadR Prog 22 v55 h52) v57 && true)) && true) (
 (binR Prog .add 3 a13 (.int .i64 1) h60).bind fun v61 h62 =>
 .ok (.normal,[(3,v59),(11,a11),(12,a12),(13,v61)]) h62)))
 (
 .ok ((.exit 0),[(3,a3),(11,a11),(12,a12),(13,a13),(14,v13)]) h14) :=
 (loopB_eq _ _).trans (by kernel_rfl)
theorem ζ7w (k:Nat) (call:Caller) (a3 a11 a12 a13 a14:Value) (h:Heap):ζ6e k call (.exit 0) [(3,a3),(11,a11),(12,a12),(13,a13),(14,a14)] h =
 .ok a3 h:=by kernel_rfl
end
end Go.Sw
end
section
namespace Go.Sw
open Go.RowKit
end Go.Sw
end
section
set_option maxRecDepth 100000
set_option linter.unusedVariables false
namespace Go.Sw
noncomputable section
end
end Go.Sw
end
section
namespace Go.Sw
open Go.RowKit
theorem ζeq:∀ n:Nat,repeatCells [Value.int .i64 0] n = rows encI (List.replicate n 0)
 | 0 => rfl
 | n + 1 => by
  have ih:=ζeq n;show [Value.int .i64 0] ++ repeatCells [Value.int .i64 0] n = _;rw [ih,List.replicate_succ];rfl
theorem ζfs {H:Heap} {b n:Nat} (hg:H.get b = some ⟨repeatCells [Value.int .i64 0] n,1,false⟩):Sl H 1 (.slice (some ⟨b,0,none⟩) n n) encI (List.replicate n 0) :=
 .inr (.inr ⟨b,0,n,_,by rw [List.length_replicate],by rw [List.length_replicate]; exact Nat.le_refl _,hg,by rw [List.drop_zero,ζeq,List.take_of_length_le (by rw [ζh encI_len]; exact Nat.le_refl _)]⟩)
end Go.Sw
end
section
namespace Go.Sw
open Go.RowKit
theorem ζhu (k:Nat) (hk:k % 1000000 = F.ζ29) (H:Heap):R (T k) F.ζ29 [] H = .ok (.bool true) H :=
 (R_sp (t:=T k) (T_scott k) (s:=constSp (.bool true)) (by unfold T C; dsimp only; rw [hk]; kernel_rfl) [] H).trans (nrm_gc (Pure.of rfl) (.bool _))
theorem AnkIn.nil {k:Nat} {L:List It} {il ip ia an:Nat} (h1:ia ≠ il) (h2:ia ≠ ip) (h:L[ia]? = some (itBlk an ⟨nilAnk,1,false⟩)):AnkIn k L il ip (ptrV an) noPg :=
 ⟨rfl,rfl,noPg_ok,.inr ⟨ia,an,h1,h2,h,rfl,rfl⟩⟩
end Go.Sw
end
section
namespace Go.Sw
open Go.RowKit
abbrev encSb (x:Int × List Int):List Value:=[.int .u32 x.1,lv encB x.2]
theorem ζm2 (x:Int × List Int):(encSb x).length = 2:=rfl
def sub26 (x:Int × List Int):List Int:=bytesOf (12 + x.2.length) 4 ++ bytesOf x.1 4 ++ [0,0,0,0] ++ x.2
def w26 (l:List (Int × List Int)):List Int:=bytesOf 2 2 ++ bytesOf 0 2 ++ bytesOf l.length 4 ++ l.flatMap sub26
structure SbSl (H:Heap) (v:Value) (l:List (Int × List Int)):Prop where
 ln:∀ H',lnS v H' = .ok (.int .i64 l.length) H'
 ix:∀ j x,l[j]? = some x → ∃ p,(∀ H',ixS 2 v (.int .i64 (j:Nat)) H' = .ok p H') ∧ ∀ H',Ext H H' → ldA 2 p H' = .ok (.agg (encSb x).toArray) H'
theorem SbSl.lv (H:Heap) (l:List (Int × List Int)):SbSl H (Go.Sw.lv encSb l) l:=by
 refine ⟨fun H' => by simp,fun j x hx => ⟨boxV (encSb x).toArray,fun H' => ixS_lvN ζm2 l .i64 j x hx H',fun H' _ => by simp⟩⟩
theorem ζcd {α β:Type} (f:α → List β) {l:List α} {j:Nat} {x:α} (h:l[j]? = some x):(l.take (j + 1)).flatMap f = (l.take j).flatMap f ++ f x:=by
 rw [ζ56 h,List.flatMap_append];simp
theorem ζbz (x:Int × List Int):(sub26 x).length = 12 + x.2.length:=by unfold sub26; simp [ζ17]; omega
theorem ζgk {l:List (Int × List Int)} (hd:∀ x,x ∈ l → x.2.length ≤ 2 ^ 19):(l.flatMap sub26).length ≤ l.length * (2 ^ 19 + 12):=by
 induction l with
 | nil => simp
 | cons x l ih =>
  have:=ih fun y hy => hd y (List.mem_cons_of_mem _ hy);have h1:=hd x List.mem_cons_self;rw [List.flatMap_cons,List.length_append,ζbz,List.length_cons,Nat.add_mul];omega
set_option maxHeartbeats 1000000 in
theorem w26_l1 (k:Nat) {H0 H:Heap} {o:Option Nat} {s7:Value} {lk:List Int} (g:Star H0 H [itRow o 1 s7 encB lk]) {v:Value} {l:List (Int × List Int)} (hv:SbSl H0 v l) (hl:l.length ≤ 100) (hlk:lk.length ≤ 100) (hd:∀ x,x ∈ l → 0 ≤ x.1 ∧ x.1 < 4294967296 ∧ x.2.length ≤ 2 ^ 19) :
  ∃ s' o' zz H',loopN (ζ32 k (R (T k))) loopFuel [(3,s7),(11,v),(12,.int .i64 l.length),(13,.int .i64 0)] H =
   .ok (.exit 0,[(3,s'),(11,v),(12,.int .i64 l.length),(13,zz),(14,.bool false)]) H' ∧ Star H0 H' [itRow o' 1 s' encB (lk ++ l.flatMap sub26)]:=by
 obtain ⟨xx,e',H1,hr1,rfl,s',o',rfl,g1⟩:=loop_up (body:=ζ32 k (R (T k))) l.length
  (fun j e H' => ∃ s' o',e = [(3,s'),(11,v),(12,.int .i64 l.length),(13,.int .i64 j)] ∧ Star H0 H' [itRow o' 1 s' encB (lk ++ (l.take j).flatMap sub26)])
  (fun xx e H' => xx = .exit 0 ∧ ∃ s' o',e = [(3,s'),(11,v),(12,.int .i64 l.length),(13,.int .i64 l.length),(14,.bool false)] ∧ Star H0 H' [itRow o' 1 s' encB (lk ++ l.flatMap sub26)])
  (e0:=[(3,s7),(11,v),(12,.int .i64 l.length),(13,.int .i64 0)]) (H0:=H) ⟨s7,o,rfl,by simpa using g⟩ (by omega)
  (fun j e H' hj ⟨s',o',he,g⟩ => by
   subst he;have hjl:(j:Int) < l.length:=by omega
   obtain ⟨x,hx⟩:∃ x,l[j]? = some x:=⟨_,List.getElem?_eq_getElem hj⟩
   have hxd:=hd x (List.mem_of_getElem? hx);have hfl:=ζgk (l:=l.take j) fun y hy => (hd y (List.mem_of_mem_take hy)).2.2;have hfl2:(l.take j).length * (2 ^ 19 + 12) ≤ 100 * (2 ^ 19 + 12):=Nat.mul_le_mul_right _ (by rw [List.length_take]; omega);obtain ⟨p,i1,i2⟩:=hv.ix j x hx;have i2:=i2 H' g.ext;have g0:=g.push ⟨encSb x,1,false⟩;simp only [List.cons_append,List.nil_append] at g0;have c0:=g0.get 1 rfl;obtain ⟨s1,o1,H1,e1,g1⟩:=Put_star k g0 0 rfl (12 + x.2.length:Int) 4 4 rfl (by omega) (by omega) (by omega) (by rw [List.length_append]; omega);simp only [List.set_cons_zero] at g1;have c1:=g1.get 1 rfl;obtain ⟨s2,o2,H2,e2,g2⟩:=Put_star k g1 0 rfl x.1 4 4 rfl hxd.1 (by omega) (by omega) (by simp only [List.length_append,ζ17]; omega);simp only [List.set_cons_zero] at g2;have c2:=g2.get 1 rfl;have g3:=g2.rest ((Ext.refl H2).push ⟨rows encB [0,0,0,0],1,false⟩);obtain ⟨s3,o3,H3,e3,g3⟩:=g3.append (bytes:=1) 0 encB_len rfl (b:=.slice (some ⟨H2.n,0,none⟩) 4 4) (l2:=[0,0,0,0]) rfl (by
    unfold firstV;dsimp only;rw [if_neg (by simp),ζ5y,ζb _ _ _ rfl];rfl) (by simp only [List.length_append,ζ17,List.length_cons,List.length_nil]; omega) (by decide)
   simp only [List.set_cons_zero] at g3;have c3:=g3.get 1 rfl;obtain ⟨s4,o4,H4,e4,g4⟩:=g3.append (bytes:=1) 0 encB_len rfl (b:=Go.Sw.lv encB x.2) (l2:=x.2) rfl (lv_first encB_len x.2 H3) (by simp only [List.length_append,ζ17,List.length_cons,List.length_nil]; omega) (by decide);simp only [List.set_cons_zero] at g4;have g4:=g4.take 1;simp only [List.take_succ_cons,List.take_zero] at g4;have hw1:IntKind.i64.wrap (12 + (x.2.length:Int)) = 12 + (x.2.length:Int):=wrap_i64 (by omega) (by omega);have hw2:IntKind.i64.wrap x.1 = x.1:=wrap_i64 (by omega) (by omega);have hw3:IntKind.i64.wrap ((j:Int) + 1) = ((j + 1:Nat):Int):=by rw [wrap_i64 (by omega) (by omega)]; omega
   simp [rows] at e3;have hne:¬ H'.n = H2.n:=by have:=Heap.get_lt c2; omega
   refine .inl ⟨_,H4,?_,s4,o4,rfl,?_⟩
   ·rw [ζ5g];simp -implicitDefEqProofs (disch:=omega) [hjl,i1,i2,c0,c1,c2,c3,hw1,hw2,hw3,hne,e1,e2,e3,e4]
   ·rw [ζcd sub26 hx];simpa [sub26,List.append_assoc] using g4)
  (fun e H' ⟨s',o',he,g⟩ => by
   subst he;rw [List.take_of_length_le (by simp)] at g;refine ⟨.exit 0,_,H',?_,by simp,rfl,s',o',rfl,g⟩;rw [ζ5g];simp -implicitDefEqProofs)
 exact ⟨s',o',_,H1,hr1,g1⟩
theorem w26_run (k:Nat) {H:Heap} {v:Value} {l:List (Int × List Int)} (hv:SbSl H v l) (hl:l.length ≤ 100) (hd:∀ x,x ∈ l → 0 ≤ x.1 ∧ x.1 < 4294967296 ∧ x.2.length ≤ 2 ^ 19) :
  R (T k) F.ζy [v] H = .ok (lv encB (w26 l)) H:=by
 rw [ζb0];have g:=(Star.nil H).more_row (Ext.refl _) (OwnO.nil encB _ 1) (fun b hb => by cases hb);simp only [List.nil_append] at g;obtain ⟨s1,o1,H1,e1,g⟩:=Put_star k g 0 rfl 2 2 2 rfl (by omega) (by omega) (by omega) (by simp);simp only [List.set_cons_zero] at g;obtain ⟨s2,o2,H2,e2,g⟩:=Put_star k g 0 rfl 0 2 2 rfl (by omega) (by omega) (by omega) (by simp [ζ17]);simp only [List.set_cons_zero] at g;obtain ⟨s3,o3,H3,e3,g⟩:=Put_star k g 0 rfl (l.length:Int) 4 4 rfl (by omega) (by omega) (by omega) (by simp [ζ17]);simp only [List.set_cons_zero,List.nil_append] at g;obtain ⟨s,o,zz,H4,e4,g⟩:=w26_l1 k g hv hl (by simp [ζ17]) hd;obtain ⟨L,hf⟩:=(g.own 0 rfl).freeze encB_len (fun n _ v hv => by simp at hv; subst hv; trivial) 6;refine nrm_fz (v:=s) (H':=H4) ?_ hf g.ext (Flat.B _).alive;have hln:=fun H' => hv.ln H';simp -implicitDefEqProofs (disch:=omega) [ζy,e1,e2,hln,e3,e4,ζ7w]
end Go.Sw
end
section
namespace Go.Sw
open Go.RowKit
theorem ksubS_26 (p q:List Int) (x:Int × List Int) (hx:0 ≤ x.1 ∧ x.1 < 4294967296 ∧ x.2.length ≤ 2 ^ 19) (g:Int) :
  ksubS (p ++ (sub26 x ++ q)) g p.length = (mvS (covS x.1) x.2 g).map fun m => ((12 + x.2.length:Int),(⟨covS x.1,m⟩:KSub)):=by
 have e1:uS (p ++ (sub26 x ++ q)) p.length 4 = some (12 + x.2.length:Int):=by
  have:=uS_at p (bytesOf x.1 4 ++ [0,0,0,0] ++ x.2 ++ q) (n:=(12 + x.2.length:Int)) (k:=4) p.length 4 rfl rfl (by omega) (by omega);simpa [sub26,List.append_assoc] using this
 have e2:pieceS (p ++ (sub26 x ++ q)) p.length (12 + x.2.length:Int) = some (sub26 x):=ζil p (sub26 x) q _ _ rfl (by rw [ζbz]; omega);have e3:uS (sub26 x) 4 4 = some x.1:=by
  have:=uS_at (bytesOf (12 + x.2.length:Int) 4) ([0,0,0,0] ++ x.2) (n:=x.1) (k:=4) 4 4 (by rw [ζ17]; rfl) rfl hx.1 (by omega);simpa [sub26,List.append_assoc] using this
 have e4:restS (sub26 x) 12 = some x.2:=by
  rw [ζn0];refine ⟨⟨by omega,by rw [ζbz]; omega⟩,?_⟩;unfold sub26;rw [List.drop_append_of_le_length (by simp [ζ17]),List.drop_of_length_le (by simp [ζ17])];rfl
 unfold ksubS;rw [e1,Option.bind_some,if_pos (by omega),e2,Option.bind_some,e3,Option.bind_some,e4,Option.bind_some]
def kmapTo (g:Int) (l:List (Int × List Int)):Nat → Option (List KSub)
 | 0 => some []
 | j + 1 => (kmapTo g l j).bind fun t => (l[j]?).bind fun x => (mvS (covS x.1) x.2 g).map fun m => t ++ [⟨covS x.1,m⟩]
theorem ζnl {l:List (Int × List Int)} {j:Nat} {x:Int × List Int} (h:l[j]? = some x):w26 l = (bytesOf 2 2 ++ bytesOf 0 2 ++ bytesOf l.length 4 ++ (l.take j).flatMap sub26) ++ (sub26 x ++ (l.drop (j + 1)).flatMap sub26):=by
 obtain ⟨hlt,hx⟩:=List.getElem?_eq_some_iff.1 h;unfold w26;rw [List.append_assoc,List.append_assoc (bytesOf 2 2 ++ bytesOf 0 2)];rw [List.append_assoc (bytesOf 2 2 ++ bytesOf 0 2)];congr 1;rw [List.append_assoc];congr 1;rw [← List.flatMap_cons,← List.flatMap_append];congr 1;rw [← hx,← List.drop_eq_getElem_cons hlt,List.take_append_drop]
theorem ksubs26 (g:Int) {l:List (Int × List Int)} (hd:∀ x,x ∈ l → 0 ≤ x.1 ∧ x.1 < 4294967296 ∧ x.2.length ≤ 2 ^ 19):∀ j,j ≤ l.length → ksubsTo (w26 l) g j = (kmapTo g l j).map fun t => (t,(8 + ((l.take j).flatMap sub26).length:Int))
 | 0,_ => by simp [ksubsTo,kmapTo]
 | j + 1,h => by
  obtain ⟨x,hx⟩:∃ x,l[j]? = some x:=⟨_,List.getElem?_eq_getElem (by omega)⟩
  have ih:=ksubs26 g hd j (by omega);unfold ksubsTo kmapTo;rw [ih,hx];cases ht:kmapTo g l j with
  | none => rfl
  | some t =>
   have hk:=ksubS_26 (bytesOf 2 2 ++ bytesOf 0 2 ++ bytesOf l.length 4 ++ (l.take j).flatMap sub26) ((l.drop (j + 1)).flatMap sub26) x (hd x (List.mem_of_getElem? hx)) g;rw [← ζnl hx] at hk;have hlen:((bytesOf 2 2 ++ bytesOf 0 2 ++ bytesOf l.length 4 ++ (l.take j).flatMap sub26).length:Int) = 8 + ((l.take j).flatMap sub26).length:=by
    simp only [List.length_append,ζ17]; omega
   rw [hlen] at hk;simp only [Option.map_some,Option.bind_some];rw [hk];cases hm:mvS (covS x.1) x.2 g with
   | none => rfl
   | some m =>
    simp only [Option.map_some];rw [ζcd sub26 hx,List.length_append,ζbz];congr 2;omega
theorem kerxS_26 (g:Int) {l:List (Int × List Int)} (hl:l.length ≤ 100) (hd:∀ x,x ∈ l → 0 ≤ x.1 ∧ x.1 < 4294967296 ∧ x.2.length ≤ 2 ^ 19):kerxS (w26 l) g = kmapTo g l l.length:=by
 have e1:uS (w26 l) 0 2 = some 2:=by
  have:=uS_at [] (bytesOf 0 2 ++ bytesOf l.length 4 ++ l.flatMap sub26) (n:=2) (k:=2) 0 2 rfl rfl (by omega) (by omega);simpa [w26,List.append_assoc] using this
 have e2:uS (w26 l) 4 4 = some (l.length:Int):=by
  have:=uS_at (bytesOf 2 2 ++ bytesOf 0 2) (l.flatMap sub26) (n:=l.length) (k:=4) 4 4 (by simp [ζ17]) rfl (by omega) (by omega);simpa [w26,List.append_assoc] using this
 unfold kerxS;rw [e1,Option.bind_some,e2,Option.bind_some,if_pos (by omega),Int.toNat_natCast,ksubs26 g hd _ (Nat.le_refl _)];cases kmapTo g l l.length <;> rfl
theorem Byt_w26 {l:List (Int × List Int)} (h:∀ x,x ∈ l → Byt x.2):Byt (w26 l):=by
 have app:∀ {a b:List Int},Byt a → Byt b → Byt (a ++ b):=fun ha hb x hx => by
  rcases List.mem_append.1 hx with hx | hx
  ·exact ha x hx
  ·exact hb x hx
 refine app (app (app (ζ2w _ _) (ζ2w _ _)) (ζ2w _ _)) fun y hy => ?_;obtain ⟨x,hx,hy⟩:=List.mem_flatMap.1 hy;exact app (app (app (ζ2w _ _) (ζ2w _ _)) (fun z hz => by simp at hz; omega)) (h x hx) y hy
theorem w26_len {l:List (Int × List Int)} (hl:l.length ≤ 100) (hd:∀ x,x ∈ l → x.2.length ≤ 2 ^ 19):(w26 l).length ≤ 2 ^ 29:=by
 have h1:=ζgk hd;have h2:l.length * (2 ^ 19 + 12) ≤ 100 * (2 ^ 19 + 12):=Nat.mul_le_mul_right _ hl;unfold w26;simp only [List.length_append,ζ17];omega
theorem cov0:covS 0 = ⟨0,false,false,false,false⟩:=by rfl
theorem mv_pairs (d:List Int) (g:Int):mvS (covS 0) d g = (pTakeS 0 d g).map .pairs:=by
 rw [cov0];unfold mvS;rw [if_neg (by simp),if_pos (.inl rfl)]
end Go.Sw
end
section
set_option maxRecDepth 100000
set_option linter.unusedVariables false
namespace Go.Sw
noncomputable section
def ζ4n (k:Nat) (call:Caller):Env → Heap → Res (AExit × Env):=loopB (C k) call F.ζ19 [1,1,0,1,0,0]
def ζ6d (k:Nat) (call:Caller):Kont Value:=kBlock 0 (kSeq (pieceK (C k) call F.ζ19 [1,1,1]) (kDone Prog (resOf Prog F.ζ19)))
def ζ19 (k:Nat) (call:Caller) (a0:Value) (h:Heap):Res Value :=
 (builtinV Prog .len [116] [a0] h).bind fun v1 h2 =>
 (call F.ζd [(.slice none 0 0),v1,(.int .i64 4)] h2).bind fun v3 h4 =>
 (builtinV Prog .append [22,3] [v3,(.int .i64 12)] h4).bind fun v5 h6 =>
 (builtinV Prog .len [116] [a0] h6).bind fun v7 h8 =>
 (loopN (ζ4n k call) loopFuel [(3,v5),(10,a0),(11,v7),(12,(.int .i64 0))] h8).bind fun r9 h10 =>
 ζ6d k call r9.1 r9.2 h10
theorem ζaz (k:Nat) (a0:Value) (h:Heap):R (T k) F.ζ19 [a0] h = nrm .fz h (ζ19 k (R (T k)) a0 h) :=
 (R_body (t:=T k) (T_scott k) (by kernel_rfl) (by kernel_rfl) _ _).trans (by kernel_rfl)
theorem ζ5e (k:Nat) (call:Caller) (a3 a10 a11 a12:Value) (h:Heap):ζ4n k call [(3,a3),(10,a10),(11,a11),(12,a12)] h =
 (binR Prog .lss 3 a12 a11 h).bind fun v11 h12 =>
 condV (some v11) (
 (indexAddrR Prog 116 a10 a12 h12).bind fun v13 h14 =>
 (loadR Prog 202 v13 h14).bind fun v15 h16 =>
 (allocR Prog 202 h16).bind fun v17 h18 =>
 (storeR Prog 202 v17 v15 h18).bind fun _v19 h20 =>
 (fieldAddrR Prog 202 v17 0 h20).bindN fun v21 h22 =>
 (loadR Prog 135 v21 h22).bindN fun v23 h24 =>
 (convR Prog 135 3 v23 h24).bindN fun v25 h26 =>
 (call F.ζd [a3,v25,(.int .i64 2)] h26).bindT (fun p29 h30 => (fieldAddrR Prog 202 v17 1 h26).bindN fun v31 h32 => (loadR Prog 135 v31 h32).bindN fun v33 h34 => (convR Prog 135 3 v33 h34).bindN fun v35 h36 => (fieldAddrR Prog 202 v17 2 h36).bindN fun v37 h38 => (loadR Prog 125 v37 h38).bindN fun v39 h40 => (convR Prog 125 135 v39 h40).bindN fun v41 h42 => (convR Prog 135 3 v41 h42).bindN fun v43 h44 => chkR ((okVal (loadR Prog 135 v31 h20) v33 && true) && ((okVal (loadR Prog 125 v37 h20) v39 && true) && true)) (.panic p29 h30)) fun v27 h28 =>
 (fieldAddrR Prog 202 v17 1 h28).bindN fun v45 h46 =>
 (loadR Prog 135 v45 h46).bindN fun v47 h48 =>
 (convR Prog 135 3 v47 h48).bindN fun v49 h50 =>
 (call F.ζd [v27,v49,(.int .i64 2)] h50).bindT (fun p53 h54 => (fieldAddrR Prog 202 v17 2 h50).bindN fun v55 h56 => (loadR Prog 125 v55 h56).bindN fun v57 h58 => (convR Prog 125 135 v57 h58).bindN fun v59 h60 => (convR Prog 135 3 v59 h60).bindN fun v61 h62 => chkR ((okVal (loadR Prog 135 v45 h20) v47 && true) && ((okVal (loadR Prog 125 v55 h20) v57 && (okVal (loadR Prog 125 v55 h28) v57 && true)) && true)) (.panic p53 h54)) fun v51 h52 =>
 (fieldAddrR Prog 202 v17 2 h52).bindN fun v63 h64 =>
 (loadR Prog 125 v63 h64).bindN fun v65 h66 =>
 (convR Prog 125 135 v65 h66).bindN fun v67 h68 =>
 (convR Prog 135 3 v67 h68).bindN fun v69 h70 =>
 (call F.ζd [v51,v69,(.int .i64 2)] h70).bindT (fun p73 h74 => chkR ((okVal (loadR Prog 135 v45 h20) v47 && true) && ((okVal (loadR Prog 125 v63 h20) v65 && (okVal (loadR Prog 125 v63 h28) v65 && true)) && true)) (.panic p73 h74)) fun v71 h72 =>
 chkR ((okVal (loadR Prog 135 v45 h20) v47 && true) && ((okVal (loadR Prog 125 v63 h20) v65 && (okVal (loadR Prog 125 v63 h28) v65 && true)) && true)) (
 (binR Prog .add 3 a12 (.int .i64 1) h72).bind fun v75 h76 =>
 .ok (.normal,[(3,v71),(10,a10),(11,a11),(12,v75)]) h76))
 (
 .ok ((.exit 0),[(3,a3),(10,a10),(11,a11),(12,a12),(13,v11)]) h12) :=
 (loopB_eq _ _).trans (by kernel_rfl)
theorem ζ7v (k:Nat) (call:Caller) (a3 a10 a11 a12 a13:Value) (h:Heap):ζ6d k call (.exit 0) [(3,a3),(10,a10),(11,a11),(12,a12),(13,a13)] h =
 .ok a3 h:=by kernel_rfl
end
end Go.Sw
end
section
namespace Go.Sw
open Go.RowKit
end Go.Sw
end
section
namespace Go.Sw
open Go.RowKit
structure PW where
 l:Int
 r:Int
 v:Int
abbrev encPW (p:PW):List Value:=[.int .u16 p.l,.int .u16 p.r,.int .i16 p.v]
theorem ζlz (p:PW):(encPW p).length = 3:=rfl
def PW.ok (p:PW):Prop:=(0 ≤ p.l ∧ p.l < 65536) ∧ (0 ≤ p.r ∧ p.r < 65536) ∧ -32768 ≤ p.v ∧ p.v < 32768
def PW.key (p:PW):Int:=p.l * 65536 + p.r
def prB (p:PW):List Int:=bytesOf p.l 2 ++ bytesOf p.r 2 ++ bytesOf (m16 p.v) 2
def prsB (l:List PW):List Int:=(l.map prB).flatten
def listW (l:List PW):List Int:=bytesOf (l.length:Int) 4 ++ List.replicate 12 0 ++ prsB l
theorem prB_len (p:PW):(prB p).length = 6:=by simp [prB]
theorem ζmx (l:List PW) (x:PW):prsB (l ++ [x]) = prsB l ++ prB x:=by simp [prsB]
theorem prsB_len (l:List PW):(prsB l).length = l.length * 6:=flat_len (z:=6) (fun r hr => by obtain ⟨p,_,rfl⟩:=List.mem_map.1 hr; exact prB_len p) |>.trans (by simp)
theorem wrap_m16 (n:Int):IntKind.u16.wrap n = m16 n:=by
 unfold IntKind.wrap m16;simp [IntKind.signed,IntKind.bits]
set_option maxHeartbeats 1000000 in
theorem ζh4 (k:Nat) (l:List PW) (hl:∀ p,p ∈ l → p.ok) (hn:l.length ≤ 1000) (H:Heap):R (T k) F.ζ19 [lv encPW l] H = .ok (lv encB (listW l)) H:=by
 rw [ζaz];have g:=(Star.nil H).more_row (Ext.refl _) (OwnO.nil encB _ 1) (fun b hb => by cases hb);simp only [List.nil_append] at g;obtain ⟨t1,u1,J1,f1,g⟩:=Put_star k g 0 rfl l.length 4 4 rfl (by omega) (by omega) (by omega) (by simp);simp only [List.set_cons_zero,List.set_cons_succ,List.nil_append] at g;obtain ⟨a4,l4,c4,ht4⟩:=(g.row 0 rfl).shape;obtain ⟨t5,u5,J5,f5,g⟩:=g.append (bytes:=1) 0 encB_len rfl (b:=lv encB (List.replicate 12 0)) (l2:=List.replicate 12 0) (by rw [lv,List.length_replicate]; rfl) (by have:=lv_first encB_len (List.replicate 12 0) J1; exact this) (by simp) (by decide);simp only [List.set_cons_zero,List.set_cons_succ] at g;have f5':azR 1 1 [.int .u8 0] t1 (.int .i64 12) J1 = .ok t5 J5:=by
  rw [ht4] at f5 ⊢;rw [show ((12:Int)) = ((12:Nat):Int) from rfl,azR_eq encB_len a4 l4 c4 (0:Int) _ rfl .i64 12 (by omega)];exact f5
 obtain ⟨x,e',H4,hr4,rfl,z4,s4,o4,rfl,g⟩:=loop_up (body:=ζ4n k (R (T k))) l.length
  (fun j e H' => ∃ s o,e = [(3,s),(10,lv encPW l),(11,.int .i64 l.length),(12,.int .i64 j)] ∧ Star H H' [itRow o 1 s encB ((bytesOf (l.length:Int) 4 ++ List.replicate 12 0) ++ prsB (l.take j))])
  (fun x e H' => x = .exit 0 ∧ ∃ z s o,e = [(3,s),(10,lv encPW l),(11,.int .i64 l.length),(12,z),(13,.bool false)] ∧ Star H H' [itRow o 1 s encB (listW l)])
  (e0:=[(3,t5),(10,lv encPW l),(11,.int .i64 l.length),(12,.int .i64 0)]) (H0:=J5) ⟨t5,u5,rfl,by simpa [prsB] using g⟩ (by omega)
  (fun j e H' hj ⟨s,o,he,g⟩ => by
   subst he;have hlt:(j:Int) < l.length:=by omega
   obtain ⟨c,hc⟩:∃ c,l[j]? = some c:=⟨_,List.getElem?_eq_getElem hj⟩
   obtain ⟨q,i1,i2⟩:=((Sl.lv H' 3 l).rd (by decide) ζlz).2 j c hc;have hcb:=hl c (List.mem_of_getElem? hc);obtain ⟨hc1,hc2,hc3⟩:=hcb;have b3:=ζmk c.v;have wu:=wrap_m16 c.v;have hlen:(bytesOf (l.length:Int) 4 ++ List.replicate 12 0 ++ prsB (l.take j)).length ≤ 16 + 6000:=by
    simp [prsB_len,List.length_take];omega
   have g:=g.push ⟨encPW c,1,false⟩;simp only [List.cons_append,List.nil_append] at g;obtain ⟨s1,o1,H1,e1,g1⟩:=Put_star k g 0 rfl c.l 2 2 rfl hc1.1 (by omega) (by omega) (by omega);simp only [List.set_cons_zero,List.set_cons_succ] at g1;have h1:=g1.get 1 rfl;obtain ⟨s2,o2,H2,e2,g2⟩:=Put_star k g1 0 rfl c.r 2 2 rfl hc2.1 (by omega) (by omega) (by rw [List.length_append]; simp only [ζ17]; omega);simp only [List.set_cons_zero,List.set_cons_succ] at g2;have h2:=g2.get 1 rfl;obtain ⟨s3,o3,H3,e3,g3⟩:=Put_star k g2 0 rfl (m16 c.v) 2 2 rfl b3.1 (by omega) (by omega) (by rw [List.length_append,List.length_append]; simp only [ζ17]; omega);simp only [List.set_cons_zero,List.set_cons_succ] at g3;refine .inl ⟨_,H3,?_,s3,o3,rfl,by rw [ζ56 hc,ζmx]; simpa [prB] using g3.take 1⟩;rw [ζ5e];simp -implicitDefEqProofs (disch:=omega) [hlt,i1,i2,e1,h1,wu,e2,h2,e3])
  (fun e H' ⟨s,o,he,g⟩ => by
   subst he;rw [List.take_length] at g;refine ⟨.exit 0,_,H',?_,by simp,rfl,.int .i64 l.length,s,o,rfl,g⟩;rw [ζ5e];simp -implicitDefEqProofs)
 obtain ⟨L,hf⟩:=(g.own 0 rfl).freeze encB_len (fun n _ v hv => by simp at hv; subst hv; trivial) 6;refine nrm_fz (v:=s4) (H':=H4) ?_ hf g.ext (Flat.B _).alive;simp -implicitDefEqProofs (disch:=omega) [ζ19,f1,f5',hr4,ζ7v]
theorem prB_byt (p:PW):Byt (prB p):=((ζ2w _ _).app (ζ2w _ _)).app (ζ2w _ _)
theorem prsB_byt (l:List PW):Byt (prsB l):=Byt.flat fun r hr => by obtain ⟨p,_,rfl⟩:=List.mem_map.1 hr; exact prB_byt p
theorem rep0_byt (n:Nat):Byt (List.replicate n 0):=fun x hx => by rw [List.eq_of_mem_replicate hx]; omega
theorem ζid (l:List PW):Byt (listW l):=((ζ2w _ _).app (rep0_byt _)).app (prsB_byt l)
theorem ζbx (l:List PW):(listW l).length = 16 + l.length * 6:=by simp [listW,prsB_len]; omega
theorem num_app (a b:List Int):num (a ++ b) = num a * 256 ^ b.length + num b:=by
 induction a with
 | nil => simp [num]
 | cons x a ih => rw [List.cons_append,num_cons,num_cons,ih,List.length_append,Int.pow_add,Int.add_mul,Int.mul_assoc]; omega
theorem key_num {p:PW} (h:p.ok):num ((prB p).take 4) = p.key:=by
 have:(prB p).take 4 = bytesOf p.l 2 ++ bytesOf p.r 2:=by
  unfold prB;rw [List.take_append_of_le_length (by simp),List.take_of_length_le (by simp)]
 rw [this,num_app,ζas h.1.1 (by simpa using h.1.2),ζas h.2.1.1 (by simpa using h.2.1.2)];simp [PW.key]
theorem pList_W (l:List PW) (hl:∀ p,p ∈ l → p.ok) (hn:l.length ≤ 1000):pListS (listW l) = if upS (l.map PW.key) then some ⟨l.map PW.key,prsB l,none,none,0,2⟩ else none:=by
 unfold pListS;have h1:uS (listW l) 0 4 = some (l.length:Int):=by
  have:=uS_at [] (List.replicate 12 0 ++ prsB l) (n:=l.length) (k:=4) 0 4 rfl rfl (by omega) (by omega);simpa [listW] using this
 have h2:(pieceS (listW l) 0 16).isSome = true:=by rw [ζbw]; unfold inS; rw [decide_eq_true_eq,ζbx]; omega
 obtain ⟨c,hc⟩:=Option.isSome_iff_exists.1 h2;have h3:rowsS (listW l) 16 l.length 6 = some (prsB l):=by
  rw [ζn1 (by omega),ζbx];refine ⟨by omega,?_⟩;have:(listW l).drop 16 = prsB l:=by unfold listW; rw [List.drop_append_of_le_length (by simp),List.drop_of_length_le (by simp)]; rfl
  rw [show ((16:Int)).toNat = 16 from rfl,this,List.take_of_length_le (by rw [prsB_len]; omega)]
 have h4:keysS (prsB l) l.length = l.map PW.key:=by
  unfold keysS prsB;rw [show ((l.length:Int)).toNat = (l.map prB).length by simp,cut_flat fun r hr => by obtain ⟨p,_,rfl⟩:=List.mem_map.1 hr; exact prB_len p,List.map_map];exact List.map_congr_left fun p hp => key_num (hl p hp)
 rw [h1,Option.bind_some,hc,Option.bind_some,h3,Option.bind_some,h4]
end Go.Sw
end
section
namespace Go.Sw
open Go.RowKit
end Go.Sw
end
section
namespace Go.Sw
open Go.RowKit
theorem row_PW {r:List Da} {cs:List Value} (h:LayRow [.int .u16,.int .u16,.int .i16] r cs):∃ p:PW,cs = encPW p ∧ p.ok:=by
 obtain ⟨_,v1,_,_,rfl,h1,h⟩:=h.head;obtain ⟨_,v2,_,_,rfl,h2,h⟩:=h.head;obtain ⟨_,v3,_,_,rfl,h3,h⟩:=h.head;obtain rfl:=h.done;obtain ⟨a,rfl,ha⟩:=h1.intv;obtain ⟨b,rfl,hb⟩:=h2.intv;obtain ⟨c,rfl,hc⟩:=h3.intv;refine ⟨⟨a,b,c⟩,rfl,wf_u16 ha,wf_u16 hb,?_⟩;simp [Lit.wf,IntKind.min,IntKind.max,IntKind.signed,IntKind.bits] at hc;dsimp only;omega
end Go.Sw
end
section
namespace Go.Sw
open Go.RowKit
theorem SbSl.one {H:Heap} {b:Nat} {x:Int × List Int} {e:Nat} (hb:H.get b = some ⟨encSb x,e,false⟩):SbSl H (.slice (some ⟨b,0,none⟩) 1 1) [x]:=by
 refine ⟨fun H' => by simp,fun j y hy => ?_⟩;cases j with
 | succ j => simp at hy
 | zero =>
  simp at hy;subst hy;exact ⟨ptrV b,fun H' => by simp [ixS],fun H' hx => by have:=hx.get hb; simp [this]⟩
theorem kmap_one (d:List Int) (g:Int):kmapTo g [(0,d)] 1 = (pTakeS 0 d g).map fun t => [⟨covS 0,.pairs t⟩]:=by
 simp only [kmapTo,Option.bind_some,List.getElem?_cons_zero,mv_pairs,List.nil_append];cases pTakeS 0 d g <;> rfl
theorem turned00:turnedS ⟨0,false,false,false,false⟩ 0 = false:=rfl
theorem runs00:runsS ⟨0,false,false,false,false⟩ 0 = true:=rfl
theorem ζnf (t:PTab) (gl:List Gl) (down:Bool) (pg:Int → Int → Option (Int × Int)) (l:List Pl):subRun ⟨covS 0,.pairs t⟩ 0 gl down pg l = (pairsTo t gl false down l (gl.length - 1),0):=by
 unfold subRun;simp only [cov0,turned00,Bool.false_eq_true,if_false,kmoveS]
theorem ζ8k (t:PTab) (ts:List KSub) (j:Nat) (gl:List Gl) (down:Bool) (pg:Int → Int → Option (Int × Int)) (l:List Pl):runKs 0 gl down pg (⟨covS 0,.pairs t⟩ :: ts) j l = runKs 0 gl down pg ts (j + 1) (pairsTo t gl false down l (gl.length - 1)):=by
 simp only [runKs,ζnf];rw [cov0,runs00];simp
end Go.Sw
end
section
namespace Go.Sw
open Go.RowKit
theorem ζh6 {t:PTab} (hb:Byt t.vb) (hz:t.size = 2) (l r:Int):-32768 ≤ pgetS t l r ∧ pgetS t l r < 32768:=by
 have hv:∀ i,-32768 ≤ pvalS t i ∧ pvalS t i < 32768:=fun i => by
  unfold pvalS;rw [if_neg (by omega)];have:=gU_two hb i;unfold s16;split <;> omega
 unfold pgetS;split
 ·exact hv _
 ·split
  ·omega
  ·split
   ·exact hv _
   ·omega
def distS (t:PTab) (gl:List Gl) (i:Nat):Int:=pgetS t ((gl[i]?).getD ⟨0,0⟩).id ((gl[i + 1]?).getD ⟨0,0⟩).id
theorem pairs_at (t:PTab) (gl:List Gl) (down:Bool) (l:List Pl) (i:Nat):∀ j,(pairsTo t gl false down l j)[i]? = (l[i]?).map fun q => if i < j then ⟨addI q.adv (distS t gl i),q.x,q.y⟩ else q
 | 0 => by
  show l[i]? = _;cases l[i]? <;> rfl
 | j + 1 => by
  have ih:=pairs_at t gl down l i j;unfold pairsTo;simp only [Bool.false_eq_true,if_false];unfold updPl;rw [if_pos (by omega),Int.toNat_natCast,List.getElem?_modify,ih];cases l[i]? with
  | none => simp
  | some q =>
   by_cases h:j = i
   ·subst h;simp [distS]
   ·have h1:(i < j + 1) ↔ i < j:=by omega
    simp [h,h1]
theorem ζf6 {n:Int} (h:-32768 ≤ n ∧ n < 32768):addI 0 n = n:=by unfold addI clampI; repeat' split <;> try omega
theorem addI_two {m n:Int} (h:-32768 ≤ n ∧ n < 32768) (h2:-32768 ≤ m ∧ m < 32768):addI m n = m + n:=by unfold addI clampI; repeat' split <;> try omega
theorem sum_at {t u:PTab} (ht:Byt t.vb ∧ t.size = 2) (hu:Byt u.vb ∧ u.size = 2) (gl:List Gl) (down:Bool) (N n:Nat) (i:Nat) (hi:i < N) :
  ∃ a b:Int,-32768 ≤ a ∧ a < 32768 ∧ -32768 ≤ b ∧ b < 32768 ∧ (pairsTo u gl false down (pairsTo t gl false down (newPl (List.replicate N 0)) n) n)[i]? = some ⟨a + b,0,0⟩ ∧ (pairsTo t gl false down (newPl (List.replicate N 0)) n)[i]? = some ⟨a,0,0⟩ ∧ (pairsTo u gl false down (newPl (List.replicate N 0)) n)[i]? = some ⟨b,0,0⟩:=by
 have h0:(newPl (List.replicate N 0))[i]? = some ⟨0,0,0⟩:=by
  unfold newPl;rw [List.map_replicate,List.getElem?_replicate,if_pos hi];rfl
 have h1:=ζh6 ht.1 ht.2 ((gl[i]?).getD ⟨0,0⟩).id ((gl[i + 1]?).getD ⟨0,0⟩).id;have h2:=ζh6 hu.1 hu.2 ((gl[i]?).getD ⟨0,0⟩).id ((gl[i + 1]?).getD ⟨0,0⟩).id;change -32768 ≤ distS t gl i ∧ distS t gl i < 32768 at h1;change -32768 ≤ distS u gl i ∧ distS u gl i < 32768 at h2;by_cases hn:i < n
 ·refine ⟨distS t gl i,distS u gl i,h1.1,h1.2,h2.1,h2.2,?_,?_,?_⟩
  ·rw [pairs_at,pairs_at,h0];simp only [Option.map_some,if_pos hn,ζf6 h1,addI_two h2 h1]
  ·rw [pairs_at,h0];simp only [Option.map_some,if_pos hn,ζf6 h1]
  ·rw [pairs_at,h0];simp only [Option.map_some,if_pos hn,ζf6 h2]
 ·refine ⟨0,0,by omega,by omega,by omega,by omega,?_,?_,?_⟩
  ·rw [pairs_at,pairs_at,h0];simp only [Option.map_some,if_neg hn];rfl
  ·rw [pairs_at,h0];simp only [Option.map_some,if_neg hn]
  ·rw [pairs_at,h0];simp only [Option.map_some,if_neg hn]
theorem kmap_two (d e:List Int) (g:Int):kmapTo g [(0,d),(0,e)] 2 = (pTakeS 0 d g).bind fun t => (pTakeS 0 e g).map fun u => [⟨covS 0,.pairs t⟩,⟨covS 0,.pairs u⟩]:=by
 simp only [kmapTo,Option.bind_some,List.getElem?_cons_zero,List.getElem?_cons_succ,mv_pairs,List.nil_append];cases pTakeS 0 d g with
 | none => rfl
 | some t => cases pTakeS 0 e g <;> rfl
theorem SbSl.two {H:Heap} {b:Nat} {x y:Int × List Int} {e:Nat} (hb:H.get b = some ⟨encSb x ++ encSb y,e,false⟩):SbSl H (.slice (some ⟨b,0,none⟩) 2 2) [x,y]:=by
 refine ⟨fun H' => by simp,fun j z hz => ?_⟩;rcases j with _ | _ | j
 ·simp at hz;subst hz;exact ⟨ptrV b,fun H' => by simp [ixS],fun H' hx => by have:=hx.get hb; simp [this]⟩
 ·simp at hz;subst hz;exact ⟨.pointer (some ⟨b,2,none⟩),fun H' => by simp [ixS],fun H' hx => by have:=hx.get hb; simp [this]⟩
 ·simp at hz
theorem ζfz (d:Int) (gl:List Gl) (down:Bool) (pg:Int → Int → Option (Int × Int)) (j:Nat) (l:List Pl):runKs d gl down pg [] j l = (l,0,0):=rfl
theorem take_W {l:List PW} (hl:∀ p,p ∈ l → p.ok) (hn:l.length ≤ 1000) {t:PTab} (h:pTakeS 0 (listW l) 40 = some t):Byt t.vb ∧ t.size = 2:=by
 have h:pListS (listW l) = some t:=h;rw [pList_W l hl hn] at h;split at h
 ·injection h with h;subst h;exact ⟨prsB_byt l,rfl⟩
 ·cases h
theorem sum_l1 (k:Nat) (n:Nat) (hn:n ≤ 30) (xs ys zs:List Pl) (hx:xs.length = n) (hy:ys.length = n) (hz:zs.length = n)
  (h:∀ i,i < n → ∃ a b:Int,-32768 ≤ a ∧ a < 32768 ∧ -32768 ≤ b ∧ b < 32768 ∧ xs[i]? = some ⟨a + b,0,0⟩ ∧ ys[i]? = some ⟨a,0,0⟩ ∧ zs[i]? = some ⟨b,0,0⟩) (H:Heap) :
  ∃ zz,loopN (ζ2g k (R (T k))) loopFuel [(19,lv encP xs),(20,lv encP ys),(21,lv encP zs),(113,.int .i64 n),(114,.int .i64 0)] H = .ok (.exit 0,[(19,lv encP xs),(20,lv encP ys),(21,lv encP zs),(113,.int .i64 n),(114,zz),(115,.bool false)]) H:=by
 obtain ⟨xx,e',H1,hr1,rfl,rfl,rfl⟩:=loop_up (body:=ζ2g k (R (T k))) n
  (fun j e H' => e = [(19,lv encP xs),(20,lv encP ys),(21,lv encP zs),(113,.int .i64 n),(114,.int .i64 j)] ∧ H' = H)
  (fun xx e H' => xx = .exit 0 ∧ e = [(19,lv encP xs),(20,lv encP ys),(21,lv encP zs),(113,.int .i64 n),(114,.int .i64 n),(115,.bool false)] ∧ H' = H)
  (e0:=[(19,lv encP xs),(20,lv encP ys),(21,lv encP zs),(113,.int .i64 n),(114,.int .i64 0)]) (H0:=H) ⟨rfl,rfl⟩ (by omega)
  (fun j e H' hj ⟨he,hh⟩ => by
   subst he hh;obtain ⟨a,b,a1,a2,b1,b2,e1,e2,e3⟩:=h j hj;have hjl:(j:Int) < n:=by omega
   have hnl:¬ (j:Int) ≥ n:=by omega
   have i1:=fun H => ixS_lvN encP_len xs .i64 j _ e1 H;have i2:=fun H => ixS_lvN encP_len ys .i64 j _ e2 H;have i3:=fun H => ixS_lvN encP_len zs .i64 j _ e3 H;have hw3:IntKind.i64.wrap ((j:Int) + 1) = ((j + 1:Nat):Int):=by rw [wrap_i64 (by omega) (by omega)]; omega
   have hw32:IntKind.i32.wrap (a + b) = a + b:=wrap_i32 (by omega) (by omega);refine .inl ⟨_,H',?_,rfl,rfl⟩;rw [ζ4o];simp -implicitDefEqProofs (disch:=omega) [hjl,hx,hy,hz,hnl,i1,i2,i3,hw3,hw32])
  (fun e H' ⟨he,hh⟩ => by
   subst he hh;refine ⟨.exit 0,_,H',?_,by simp,rfl,rfl,rfl⟩;rw [ζ4o];simp -implicitDefEqProofs)
 exact ⟨_,hr1⟩
end Go.Sw
end
section
namespace Go.Sw
open Go.RowKit
theorem two_ok {d e:List Int} (hd:d.length ≤ 2 ^ 19) (he:e.length ≤ 2 ^ 19):∀ x,x ∈ [((0:Int),d),(0,e)] → 0 ≤ x.1 ∧ x.1 < 4294967296 ∧ x.2.length ≤ 2 ^ 19:=fun x hx => by
 simp at hx;rcases hx with rfl | rfl <;> dsimp only <;> omega
theorem one_ok {d:List Int} (hd:d.length ≤ 2 ^ 19):∀ x,x ∈ [((0:Int),d)] → 0 ≤ x.1 ∧ x.1 < 4294967296 ∧ x.2.length ≤ 2 ^ 19:=fun x hx => by
 rw [List.mem_singleton.1 hx]; dsimp only; omega
theorem read26 (k:Nat) (hk:k < 1000000) {l:List (Int × List Int)} (hl:l.length ≤ 100) (hd:∀ x,x ∈ l → 0 ≤ x.1 ∧ x.1 < 4294967296 ∧ x.2.length ≤ 2 ^ 19) (hb:∀ x,x ∈ l → Byt x.2) (H:Heap) :
  R (T k) F.ζ3u [lv encB (w26 l),.int .i64 40] H = .ok (.tuple #[kerxP (kmapTo 40 l l.length),.int .i64 (if (kmapTo 40 l l.length).isSome then 0 else 2)]) H:=by
 have hby:=Byt_w26 hb;have hwl:=w26_len hl fun x hx => (hd x hx).2.2;have hrd:=ζhn k (H:=H) (Sl.lv H 1 (w26 l)) hby 40 (by omega) (fun _ H' => ζho k hk _ hby 40 (by omega) (by omega) H');unfold kerxO kerxN at hrd;rw [if_pos (by omega),if_pos (by omega),kerxS_26 40 hl hd] at hrd;exact hrd
theorem kmap_ok {l:List (Int × List Int)} (hl:l.length ≤ 100) (hd:∀ x,x ∈ l → 0 ≤ x.1 ∧ x.1 < 4294967296 ∧ x.2.length ≤ 2 ^ 19) (hb:∀ x,x ∈ l → Byt x.2) {t:List KSub} (h:kmapTo 40 l l.length = some t):(∀ y,y ∈ t → y.mv.ok) ∧ t.length < 2 ^ 31:=by
 have hby:=Byt_w26 hb;have hwl:=w26_len hl fun x hx => (hd x hx).2.2;rw [← kerxS_26 40 hl hd] at h;exact kerxS_ok hby (by omega) (by omega) h
set_option maxHeartbeats 4000000 in
theorem ζiw (ps qs:List PW) (hps:∀ p,p ∈ ps → p.ok) (hqs:∀ p,p ∈ qs → p.ok) (ids:List Int):R (T F.ζ29) F.ζe [lv encPW ps,lv encPW qs,lv encI ids] Heap.empty = .ok (.bool true) Heap.empty:=by
 generalize hk:F.ζ29 = k;have hs:=ζhu k (by subst hk; rfl);have hk6:k < 1000000:=by subst hk; decide
 clear hk;rw [ζ9p];generalize Heap.empty = H;by_cases hl:ps.length > 60
 ·have hl':(ps.length:Int) > 60:=by omega
  refine nrm_gc ⟨_,?_,Ext.refl H⟩ (.bool _);simp -implicitDefEqProofs (disch:=omega) [ζe,hs,hl']
 have hl':¬ (ps.length:Int) > 60:=by omega
 by_cases hm:qs.length > 60
 ·have hm':(qs.length:Int) > 60:=by omega
  refine nrm_gc ⟨_,?_,Ext.refl H⟩ (.bool _);simp -implicitDefEqProofs (disch:=omega) [ζe,hs,hl',hm']
 have hm':¬ (qs.length:Int) > 60:=by omega
 by_cases hi:ids.length > 30
 ·have hi':(ids.length:Int) > 30:=by omega
  refine nrm_gc ⟨_,?_,Ext.refl H⟩ (.bool _);simp -implicitDefEqProofs (disch:=omega) [ζe,hs,hl',hm',hi']
 have hi':¬ (ids.length:Int) > 30:=by omega
 have hw1:=fun H' => ζh4 k ps hps (by omega) H';have hw2:=fun H' => ζh4 k qs hqs (by omega) H';have hT1:=fun t => take_W hps (by omega) (t:=t);have hT2:=fun t => take_W hqs (by omega) (t:=t);have hdb:=ζid ps;have hdl:=ζbx ps;have heb:=ζid qs;have hel:=ζbx qs;generalize listW ps = d at hw1 hdb hdl hT1;generalize listW qs = e at hw2 heb hel hT2;have d1:=one_ok (d:=d) (by omega);have d2:=one_ok (d:=e) (by omega);have d3:=two_ok (d:=d) (e:=e) (by omega) (by omega);have y1:∀ x,x ∈ [((0:Int),d)] → Byt x.2:=fun x hx => by rw [List.mem_singleton.1 hx]; exact hdb
 have y2:∀ x,x ∈ [((0:Int),e)] → Byt x.2:=fun x hx => by rw [List.mem_singleton.1 hx]; exact heb
 have y3:∀ x,x ∈ [((0:Int),d),(0,e)] → Byt x.2:=fun x hx => by simp at hx; rcases hx with rfl | rfl <;> assumption
 have r1:=fun H' => read26 k hk6 (by simp) d1 y1 H';have r2:=fun H' => read26 k hk6 (by simp) d2 y2 H';have r3:=fun H' => read26 k hk6 (by simp) d3 y3 H';have o1:=fun t => kmap_ok (by simp) d1 y1 (t:=t);have o2:=fun t => kmap_ok (by simp) d2 y2 (t:=t);have o3:=fun t => kmap_ok (by simp) d3 y3 (t:=t);rw [show [((0:Int),d)].length = 1 from rfl,kmap_one] at r1 o1;rw [show [((0:Int),e)].length = 1 from rfl,kmap_one] at r2 o2;rw [show [((0:Int),d),(0,e)].length = 2 from rfl,kmap_two] at r3 o3;have g:=(((Star.nil H).push ⟨encSb (0,d),1,false⟩).push ⟨encSb (0,e),1,false⟩).push ⟨encSb (0,d) ++ encSb (0,e),2,false⟩;simp only [List.nil_append,List.cons_append,hn_push] at g;have w3:=w26_run k (SbSl.two (g.get 2 rfl)) (by simp) d3;have b0:=g.get 0 rfl;have b1:=g.get 1 rfl;have g:=g.push ⟨encSb (0,d),2,false⟩;simp only [List.nil_append,List.cons_append,hn_push] at g;have w1:=w26_run k (SbSl.one (g.get 3 rfl)) (by simp) d1;have g:=g.push ⟨encSb (0,e),2,false⟩;simp only [List.nil_append,List.cons_append,hn_push] at g;have w2:=w26_run k (SbSl.one (g.get 4 rfl)) (by simp) d2;cases h1:pTakeS 0 d 40 with
 | none =>
  rw [h1] at r1 r3;simp only [kerxP,Option.map_none,Option.bind_none,Option.isSome_none,Bool.false_eq_true,if_false] at r1 r3;refine nrm_gc ⟨_,?_,g.ext⟩ (.bool _);simp -implicitDefEqProofs (disch:=omega) [ζe,hs,hl',hm',hi',hw1,hw2,w3,w1,w2,r1,r2,r3]
 | some t =>
  cases h2:pTakeS 0 e 40 with
  | none =>
   rw [h1] at r1 r3;rw [h2] at r2 r3;simp only [kerxP,Option.map_none,Option.map_some,Option.bind_some,Option.isSome_none,Option.isSome_some,Bool.false_eq_true,if_false,if_true] at r1 r2 r3;refine nrm_gc ⟨_,?_,g.ext⟩ (.bool _);simp -implicitDefEqProofs (disch:=omega) [ζe,hs,hl',hm',hi',hw1,hw2,w3,w1,w2,r1,r2,r3]
  | some u =>
   have k1:=hT1 t h1;have k2:=hT2 u h2;rw [h1] at r1 r3 o1 o3;rw [h2] at r2 r3 o2 o3;have o1:=o1 _ rfl;have o2:=o2 _ rfl;have o3:=o3 _ rfl;simp only [kerxP,Option.map_some,Option.bind_some,Option.isSome_some,if_true] at r1 r2 r3;have g:=g.push ⟨repeatCells [Value.int .i64 0] ids.length,1,false⟩;simp only [List.nil_append,List.cons_append,hn_push] at g;have hmk:=fun (h:Heap) => mkR_nat 1 8 [Value.int .i64 0] .i64 .i64 ids.length h (by omega) (by decide);have hz:=ζfs (g.get 5 rfl);obtain ⟨a6,H6,e6,g⟩:=ζ7e k g 0 (List.replicate ids.length 0) (by simp; omega) hz;simp only [List.nil_append,List.cons_append,hn_push] at g e6;have hz:=ζfs (g.get 5 rfl);obtain ⟨a7,H7,e7,g⟩:=ζ7e k g 0 (List.replicate ids.length 0) (by simp; omega) hz;simp only [List.nil_append,List.cons_append] at g;have hz:=ζfs (g.get 5 rfl);obtain ⟨a8,H8,e8,g⟩:=ζ7e k g 0 (List.replicate ids.length 0) (by simp; omega) hz;simp only [List.nil_append,List.cons_append] at g;obtain ⟨c9,a9,H9,e9,g⟩:=ζ9e k g ids (by omega);simp only [List.nil_append,List.cons_append] at g;have g:=g.push ⟨nilAnk,1,false⟩;simp only [List.nil_append,List.cons_append] at g;obtain ⟨H10,e10,g,_⟩:=ζ9a k hk6 _ o3.1 o3.2 0 g 9 6 (by decide) rfl rfl (AnkIn.nil (ia:=10) (by decide) (by decide) rfl) (by simp; omega) (by simp; omega) (newPl_ok _);simp only [List.set_cons_zero,List.set_cons_succ] at g;obtain ⟨c11,a11,H11,e11,g⟩:=ζ9e k g ids (by omega);simp only [List.nil_append,List.cons_append] at g;have g:=g.push ⟨nilAnk,1,false⟩;simp only [List.nil_append,List.cons_append] at g;obtain ⟨H12,e12,g,_⟩:=ζ9a k hk6 _ o1.1 o1.2 0 g 11 7 (by decide) rfl rfl (AnkIn.nil (ia:=12) (by decide) (by decide) rfl) (by simp; omega) (by simp; omega) (newPl_ok _);simp only [List.set_cons_zero,List.set_cons_succ] at g;obtain ⟨c13,a13,H13,e13,g⟩:=ζ9e k g ids (by omega);simp only [List.nil_append,List.cons_append] at g;have g:=g.push ⟨nilAnk,1,false⟩;simp only [List.nil_append,List.cons_append] at g;obtain ⟨H14,e14,g,_⟩:=ζ9a k hk6 _ o2.1 o2.2 0 g 13 8 (by decide) rfl rfl (AnkIn.nil (ia:=14) (by decide) (by decide) rfl) (by simp; omega) (by simp; omega) (newPl_ok _);simp only [List.set_cons_zero,List.set_cons_succ] at g;rw [ζ8k,ζ8k,ζfz] at e10 g;rw [ζ8k,ζfz] at e12 e14 g;rw [ζ8k,ζfz] at g;have l1:=ζ6v t (newG ids) false ((0:Int) == 2) (newPl (List.replicate ids.length 0)) ((newG ids).length - 1);have l2:=ζ6v u (newG ids) false ((0:Int) == 2) (newPl (List.replicate ids.length 0)) ((newG ids).length - 1);have l3:=ζ6v u (newG ids) false ((0:Int) == 2) (pairsTo t (newG ids) false ((0:Int) == 2) (newPl (List.replicate ids.length 0)) ((newG ids).length - 1)) ((newG ids).length - 1);rw [l1] at l3;rw [ζmn,List.length_replicate] at l1 l2 l3;have hsum:=fun i hi => sum_at k1 k2 (newG ids) ((0:Int) == 2) ids.length ((newG ids).length - 1) i hi;generalize pairsTo u (newG ids) false ((0:Int) == 2) (pairsTo t (newG ids) false ((0:Int) == 2) (newPl (List.replicate ids.length 0)) ((newG ids).length - 1)) ((newG ids).length - 1) = X at e10 g l3 hsum;generalize pairsTo t (newG ids) false ((0:Int) == 2) (newPl (List.replicate ids.length 0)) ((newG ids).length - 1) = Y at e12 g l1 hsum;generalize pairsTo u (newG ids) false ((0:Int) == 2) (newPl (List.replicate ids.length 0)) ((newG ids).length - 1) = Z at e14 g l2 hsum;have x1:=ζ9g k hk6 g 6 (l:=X) rfl (by omega);have x2:=ζ9g k hk6 g 7 (l:=Y) rfl (by omega);have x3:=ζ9g k hk6 g 8 (l:=Z) rfl (by omega);obtain ⟨zz,hlp⟩:=sum_l1 k ids.length (by omega) X Y Z l3 l1 l2 hsum H14;unfold nilAnk at e10 e12 e14;refine nrm_gc ⟨H14,?_,g.ext⟩ (.bool _);simp -implicitDefEqProofs (disch:=omega) [ζe,hs,hl',hm',hi',hw1,hw2,w3,w1,w2,r1,r2,r3,hmk,e6,e7,e8,e9,e10,e11,e12,e13,e14,x1,x2,x3,hlp,ζ70]
theorem ζhi (vs:List Value) (h:ArgsLay [.one (.slice [.int .u16,.int .u16,.int .i16]),.one (.slice [.int .u16,.int .u16,.int .i16]),.one (.slice [.int .i64])] vs):∃ H',R (T F.ζ29) F.ζe vs Heap.empty = .ok (.bool true) H':=by
 obtain ⟨v1,_,rfl,h1,h⟩:=h.head;obtain ⟨v2,_,rfl,h2,h⟩:=h.head;obtain ⟨v3,_,rfl,h3,h⟩:=h.head;obtain rfl:=h.done;obtain ⟨d,h1⟩:=h1.cell;obtain ⟨l,rfl,hl⟩:=Lay.list (enc:=encPW) (ok:=PW.ok) (fun r cs h => row_PW h) h1;obtain ⟨d2,h2⟩:=h2.cell;obtain ⟨m,rfl,hm⟩:=Lay.list (enc:=encPW) (ok:=PW.ok) (fun r cs h => row_PW h) h2;obtain ⟨ids,rfl,_⟩:=arg_I h3;exact ⟨_,ζiw l m hl hm ids⟩
end Go.Sw
end
