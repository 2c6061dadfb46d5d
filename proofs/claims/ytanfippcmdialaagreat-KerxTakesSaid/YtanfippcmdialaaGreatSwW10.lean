/-
  Functions' forms, and what is proved of them, part 10.
-/
import Derived.Test.YtanfippcmdialaaGreatSwW9
import Derived.Test.YtanfippcmdialaaGreatSwCfg
import Derived.Test.YtanfippcmdialaaGreatSwW3
import Derived.Test.YtanfippcmdialaaGreatSwW6
import Derived.Test.YtanfippcmdialaaGreatSwW8
import Derived.Test.YtanfippcmdialaaGreatSwW5
import Derived.Test.YtanfippcmdialaaGreatSwLib10
import Derived.RangeFuncKeeps
import Derived.RangeFuncLeaves
import Derived.Shelf.Abstract
import Derived.WalkKit
import Derived.OwnWalkIn
import Derived.TacticsInMore
import Derived.LoopNIn
import Derived.LoopIn
import Derived.Tactics
import Derived.Tactics2
import Derived.Defers
import Derived.Recover
import Derived.Laws.Pointers
import Derived.Laws.IdiomCopy
import Derived.Lib.Walk
import Derived.Lib.SliceRun
import Derived.Lib.JoinLaws
import Derived.Lib.AppendZeros
import Derived.Lib.AppendZerosOnto
import Derived.Lib.Overlaps
import Derived.Laws.Externs
import Derived.Laws.NewBlocks
import Derived.Deep.RegionLaw
import Derived.Test.YtanfippcmdialaaGreatSwW7
import Derived.Test.YtanfippcmdialaaGreatSwLib8
import Derived.Eval
set_option linter.unusedSimpArgs false
set_option linter.unusedVariables false
set_option linter.unusedSectionVars false
section
namespace Go.Sw
open Go.RowKit
theorem kset_same {α:Type} {L:List α} {i:Nat} {x:α} (h:L[i]? = some x):L.set i x = L:=by
 obtain ⟨hlt,hx⟩:=List.getElem?_eq_some_iff.1 h;rw [← hx,List.set_getElem_self]
theorem kmove_star (k:Nat) (hk:k < 1000000) (m:Mv) (hm:m.ok) {H0 H:Heap} {L:List It} (h:Star H0 H L) (il ip:Nat) (hne:il ≠ ip) {c p:Nat} {o op:Option Nat} {down:Bool} (cross:Bool) {gl:List Gl} {l:List Pl} (hil:L[il]? = some (itLine c o gl)) (hip:L[ip]? = some (itPl p op down l)) {pv:Value} {pg:Int → Int → Option (Int × Int)} (hpg:AnkIn k L il ip pv pg) (hl:gl.length < 2 ^ 30) (hok:∀ q,q ∈ l → q.ok) :
  ∃ H',invokeR Prog (R (T k)) (mvV m) kmvN [ptrV c,ptrV p,pv,.bool cross] H = .ok (.int .i64 (kmoveS m gl cross down pg l).2) H' ∧ Star H0 H' (L.set ip (itPl p op down (kmoveS m gl cross down pg l).1)) ∧ ∀ q,q ∈ (kmoveS m gl cross down pg l).1 → q.ok:=by
 have hlt:=(List.getElem?_eq_some_iff.1 hip).1;have hll:=(List.getElem?_eq_some_iff.1 hil).1;cases m with
 | no =>
  refine ⟨H.push ⟨[],1,false⟩,?_,?_,hok⟩
  ·show invokeR Prog (R (T k)) (.iface tyNo _) _ _ _ = _;rw [inv_no,kerx_none_move_R,nrm_of];simp -implicitDefEqProofs [kerx_none_move,kmoveS]
  ·show Star H0 _ (L.set ip (itPl p op down l));rw [kset_same hip];exact h.rest ((Ext.refl H).push _)
 | pairs t =>
  obtain ⟨H',e,g⟩:=pairsMove_star k hk t hm h il ip hne cross hil hip pv hl hok;refine ⟨H',?_,g,pairsTo_ok t gl cross down hok _⟩;show invokeR Prog (R (T k)) (.iface tyPairs _) _ _ _ = _;rw [inv_pairs];exact e
 | stacks t =>
  have st:=h.push ⟨[stackV t],1,false⟩;obtain ⟨H',e,g⟩:=stackRun_star k t hm st il ip hne (c:=c) (p:=p) (o:=o) (op:=op) (down:=down) cross (gl:=gl) (l:=l) (by rw [List.getElem?_append_left hll]; exact hil) (by rw [List.getElem?_append_left hlt]; exact hip) (by omega) hok;rw [List.set_append_left _ _ hlt] at g;have g:=g.take L.length;rw [List.take_append_of_le_length (by simp),List.take_of_length_le (by simp)] at g;refine ⟨H',?_,g,runSt_ok t hm.m gl down cross l hok⟩;show invokeR Prog (R (T k)) (.iface tyStacks _) _ _ _ = _;rw [inv_stacks,kerx_stacks_move_R,nrm_of];simp -implicitDefEqProofs [kerx_stacks_move,e,kmoveS]
 | binds t =>
  have st:=h.push ⟨[bindV t],1,false⟩;obtain ⟨H',e,g,hko⟩:=bindRun_starG k t hm st il ip hne (c:=c) (p:=p) (o:=o) (op:=op) (down:=down) (gl:=gl) (l:=l) (by rw [List.getElem?_append_left hll]; exact hil) (by rw [List.getElem?_append_left hlt]; exact hip) hpg.ok (fun H2 l2 Y h2 => hpg.has (fun i x h1 h3 h4 => by
   have hi:=(List.getElem?_eq_some_iff.1 h4).1;rw [List.getElem?_append_left (by simp; omega),List.getElem?_set_ne (by omega),List.getElem?_append_left hi];exact h4) h2) hpg.st hpg.ce (by omega) hok
  rw [List.set_append_left _ _ hlt] at g;have g:=g.take L.length;rw [List.take_append_of_le_length (by simp),List.take_of_length_le (by simp)] at g;refine ⟨H',?_,g,hko⟩;show invokeR Prog (R (T k)) (.iface tyBinds _) _ _ _ = _;rw [inv_binds,kerx_binds_move_R,nrm_of];simp -implicitDefEqProofs [kerx_binds_move,e,kmoveS]
theorem AnkIn.more {k:Nat} {L L':List It} {il ip:Nat} {pv:Value} {pg:Int → Int → Option (Int × Int)} (h:AnkIn k L il ip pv pg) (hL:∀ i x,i ≠ il → i ≠ ip → L[i]? = some x → L'[i]? = some x):AnkIn k L' il ip pv pg:=by
 refine ⟨h.st,h.ce,h.ok,?_⟩;rcases h.at_ with h | ⟨ia,an,h1,h2,h3,h4⟩
 ·exact .inl h
 ·exact .inr ⟨ia,an,h1,h2,hL _ _ h1 h2 h3,h4⟩
theorem subTail_run {k:Nat} {H H':Heap} {x:KSub} {q:Nat} (hq:H.get q = some ⟨encK x,1,false⟩) {c p v pv:Value} (h:invokeR Prog (R (T k)) (mvV x.mv) kmvN [c,p,pv,.bool x.cov.cross] H = .ok v H'):subTail (R (T k)) c p pv (ptrV q) H = .ok v H':=by
 unfold subTail;simp -implicitDefEqProofs [hq,mv_cells,h]
theorem subRun_star (k:Nat) (hk:k < 1000000) (x:KSub) (hx:x.mv.ok) (dir:Int) {H0 H:Heap} {L:List It} (h:Star H0 H L) (il ip:Nat) (hne:il ≠ ip) {c p:Nat} {o op:Option Nat} {down:Bool} {gl:List Gl} {l:List Pl} (hil:L[il]? = some (itLine c o gl)) (hip:L[ip]? = some (itPl p op down l)) {pv:Value} {pg:Int → Int → Option (Int × Int)} (hpg:AnkIn k L il ip pv pg) (hl:gl.length < 2 ^ 30) (hll:l.length < 2 ^ 30) (hok:∀ q,q ∈ l → q.ok) :
  ∃ H',R (T k) F.kerx_sub_run [ksubV x,ptrV c,ptrV p,.int .i64 dir,pv] H = .ok (.int .i64 (subRun x dir gl down pg l).2) H' ∧ Star H0 H' (L.set ip (itPl p op down (subRun x dir gl down pg l).1)) ∧ ∀ q,q ∈ (subRun x dir gl down pg l).1 → q.ok:=by
 have hlt:=(List.getElem?_eq_some_iff.1 hip).1;have hlt2:=(List.getElem?_eq_some_iff.1 hil).1;have hbx:boxR (ksubV x) H = .ok (ptrV H.n) (H.push ⟨encK x,1,false⟩):=by
  simp -implicitDefEqProofs [mv_st]
 have hf0:∀ H',fieldAddrR Prog 213 (ptrV H.n) 0 H' = .ok (ptrV H.n) H':=fun H' => by
  simp -implicitDefEqProofs
 have st:=h.push ⟨encK x,1,false⟩;have hil1:(L ++ [itBlk H.n ⟨encK x,1,false⟩])[il]? = some (itLine c o gl):=by rw [List.getElem?_append_left hlt2]; exact hil
 have hip1:(L ++ [itBlk H.n ⟨encK x,1,false⟩])[ip]? = some (itPl p op down l):=by rw [List.getElem?_append_left hlt]; exact hip
 have hq1:(L ++ [itBlk H.n ⟨encK x,1,false⟩])[L.length]? = some (itBlk H.n ⟨encK x,1,false⟩):=by simp
 have hld:∀ H':Heap,H'.get H.n = some ⟨encK x,1,false⟩ → loadR Prog 209 (ptrV H.n) H' = .ok (covV x.cov) H':=fun H' hg => by
  simp -implicitDefEqProofs [hg]
 have ht:=fun H' => turned_run k x.cov dir H';have hmore:∀ i y,i ≠ il → i ≠ ip → L[i]? = some y → (L ++ [itBlk H.n ⟨encK x,1,false⟩])[i]? = some y:=fun i y h1 h2 h3 => by
  rw [List.getElem?_append_left (List.getElem?_eq_some_iff.1 h3).1]; exact h3
 rw [kerx_sub_run_D];unfold subRun;cases hT:turnedS x.cov dir with
 | false =>
  rw [hT] at ht;obtain ⟨H2,e2,g2,hko⟩:=kmove_star k hk x.mv hx st il ip hne x.cov.cross hil1 hip1 (pv:=pv) (pg:=pg) (hpg.more hmore) hl hok;rw [List.set_append_left _ _ hlt] at g2;have g2:=g2.take L.length;rw [List.take_append_of_le_length (by simp),List.take_of_length_le (by simp)] at g2;refine ⟨H2,?_,g2,hko⟩;exact nrm_of (sub_no (R (T k)) hbx (hf0 _) (hld _ (st.get _ hq1)) (ht _) (subTail_run (st.get _ hq1) e2))
 | true =>
  rw [hT] at ht;obtain ⟨H2,e2,g2⟩:=lineTurn_star k st il hil1 (by omega);have hip2:((L ++ [itBlk H.n ⟨encK x,1,false⟩]).set il (itLine c o gl.reverse))[ip]? = some (itPl p op down l):=by rw [List.getElem?_set_ne hne]; exact hip1
  obtain ⟨H3,e3,g3⟩:=turnPl_star k g2 ip hip2 (by omega);have hil3:(((L ++ [itBlk H.n ⟨encK x,1,false⟩]).set il (itLine c o gl.reverse)).set ip (itPl p op down l.reverse))[il]? = some (itLine c o gl.reverse):=by
   rw [List.getElem?_set_ne (Ne.symm hne),List.getElem?_set_self (by simp; omega)]
  have hip3:(((L ++ [itBlk H.n ⟨encK x,1,false⟩]).set il (itLine c o gl.reverse)).set ip (itPl p op down l.reverse))[ip]? = some (itPl p op down l.reverse):=by
   rw [List.getElem?_set_self (by simp; omega)]
  have hq3:(((L ++ [itBlk H.n ⟨encK x,1,false⟩]).set il (itLine c o gl.reverse)).set ip (itPl p op down l.reverse))[L.length]? = some (itBlk H.n ⟨encK x,1,false⟩):=by
   rw [List.getElem?_set_ne (by omega),List.getElem?_set_ne (by omega)]; exact hq1
  obtain ⟨H4,e4,g4,hko⟩:=kmove_star k hk x.mv hx g3 il ip hne x.cov.cross hil3 hip3 (pv:=pv) (pg:=pg) (hpg.more fun i y h1 h2 h3 => by
   rw [List.getElem?_set_ne (Ne.symm h2),List.getElem?_set_ne (Ne.symm h1)]; exact hmore i y h1 h2 h3) (by simpa using hl) (fun q hq => hok q (by simpa using hq))
  have hlen:=kmoveS_len x.mv hx gl.reverse x.cov.cross down pg l.reverse;generalize kmoveS x.mv gl.reverse x.cov.cross down pg l.reverse = res at e4 g4 hlen hko;rw [List.set_set] at g4;have hip4:(((L ++ [itBlk H.n ⟨encK x,1,false⟩]).set il (itLine c o gl.reverse)).set ip (itPl p op down res.1))[ip]? = some (itPl p op down res.1):=by
   rw [List.getElem?_set_self (by simp; omega)]
  obtain ⟨H5,e5,g5⟩:=turnPl_star k g4 ip hip4 (by rw [hlen,List.length_reverse]; omega);rw [List.set_set] at g5;have hil5:(((L ++ [itBlk H.n ⟨encK x,1,false⟩]).set il (itLine c o gl.reverse)).set ip (itPl p op down res.1.reverse))[il]? = some (itLine c o gl.reverse):=by
   rw [List.getElem?_set_ne (Ne.symm hne),List.getElem?_set_self (by simp; omega)]
  obtain ⟨H6,e6,g6⟩:=lineTurn_star k g5 il hil5 (by simp; omega);rw [List.reverse_reverse,List.set_comm _ _ (Ne.symm hne),List.set_set,kset_same hil1,List.set_append_left _ _ hlt] at g6;have g6:=g6.take L.length;rw [List.take_append_of_le_length (by simp),List.take_of_length_le (by simp)] at g6;refine ⟨H6,?_,g6,fun q hq => hko q (by simpa using hq)⟩;exact nrm_of (sub_yes (R (T k)) hbx (hf0 _) (hld _ (st.get _ hq1)) (ht _) e2 e3 (subTail_run (g3.get _ hq3) e4) (placesTurn_body e5) (lineTurn_body e6))
end Go.Sw
end
section
namespace Go.Sw
open Go.RowKit
def runKs (dir:Int) (gl:List Gl) (down:Bool) (pg:Int → Int → Option (Int × Int)):List KSub → Nat → List Pl → List Pl × Int × Nat
 | [],_,l => (l,0,0)
 | x :: xs,j,l => if runsS x.cov dir then (if (subRun x dir gl down pg l).2 = 0 then runKs dir gl down pg xs (j + 1) (subRun x dir gl down pg l).1 else ((subRun x dir gl down pg l).1,(subRun x dir gl down pg l).2,j)) else runKs dir gl down pg xs (j + 1) l
abbrev fltV (z:Int) (j:Nat):Value:=.agg #[.int .i64 z,.int .i64 0,.int .i64 j]
theorem runKs_len (dir:Int) (gl:List Gl) (down:Bool) (pg:Int → Int → Option (Int × Int)):∀ (t:List KSub) (j:Nat) (l:List Pl),(∀ x,x ∈ t → x.mv.ok) → (runKs dir gl down pg t j l).1.length = l.length
 | [],_,_,_ => rfl
 | x :: xs,j,l,h => by
  have h1:=subRun_len x (h x List.mem_cons_self) dir gl down pg l;unfold runKs;split
  ·split
   ·rw [runKs_len dir gl down pg xs (j + 1) _ fun y hy => h y (List.mem_cons_of_mem _ hy),h1]
   ·exact h1
  ·exact runKs_len dir gl down pg xs (j + 1) l fun y hy => h y (List.mem_cons_of_mem _ hy)
set_option maxHeartbeats 1000000 in
theorem kerxRun_star (k:Nat) (hk:k < 1000000) (t:List KSub) (ht:∀ x,x ∈ t → x.mv.ok) (htl:t.length < 2 ^ 31) (dir:Int) {H0 H:Heap} {L:List It} (h:Star H0 H L) (il ip:Nat) (hne:il ≠ ip) {c p:Nat} {o op:Option Nat} {down:Bool} {gl:List Gl} {l:List Pl} (hil:L[il]? = some (itLine c o gl)) (hip:L[ip]? = some (itPl p op down l)) {pv:Value} {pg:Int → Int → Option (Int × Int)} (hpg:AnkIn k L il ip pv pg) (hl:gl.length < 2 ^ 30) (hll:l.length < 2 ^ 30) (hok:∀ q,q ∈ l → q.ok) :
  ∃ H',R (T k) F.kerx_Table_Run [kerxV t,ptrV c,ptrV p,.int .i64 dir,pv] H = .ok (fltV (runKs dir gl down pg t 0 l).2.1 (runKs dir gl down pg t 0 l).2.2) H' ∧ Star H0 H' (L.set ip (itPl p op down (runKs dir gl down pg t 0 l).1)) ∧ ∀ q,q ∈ (runKs dir gl down pg t 0 l).1 → q.ok:=by
 generalize hW:runKs dir gl down pg t 0 l = W;have hlt:=(List.getElem?_eq_some_iff.1 hip).1;have hlt2:=(List.getElem?_eq_some_iff.1 hil).1;have st:=h.push ⟨[.int .i64 0,.int .i64 0,.int .i64 0],1,false⟩
 obtain ⟨xx,e',H1,hr1,hQ⟩:=loop_up (body:=kerx_Table_Run_l1 k (R (T k))) t.length
  (fun j e' H' => e' = [(1,ptrV c),(2,ptrV p),(3,.int .i64 dir),(4,pv),(10,ptrV H.n),(17,lv encK t),(18,.int .i64 t.length),(19,.int .i64 j)] ∧ ∃ lj,Star H0 H' (L.set ip (itPl p op down lj) ++ [itBlk H.n ⟨[.int .i64 0,.int .i64 0,.int .i64 0],1,false⟩]) ∧ lj.length = l.length ∧ (∀ q,q ∈ lj → q.ok) ∧ W = runKs dir gl down pg (t.drop j) j lj)
  (fun xx e' H' => (∀ q,q ∈ W.1 → q.ok) ∧ ((xx = .ret ∧ e' = [(10,ptrV H.n)] ∧ Star H0 H' (L.set ip (itPl p op down W.1) ++ [itBlk H.n ⟨[.int .i64 W.2.1,.int .i64 0,.int .i64 W.2.2],1,false⟩])) ∨
   (xx = .exit 0 ∧ (∃ z,e' = [(1,ptrV c),(2,ptrV p),(3,.int .i64 dir),(4,pv),(10,ptrV H.n),(17,lv encK t),(18,.int .i64 t.length),(19,z),(20,.bool false)]) ∧ W.2 = (0,0) ∧ Star H0 H' (L.set ip (itPl p op down W.1) ++ [itBlk H.n ⟨[.int .i64 0,.int .i64 0,.int .i64 0],1,false⟩]))))
  (e0:=[(1,ptrV c),(2,ptrV p),(3,.int .i64 dir),(4,pv),(10,ptrV H.n),(17,lv encK t),(18,.int .i64 t.length),(19,.int .i64 0)]) (H0:=H.push ⟨[.int .i64 0,.int .i64 0,.int .i64 0],1,false⟩) ⟨rfl,l,by rw [kset_same hip]; exact st,rfl,hok,hW.symm⟩ (by omega)
  (fun j e' H' hj ⟨he',lj,st,hlj,hokj,hrun⟩ => by
   subst he';have hjl:(j:Int) < t.length:=by omega
   have hx:t[j]? = some t[j]:=List.getElem?_eq_getElem hj;have hxm:t[j].mv.ok:=ht _ (List.getElem_mem hj);rw [List.drop_eq_getElem_cons hj] at hrun;generalize t[j] = x at hx hxm hrun;have i0:=fun H' => ixS_lvN encK_len t .i64 j x hx H';have w2:IntKind.i64.wrap ((j:Int) + 1) = ((j + 1:Nat):Int):=by rw [wrap_i64 (by omega) (by omega)]; omega
   have hru:=fun H' => runs_run k x.cov dir H';have st2:=st.push ⟨encK x,1,false⟩;have hil2:((L.set ip (itPl p op down lj) ++ [itBlk H.n ⟨[.int .i64 0,.int .i64 0,.int .i64 0],1,false⟩]) ++ [itBlk H'.n ⟨encK x,1,false⟩])[il]? = some (itLine c o gl):=by
    rw [List.append_assoc,List.getElem?_append_left (by simpa using hlt2),List.getElem?_set_ne (Ne.symm hne)]; exact hil
   have hip2:((L.set ip (itPl p op down lj) ++ [itBlk H.n ⟨[.int .i64 0,.int .i64 0,.int .i64 0],1,false⟩]) ++ [itBlk H'.n ⟨encK x,1,false⟩])[ip]? = some (itPl p op down lj):=by
    rw [List.append_assoc,List.getElem?_append_left (by simpa using hlt),List.getElem?_set_self hlt]
   unfold runKs at hrun;cases hT:runsS x.cov dir with
   | false =>
    rw [hT] at hru;rw [hT,if_neg (by simp)] at hrun;refine .inl ⟨_,H'.push ⟨encK x,1,false⟩,?_,rfl,lj,?_,hlj,hokj,hrun⟩
    ·rw [kerx_Table_Run_l1_eq];simp -implicitDefEqProofs [hjl,i0,hru,kerx_Table_Run_j1_eq,w2,mv_st,mv_cells]
    ·exact st.rest ((Ext.refl H').push _)
   | true =>
    rw [hT] at hru;rw [hT,if_pos rfl] at hrun;obtain ⟨H2,e2,g2,hko⟩:=subRun_star k hk x hxm dir st2 il ip hne hil2 hip2 (pv:=pv) (pg:=pg) (hpg.more fun i y h1 h2 h3 => by
     rw [List.append_assoc,List.getElem?_append_left (by simpa using (List.getElem?_eq_some_iff.1 h3).1),List.getElem?_set_ne (Ne.symm h2)]; exact h3) hl (by omega) hokj
    have hlen:=subRun_len x hxm dir gl down pg lj;generalize subRun x dir gl down pg lj = res at e2 g2 hko hrun hlen;rw [List.append_assoc,List.set_append_left _ _ (by simpa using hlt),List.set_set,← List.append_assoc] at g2;have g2:=g2.take ((L.set ip (itPl p op down lj)).length + 1);rw [List.take_append_of_le_length (by simp),List.take_of_length_le (by simp)] at g2;by_cases hz:res.2 = 0
    ·rw [if_pos hz] at hrun;refine .inl ⟨_,H2,?_,rfl,res.1,g2,by omega,hko,hrun⟩;rw [kerx_Table_Run_l1_eq];simp -implicitDefEqProofs [hjl,i0,hru,kerx_Table_Run_j2_eq,w2,mv_st,mv_cells,e2,hz]
    ·rw [if_neg hz] at hrun;have hz2:(res.2 != 0) = true:=by simpa using hz
     have hlast:(L.set ip (itPl p op down res.1) ++ [itBlk H.n ⟨[.int .i64 0,.int .i64 0,.int .i64 0],1,false⟩])[L.length]? = some (itBlk H.n ⟨[.int .i64 0,.int .i64 0,.int .i64 0],1,false⟩):=by
      rw [List.getElem?_append_right (by simp)]; simp
     obtain ⟨H3,e3,g3,_⟩:=Star.stAll g2 L.length hlast [.int .i64 res.2,.int .i64 0,.int .i64 j] 3 rfl rfl;rw [List.set_append_right _ _ (by simp)] at g3;simp only [List.length_set,Nat.sub_self,List.set_cons_zero] at g3;refine .inr ⟨.ret,_,H3,?_,by simp,?_,.inl ⟨rfl,rfl,?_⟩⟩
     ·rw [kerx_Table_Run_l1_eq];simp -implicitDefEqProofs [hjl,i0,hru,mv_st,mv_cells,e2,hz2,e3]
     ·rw [hrun]; exact hko
     ·rw [hrun]; exact g3)
  (fun e' H' ⟨he',lj,st,hlj,hokj,hrun⟩ => by
   subst he';rw [List.drop_length] at hrun;replace hrun:W = (lj,0,0):=hrun;refine ⟨.exit 0,[(1,ptrV c),(2,ptrV p),(3,.int .i64 dir),(4,pv),(10,ptrV H.n),(17,lv encK t),(18,.int .i64 t.length),(19,.int .i64 t.length),(20,.bool false)],H',?_,by simp,?_,.inr ⟨rfl,⟨_,rfl⟩,?_,?_⟩⟩
   ·rw [kerx_Table_Run_l1_eq];simp -implicitDefEqProofs
   ·rw [hrun]; exact hokj
   ·rw [hrun]
   ·rw [hrun]; exact st)
 obtain ⟨hko,hQ⟩:=hQ;have fin:∀ {H':Heap} {b:It},Star H0 H' (L.set ip (itPl p op down W.1) ++ [b]) → Star H0 H' (L.set ip (itPl p op down W.1)):=fun g => by
  have:=g.take (L.set ip (itPl p op down W.1)).length
  rwa [List.take_append_of_le_length (by simp),List.take_of_length_le (by simp)] at this
 have hlast:∀ (b:It),(L.set ip (itPl p op down W.1) ++ [b])[L.length]? = some b:=fun b => by
  rw [List.getElem?_append_right (by simp)]; simp
 rcases hQ with ⟨rfl,rfl,st1⟩ | ⟨rfl,⟨z,rfl⟩,hz,st1⟩
 ·have hg:=st1.get _ (hlast _);refine ⟨H1,?_,fin st1,hko⟩;rw [kerx_Table_Run_R,nrm_of];simp -implicitDefEqProofs [kerx_Table_Run,hr1,kerx_Table_Run_l1k_r,hg]
 ·obtain ⟨H2,e2,g2,_⟩:=Star.stAll st1 L.length (hlast _) [.int .i64 0,.int .i64 0,.int .i64 0] 3 rfl rfl;rw [List.set_append_right _ _ (by simp)] at g2;simp only [List.length_set,Nat.sub_self,List.set_cons_zero] at g2;have hg:=g2.get _ (hlast _);have h1:W.2.1 = 0:=by rw [hz]
  have h2:W.2.2 = 0:=by rw [hz]
  rw [h1,h2];refine ⟨H2,?_,fin g2,hko⟩;rw [kerx_Table_Run_R,nrm_of];simp -implicitDefEqProofs [kerx_Table_Run,hr1,kerx_Table_Run_l1k_x0,e2,hg]
end Go.Sw
end
section
set_option maxRecDepth 100000
set_option linter.unusedVariables false
namespace Go.Sw
noncomputable section
def swashlaw26_KerxTakes (k:Nat) (call:Caller) (a0 a1:Value) (h:Heap):Res Value :=
 (boxR a0 h).bind fun v1 h2 =>
 (call F.swashlaw26_speaks [] h2).bind fun v3 h4 =>
 (unR .not v3 h4).bind fun v5 h6 =>
 condV (some v5) (
 .ok (.bool false) h6)
 (
 (loadR Prog 22 v1 h6).bind fun v7 h8 =>
 (builtinV Prog .len [22] [v7] h8).bind fun v9 h10 =>
 (binR Prog .gtr 3 v9 (.int .i64 800) h10).bind fun v11 h12 =>
 ((bif wantVal v11 false then Res.ok a1 h12 else Res.ok undef h12)).bind fun v13 h14 =>
 ((bif wantVal v11 false then builtinV Prog .len [30] [v13] h14 else Res.ok undef h14)).bind fun v15 h16 =>
 ((bif wantVal v11 false then binR Prog .gtr 3 v15 (.int .i64 40) h16 else Res.ok undef h16)).bind fun v17 h18 =>
 (condV (some v11) (Res.ok (.bool true) h18) (Res.ok v17 h18)).bind fun v19 h20 =>
 condV (some v19) (
 .ok (.bool true) h20)
 (
 (allocR Prog 98 h20).bind fun v21 h22 =>
 (call F.view_Try [(.func (.func F.swashlaw26_KerxTakes_in1) #[] #[v1,v21])] h22).bind fun v23 h24 =>
 (loadR Prog 22 v1 h24).bind fun v25 h26 =>
 (call F.kerx_Read [v25,(.int .i64 40)] h26).bind fun v27 h28 =>
 (extractR v27 0 h28).bind fun v29 h30 =>
 (extractR v27 1 h30).bind fun v31 h32 =>
 (binR Prog .eql 37 v31 (.int .i64 0) h32).bind fun v33 h34 =>
 (binR Prog .neq 4 v23 v33 h34).bind fun v35 h36 =>
 ((bif wantVal v35 false then Res.ok v23 h36 else Res.ok undef h36)).bind fun v37 h38 =>
 ((bif wantVal v35 false then loadR Prog 98 v21 h38 else Res.ok undef h38)).bind fun v39 h40 =>
 ((bif wantVal v35 false then binR Prog .neq 98 v39 (.pointer none) h40 else Res.ok undef h40)).bind fun v41 h42 =>
 ((bif wantVal v35 false then binR Prog .neq 4 v37 v41 h42 else Res.ok undef h42)).bind fun v43 h44 =>
 (condV (some v35) (Res.ok (.bool true) h44) (Res.ok v43 h44)).bind fun v45 h46 =>
 ((bif wantVal v45 false then Res.ok v23 h46 else Res.ok undef h46)).bind fun v47 h48 =>
 ((bif wantVal v45 false then Res.ok v29 h48 else Res.ok undef h48)).bind fun v49 h50 =>
 ((bif wantVal v45 false then binR Prog .neq 98 v49 (.pointer none) h50 else Res.ok undef h50)).bind fun v51 h52 =>
 ((bif wantVal v45 false then binR Prog .neq 4 v47 v51 h52 else Res.ok undef h52)).bind fun v53 h54 =>
 (condV (some v45) (Res.ok (.bool true) h54) (Res.ok v53 h54)).bind fun v55 h56 =>
 condV (some v55) (
 .ok (.bool false) h56)
 (
 (unR .not v23 h56).bind fun v57 h58 =>
 condV (some v57) (
 .ok (.bool true) h58)
 (
 (builtinV Prog .len [30] [a1] h58).bind fun v59 h60 =>
 (makeSliceV Prog 30 v59 v59 h60).bind fun v61 h62 =>
 (call F.place_New [(.int .i64 1),v61] h62).bind fun v63 h64 =>
 (call F.place_New [(.int .i64 1),v61] h64).bind fun v65 h66 =>
 (loadR Prog 98 v21 h66).bindN fun v67 h68 =>
 (call F.line_New [a1] h68).bindT (fun p71 h72 => (buildR Prog 115 [] h68).bindN fun v73 h74 => (boxR v73 h74).bindN fun v75 h76 => (buildR Prog 115 [] h76).bindN fun v77 h78 => (boxR v77 h78).bindN fun v79 h80 => chkR ((okVal (loadR Prog 98 v21 h76) v67 && true) && true) (.panic p71 h72)) fun v69 h70 =>
 (buildR Prog 115 [] h70).bindN fun v81 h82 =>
 (boxR v81 h82).bindN fun v83 h84 =>
 (call F.kerx_Table_Run [v67,v69,v63,(.int .i64 1),v83] h84).bindT (fun p87 h88 => (buildR Prog 115 [] h84).bindN fun v89 h90 => (boxR v89 h90).bindN fun v91 h92 => chkR ((okVal (loadR Prog 98 v21 h70) v67 && (okVal (loadR Prog 98 v21 h84) v67 && true)) && true) (.panic p87 h88)) fun v85 h86 =>
 (call F.line_New [a1] h86).bindT (fun p95 h96 => (buildR Prog 115 [] h86).bindN fun v97 h98 => (boxR v97 h98).bindN fun v99 h100 => chkR ((okVal (loadR Prog 98 v21 h70) v67 && (okVal (loadR Prog 98 v21 h84) v67 && true)) && true) (.panic p95 h96)) fun v93 h94 =>
 (buildR Prog 115 [] h94).bindN fun v101 h102 =>
 (boxR v101 h102).bindN fun v103 h104 =>
 (call F.kerx_Table_Run [v29,v93,v65,(.int .i64 1),v103] h104).bindT (fun p107 h108 => chkR ((okVal (loadR Prog 98 v21 h70) v67 && (okVal (loadR Prog 98 v21 h84) v67 && true)) && true) (.panic p107 h108)) fun v105 h106 =>
 (binR Prog .eql 109 v85 v105 h106).bindN fun v109 h110 =>
 ((bif wantVal v109 true then Res.ok v63 h110 else Res.ok undef h110)).bindN fun v111 h112 =>
 ((bif wantVal v109 true then call F.place_Places_All [v111] h112 else Res.ok undef h112)).bindT (fun p115 h116 => ((bif wantVal v109 true then Res.ok v65 h112 else Res.ok undef h112)).bindN fun v117 h118 => chkR ((okVal (loadR Prog 98 v21 h70) v67 && (okVal (loadR Prog 98 v21 h84) v67 && true)) && true) (.panic p115 h116)) fun v113 h114 =>
 ((bif wantVal v109 true then Res.ok v65 h114 else Res.ok undef h114)).bindN fun v119 h120 =>
 ((bif wantVal v109 true then call F.place_Places_All [v119] h120 else Res.ok undef h120)).bindT (fun p123 h124 => chkR ((okVal (loadR Prog 98 v21 h70) v67 && (okVal (loadR Prog 98 v21 h84) v67 && true)) && true) (.panic p123 h124)) fun v121 h122 =>
 ((bif wantVal v109 true then call F.swashref21_Same [v113,v121] h122 else Res.ok undef h122)).bindT (fun p127 h128 => chkR ((okVal (loadR Prog 98 v21 h70) v67 && (okVal (loadR Prog 98 v21 h84) v67 && true)) && true) (.panic p127 h128)) fun v125 h126 =>
 (condV (some v109) (Res.ok v125 h126) (Res.ok (.bool false) h126)).bindN fun v129 h130 =>
 chkR ((okVal (loadR Prog 98 v21 h70) v67 && (okVal (loadR Prog 98 v21 h84) v67 && true)) && true) (
 .ok v129 h130)))))
theorem swashlaw26_KerxTakes_R (k:Nat) (a0 a1:Value) (h:Heap):R (T k) F.swashlaw26_KerxTakes [a0,a1] h = nrm .gc h (swashlaw26_KerxTakes k (R (T k)) a0 a1 h) :=
 (R_body (t:=T k) (T_scott k) (by kernel_rfl) (by kernel_rfl) _ _).trans (by kernel_rfl)
def swashlaw26_KerxTakes_in1 (k:Nat) (call:Caller) (a0 a1:Value) (h:Heap):Res Value :=
 (loadR Prog 22 a0 h).bind fun v1 h2 =>
 (call F.view_Of [v1] h2).bind fun v3 h4 =>
 (call F.kerx_Take [v3,(.int .i64 40)] h4).bind fun v5 h6 =>
 (storeR Prog 98 a1 v5 h6).bind fun _v7 h8 =>
 .ok (.tuple #[]) h8
theorem swashlaw26_KerxTakes_in1_R (k:Nat) (a0 a1:Value) (h:Heap):R (T k) F.swashlaw26_KerxTakes_in1 [a0,a1] h = nrm .no h (swashlaw26_KerxTakes_in1 k (R (T k)) a0 a1 h) :=
 (R_body (t:=T k) (T_scott k) (by kernel_rfl) (by kernel_rfl) _ _).trans (by kernel_rfl)
end
end Go.Sw
end
section
namespace Go.Sw
open Go.RowKit
end Go.Sw
end
section
set_option maxRecDepth 100000
set_option linter.unusedVariables false
namespace Go.Sw
noncomputable section
end
end Go.Sw
end
section
namespace Go.Sw
open Go.RowKit
theorem nought_rows:∀ n:Nat,repeatCells [Value.int .i64 0] n = rows encI (List.replicate n 0)
 | 0 => rfl
 | n + 1 => by
  have ih:=nought_rows n;show [Value.int .i64 0] ++ repeatCells [Value.int .i64 0] n = _;rw [ih,List.replicate_succ];rfl
theorem nought_sl {H:Heap} {b n:Nat} (hg:H.get b = some ⟨repeatCells [Value.int .i64 0] n,1,false⟩):Sl H 1 (.slice (some ⟨b,0,none⟩) n n) encI (List.replicate n 0) :=
 .inr (.inr ⟨b,0,n,_,by rw [List.length_replicate],by rw [List.length_replicate]; exact Nat.le_refl _,hg,by rw [List.drop_zero,nought_rows,List.take_of_length_le (by rw [rows_length encI_len]; exact Nat.le_refl _)]⟩)
end Go.Sw
end
section
namespace Go.Sw
open Go.RowKit
theorem speaks26_run (k:Nat) (hk:k % 1000000 = F.swashlaw26_speaks) (H:Heap):R (T k) F.swashlaw26_speaks [] H = .ok (.bool true) H :=
 (R_sp (t:=T k) (T_scott k) (s:=constSp (.bool true)) (by unfold T C; dsimp only; rw [hk]; kernel_rfl) [] H).trans (nrm_gc (Pure.of rfl) (.bool _))
theorem KerxTakes_in1 (k:Nat) (hk:k < 1000000) {H:Heap} (b:List Int) (hb:Byt b) (hl:b.length < 2 ^ 31) (p2 p3:Nat) (old:Value)
  (h2:H.get p2 = some ⟨[lv encB b],1,false⟩) (h3:H.get p3 = some ⟨[old],1,false⟩) :
  R (T k) F.swashlaw26_KerxTakes_in1 [ptrV p2,ptrV p3] H = match kerxS b 40 with
   | some x => .ok (.tuple #[]) (H.set p3 (some ⟨[kerxV x],1,false⟩))
   | none => .panic failV H:=by
 rw [swashlaw26_KerxTakes_in1_R];have ht:=kerxTake_run k hk b hb 40 (by omega) hl H;have ho:=fun H => Of_lv k b H;cases h:kerxS b 40 with
 | none =>
  rw [h] at ht;refine nrm_throw ⟨H,?_,Ext.refl H⟩ Flat.fail.alive;simp -implicitDefEqProofs (disch:=omega) [swashlaw26_KerxTakes_in1,h2,ho,ht]
 | some x =>
  rw [h] at ht;simp -implicitDefEqProofs (disch:=omega) [swashlaw26_KerxTakes_in1,h2,h3,ho,ht]
theorem AnkIn.nil {k:Nat} {L:List It} {il ip ia an:Nat} (h1:ia ≠ il) (h2:ia ≠ ip) (h:L[ia]? = some (itBlk an ⟨nilAnk,1,false⟩)):AnkIn k L il ip (ptrV an) noPg :=
 ⟨rfl,rfl,noPg_ok,.inr ⟨ia,an,h1,h2,h,rfl,rfl⟩⟩
theorem veq_look (o:Option (Int × List Pt)):veq (lookV o) (lookV o) = true:=by
 cases o with
 | none => exact veq_ptr none
 | some x => exact veq_tab x
theorem veq_ptab (t:PTab):veq (ptabV t) (ptabV t) = true:=veq_boxV (l:=ptabC t) fun v hv => by
 simp [ptabC] at hv;rcases hv with rfl | rfl | rfl | rfl | rfl | rfl
 ·exact veq_I _
 ·exact veq_B _
 ·exact veq_look _
 ·exact veq_look _
 ·simp
 ·simp
theorem veq_mv (m:Mv):veq (mvV m) (mvV m) = true:=by
 cases m with
 | no => rfl
 | pairs t => simp [mvV,veq,veqs,veq_ptab t]
 | stacks t => simp [mvV,veq,veqs,veq_stack t]
 | binds t => simp [mvV,veq,veqs,veq_bind t]
theorem veq_kerx (t:List KSub):veq (kerxV t) (kerxV t) = true:=veq_boxV (l:=[lv encK t]) fun v hv => by
 simp at hv;subst hv;refine veq_lv fun x _ v hv => ?_;simp at hv;rcases hv with rfl | rfl | rfl | rfl | rfl | rfl <;> simp [veq_mv]
theorem veq_flt (z:Int) (j:Nat):veq (fltV z j) (fltV z j) = true:=veq_agg (l:=[.int .i64 z,.int .i64 0,.int .i64 j]) fun u hu => by
 simp at hu; rcases hu with rfl | rfl | rfl <;> simp
set_option maxHeartbeats 2000000 in
theorem KerxTakes_run (b:List Int) (hb:Byt b) (ids:List Int):R (T F.swashlaw26_speaks) F.swashlaw26_KerxTakes [lv encB b,lv encI ids] Heap.empty = .ok (.bool true) Heap.empty:=by
 generalize hk:F.swashlaw26_speaks = k;have hs:=speaks26_run k (by subst hk; rfl);have hk6:k < 1000000:=by subst hk; decide
 clear hk;rw [swashlaw26_KerxTakes_R];generalize Heap.empty = H;have hx1:Ext H (H.push ⟨[lv encB b],1,false⟩):=(Ext.refl H).push _;by_cases hl:b.length > 800
 ·have hl':(b.length:Int) > 800:=by omega
  refine nrm_gc ⟨_,?_,hx1⟩ (.bool _);simp -implicitDefEqProofs (disch:=omega) [swashlaw26_KerxTakes,hs,hl']
 have hl':¬ (b.length:Int) > 800:=by omega
 by_cases hi:ids.length > 40
 ·have hi':(ids.length:Int) > 40:=by omega
  refine nrm_gc ⟨_,?_,hx1⟩ (.bool _);simp -implicitDefEqProofs (disch:=omega) [swashlaw26_KerxTakes,hs,hl',hi']
 have hi':¬ (ids.length:Int) > 40:=by omega
 have hin:=KerxTakes_in1 k hk6 (H:=(H.push ⟨[lv encB b],1,false⟩).push ⟨[.pointer none],1,false⟩) b hb (by omega) H.n (H.n + 1) (.pointer none) (by simp) (by simp);have hrd:=fun H' => kerxRead_run k (H:=H') (Sl.lv H' 1 b) hb 40 (by omega) (fun _ H' => kerxTake_run k hk6 b hb 40 (by omega) (by omega) H');unfold kerxO kerxN at hrd;rw [if_pos (by omega),if_pos (by omega)] at hrd;cases h:kerxS b 40 with
 | none =>
  rw [h] at hin hrd;simp only [kerxP,Option.isSome_none,Bool.false_eq_true,if_false] at hrd;have ht:=Try_no k F.swashlaw26_KerxTakes_in1 #[ptrV H.n,ptrV (H.n + 1)] hin;refine nrm_gc ⟨_,?_,hx1.push ⟨[.pointer none],1,false⟩⟩ (.bool _);simp -implicitDefEqProofs (disch:=omega) [swashlaw26_KerxTakes,hs,hl',hi',ht,hrd]
 | some t =>
  rw [h] at hin hrd;simp only [kerxP,Option.isSome_some,if_true] at hrd;have ht:=Try_ok k F.swashlaw26_KerxTakes_in1 #[ptrV H.n,ptrV (H.n + 1)] hin;simp at ht;obtain ⟨hok,htl⟩:=kerxS_ok hb (by omega) (by omega) h;have g:=(((Star.nil H).push ⟨[lv encB b],1,false⟩).push ⟨[kerxV t],1,false⟩).push ⟨repeatCells [Value.int .i64 0] ids.length,1,false⟩;simp only [List.nil_append,List.cons_append,hn_push] at g;have hmk:=fun (h:Heap) => mkR_nat 1 8 [Value.int .i64 0] .i64 .i64 ids.length h (by omega) (by decide);have hz:=nought_sl (g.get 2 rfl);obtain ⟨o1,H1,e1,g⟩:=placeNew_starG k g 1 (List.replicate ids.length 0) (by simp; omega) hz;simp only [List.nil_append,List.cons_append,hn_push] at g e1;have hz:=nought_sl (g.get 2 rfl);obtain ⟨o2,H2,e2,g⟩:=placeNew_starG k g 1 (List.replicate ids.length 0) (by simp; omega) hz;simp only [List.nil_append,List.cons_append] at g;have b2:=g.get 1 rfl;obtain ⟨c1,o3,H3,e3,g⟩:=lineNew_star k g ids (by omega);simp only [List.nil_append,List.cons_append] at g;have b3:=g.get 1 rfl;have g:=g.push ⟨nilAnk,1,false⟩;simp only [List.nil_append,List.cons_append] at g;have b3':=g.get 1 rfl;obtain ⟨H4,e4,g,ok4⟩:=kerxRun_star k hk6 t hok htl 1 g 5 3 (by decide) rfl rfl (AnkIn.nil (ia:=6) (by decide) (by decide) rfl) (by simp; omega) (by simp; omega) (newPl_ok _);simp only [List.set_cons_zero,List.set_cons_succ] at g;have b4:=g.get 1 rfl;obtain ⟨c2,o4,H5,e5,g⟩:=lineNew_star k g ids (by omega);simp only [List.nil_append,List.cons_append] at g;have b5:=g.get 1 rfl;have g:=g.push ⟨nilAnk,1,false⟩;simp only [List.nil_append,List.cons_append] at g;have b5':=g.get 1 rfl;obtain ⟨H6,e6,g,ok6⟩:=kerxRun_star k hk6 t hok htl 1 g 7 4 (by decide) rfl rfl (AnkIn.nil (ia:=8) (by decide) (by decide) rfl) (by simp; omega) (by simp; omega) (newPl_ok _);simp only [List.set_cons_zero,List.set_cons_succ] at g;have hlen:=runKs_len 1 (newG ids) ((1:Int) == 2) noPg t 0 (newPl (List.replicate ids.length 0)) hok;rw [newPl_len,List.length_replicate] at hlen;generalize runKs 1 (newG ids) ((1:Int) == 2) noPg t 0 (newPl (List.replicate ids.length 0)) = r at e4 e6 g hlen;have v1:=veq_flt r.2.1 r.2.2;have vk:=veq_kerx t;have a1:=placeAll_run k hk6 g 3 rfl (by omega);have a2:=placeAll_run k hk6 g 4 rfl (by omega);have hsame:=refSame_run k r.1 r.1 (by omega) H6;unfold nilAnk at e4 e6 b3' b5';refine nrm_gc ⟨H6,?_,g.ext⟩ (.bool _);simp -implicitDefEqProofs (disch:=omega) [swashlaw26_KerxTakes,hs,hl',hi',ht,hrd,hmk,e1,e2,b2,b3,b3',e3,e4,b4,b5,b5',e5,e6,v1,vk,a1,a2,hsame]
theorem KerxTakes_args (vs:List Value) (h:ArgsLay [.one (.slice [.int .u8]),.one (.slice [.int .i64])] vs):∃ H',R (T F.swashlaw26_speaks) F.swashlaw26_KerxTakes vs Heap.empty = .ok (.bool true) H':=by
 obtain ⟨v1,_,rfl,h1,h⟩:=h.head;obtain ⟨v2,_,rfl,h2,h⟩:=h.head;obtain rfl:=h.done;obtain ⟨b,rfl,hb⟩:=arg_B h1;obtain ⟨ids,rfl,_⟩:=arg_I h2;exact ⟨_,KerxTakes_run b hb ids⟩
end Go.Sw
end
section
namespace Go.Sw
open Go.RowKit Go.Proofs Go.Shelf
attribute [local go_sem] Oper.semAt_some
set_option maxRecDepth 100000 in
set_option maxHeartbeats 1000000 in
theorem it_at_in (W:World) (f l id x:Int) (blk off m cap:Nat) (hf:0 ≤ f) (hid:f ≤ id) (hil:id < 4294967296) (hm:0 < m) (hm2:m < 2 ^ 60)
  (hc:W.cell? ⟨blk,off + min (id - f).toNat (m - 1),none⟩ = some (.int .i64 x)) (hb:blk < W.heap.size) :
  CallsIn Fence.wide 1 Prog 142 #[.agg #[.int .i64 f,.int .i64 l,.slice (some ⟨blk,off,none⟩) m cap],.int .i64 id] W fun e W' => e = .returned (.int .i64 x) ∧ W' = W.alloc (.cells #[.int .i64 f,.int .i64 l,.slice (some ⟨blk,off,none⟩) m cap] 273):=by
 refine callsIn_of_wp Tryz.func142 rfl trivial ?_ rfl;simp only [Tryz.ntmps142,List.size_toArray,List.length_cons,List.length_nil,Nat.reduceAdd,Nat.reduceSub,Array.replicate_succ,Array.replicate_zero,List.push_toArray,List.append_toArray,List.nil_append,List.cons_append];have hw':W.cell? ⟨blk,off + (min (id - f) ((m:Int) - 1)).toNat,none⟩ = some (.int .i64 x):=by
  rw [← hc,show (min (id - f) ((m:Int) - 1)).toNat = min (id - f).toNat (m - 1) by omega]
 by_cases hlt:(m:Int) - 1 < id - f
 ·have hw:W.cell? ⟨blk,off + (m - 1),none⟩ = some (.int .i64 x):=by
   rw [← hc,show min (id - f).toNat (m - 1) = m - 1 by omega]
  gi_wp2
  go_ret
  exact ⟨rfl,rfl⟩
 ·have hw:W.cell? ⟨blk,off + (id - f).toNat,none⟩ = some (.int .i64 x):=by
   rw [← hc,show min (id - f).toNat (m - 1) = (id - f).toNat by omega]
  gi_wp2
  go_ret
  exact ⟨rfl,rfl⟩
structure Pa where
 f:Int
 l:Int
 m:Nat
 x:Nat → Int
def paN (p:Pa):Nat:=(p.l - p.f + 1).toNat
def PaZ (z:Nat → Option Obj) (cs:Array Value) (o:Nat) (p:Pa):Prop :=
 ∃ a cap,cs[o]? = some (.int .i64 p.f) ∧ cs[o + 1]? = some (.int .i64 p.l) ∧ cs[o + 2]? = some (.slice a p.m cap) ∧
  (0 < p.m → ∃ blk off ws el fz,a = some ⟨blk,off,none⟩ ∧ z blk = some (.cells ws el fz) ∧ ∀ j,j < paN p → ws[off + min j (p.m - 1)]? = some (.int .i64 (p.x j)))
def cntP (ps:List Pa):Nat:=(ps.map paN).sum
set_option maxRecDepth 100000 in
set_option maxHeartbeats 4000000 in
theorem it_all_in (z:Nat → Option Obj) (l0:Nat) (J:Nat → (Nat → Prop) → World → Prop) (Jx:World → Prop) (Jp:List PanicEntry → World → Prop) (ps:List Pa)
  (hal:∀ i T W o,J i T W → J i (fun k => T k ∨ k = W.heap.size) (W.alloc o))
  (htn:∀ i T W W',J i T W → W.heap.size = W'.heap.size → W'.os = W.os → W'.tape = W.tape → W'.output = W.output → (∀ k,¬ T k → W'.heap[k]? = W.heap[k]?) → J i T W')
  (hfz:∀ i T W,J i T W → ∀ k o,z k = some o → W.heap[k]? = some o)
  (hY:∀ (a:Nat) (p:Pa) (j:Nat) T W,ps[a]? = some p → j < paN p → J (cntP (ps.take a) + j) T W → YieldAt Fence.wide 0 Prog l0 #[.int .i64 (p.f + j),.int .i64 (p.x j)] W fun e W' =>
   (e = .returned (.bool true) ∧ J (cntP (ps.take a) + (j + 1)) T W' ∧ (∀ k,T k → W'.heap[k]? = W.heap[k]?) ∧ W.heap.size ≤ W'.heap.size) ∨ (e = .returned (.bool false) ∧ Jx W') ∨ ∃ ch,e = .panicked ch ∧ Jp ch W')
  (hok:∀ p,p ∈ ps → 0 ≤ p.f ∧ p.l < 4294967296 ∧ p.m < 2 ^ 60 ∧ (p.f ≤ p.l → 0 < p.m))
  (W:World) (h0:J 0 (fun _ => False) W) (BX bo tb toff:Nat) (hBX:W.cell? ⟨BX,bo,none⟩ = some (.pointer (some ⟨tb,toff,none⟩)))
  (tcs:Array Value) (tel:TypeId) (tfz:Nat × Nat) (htb:z tb = some (.cells tcs tel tfz)) (pa:Option Addr) (pcap:Nat) (htc:tcs[toff + 1]? = some (.slice pa ps.length pcap)) (hn:ps.length < 2 ^ 60)
  (hpa:ps ≠ [] → ∃ pb poff pcs pel pfz,pa = some ⟨pb,poff,none⟩ ∧ z pb = some (.cells pcs pel pfz) ∧ ∀ (a:Nat) p,ps[a]? = some p → PaZ z pcs (poff + a * 3) p) :
  CallsIn Fence.wide 3 Prog 141 #[.func (.yield l0) #[] #[],.pointer (some ⟨BX,bo,none⟩)] W fun e W' => ((∃ v,e = .returned v) ∧ ((∃ T,J (cntP ps) T W') ∨ Jx W')) ∨ ∃ ch,e = .panicked ch ∧ Jp ch W':=by
 have htW:=hfz _ _ _ h0 _ _ htb;have hT1:W.cell? ⟨tb,toff + 1,none⟩ = some (.slice pa ps.length pcap):=by simp only [World.cell?,htW,htc]; rfl
 refine callsIn_of_wp Tryz.func141 rfl trivial ?_ rfl;simp only [Tryz.ntmps141,List.size_toArray,List.length_cons,List.length_nil,Nat.reduceAdd,Nat.reduceSub,Array.replicate_succ,Array.replicate_zero,List.push_toArray,List.append_toArray,List.nil_append,List.cons_append]
 gi_wp2
 gi_loopw [11] (fun i wr => ∃ k:Nat,k ≤ ps.length ∧ i = .int .i64 k ∧ ∃ T,J (cntP (ps.take k)) T wr) (fun i _ => ps.length - (intOf i).toNat)
 case atStart => exact ⟨0,Nat.zero_le _,rfl,_,h0⟩
 case round =>
  obtain ⟨k,hk,rfl,T,hJ⟩:=hrel;by_cases hlt:k < ps.length
  ·obtain ⟨p,hp⟩:∃ p,ps[k]? = some p:=⟨_,List.getElem?_eq_getElem hlt⟩
   obtain ⟨pb,poff,pcs,pel,pfz,rfl,hzp,hPZ⟩:=hpa (fun e => by subst e; simp at hlt);obtain ⟨va,cap,c1,c2,c3,hv⟩:=hPZ k p hp;have hwp:=hfz _ _ _ hJ _ _ hzp;have d1:wr.cell? ⟨pb,poff + k * 3,none⟩ = some (.int .i64 p.f):=by simp only [World.cell?,hwp,c1]; rfl
   have d2:wr.cell? ⟨pb,poff + k * 3 + 1,none⟩ = some (.int .i64 p.l):=by simp only [World.cell?,hwp,c2]; rfl
   have d3:wr.cell? ⟨pb,poff + k * 3 + 2,none⟩ = some (.slice va p.m cap):=by simp only [World.cell?,hwp,c3]; rfl
   have hpo:=hok p (List.mem_of_getElem? hp);obtain ⟨w1,hw1⟩:∃ w1,w1 = wr:=⟨_,rfl⟩
   subst hw1
   gi_wp2
   gi_loopw [5] (fun i w2 => ∃ j:Nat,j ≤ paN p ∧ i = .int .i64 (p.f + j) ∧ ∃ T2,J (cntP (ps.take k) + j) T2 w2 ∧ T2 w1.heap.size ∧ w2.heap[w1.heap.size]? = some (.cells #[.int .i64 p.f,.int .i64 p.l,.slice va p.m cap] 273 (0,0)))
    (fun i _ => paN p - (intOf i - p.f).toNat)
   case atStart =>
    refine ⟨0,Nat.zero_le _,by simp,_,hal _ _ _ _ hJ,.inr rfl,heap_alloc_new' _ _⟩
   case round =>
    obtain ⟨j,hj,rfl,T2,hJ2,hT2,hbx⟩:=hrel;have b1:wr.cell? ⟨w1.heap.size,0,none⟩ = some (.int .i64 p.f):=by simp only [World.cell?,hbx]; rfl
    have b2:wr.cell? ⟨w1.heap.size,1,none⟩ = some (.int .i64 p.l):=by simp only [World.cell?,hbx]; rfl
    have b3:wr.cell? ⟨w1.heap.size,2,none⟩ = some (.slice va p.m cap):=by simp only [World.cell?,hbx]; rfl
    have hc0:wr.cell? ⟨w1.heap.size,0,none⟩ |>.isSome:=by rw [b1]; rfl
    by_cases hjl:j < paN p
    ·have hle:p.f ≤ p.l:=by unfold paN at hjl; omega
     have hjp:p.f + (j:Int) ≤ p.l:=by unfold paN at hjl; omega
     have hvl:=hpo.2.2.2 hle;obtain ⟨blk,off,ws,wel,wfz,rfl,hzw,hws⟩:=hv hvl;have hww:=hfz _ _ _ hJ2 _ _ hzw;have hval:wr.cell? ⟨blk,off + min (p.f + (j:Int) - p.f).toNat (p.m - 1),none⟩ = some (.int .i64 (p.x j)):=by
      rw [show (p.f + (j:Int) - p.f).toNat = j by omega];simp only [World.cell?,hww,hws j hjl]; rfl
     have hbl:blk < wr.heap.size:=(Array.getElem?_eq_some_iff.1 hww).1;have hat:=it_at_in wr p.f p.l (p.f + j) (p.x j) blk off p.m cap hpo.1 (by omega) (by omega) hvl hpo.2.2.1 hval hbl;have hJ3:=hal _ _ _ (.cells #[.int .i64 p.f,.int .i64 p.l,.slice (some ⟨blk,off,none⟩) p.m cap] 273) hJ2;obtain ⟨fn,tmps,assign,body,hy,hR⟩:=hY k p j _ _ hp hjl hJ3;have hf81:Fence.wide.fn 142:=trivial
     gi_wp2_with (gi_at_call 142; refine (callsIn_wide.2 (callsIn_wide.1 hat)).mono ?_; rintro e w' ⟨rfl,rfl⟩)
     refine (roundIn_any hR).mono ?_;rintro e w3 (⟨rfl,hJ4,hkeep,_⟩ | ⟨rfl,hx⟩ | ⟨ch,rfl,hpn⟩)
     ·have hbx3:w3.heap[w1.heap.size]? = some (.cells #[.int .i64 p.f,.int .i64 p.l,.slice (some ⟨blk,off,none⟩) p.m cap] 273 (0,0)) :=
       (hkeep _ (.inl hT2)).trans ((Below.heap_alloc wr _ _ (Array.getElem?_eq_some_iff.1 hbx).1).trans hbx)
      gi_wp2
      go_roundw
      ·exact ⟨j + 1,hjl,by congr 1; push_cast; omega,_,hJ4,.inl hT2,hbx3⟩
      ·simp [intOf]; omega
     ·gi_wp2
      refine bodyPost_ret (results_none rfl _ _ _) rfl ?_;exact .inl ⟨⟨_,rfl⟩,.inr hx⟩
     ·gi_wp2
      exact ⟨rfl,.inr ⟨_,rfl,hpn⟩⟩
    ·have hlj:p.l < p.f + (j:Int):=by unfold paN at hjl; omega
     gi_wp2
     obtain rfl:j = paN p:=by omega
     go_roundw
     ·refine ⟨k + 1,hlt,by simp,T2,?_⟩;have:cntP (ps.take (k + 1)) = cntP (ps.take k) + paN p:=by
       rw [List.take_add_one,hp]; simp [cntP]
      rw [this]; exact hJ2
     ·simp [intOf]; omega
  ·obtain rfl:k = ps.length:=by omega
   rw [List.take_length] at hJ
   gi_wp2
   go_end0
   exact .inl ⟨⟨_,rfl⟩,.inl ⟨T,hJ⟩⟩
def paL (p:Pa):List (List Int):=(List.range (paN p)).map fun j => [p.f + (j:Nat),p.x j]
theorem itm_some {α β:Type} {f:α → Option β} {g:α → β} (hg:∀ y z,f y = some z → z = g y):∀ {l:List α} {a:List β},l.mapM f = some a → a = l.map g ∧ ∀ y,y ∈ l → (f y).isSome = true
 | [],a,h => by simp at h; subst h; exact ⟨rfl,fun y hy => by cases hy⟩
 | y :: l,a,h => by
  rw [List.mapM_cons] at h;cases hy:f y with
  | none => rw [hy] at h; simp at h
  | some z =>
   cases hl:l.mapM f with
   | none => rw [hy,hl] at h; simp at h
   | some b =>
    rw [hy,hl] at h;obtain ⟨h1,h2⟩:=itm_some hg hl;have h:z :: b = a:=by simpa using h
    subst h;refine ⟨by rw [List.map_cons,← h1,hg _ _ hy],fun y' hy' => ?_⟩;rcases List.mem_cons.1 hy' with rfl | hm
    ·simp [hy]
    ·exact h2 _ hm
def itValX (vals:List Value) (j:Nat):Int:=match vals[min j (vals.length - 1)]? with | some (.int .i64 x) => x | _ => 0
theorem it_partE_is {f l:Int} {vals:List Value} {a:List (List Int)} (h:partE f l vals = some a) :
  0 ≤ f ∧ l < 4294967296 ∧ vals.length < 2 ^ 60 ∧ a = paL ⟨f,l,vals.length,itValX vals⟩ ∧ ∀ j,j < (l - f + 1).toNat → vals[min j (vals.length - 1)]? = some (.int .i64 (itValX vals j)):=by
 unfold partE at h;split at h
 ·rename_i hc;obtain ⟨h1,h2⟩:=itm_some (g:=fun j => [f + (j:Nat),itValX vals j]) (fun y z hz => by
   unfold itValX;split at hz
   ·rename_i e; rw [e]; injection hz with hz; exact hz.symm
   ·cases hz) h
  refine ⟨hc.1,hc.2.1,hc.2.2,h1,fun j hj => ?_⟩;have:=h2 j (List.mem_range.2 hj);unfold itValX;split at this
  ·rename_i e; rw [e]
  ·cases this
 ·cases h
theorem it_parts_of {μ:Mu} {cs:Array Value}:∀ (n:Nat) (vs:List Value) (L:List (List Int)) (o:Nat),partsE n vs = some L → o + vs.length ≤ cs.size → (∀ (i:Nat) v v',vs[i]? = some v → cs[o + i]? = some v' → VR μ v v') →
  ∃ pl:List Pa,pl.length = n ∧ (∀ p,p ∈ pl → 0 ≤ p.f ∧ p.l < 4294967296 ∧ p.m < 2 ^ 60 ∧ (p.f ≤ p.l → 0 < p.m)) ∧ (∀ (a:Nat) p,pl[a]? = some p → PaZ μ.z cs (o + a * 3) p) ∧ L = pl.flatMap paL:=by
 intro n
 induction n with
 | zero =>
  intro vs L o h _ _;cases vs with
  | nil => unfold partsE at h; injection h with h; subst h; exact ⟨[],rfl,fun p hp => (by cases hp),fun a p hp => (by cases hp),rfl⟩
  | cons v vs => unfold partsE at h; cases h
 | succ n ih =>
  intro vs L o h hs hv;unfold partsE at h;split at h
  ·rename_i e; cases e
  ·rename_i n' f l m pth g ws ys r e;injection e with e; subst e;cases hm:Nat.beq m ws.size with
   | false => rw [hm] at h; cases h
   | true =>
    rw [hm] at h;have hm:=Nat.eq_of_beq_eq_true hm;cases hp:partE f l ws.toList with
    | none => rw [hp] at h; cases h
    | some a =>
     cases hr:partsE n r with
     | none => rw [hp,hr] at h; cases h
     | some b =>
      rw [hp,hr] at h;have h:some (a ++ b) = some L:=h;injection h with h; subst h;simp only [List.length_cons] at hs;obtain ⟨pl,h1,h2,h3,h4⟩:=ih r b (o + 3) hr (by omega) fun i v v' hi hi' => hv (i + 3) v v' (by simpa using hi) (by rw [show o + (i + 3) = o + 3 + i by omega]; exact hi');obtain ⟨q1,q2,q3,q4,q5⟩:=it_partE_is hp;have g0:∀ k,k < 3 → ∃ v',cs[o + k]? = some v':=fun k hk => ⟨_,Array.getElem?_eq_getElem (by omega)⟩
      obtain ⟨c0,e0⟩:=g0 0 (by omega);obtain ⟨c1,e1⟩:=g0 1 (by omega);obtain ⟨c2,e2⟩:=g0 2 (by omega);have r0:=hv 0 _ _ rfl e0;have r1:=hv 1 _ _ rfl e1;have r2:=hv 2 _ _ rfl e2;refine ⟨⟨f,l,ws.toList.length,itValX ws.toList⟩ :: pl,by simp [h1],fun p hp => ?_,fun a' p ha => ?_,?_⟩
      ·rcases List.mem_cons.1 hp with rfl | hp
       ·refine ⟨q1,q2,q3,fun hle => ?_⟩;have:=q5 0 (by have hle':f ≤ l:=hle; omega);rcases Nat.eq_zero_or_pos ws.toList.length with hz | hz
        ·rw [List.length_eq_zero_iff.1 hz] at this; cases this
        ·exact hz
       ·exact h2 p hp
      ·cases a' with
       | succ a' => rw [show o + (a' + 1) * 3 = o + 3 + a' * 3 by omega]; exact h3 a' p (by simpa using ha)
       | zero =>
        simp at ha; subst ha;cases r0; cases r1;cases r2 with
        | list _ _ _ _ _ blk off cap zcs el fz hz hl hc hg h0 hx =>
         refine ⟨some ⟨blk,off,none⟩,cap,by simpa using e0,by simpa using e1,by rw [Nat.zero_mul,Nat.add_zero,e2,hm],fun hpos => ⟨blk,off,zcs,el,fz,rfl,hz,fun j hj => ?_⟩⟩;have hj':=q5 j hj;have hlt:=(List.getElem?_eq_some_iff.1 hj').1;have hlt':min j (ws.toList.length - 1) < ws.size:=by simpa using hlt
         obtain ⟨v',hv'⟩:∃ v',zcs[off + min j (ws.toList.length - 1)]? = some v':=⟨_,Array.getElem?_eq_getElem (by omega)⟩
         have:=hx _ _ _ (by rw [← Array.getElem?_toList]; exact hj') hv';cases this;exact hv'
        | empty _ _ _ _ x cap hn hs' =>
         have hz:ws.toList.length = 0:=by rw [Array.length_toList]; exact hm.symm
         refine ⟨x,cap,by simpa using e0,by simpa using e1,by rw [Nat.zero_mul,Nat.add_zero,e2]; show some (Value.slice x 0 cap) = some (Value.slice x ws.toList.length cap); rw [hz],fun hpos => ?_⟩;simp only [hz] at hpos; omega
      ·rw [List.flatMap_cons,← h4,q4]
  ·cases h
theorem paL_len (p:Pa):(paL p).length = paN p:=by simp [paL]
theorem itf_len:∀ pl:List Pa,(pl.flatMap paL).length = cntP pl
 | [] => rfl
 | p :: pl => by simp [List.flatMap_cons,itf_len pl,paL_len,cntP]
theorem itf_at:∀ (pl:List Pa) (a:Nat) (p:Pa) (j:Nat),pl[a]? = some p → j < paN p → (pl.flatMap paL)[cntP (pl.take a) + j]? = some [p.f + (j:Nat),p.x j]
 | [],a,p,j,h,_ => by simp at h
 | q :: pl,0,p,j,h,hj => by
  simp at h; subst h;rw [List.flatMap_cons,List.getElem?_append_left (by simp [cntP,paL_len]; exact hj)];simp [paL,cntP,hj]
 | q :: pl,a + 1,p,j,h,hj => by
  have:=itf_at pl a p j (by simpa using h) hj;rw [List.flatMap_cons,List.getElem?_append_right (by simp [cntP,paL_len]; omega)];rw [← this]; congr 1;simp [cntP,paL_len]; omega
set_option maxRecDepth 100000 in
theorem it_is:ItOk Prog itS:=by
 intro v H L hL w0 μ w v' hH hV;unfold itS itAll at hL;split at hL;rotate_left
 ·cases hL
 rename_i f xs ys;cases hb:(Nat.beq f 141 && Nat.beq xs.size 0) with
 | false => rw [hb] at hL; cases hL
 | true =>
  rw [hb] at hL;obtain ⟨hb1,hb2⟩:=Bool.and_eq_true_iff.1 hb;have hb1:=Nat.eq_of_beq_eq_true hb1;have hb2:=Nat.eq_of_beq_eq_true hb2;subst hb1;simp only [cond_true] at hL;split at hL;rotate_left
  ·cases hL
  rename_i b hys;split at hL;rotate_left
  ·cases hL
  rename_i n0 p0 g0 ts ty0 ez ro hblk;split at hL;rotate_left
  ·cases hL
  rename_i t0 n p1 g1 ps ty1 hts;split at hL;rotate_left
  ·cases hL
  rename_i hn;cases hV with
  | func _ _ xs' _ ys' h1 h2 h3 h4 =>
   have hx':xs' = #[]:=by apply Array.eq_empty_of_size_eq_zero; omega
   subst hx';obtain ⟨y',r',hy',hyr,hr'⟩:=VRs.cons_inv (by rw [← hys]; exact VRs.of_arr h3 h4);have:=hr'.nil_inv; subst this;have hye:ys' = #[y']:=by apply Array.toList_inj.1; rw [hy']
   subst hye;cases hyr with
   | ptr _ _ m hm =>
    obtain ⟨v1,hc1,hr1,_⟩:=hH.cell hblk hm (off:=0) rfl;cases hr1 with
    | box _ _ _ _ _ tb toff tcs tel tfz hz hl h0 hx =>
     have htl:ts.size = 2:=by rw [← Array.length_toList,hts]; rfl
     obtain ⟨v2,hv2⟩:∃ v2,tcs[toff + 1]? = some v2:=⟨_,Array.getElem?_eq_getElem (by omega)⟩
     have hr2:=hx 1 _ _ (by rw [← Array.getElem?_toList,hts]; rfl) hv2
     have key:∃ (pl:List Pa) (pa:Option Addr) (pcap:Nat),L = pl.flatMap paL ∧ (∀ p,p ∈ pl → 0 ≤ p.f ∧ p.l < 4294967296 ∧ p.m < 2 ^ 60 ∧ (p.f ≤ p.l → 0 < p.m)) ∧ pl.length = n ∧ v2 = .slice pa pl.length pcap ∧
       (pl ≠ [] → ∃ pb poff pcs pel pfz,pa = some ⟨pb,poff,none⟩ ∧ μ.z pb = some (.cells pcs pel pfz) ∧ ∀ (a:Nat) p,pl[a]? = some p → PaZ μ.z pcs (poff + a * 3) p):=by
      cases hr2 with
      | list _ _ _ _ _ pb poff pcap pcs pel pfz hz2 hl2 hc2 hg2 h02 hx2 =>
       obtain ⟨pl,e1,e2,e3,e4⟩:=it_parts_of (μ:=μ) (cs:=pcs) n ps.toList L poff hL (by simpa using hl2) fun i v v' hi hi' => hx2 i v v' (by rw [← Array.getElem?_toList]; exact hi) hi';exact ⟨pl,_,pcap,e4,e2,e1,by rw [e1],fun _ => ⟨pb,poff,pcs,pel,pfz,rfl,hz2,e3⟩⟩
      | empty _ _ _ _ x pcap hn2 hs2 =>
       generalize ps.toList = psl at hL;cases psl with
       | nil =>
        unfold partsE at hL; injection hL with hL; subst hL;exact ⟨[],x,pcap,rfl,fun p hp => (by cases hp),rfl,rfl,fun h => (h rfl).elim⟩
       | cons a r => unfold partsE at hL; cases hL
     obtain ⟨pl,pa,pcap,rfl,hok,hlen,rfl,hpa⟩:=key;refine ⟨141,#[.pointer (some ⟨m.blk,m.base + 0,none⟩)],rfl,⟨Tryz.f141,Tryz.func141,rfl,by decide⟩,fun l0 J Jx Jp hal htn hfz hY h0J => ?_⟩;have:=it_all_in μ.z l0 J Jx Jp pl hal htn hfz (fun a p j T W hp hj hJ => hY _ T W _ hJ (itf_at pl a p j hp hj)) hok w h0J m.blk (m.base + 0) tb toff hc1 tcs tel tfz hz pa pcap hv2 (by rw [hlen]; exact hn) hpa;rw [itf_len];exact callsIn_wide.1 this
end Go.Sw
end
section
namespace Go.Sw
open Go.RowKit
theorem names_ok:NamesOk Prog:=NamesOk.of (by kernel_rfl)
theorem mixed_ok:Prog.follows .mixedOrders = true:=Checked.mixed Go.Proofs.Tryz.checked
theorem laid_ok:laidOutB Prog = true:=by kernel_rfl
theorem clonePlace_is:SpIs Prog F.slices_Clone_of_api_Place_api_Place fun _ args H => cloneV 3 12 args H :=
 clone_is (c:={ P:=Prog,kp:=kpS,sp:=fun _ => none }) (fun _ _ => rfl) names_ok mixed_ok (t:=56) (e:=93) (by kernel_rfl) fun call a H => (slices_Clone_of_api_Place_api_Place_body 0 _ call a H).trans (by
  unfold slices_Clone_of_api_Place_api_Place cloneF;simp only [be_56_0,ap_56,beR_bare])
theorem cloneGlyph_is:SpIs Prog F.slices_Clone_of_api_Glyph_api_Glyph fun _ args H => cloneV 2 16 args H :=
 clone_is (c:={ P:=Prog,kp:=kpS,sp:=fun _ => none }) (fun _ _ => rfl) names_ok mixed_ok (t:=61) (e:=150) (by kernel_rfl) fun call a H => (slices_Clone_of_api_Glyph_api_Glyph_body 0 _ call a H).trans (by
  unfold slices_Clone_of_api_Glyph_api_Glyph cloneF;simp only [be_61_0,ap_61,beR_bare])
theorem more_is (f:FuncId) (s:Sp) (h:moreS f = some s):SpIs Prog f s:=by
 unfold moreS at h;cases h47:Nat.beq f 47 with
 | true => have:=Nat.eq_of_beq_eq_true h47; subst this; rw [h47,cond_true] at h; injection h with h; subst h; exact try_is
 | false =>
 rw [h47,cond_false] at h;cases h78:Nat.beq f 78 with
 | true => have:=Nat.eq_of_beq_eq_true h78; subst this; rw [h78,cond_true] at h; injection h with h; subst h; exact clonePlace_is
 | false =>
 rw [h78,cond_false] at h;cases h79:Nat.beq f 79 with
 | true => have:=Nat.eq_of_beq_eq_true h79; subst this; rw [h79,cond_true] at h; injection h with h; subst h; exact cloneGlyph_is
 | false =>
 rw [h79,cond_false] at h;cases h84:Nat.beq f 84 with
 | true => have:=Nat.eq_of_beq_eq_true h84; subst this; rw [h84,cond_true] at h; injection h with h; subst h; exact rangeM_is (c:={ P:=Prog,kp:=kpS,sp:=fun _ => none,it:=itS }) names_ok mixed_ok it_is (by kernel_rfl)
 | false =>
 rw [h84,cond_false] at h;cases h97:Nat.beq f 97 with
 | true => have:=Nat.eq_of_beq_eq_true h97; subst this; rw [h97,cond_true] at h; injection h with h; subst h; exact defer_is (c:={ P:=Prog,kp:=kpS,sp:=fun _ => none }) (fun _ _ => rfl) names_ok mixed_ok
 | false =>
 rw [h97,cond_false] at h;cases h
theorem T_prog (k:Nat):(T k).c.P = Prog:=by unfold T C; rfl
theorem told_ok {k m:Nat} (hsp:okTrue (run (baseCfg Prog kpS moreS) m (k % 1000000) [] Heap.empty) = true):SpOk (T k).c:=by
 have h0:CallOk Prog (run (baseCfg Prog kpS moreS) m):=run_ok (c:=baseCfg Prog kpS moreS) names_ok mixed_ok (SpOk.base more_is) m;have h1:SpOk (C k):=by
  unfold C;exact SpOk.of (P:=Prog) (kp:=kpS) (speaks:=speaksT) (more:=moreS) (k:=k % 1000000) h0 hsp more_is
 exact h1
end Go.Sw
end
