/-
  Functions' forms, and what is proved of them, part 13.
-/
import Derived.Test.YtanfippcmdialaaSwW12
import Derived.Test.YtanfippcmdialaaSwW11
import Derived.Test.YtanfippcmdialaaSwW6
import Derived.Test.YtanfippcmdialaaSwW9
import Derived.Test.YtanfippcmdialaaSwCfg
import Derived.Test.YtanfippcmdialaaSwLib10
import Derived.RangeFuncKeeps
import Derived.RangeFuncLeaves
import Derived.Shelf.Abstract
import Derived.WalkKit
import Derived.OwnWalkIn
import Derived.TacticsInMore
import Derived.LoopNIn
import Derived.LoopIn
import Derived.Tactics
import Derived.Tactics2
import Derived.Defers
import Derived.Recover
import Derived.Laws.Pointers
import Derived.Laws.IdiomCopy
import Derived.Lib.Walk
import Derived.Lib.SliceRun
import Derived.Lib.JoinLaws
import Derived.Lib.AppendZeros
import Derived.Lib.AppendZerosOnto
import Derived.Lib.Overlaps
import Derived.Laws.Externs
import Derived.Laws.NewBlocks
import Derived.Deep.RegionLaw
import Derived.Test.YtanfippcmdialaaSwW3
import Derived.Test.YtanfippcmdialaaSwW5
import Derived.Test.YtanfippcmdialaaSwLib8
import Derived.Eval
set_option linter.unusedSimpArgs false
set_option linter.unusedVariables false
set_option linter.unusedSectionVars false
section
namespace Go.Sw
open Go.RowKit
set_option maxHeartbeats 4000000 in
theorem ζj2 (k:Nat) (t:LTab) (ht:t.ok) {H0 H:Heap} {L:List It} (h:Star H0 H L) (il ip:Nat) (hne:il ≠ ip) {c cp:Nat} {o ob:Option Nat} {l:List Gl} {ps:List Int} (hil:L[il]? = some (itLine c o l)) (hip:L[ip]? = some (itLP cp ob ps)) (hps:ps.length ≤ 64) (a:Int) (ha:0 ≤ a ∧ a < 65536) (hlast:lastB t.acts a = true) :
  ∃ ob' H',R (T k) F.ζ8 [ligaV t,ptrV c,ptrV cp,.int .i64 a] H = .ok (.tuple #[]) H' ∧ Star H0 H' ((L.set il (itLine c o (perfS t ps a 0 [] l).1)).set ip (itLP cp ob' (perfS t ps a 0 [] l).2)):=by
 have hltl:=(List.getElem?_eq_some_iff.1 hil).1;have hltp:=(List.getElem?_eq_some_iff.1 hip).1;obtain ⟨res,hres⟩:∃ res,res = perfS t ps a 0 [] l:=⟨_,rfl⟩
 rw [← hres];obtain ⟨S,hS⟩:∃ S:List Gl → Option Nat → List Int → Option Nat → Value → List Int → List It,S = fun l' ob' ps' og s gone => (L.set il (itLine c o l')).set ip (itLP cp ob' ps') ++ [itRow og 1 s encI gone]:=⟨_,rfl⟩
 have hSv:∀ l' ob' ps' og s gone,S l' ob' ps' og s gone = (L.set il (itLine c o l')).set ip (itLP cp ob' ps') ++ [itRow og 1 s encI gone]:=fun _ _ _ _ _ _ => by rw [hS]
 clear hS;have atl:∀ l' ob' ps' og s gone,(S l' ob' ps' og s gone)[il]? = some (itLine c o l'):=fun l' ob' ps' og s gone => by
  rw [hSv,List.getElem?_append_left (by simpa using hltl),List.getElem?_set_ne (fun h => hne h.symm),List.getElem?_set_self hltl]
 have atp:∀ l' ob' ps' og s gone,(S l' ob' ps' og s gone)[ip]? = some (itLP cp ob' ps'):=fun l' ob' ps' og s gone => by
  rw [hSv,List.getElem?_append_left (by simpa using hltp),List.getElem?_set_self (by simpa using hltp)]
 have atr:∀ l' ob' ps' og s gone,(S l' ob' ps' og s gone)[L.length]? = some (itRow og 1 s encI gone):=fun l' ob' ps' og s gone => by
  rw [hSv,List.getElem?_append_right (by simp)];simp
 have setl:∀ l' l2 ob' ps' og s gone,(S l' ob' ps' og s gone).set il (itLine c o l2) = S l2 ob' ps' og s gone:=fun l' l2 ob' ps' og s gone => by
  rw [hSv,hSv,List.set_append_left _ _ (by simpa using hltl),List.set_comm _ _ (fun h => hne h.symm),List.set_set]
 have setp:∀ l' ob' ps' ob2 ps2 og s gone,(S l' ob' ps' og s gone).set ip (itLP cp ob2 ps2) = S l' ob2 ps2 og s gone:=fun l' ob' ps' ob2 ps2 og s gone => by
  rw [hSv,hSv,List.set_append_left _ _ (by simpa using hltp),List.set_set]
 have setr:∀ l' ob' ps' og s gone og2 s2 gone2,(S l' ob' ps' og s gone).set L.length (itRow og2 1 s2 encI gone2) = S l' ob' ps' og2 s2 gone2:=fun l' ob' ps' og s gone og2 s2 gone2 => by
  rw [hSv,hSv,List.set_append_right _ _ (by simp)];simp
 have fin:∀ {H':Heap} {l' ob' ps' og s gone},Star H0 H' (S l' ob' ps' og s gone) → (l',ps') = res → ∃ ob',Star H0 H' ((L.set il (itLine c o res.1)).set ip (itLP cp ob' res.2)):=fun {H' l' ob' ps' og s gone} g he => by
  rw [hSv] at g;subst he;exact ⟨ob',g.ζdr⟩
 have h1:Star H0 H (S l ob ps none (.slice none 0 0) []):=by
  rw [hSv,set_same hil,set_same hip];exact h.more_row (Ext.refl _) (OwnO.nil encI _ 1) (fun b hb => by cases hb)
 have hvb:veq (vwB t.comps) (vwB t.comps) = true:=veq_agg (l:=[lv encB t.comps]) fun u hu => by simp at hu; subst hu; exact veq_B t.comps
 obtain ⟨xx,e',H1,hr,hE,g⟩:=loop_up (body:=ζ4e k (R (T k))) ps.length
  (fun j e H' => ∃ (sum:Int) (gone:List Int) (l':List Gl) (og ob':Option Nat) (s:Value),e = [(0,ligaV t),(1,ptrV c),(2,ptrV cp),(3,.int .i64 (a + j)),(8,.int .i64 sum),(9,s)] ∧ Star H0 H' (S l' ob' (ps.drop j) og s gone) ∧ lastB t.acts (a + j) = true ∧ 0 ≤ sum ∧ sum ≤ 65535 * j ∧ gone.length ≤ j ∧ perfS t (ps.drop j) (a + j) sum gone l' = res)
  (fun xx e H' => (xx = .ret ∧ ((∃ b0 b8 b9 b10 b24,e = [(0,b0),(1,ptrV c),(2,ptrV cp),(3,.int .i64 (a + ps.length)),(8,b8),(9,b9),(10,b10),(24,b24)]) ∨ (∃ b0 b3 b8 b9 b10 b12 b15 b52,e = [(0,b0),(1,ptrV c),(2,ptrV cp),(3,b3),(8,b8),(9,b9),(10,b10),(12,b12),(15,b15),(52,b52)]) ∨ (∃ b0 b3 b8 b10 b12 b65,e = [(0,b0),(1,ptrV c),(2,ptrV cp),(3,b3),(8,b8),(10,b10),(12,b12),(65,b65)]) ∨ e = [])) ∧ ∃ ob',Star H0 H' ((L.set il (itLine c o res.1)).set ip (itLP cp ob' res.2)))
  (e0:=[(0,ligaV t),(1,ptrV c),(2,ptrV cp),(3,.int .i64 a),(8,.int .i64 0),(9,.slice none 0 0)]) (H0:=H) ⟨0,[],l,none,ob,.slice none 0 0,by simp,by simpa using h1,by simpa using hlast,Int.le_refl _,Int.le_refl _,Nat.le_refl _,by simpa using hres.symm⟩ (by omega)
  (fun j e H' hj ⟨sum,gone,l',og,ob',s,he,g,hl,hs0,hs1,hgl,hp⟩ => by
   subst he;have hd:ps.drop j = ps[j] :: ps.drop (j + 1):=List.drop_eq_getElem_cons hj;obtain ⟨x,hx⟩:∃ x,x = ps[j]:=⟨_,rfl⟩
   rw [← hx] at hd;have hdl:(ps.drop (j + 1)).length ≤ 63:=by rw [List.length_drop]; omega
   rw [hd] at hp g;obtain ⟨H2,e2,g⟩:=ζj3 k g ip (by rw [List.length_cons]; omega) (atp _ _ _ _ _ _);rw [setp] at g;simp only [List.head?_cons,Option.getD_some,List.isEmpty_cons,Bool.not_false,List.tail_cons] at e2 g;obtain ⟨y,hy,hgy,hy0,hy1,hyl,hyn⟩:=ζuy ht.byt.1 (by omega) hl;have hU:=fun H' => U32_run k (H:=H') (Sl.lv H' 1 t.acts) ht.byt.1 (4 * (a + j)) (by have:=ht.len.1; omega);rw [hy] at hU;have hat:=ζd1 k g il (atl _ _ _ _ _ _) x;obtain ⟨q,hq⟩:∃ q,q = (atG l' x).getD ⟨0,0⟩:=⟨_,rfl⟩
   have hatA:encA (atG l' x) = .agg (encG q).toArray:=by rw [hq]; rfl
   rw [hatA] at hat;have hoff:=fun H' => ζom k y hy0 hy1 H';have hen:=fun H' => ζg1 k t.comps ht.byt.2.1 ht.len.2.1 (IntKind.i64.wrap (q.id + offS y)) H';have hx2:Ext H2 (H2.push ⟨encG q,1,false⟩):=(Ext.refl H2).push _;have gq:(H2.push ⟨encG q,1,false⟩).get H2.n = some ⟨encG q,1,false⟩:=ζc _ _ _ rfl;unfold perfS at hp;rw [hgy,← hq] at hp;have gp:=g.rest hx2;cases hc:entryS t.comps (IntKind.i64.wrap (q.id + offS y)) with
   | none =>
    rw [hc] at hp hen;dsimp only at hp;refine .inr ⟨.ret,_,_,?_,by simp,⟨rfl,.inr (.inl ⟨ligaV t,.int .i64 (a + j),.int .i64 sum,s,.int .i64 x,.int .i64 y,.int .i64 0,.bool true,rfl⟩)⟩,fin gp hp⟩;rw [ζ1v];simp -implicitDefEqProofs (disch:=omega) [e2,hU,orF,hat,hoff,hen,gq,hvb]
   | some part =>
    rw [hc] at hp hen;dsimp only at hp;have hpart:0 ≤ part ∧ part < 65536:=by
     unfold entryS at hc;split at hc
     ·injection hc with hc;subst hc;obtain ⟨z,hz⟩:∃ z,uS t.comps (2 * IntKind.i64.wrap (q.id + offS y)) 2 = some z:=uS_of_in (by unfold inS; rw [decide_eq_true_eq]; omega);rw [gU_some hz];exact uS_two ht.byt.2.1 hz
     ·cases hc
    have hw:IntKind.i64.wrap (sum + part) = sum + part:=wrap_i64 (by omega) (by omega);have an:=fun H => and3031 Prog 3 H hy0 hy1;have an2:=fun H => and31 Prog 3 H hy0 hy1;have hgl2:gone.length < 2 ^ 31:=by omega
    have hj1:a + ((j + 1:Nat):Int) = a + j + 1:=by omega
    by_cases d1:y ≥ 1073741824
    ·rw [if_pos d1] at hp;have hne0:(y / 1073741824 * 1073741824 == 0) = false:=by rw [beq_eq_false_iff_ne]; omega
     obtain ⟨H3,e3,g3⟩:=ζon k t ht gp il L.length (by omega) (atl _ _ _ _ _ _) (atr _ _ _ _ _ _) hgl2 x (sum + part);rw [setl] at g3;cases hlg:entryS t.ligs (sum + part) with
     | none =>
      rw [hlg] at hp e3 g3;dsimp only at hp g3;refine .inr ⟨.ret,_,_,?_,by simp,⟨rfl,.inr (.inr (.inl ⟨ligaV t,.int .i64 (a + j),.int .i64 (sum + part),.int .i64 x,.int .i64 y,.bool true,rfl⟩))⟩,fin g3 hp⟩;rw [ζ1v];simp -implicitDefEqProofs (disch:=omega) [e2,hU,orF,hat,hoff,hen,gq,hvb,hw,an,bne,hne0,e3]
     | some id =>
      rw [hlg] at hp e3 g3;dsimp only at hp g3;by_cases d2:y ≥ 2147483648
      ·rw [if_pos d2] at hp an2;obtain ⟨ob2,H4,e4,g4⟩:=ζg2 k g3 ip (by omega) (atp _ _ _ _ _ _) x;rw [setp] at g4;refine .inr ⟨.ret,_,_,?_,by simp,⟨rfl,.inr (.inr (.inr rfl))⟩,fin g4 hp⟩;rw [ζ1v];simp -implicitDefEqProofs (disch:=omega) [e2,hU,orF,hat,hoff,hen,gq,hvb,hw,an,hne0,e3,ζ56,an2,bne,e4]
      ·rw [if_neg d2] at hp an2;have g3:=g3.same L.length (atr _ _ _ _ _ _) (itRow none 1 (.slice none 0 0) encI []) (OwnO.nil encI _ 1) (fun b hb => by simp [itRow] at hb);rw [setr] at g3;obtain ⟨s5,o5,H5,e5,g5⟩:=g3.append1 (bytes:=8) L.length encI_len (atr _ _ _ _ _ _) x (by simp) (by decide);rw [setr] at g5;refine .inl ⟨_,H5,?_,sum + part,[x],storeG l' x id gone,o5,ob',s5,rfl,g5,by rw [hj1]; exact hyn d2,by omega,by omega,by simp,by rw [hj1]; exact hp⟩;rw [ζ1v,hj1];simp -implicitDefEqProofs (disch:=omega) [e2,hU,orF,hat,hoff,hen,gq,hvb,hw,an,hne0,e3,ζ56,an2,bne,e5]
    ·rw [if_neg d1] at hp;have hne0:(y / 1073741824 * 1073741824 == 0) = true:=by rw [beq_iff_eq]; omega
     rw [if_neg (show ¬ y ≥ 2147483648 by omega)] at an2;obtain ⟨s5,o5,H5,e5,g5⟩:=gp.append1 (bytes:=8) L.length encI_len (atr _ _ _ _ _ _) x (by omega) (by decide);rw [setr] at g5;simp only [hn_push] at e5;refine .inl ⟨_,H5,?_,sum + part,gone ++ [x],l',o5,ob',s5,rfl,g5,by rw [hj1]; exact hyn (by omega),by omega,by omega,by simp; omega,by rw [hj1]; exact hp⟩;rw [ζ1v,hj1];simp -implicitDefEqProofs (disch:=omega) [e2,hU,orF,hat,hoff,hen,gq,hvb,hw,an,hne0,ζ8k,an2,bne,e5])
  (fun e H' ⟨sum,gone,l',og,ob',s,he,g,hl,hs0,hs1,hgl,hp⟩ => by
   subst he;rw [List.drop_length] at g hp;obtain ⟨H2,e2,g⟩:=ζj3 k g ip (by simp) (atp _ _ _ _ _ _);rw [setp] at g;simp only [List.head?_nil,Option.getD_none,List.isEmpty_nil,Bool.not_true,List.tail_nil] at e2 g;refine ⟨.ret,_,H2,?_,by simp,⟨rfl,.inl ⟨ligaV t,.int .i64 sum,s,.int .i64 0,.bool true,rfl⟩⟩,fin g hp⟩;rw [ζ1v];simp -implicitDefEqProofs [e2])
 obtain ⟨ob',g⟩:=g;obtain ⟨rfl,hE⟩:=hE;refine ⟨ob',H1,?_,g⟩;rw [ζee,nrm_of];rcases hE with ⟨b0,b8,b9,b10,b24,rfl⟩ | ⟨b0,b3,b8,b9,b10,b12,b15,b52,rfl⟩ | ⟨b0,b3,b8,b10,b12,b65,rfl⟩ | rfl
 ·simp -implicitDefEqProofs [ζ8,hr,ζ8l]
 ·simp -implicitDefEqProofs [ζ8,hr,ζ7y]
 ·simp -implicitDefEqProofs [ζ8,hr,ζ7z]
 ·simp -implicitDefEqProofs [ζ8,hr,ζ80]
end Go.Sw
end
section
namespace Go.Sw
open Go.RowKit
theorem veq_liga (t:LTab):veq (ligaV t) (ligaV t) = true:=veq_boxV (l:=ligaC t) fun v hv => by
 simp [ligaC] at hv;rcases hv with rfl | rfl | rfl | rfl
 ·exact veq_mach _
 ·exact veq_B _
 ·exact veq_B _
 ·exact veq_B _
def ligaW (t:LTab) (L:List It) (il c p3 p4 cp:Nat) (o:Option Nat) (s:List Gl × List Int) (ob:Option Nat):List It :=
 L.set il (itLine c o s.1) ++ [itLP cp ob s.2,itBlk p3 ⟨[ptrV c],1,false⟩,itBlk p4 ⟨[ligaV t],1,false⟩]
set_option maxHeartbeats 2000000 in
theorem liga_do (k:Nat) (t:LTab) (ht:t.ok) (L:List It) (il c p3 p4 cp:Nat) (o:Option Nat) (hil:il < L.length) (n:Int) {H0:Heap} :
  DoOkG k t.m H0 (ligaW t L il c p3 p4 cp o) (fun s => (s.1.length:Int) = n ∧ KeptOk n s.2) (.func (.func F.ζe) #[] #[ptrV p3,ptrV cp,ptrV p4]) (doLi t):=by
 intro s w j e H X hI st h0 h1 he;have hlen':=doLi_len t s j e;have hkept':=ζuh t hI.1 hI.2 h0 e;obtain ⟨l,ps⟩:=s;dsimp only at hI hlen' hkept';have heb:=ht.m.ent e he;have hhas:=ht.has e he;unfold ligaW at st;dsimp only at st;obtain ⟨B,hB⟩:∃ B:List It,B = [itBlk p3 ⟨[ptrV c],1,false⟩,itBlk p4 ⟨[ligaV t],1,false⟩] ++ (X ++ [itBlk H.n ⟨encEn e,1,false⟩]):=⟨_,rfl⟩
 obtain ⟨S,hS⟩:∃ S:List Gl → Option Nat → List Int → List It,S = fun l' ob' ps' => L.set il (itLine c o l') ++ itLP cp ob' ps' :: B:=⟨_,rfl⟩
 have hSv:∀ l' ob' ps',S l' ob' ps' = L.set il (itLine c o l') ++ itLP cp ob' ps' :: B:=fun _ _ _ => by rw [hS]
 clear hS;have hpx:∀ l' ob' ps',(S l' ob' ps')[L.length]? = some (itLP cp ob' ps'):=fun l' ob' ps' => by
  rw [hSv,List.getElem?_append_right (by simp)];simp
 have hlx:∀ l' ob' ps',(S l' ob' ps')[il]? = some (itLine c o l'):=fun l' ob' ps' => by
  rw [hSv,List.getElem?_append_left (by simpa using hil),List.getElem?_set_self hil]
 have setP:∀ l' ob' ps' ob2 ps2,(S l' ob' ps').set L.length (itLP cp ob2 ps2) = S l' ob2 ps2:=fun l' ob' ps' ob2 ps2 => by
  rw [hSv,hSv,List.set_append_right _ _ (by simp)];simp
 have setL:∀ l' ob' ps' l2,(S l' ob' ps').set il (itLine c o l2) = S l2 ob' ps':=fun l' ob' ps' l2 => by
  rw [hSv,hSv,List.set_append_left _ _ (by simpa using hil),List.set_set]
 have look:∀ {H':Heap} {l' ob' ps'},Star H0 H' (S l' ob' ps') → H'.get p3 = some ⟨[ptrV c],1,false⟩ ∧ H'.get p4 = some ⟨[ligaV t],1,false⟩ ∧ H'.get H.n = some ⟨encEn e,1,false⟩ ∧ R (T k) F.ζd [ptrV c] H' = .ok (.int .i64 l'.length) H':=fun {H' l' ob' ps'} h => by
  have hl:=ζ8c k h il (hlx _ _ _);rw [hSv,hB] at h;exact ⟨h.memBlk (by simp),h.memBlk (by simp),h.memBlk (by simp),hl⟩
 have st2:Star H0 (H.push ⟨encEn e,1,false⟩) (S l w ps):=by
  have:=st.push ⟨encEn e,1,false⟩;rw [hSv,hB];simpa using this
 have fin:∀ {H':Heap} {l' ob' ps'},Star H0 H' (S l' ob' ps') → Star H0 H' (ligaW t L il c p3 p4 cp o (l',ps') ob' ++ X):=fun {H' l' ob' ps'} h => by
  rw [hSv,hB] at h;have e1:L.set il (itLine c o l') ++ itLP cp ob' ps' :: ([itBlk p3 ⟨[ptrV c],1,false⟩,itBlk p4 ⟨[ligaV t],1,false⟩] ++ (X ++ [itBlk H.n ⟨encEn e,1,false⟩])) = (ligaW t L il c p3 p4 cp o (l',ps') ob' ++ X) ++ [itBlk H.n ⟨encEn e,1,false⟩]:=by
   unfold ligaW;simp
  rw [e1] at h;exact h.ζdr
 have ha15:=fun H => and15 Prog 3 H heb.2.2.1 heb.2.2.2.1;have ha13:=fun H => and13 Prog 3 H heb.2.2.1 heb.2.2.2.1;obtain ⟨v3,v4,v7,v8⟩:=look st2;clear st;obtain ⟨k1,hk1⟩:∃ k1,k1 = if e.flags ≥ 32768 ∧ j < (l.length:Int) then pushP j ps else ps:=⟨_,rfl⟩
 have hdo:doLi t (l,ps) j e = if e.flags / 8192 % 2 = 1 then perfS t k1 e.a 0 [] l else (l,k1):=by
  unfold doLi;rw [hk1]
 have hk64:k1.length ≤ 64:=by
  rw [hk1];split
  ·rename_i hc;exact (pushP_ok hI.2 ⟨h0,by rw [← hI.1]; exact hc.2⟩).1
  ·exact hI.2.1
 -- the second part
 have tail:∀ {H':Heap} {ob1},Star H0 H' (S l ob1 k1) → ∃ H'' w',ζ4c k (R (T k)) (ptrV p3) (ptrV cp) (ptrV p4) (ptrV H.n) H' = .ok (.tuple #[]) H'' ∧ (∀ a0 a16,ζ4d k (R (T k)) a0 (ptrV p3) (ptrV cp) (ptrV p4) (ptrV H.n) a16 H' = .ok (.tuple #[]) H'') ∧ Star H0 H'' (ligaW t L il c p3 p4 cp o (doLi t (l,ps) j e) w' ++ X):=fun {H' ob1} h => by
  obtain ⟨w3,w4,w7,_⟩:=look h;rw [hdo];by_cases d:e.flags / 8192 % 2 = 1
  ·rw [if_pos d] at ha13 ⊢;obtain ⟨ob2,H2,e2,g2⟩:=ζj2 k t ht h il L.length (by omega) (hlx _ _ _) (hpx _ _ _) hk64 e.a (by omega) (hhas.resolve_left (fun hh => hh d));rw [setL,setP] at g2;refine ⟨H2,ob2,?_,fun a0 a16 => ?_,fin g2⟩
   ·rw [ζ54];simp -implicitDefEqProofs (disch:=omega) [w7,ha13,bne,w3,w4,e2]
   ·rw [ζ55];simp -implicitDefEqProofs (disch:=omega) [w7,ha13,bne,w3,w4,e2]
  ·rw [if_neg d] at ha13 ⊢;refine ⟨H',ob1,?_,fun a0 a16 => ?_,fin h⟩
   ·rw [ζ54];simp -implicitDefEqProofs (disch:=omega) [w7,ha13,bne]
   ·rw [ζ55];simp -implicitDefEqProofs (disch:=omega) [w7,ha13,bne]
 by_cases d2:e.flags ≥ 32768
 ·rw [if_pos d2] at ha15;by_cases d3:j < (l.length:Int)
  ·rw [if_pos ⟨d2,d3⟩] at hk1;obtain ⟨ob1,H2,e2,g2⟩:=ζg2 k st2 L.length hI.2.1 (hpx _ _ _) j;rw [setP,← hk1] at g2;obtain ⟨H3,w',t1,_,t3⟩:=tail g2;refine ⟨.tuple #[],H3,w',?_,t3,⟨by rw [hlen']; exact hI.1,hkept'⟩⟩;simp only [callV,List.nil_append,List.cons_append];rw [ζ4o,nrm_of];simp -implicitDefEqProofs (disch:=omega) [ζe,v7,ha15,bne,v3,v8,d3,e2,t1]
  ·rw [if_neg fun h => d3 h.2] at hk1;rw [← hk1] at st2;obtain ⟨H3,w',_,t1,t3⟩:=tail st2;refine ⟨.tuple #[],H3,w',?_,t3,⟨by rw [hlen']; exact hI.1,hkept'⟩⟩;simp only [callV,List.nil_append,List.cons_append];rw [ζ4o,nrm_of];simp -implicitDefEqProofs (disch:=omega) [ζe,v7,ha15,bne,v3,v8,d3,t1]
 ·rw [if_neg d2] at ha15;rw [if_neg fun h => d2 h.1] at hk1;rw [← hk1] at st2;obtain ⟨H3,w',_,t1,t3⟩:=tail st2;refine ⟨.tuple #[],H3,w',?_,t3,⟨by rw [hlen']; exact hI.1,hkept'⟩⟩;simp only [callV,List.nil_append,List.cons_append];rw [ζ4o,nrm_of];simp -implicitDefEqProofs (disch:=omega) [ζe,v7,ha15,bne,t1]
set_option maxRecDepth 20000 in
set_option maxHeartbeats 1000000 in
theorem ζqc (k:Nat) (t:LTab) (ht:t.ok) {H0 H:Heap} {L:List It} (h:Star H0 H L) (il:Nat) {c:Nat} {o:Option Nat} {l:List Gl} (hil:L[il]? = some (itLine c o l)) (hl:l.length < 2 ^ 40) :
  ∃ H',R (T k) F.ζ3n [ligaV t,ptrV c] H = .ok (.int .i64 (runL t l).2) H' ∧ Star H0 H' (L.set il (itLine c o (runL t l).1)):=by
 have hll:=(List.getElem?_eq_some_iff.1 hil).1;have st:=((h.push ⟨[ligaV t],1,false⟩).push ⟨[ptrV c],1,false⟩).push ⟨[.slice none 0 0],1,false⟩;simp only [hn_push] at st;obtain ⟨H3,hH3⟩:∃ H3,H3 = ((H.push ⟨[ligaV t],1,false⟩).push ⟨[ptrV c],1,false⟩).push ⟨[.slice none 0 0],1,false⟩:=⟨_,rfl⟩
 rw [← hH3] at st;have ik:(L ++ [itBlk H.n ⟨[ligaV t],1,false⟩] ++ [itBlk (H.n + 1) ⟨[ptrV c],1,false⟩] ++ [itBlk (H.n + 1 + 1) ⟨[.slice none 0 0],1,false⟩])[L.length + 2]? = some (itBlk (H.n + 1 + 1) ⟨[.slice none 0 0],1,false⟩):=by
  rw [List.getElem?_append_right (by simp)];simp
 have st:=st.same (L.length + 2) ik (itLP (H.n + 1 + 1) none []) ⟨_,st.get _ ik,.inl ⟨rfl,rfl,rfl⟩⟩ fun b hb => by simpa [itLP,itBlk] using hb
 have eset:∀ (x1 x2 x3 y:It),(L ++ [x1] ++ [x2] ++ [x3]).set (L.length + 2) y = L ++ ([x1,x2] ++ [y]):=fun x1 x2 x3 y => by
  rw [List.set_append_right _ _ (by simp)];simp
 rw [eset] at st;have st:Star H0 H3 (ligaW t L il c (H.n + 1) H.n (H.n + 1 + 1) o (l,[]) none):=by
  refine st.perm ?_;unfold ligaW;dsimp only;rw [set_same hil];refine List.Perm.append_left L ?_;exact List.perm_append_comm.trans (List.Perm.cons _ (List.Perm.swap _ _ _))
 have ePl:=plainNew k (.func F.ζe) #[] #[ptrV (H.n + 1),ptrV (H.n + 1 + 1),ptrV H.n] H3;have st4:=st.push ⟨[.func (.func F.ζe) #[] #[ptrV (H.n + 1),ptrV (H.n + 1 + 1),ptrV H.n]],1,false⟩;have hact:=ζv8 k (liga_do k t ht L il c (H.n + 1) H.n (H.n + 1 + 1) o hll (l.length:Int) (H0:=H0)) H3.n
 obtain ⟨H7,w7,eR,st5,_⟩:=ζen k t.m ht.m (fun (s:List Gl × List Int) (ob:Option Nat) => ligaW t L il c (H.n + 1) H.n (H.n + 1 + 1) o s ob ++ [itBlk H3.n ⟨[.func (.func F.ζe) #[] #[ptrV (H.n + 1),ptrV (H.n + 1 + 1),ptrV H.n]],1,false⟩]) (fun s => (s.1.length:Int) = (l.length:Int) ∧ KeptOk (l.length:Int) s.2) (fun s => s.1) c
  (fun s ob => ⟨il,o,by
   unfold ligaW;rw [List.append_assoc,List.getElem?_append_left (by simpa using hll),List.getElem?_set_self hll]⟩) _ _ hact [] (l,[]) none ⟨rfl,by simp,fun x hx => by simp at hx⟩ (by simpa [List.append_assoc] using st4) hl
 have hr:runD t.m (fun s:List Gl × List Int => s.1) (fun s i e => (doLi t s i e,i,i + 1)) (2 * (l.length:Int) + 128) (2 * l.length + 128) ((l,[]),⟨0,0,0,0⟩) = runLr t l:=by unfold runLr; rfl
 rw [hr] at eR st5;have b0:=st4.memBlk (c:=H.n) (k:=⟨[ligaV t],1,false⟩) (by unfold ligaW; simp);have b1:=st4.memBlk (c:=H.n + 1) (k:=⟨[ptrV c],1,false⟩) (by unfold ligaW; simp);refine ⟨H7,?_,?_⟩
 ·rw [ζj4,nrm_of];have v1:=veq_liga t;have v2:=veq_mach t.m;unfold runL;generalize runLr t l = r at eR ⊢;rw [hH3] at ePl eR b0 b1;simp only [hn_push] at ePl eR;simp -implicitDefEqProofs (disch:=omega) [ζ3n,ePl,eR,v1,v2]
 ·unfold runL;generalize runLr t l = r at st5 ⊢;unfold ligaW at st5;have:=st5.take L.length;rw [List.append_assoc,List.append_assoc,List.take_append_of_le_length (by simp),List.take_of_length_le (by simp)] at this;exact this
end Go.Sw
end
section
namespace Go.Sw
open Go.RowKit
def insP (o:Option ITab):Value:=match o with | some t => insV t | none => .pointer none
theorem ζus (o:Option ITab):Flat (insP o):=by
 cases o with
 | none => exact .nilPtr
 | some t => exact Flat.insT t
theorem ζrx (k:Nat) {H:Heap} (b:List Int) (hb:Byt b) (g:Int) (hg:1 ≤ g ∧ g ≤ 65535) (hl:b.length < 2 ^ 31) (p2 p3 p4:Nat) (old:Value)
  (h2:H.get p2 = some ⟨[lv encB b],1,false⟩) (h3:H.get p3 = some ⟨[.int .i64 g],1,false⟩) (h4:H.get p4 = some ⟨[old],1,false⟩) (ht:∀ H',R (T k) F.ins_Take [vwB b,.int .i64 g] H' = orF (insS b g) insV H') :
  R (T k) F.ζ3m [ptrV p2,ptrV p3,ptrV p4] H = match insS b g with
   | some t => .ok (.tuple #[]) (H.set p4 (some ⟨[insV t],1,false⟩))
   | none => .panic failV H:=by
 rw [ζo9];have ht:=ht H;cases h:insS b g with
 | none =>
  rw [h] at ht;refine ζ1w ⟨H,?_,Ext.refl H⟩ Flat.fail.alive;simp -implicitDefEqProofs (disch:=omega) [ζ3m,h2,h3,ht]
 | some x =>
  rw [h] at ht;simp -implicitDefEqProofs (disch:=omega) [ζ3m,h2,h3,h4,ht]
def insO (b:List Int) (g:Int):Option ITab:=if 1 ≤ g ∧ g ≤ 65535 then insS b g else none
def insN (b:List Int) (g:Int):Int:=if 1 ≤ g ∧ g ≤ 65535 then (if (insS b g).isSome then 0 else 2) else 1
theorem ζru (k:Nat) {H:Heap} {v:Value} {b:List Int} (hv:Sl H 1 v encB b) (hb:Byt b) (g:Int) (hl:b.length ≤ 2 ^ 30) (ht:(1 ≤ g ∧ g ≤ 65535) → ∀ H',R (T k) F.ins_Take [vwB b,.int .i64 g] H' = orF (insS b g) insV H') :
  R (T k) F.ins_Read [v,.int .i64 g] H = .ok (.tuple #[insP (insO b g),.int .i64 (insN b g)]) H:=by
 rw [ζt4];have hx2:=(Ext.refl H).push ⟨[.int .i64 g],1,false⟩;have al:∀ o n,Alive H (.tuple #[insP o,.int .i64 n]):=fun o n => (Flat.tupleL (l:=[insP o,.int .i64 n]) (.cons (ζus o) (.cons (.int _ _) .nil))).alive;have fz:∀ H' o n,fzV H.n H' fzDepth (.tuple #[insP o,.int .i64 n]) = some (.tuple #[insP o,.int .i64 n],[]):=fun H' o n => by
  cases o <;> rfl
 by_cases hgg:1 ≤ g ∧ g ≤ 65535
 ·have c1:¬ g < 1:=by omega
  have c2:¬ g > 65535:=by omega
  have hx3:=hx2.push ⟨[.pointer none],1,false⟩;have o3:=Of_run k (hv.up hx3);have by3:=ζqm k (hv.up hx3) hl;have o4:=fun H => Of_lv k b H;have hin:=ζrx k (H:=((H.push ⟨[.int .i64 g],1,false⟩).push ⟨[.pointer none],1,false⟩).push ⟨[lv encB b],1,false⟩) b hb g hgg (by omega) (H.n + 2) H.n (H.n + 1) (.pointer none) (by simp) (by simp) (by simp) (ht hgg);cases hlk:insS b g with
  | none =>
   rw [hlk] at hin;have ht:=Try_no k F.ζ3m #[ptrV (H.n + 2),ptrV H.n,ptrV (H.n + 1)] hin;refine nrm_fz (H':=((H.push ⟨[.int .i64 g],1,false⟩).push ⟨[.pointer none],1,false⟩).push ⟨[lv encB b],1,false⟩) (v:=.tuple #[insP none,.int .i64 2]) ?_ (by unfold insO insN; rw [if_pos hgg,if_pos hgg,hlk]; exact fz _ _ _) (hx3.push _) (al _ _);simp -implicitDefEqProofs (disch:=omega) [ins_Read,c1,c2,o3,by3,o4,ht,insP]
  | some x =>
   rw [hlk] at hin;have ht:=Try_ok k F.ζ3m #[ptrV (H.n + 2),ptrV H.n,ptrV (H.n + 1)] hin;refine nrm_fz (H':=((H.push ⟨[.int .i64 g],1,false⟩).push ⟨[insV x],1,false⟩).push ⟨[lv encB b],1,false⟩) (v:=.tuple #[insP (some x),.int .i64 0]) ?_ (by unfold insO insN; rw [if_pos hgg,if_pos hgg,hlk]; exact fz _ _ _) ((hx2.push _).push _) (al _ _);simp at ht;simp -implicitDefEqProofs (disch:=omega) [ins_Read,c1,c2,o3,by3,o4,ht,insP]
 ·refine nrm_fz (H':=(H.push ⟨[.int .i64 g],1,false⟩).push ⟨[.pointer none],1,false⟩) (v:=.tuple #[insP none,.int .i64 1]) ?_ (by unfold insO insN; rw [if_neg hgg,if_neg hgg]; exact fz _ _ _) (hx2.push _) (al _ _);by_cases c1:g < 1
  ·simp -implicitDefEqProofs (disch:=omega) [ins_Read,c1,insP]
  ·have c2:g > 65535:=by omega
   simp -implicitDefEqProofs (disch:=omega) [ins_Read,c1,c2,insP]
end Go.Sw
end
section
namespace Go.Sw
open Go.RowKit
def ligaP (o:Option LTab):Value:=match o with | some t => ligaV t | none => .pointer none
theorem ζtd (o:Option LTab):Flat (ligaP o):=by
 cases o with
 | none => exact .nilPtr
 | some t => exact Flat.liga t
theorem ζqf (k:Nat) {H:Heap} (b:List Int) (hb:Byt b) (g:Int) (hg:1 ≤ g ∧ g ≤ 65535) (hl:b.length < 2 ^ 31) (p2 p3 p4:Nat) (old:Value)
  (h2:H.get p2 = some ⟨[lv encB b],1,false⟩) (h3:H.get p3 = some ⟨[.int .i64 g],1,false⟩) (h4:H.get p4 = some ⟨[old],1,false⟩) (ht:∀ H',R (T k) F.ζ2w [vwB b,.int .i64 g] H' = orF (ligaS b g) ligaV H') :
  R (T k) F.ζ31 [ptrV p2,ptrV p3,ptrV p4] H = match ligaS b g with
   | some t => .ok (.tuple #[]) (H.set p4 (some ⟨[ligaV t],1,false⟩))
   | none => .panic failV H:=by
 rw [ζmu];have ht:=ht H;cases h:ligaS b g with
 | none =>
  rw [h] at ht;refine ζ1w ⟨H,?_,Ext.refl H⟩ Flat.fail.alive;simp -implicitDefEqProofs (disch:=omega) [ζ31,h2,h3,ht]
 | some x =>
  rw [h] at ht;simp -implicitDefEqProofs (disch:=omega) [ζ31,h2,h3,h4,ht]
def ligaO (b:List Int) (g:Int):Option LTab:=if 1 ≤ g ∧ g ≤ 65535 then ligaS b g else none
def ligaN (b:List Int) (g:Int):Int:=if 1 ≤ g ∧ g ≤ 65535 then (if (ligaS b g).isSome then 0 else 2) else 1
theorem ζqb (k:Nat) {H:Heap} {v:Value} {b:List Int} (hv:Sl H 1 v encB b) (hb:Byt b) (g:Int) (hl:b.length ≤ 2 ^ 30) (ht:(1 ≤ g ∧ g ≤ 65535) → ∀ H',R (T k) F.ζ2w [vwB b,.int .i64 g] H' = orF (ligaS b g) ligaV H') :
  R (T k) F.ζ5t [v,.int .i64 g] H = .ok (.tuple #[ligaP (ligaO b g),.int .i64 (ligaN b g)]) H:=by
 rw [ζs3];have hx2:=(Ext.refl H).push ⟨[.int .i64 g],1,false⟩;have al:∀ o n,Alive H (.tuple #[ligaP o,.int .i64 n]):=fun o n => (Flat.tupleL (l:=[ligaP o,.int .i64 n]) (.cons (ζtd o) (.cons (.int _ _) .nil))).alive;have fz:∀ H' o n,fzV H.n H' fzDepth (.tuple #[ligaP o,.int .i64 n]) = some (.tuple #[ligaP o,.int .i64 n],[]):=fun H' o n => by
  cases o <;> rfl
 by_cases hgg:1 ≤ g ∧ g ≤ 65535
 ·have c1:¬ g < 1:=by omega
  have c2:¬ g > 65535:=by omega
  have hx3:=hx2.push ⟨[.pointer none],1,false⟩;have o3:=Of_run k (hv.up hx3);have by3:=ζqm k (hv.up hx3) hl;have o4:=fun H => Of_lv k b H;have hin:=ζqf k (H:=((H.push ⟨[.int .i64 g],1,false⟩).push ⟨[.pointer none],1,false⟩).push ⟨[lv encB b],1,false⟩) b hb g hgg (by omega) (H.n + 2) H.n (H.n + 1) (.pointer none) (by simp) (by simp) (by simp) (ht hgg);cases hlk:ligaS b g with
  | none =>
   rw [hlk] at hin;have ht:=Try_no k F.ζ31 #[ptrV (H.n + 2),ptrV H.n,ptrV (H.n + 1)] hin;refine nrm_fz (H':=((H.push ⟨[.int .i64 g],1,false⟩).push ⟨[.pointer none],1,false⟩).push ⟨[lv encB b],1,false⟩) (v:=.tuple #[ligaP none,.int .i64 2]) ?_ (by unfold ligaO ligaN; rw [if_pos hgg,if_pos hgg,hlk]; exact fz _ _ _) (hx3.push _) (al _ _);simp -implicitDefEqProofs (disch:=omega) [ζ5t,c1,c2,o3,by3,o4,ht,ligaP]
  | some x =>
   rw [hlk] at hin;have ht:=Try_ok k F.ζ31 #[ptrV (H.n + 2),ptrV H.n,ptrV (H.n + 1)] hin;refine nrm_fz (H':=((H.push ⟨[.int .i64 g],1,false⟩).push ⟨[ligaV x],1,false⟩).push ⟨[lv encB b],1,false⟩) (v:=.tuple #[ligaP (some x),.int .i64 0]) ?_ (by unfold ligaO ligaN; rw [if_pos hgg,if_pos hgg,hlk]; exact fz _ _ _) ((hx2.push _).push _) (al _ _);simp at ht;simp -implicitDefEqProofs (disch:=omega) [ζ5t,c1,c2,o3,by3,o4,ht,ligaP]
 ·refine nrm_fz (H':=(H.push ⟨[.int .i64 g],1,false⟩).push ⟨[.pointer none],1,false⟩) (v:=.tuple #[ligaP none,.int .i64 1]) ?_ (by unfold ligaO ligaN; rw [if_neg hgg,if_neg hgg]; exact fz _ _ _) (hx2.push _) (al _ _);by_cases c1:g < 1
  ·simp -implicitDefEqProofs (disch:=omega) [ζ5t,c1,ligaP]
  ·have c2:g > 65535:=by omega
   simp -implicitDefEqProofs (disch:=omega) [ζ5t,c1,c2,ligaP]
end Go.Sw
end
section
namespace Go.Sw
open Go.RowKit
theorem sl_blkG {α:Type} {enc:α → List Value} {m:Nat} (he:∀ x,(enc x).length = m) {H:Heap} {b e:Nat} {l:List α} {cs:List Value} (hcs:cs = rows enc l) (hg:H.get b = some ⟨cs,e,false⟩):Sl H m (.slice (some ⟨b,0,none⟩) l.length l.length) enc l :=
 .inr (.inr ⟨b,0,l.length,_,rfl,Nat.le_refl _,hg,by rw [List.drop_zero,hcs,List.take_of_length_le (by rw [ζf he]; exact Nat.le_refl _)]⟩)
theorem pG_ok:pG.ok:=by
 refine ⟨fun x hx => by simp [pG] at hx,fun r hr => ?_,by decide⟩;simp [pG] at hr;subst hr;intro x hx;simp at hx;omega
theorem pL_ok:pL.ok:=by
 refine ⟨fun x hx => ?_,fun r hr => ?_,by decide⟩
 ·simp [pL] at hx; omega
 ·simp [pL] at hr;subst hr;intro x hx;simp at hx;omega
set_option maxRecDepth 20000 in
set_option maxHeartbeats 4000000 in
theorem ζo3 (bs:List Int) (hb:Byt bs):R (T 999999) F.ζ0 [lv encB bs] Heap.empty = .ok (.bool true) Heap.empty:=by
 generalize hk:(999999:Nat) = k;have hW:ownW k = .no:=by subst hk; rfl
 have hk6:k < 1000000:=by subst hk; decide
 have hP0:∀ n,ownP sP17 k n = .fz:=by subst hk; intro n; rfl
 clear hk;rw [ζe2];generalize Heap.empty = H;have g:=((((((Star.nil H).push ⟨[.int .u8 1,.int .u8 0],1,false⟩).push ⟨[.int .u8 1,.int .u8 0],1,false⟩).push ⟨[.slice (some ⟨H.n,0,none⟩) 2 2,.slice (some ⟨H.n + 1,0,none⟩) 2 2],1,false⟩).push ⟨[.int .i64 0,.int .i64 32,.int .i64 0,.int .i64 65535,.int .i64 0,.int .i64 0,.int .i64 65535,.int .i64 65535],4,false⟩).push ⟨[.int .u16 9],1,false⟩).push ⟨[.slice none 0 0,.slice (some ⟨H.n + 2,0,none⟩) 2 2,.slice (some ⟨H.n + 3,0,none⟩) 2 2,.int .u8 0,.slice (some ⟨H.n + 4,0,none⟩) 1 1],1,false⟩;simp only [List.nil_append,List.cons_append,hn_push] at g
 have hP:=PlanSl.mk (p:=pG) (vC:=.slice none 0 0) (vR:=.slice (some ⟨H.n + 2,0,none⟩) 2 2) (sE:=.slice (some ⟨H.n + 3,0,none⟩) 2 2) (rv:=[([1,0],.slice (some ⟨H.n,0,none⟩) 2 2),([1,0],.slice (some ⟨H.n + 1,0,none⟩) 2 2)])
  (.inr (.inl ⟨rfl,.inl rfl⟩)) rfl (fun x hx => by
   simp at hx;rcases hx with rfl | rfl
   ·exact sl_blkG (l:=[1,0]) encB_len rfl (g.get 0 rfl)
   ·exact sl_blkG (l:=[1,0]) encB_len rfl (g.get 1 rfl))
  (sl_blkG (l:=[([1,0],Value.slice (some ⟨H.n,0,none⟩) 2 2),([1,0],Value.slice (some ⟨H.n + 1,0,none⟩) 2 2)]) encU_len rfl (g.get 2 rfl)) (sl_blkG (l:=[⟨0,32,0,65535⟩,⟨0,0,65535,65535⟩]) ζ52 rfl (g.get 3 rfl))
 have hw:=ζty k hk6 hW pG pG_ok (by decide) (by decide) (by decide) hP (sl_blkG (enc:=enc18i) (m:=1) (l:=[9]) (fun _ => rfl) rfl (g.get 4 rfl)) (fun x hx => by simp at hx; omega) (by simp);have hw:R (T k) F.ζ1c [.agg #[.slice none 0 0,.slice (some ⟨H.n + 2,0,none⟩) 2 2,.slice (some ⟨H.n + 3,0,none⟩) 2 2,.int .u8 0,.slice (some ⟨H.n + 4,0,none⟩) 1 1]] _ = .ok (lv encB bG) _:=hw;have hrd:=fun H' => ζru k (H:=H') (Sl.lv H' 1 bG) bG_byt 20 (by have:=bG_len; omega) (fun _ H' => ζrw k hk6 bG bG_byt 20 (by omega) (by have:=bG_len; omega) H');have g:=(((((((g.push ⟨[.int .u8 4,.int .u8 4,.int .u8 4,.int .u8 4,.int .u8 4,.int .u8 4,.int .u8 4,.int .u8 4,.int .u8 4,.int .u8 5],1,false⟩).push ⟨[.int .u8 0,.int .u8 0,.int .u8 0,.int .u8 0,.int .u8 1,.int .u8 2],1,false⟩).push ⟨[.int .u8 0,.int .u8 0,.int .u8 0,.int .u8 0,.int .u8 1,.int .u8 2],1,false⟩).push ⟨[.slice (some ⟨H.n + 7,0,none⟩) 6 6,.slice (some ⟨H.n + 8,0,none⟩) 6 6],1,false⟩).push ⟨[.int .i64 0,.int .i64 0,.int .i64 0,.int .i64 0,.int .i64 0,.int .i64 32768,.int .i64 0,.int .i64 0,.int .i64 0,.int .i64 40960,.int .i64 0,.int .i64 0],4,false⟩).push ⟨[.int .u32 0,.int .u32 2147483648],1,false⟩).push ⟨putC (.slice (some ⟨H.n + 6,0,none⟩) 10 10) (.slice (some ⟨H.n + 9,0,none⟩) 2 2) (.slice (some ⟨H.n + 10,0,none⟩) 3 3) (.slice (some ⟨H.n + 11,0,none⟩) 2 2) (.slice none 0 0) (.slice none 0 0),1,false⟩)
 simp only [List.nil_append,List.cons_append,hn_push] at g;obtain ⟨sC,oC,sL,oL,zz,H1,e1,g⟩:=put_l1 k (lv encB bs) (insV tG) (.int .i64 0) _ _ _ _ (L:=_ :: _ :: _ :: _ :: _ :: _ :: _ :: _ :: _ :: _ :: _ :: _ :: []) (b:=H.n + 12) g;simp only [List.nil_append,List.cons_append] at g
 have hP2:=PlanSl.mk (p:=pL) (vC:=.slice (some ⟨H.n + 6,0,none⟩) 10 10) (vR:=.slice (some ⟨H.n + 9,0,none⟩) 2 2) (sE:=.slice (some ⟨H.n + 10,0,none⟩) 3 3) (rv:=[([0,0,0,0,1,2],.slice (some ⟨H.n + 7,0,none⟩) 6 6),([0,0,0,0,1,2],.slice (some ⟨H.n + 8,0,none⟩) 6 6)])
  (sl_blkG (l:=[4,4,4,4,4,4,4,4,4,5]) encB_len rfl (g.get 6 rfl)) rfl (fun x hx => by
   simp at hx;rcases hx with rfl | rfl
   ·exact sl_blkG (l:=[0,0,0,0,1,2]) encB_len rfl (g.get 7 rfl)
   ·exact sl_blkG (l:=[0,0,0,0,1,2]) encB_len rfl (g.get 8 rfl))
  (sl_blkG (l:=[([0,0,0,0,1,2],Value.slice (some ⟨H.n + 7,0,none⟩) 6 6),([0,0,0,0,1,2],Value.slice (some ⟨H.n + 8,0,none⟩) 6 6)]) encU_len rfl (g.get 9 rfl)) (sl_blkG (l:=[⟨0,0,0,0⟩,⟨0,32768,0,0⟩,⟨0,40960,0,0⟩]) ζ52 rfl (g.get 10 rfl))
 have hc10:compsG 10 = [0,1,2,3,4,5,6,7,8,0]:=by decide
 have hl10:ligsG 10 = [0,1,2,3,4,5,6,7,8,9]:=by decide
 have hw17:=ζtx k (hP0 _) hW ⟨pL,[0,2147483648],compsG 10,ligsG 10⟩ ⟨pL_ok,by decide,by rw [hc10]; decide,by rw [hl10]; decide⟩ (by decide) (by decide) (by decide) (by decide) (by rw [hc10]; decide) (by rw [hl10]; decide) hP2 (sl_blkG (l:=[0,2147483648]) encF_len rfl (g.get 11 rfl)) ((g.row 13 rfl).sl encH_len) ((g.row 14 rfl).sl encH_len);have hbL:ligB pL [0,2147483648] (compsG 10) (ligsG 10) = bL:=by rw [hc10,hl10]; rfl
 have hw17:R (T k) F.ζa [.agg #[.slice (some ⟨H.n + 6,0,none⟩) 10 10,.slice (some ⟨H.n + 9,0,none⟩) 2 2,.slice (some ⟨H.n + 10,0,none⟩) 3 3,.int .u8 2,.slice (some ⟨H.n + 11,0,none⟩) 2 2,sC,sL]] H1 = .ok (lv encB bL) H1:=by rw [← hbL]; exact hw17
 have hrd17:=fun H' => ζqb k (H:=H') (Sl.lv H' 1 bL) bL_byt 20 (by have:=bL_len; omega) (fun _ H' => ζqd k hk6 bL bL_byt 20 (by omega) (by have:=bL_len; omega) H');unfold ligaO ligaN at hrd17;unfold insO insN at hrd;rw [if_pos (by omega),if_pos (by omega),ligaS_L] at hrd17;rw [if_pos (by omega),if_pos (by omega),insS_G] at hrd;simp only [ligaP,Option.isSome_some,if_true] at hrd17;simp only [insP,Option.isSome_some,if_true] at hrd;have b12:=g.get 12 rfl;clear hP hP2;generalize bL = bl at hw17 hrd17;generalize bG = bg at hw hrd;by_cases hm:bs.length > 60
 ·have hm':(bs.length:Int) > 60:=by omega
  refine nrm_gc ⟨_,?_,g.ext⟩ (.bool _);simp -implicitDefEqProofs (disch:=omega) [ζ0,hw,hrd,e1,ζ4h,b12,hw17,hrd17,hm']
 have hm':¬ (bs.length:Int) > 60:=by omega
 obtain ⟨s,o,z2,H2,e2,g⟩:=text_l2 k bs hb (by omega) (insV tG) (ligaV tL) g;simp only [List.nil_append,List.cons_append] at g;obtain ⟨ids,hids⟩:∃ ids,ids = textG bs:=⟨_,rfl⟩
 have hil:ids.length = bs.length:=by rw [hids]; simp [textG]
 have hi9:∀ (i:Nat) (x:Int),ids[i]? = some x → ∃ y:Nat,x = (y:Int) ∧ y < 9:=fun i x hx => by
  rw [hids] at hx;unfold textG at hx;rw [List.getElem?_map] at hx;obtain ⟨z,_,rfl⟩:=Option.map_eq_some_iff.1 hx;exact ⟨(z % 9).toNat,by omega,by omega⟩
 have hne:∀ x,x ∈ ids → x ≠ 65535:=fun x hx => by
  obtain ⟨i,hi⟩:=List.getElem?_of_mem hx;obtain ⟨y,rfl,hy⟩:=hi9 i x hi;omega
 rw [← hids] at g;have hln:∀ H',lnS s H' = .ok (.int .i64 bs.length) H':=by rw [← hil]; exact (g.row 15 rfl).len
 obtain ⟨c,o3,H3,e3,g⟩:=ζpj k g ((g.row 15 rfl).sl encI_len) (by omega);simp only [List.nil_append,List.cons_append] at g;obtain ⟨H4,o4,e4,g,_⟩:=ζrv k tG tG_ok g 16 rfl (by rw [newG_len]; omega) (ids.length:Nat) (by omega);rw [grow_run ids] at e4 g;simp only [List.set_cons_zero,List.set_cons_succ] at e4 g;have hgl:=ζgo ids ids.length (Nat.le_refl _);have hll:=ζ8c k g 16 rfl;obtain ⟨H5,e5,g⟩:=ζqc k tL tL_ok g 16 rfl (by rw [hgl]; omega);obtain ⟨l',hrun,hpl⟩:=take_go ids hi9 (growL ids ids.length) (ζt1 ids);rw [hrun] at e5 g;simp only [List.set_cons_zero,List.set_cons_succ] at e5 g;obtain ⟨o6,H6,e6,g⟩:=ζoo k g 16 rfl (by rw [hpl.len]; omega);rw [ζua hne hpl] at g;simp only [List.set_cons_zero,List.set_cons_succ] at g;have hll2:=ζ8c k g 16 rfl;have hgs:=ζop k hk6 g 16 rfl (by rw [newG_len]; omega);obtain ⟨z7,H7,e7,hx7⟩:=text_l3 k ids (by omega) ((g.row 15 rfl).sl encI_len) (Ext.refl _);have hcode:codeI ((ids.length:Int) + 1,0,(⟨growL ids ids.length,-1,0,(ids.length:Nat),false⟩:InsSt)) = 0:=rfl;rw [hcode,hil] at e4;rw [newG_len,hil] at hll2;rw [hgl,hil] at hll;rw [hil] at e7;have h2n:((bs.length:Int) + (bs.length:Int) != 2 * (bs.length:Int)) = false:=by rw [bne_eq_false_iff_eq]; omega
 refine nrm_gc ⟨H7,?_,g.ext.trans hx7⟩ (.bool _);simp -implicitDefEqProofs (disch:=omega) [ζ0,hw,hrd,e1,ζ4h,b12,hw17,hrd17,hm',h2n,e2,ζ82,e3,hln,e4,hll,e5,e6,hll2,hgs,newG_len,hil,e7,ζ83]
theorem ζk5 (vs:List Value) (h:ArgsLay [.one (.slice [.int .u8])] vs):∃ H',R (T 999999) F.ζ0 vs Heap.empty = .ok (.bool true) H':=by
 obtain ⟨v1,_,rfl,h1,h⟩:=h.head;obtain rfl:=h.done;obtain ⟨b,rfl,hb⟩:=arg_B h1;exact ⟨_,ζo3 b hb⟩
end Go.Sw
end
section
namespace Go.Sw
open Go.RowKit Go.Proofs Go.Shelf
attribute [local go_sem] Oper.semAt_some
end Go.Sw
end
section
namespace Go.Sw
open Go.RowKit Go.Proofs Go.Lib
theorem cp_wp {P:Program} {w:World} {o:Oper} {a:Act} {K:Act → World → Prop} {Q:Exit → Act → World → Prop} {d s:Operand} {t t':TypeId} (ho:o.op = .call { callee:=.builtin .copy,args:=#[d,s],argTypes:=#[t,t'] }) {v u v':Value} {w':World} (hd:a.eval d = v) (hs:a.eval s = u)
  (hr:(Builtin.copy_ #[t,t'] o.type #[v,u]).run P w = .ok v' w') (h:K (a.put o.dst v') w'):o.wp P a w K Q:=by
 refine wp_value (v:=v') (w':=w') ?_ h;simp [execOp,ho,resolve,invoke,builtin,hd,hs,hr,Result.andThen]
theorem cp_list {P:Program} {w:World} {ops:Array Oper} {rest:List Oper} {o:Oper} {a:Act} {Q:Exit → Act → World → Prop} (hgd:o.guard = none) {d s:Operand} {t t':TypeId} (ho:o.op = .call { callee:=.builtin .copy,args:=#[d,s],argTypes:=#[t,t'] }) {v u v':Value} {w':World} (hd:a.eval d = v) (hs:a.eval s = u)
  (hr:(Builtin.copy_ #[t,t'] o.type #[v,u]).run P w = .ok v' w') (h:wpList P ops Q rest (a.put o.dst v') w'):wpList P ops Q (o :: rest) a w :=
 wpList_plain hgd fun _ hK => cp_wp ho hd hs hr (hK _ _ h)
theorem cp_step {P:Program} {ops:Array Oper} {o:Oper} {a:Act} {w:World} {K:Act → World → Prop} {Q:Exit → Act → World → Prop} {E:Prop} (hg:o.guard = none) {d s:Operand} {t t':TypeId} (ho:o.op = .call { callee:=.builtin .copy,args:=#[d,s],argTypes:=#[t,t'] }) {v u v':Value} {w':World} (hd:a.eval d = v) (hs:a.eval s = u)
  (hr:(Builtin.copy_ #[t,t'] o.type #[v,u]).run P w = .ok v' w') (h:K (a.put o.dst v') w'):if Region.wanted o (yielded ops a.tmps) = true then Oper.wp P o a w K Q else E:=by
 have hw:Region.wanted o (yielded ops a.tmps) = true:=by simp [Region.wanted,hg]
 rw [if_pos hw];exact cp_wp ho hd hs hr h
theorem ζgt {P:Program} (w:World) (dT sT ty elem:TypeId) (b o dLen dCap:Nat) (a:Addr) (sLen sCap sz:Nat) (cs:List Value)
  (hu:P.underlying dT = some (.slice elem)) (hs:(P.info? elem).map (·.size) = some sz) (hn:cs.length = Nat.min sLen dLen * sz)
  (hsrc:∀ j v,cs[j]? = some v → w.cell? (a.add j) = some v) (hc:∀ j,j < cs.length → (w.cell? ⟨b,o + j,none⟩).isSome = true) (hf:∀ j,j < cs.length → w.frozen? ⟨b,o + j,none⟩ = false) (h1:∀ v ∈ cs,v.oneCell' = true) :
  (Builtin.copy_ #[dT,sT] ty #[.slice (some ⟨b,o,none⟩) dLen dCap,.slice (some a) sLen sCap]).run P w = .ok (goInt (Nat.min sLen dLen)) (w.setCells b o cs):=by
 have hl:=run_loadCells_list (P:=P) w a cs hsrc;have hst:=run_storeCells_cells (P:=P) b o cs 0 w (by simpa using hc) (by simpa using hf) h1;cases hq:P.info? elem with
 | none => simp [hq] at hs
 | some i =>
  have hi:i.size = sz:=by simpa [hq] using hs
  rw [hn] at hl;simp [Builtin.copy_,run_underlying hu,Builtin.lenOf,Builtin.firstCells,sizeOf,typeInfo,hq,hi,hl,hst]
theorem insT:Prog.underlying 22 = some (.slice 57):=by kernel_rfl
theorem insZ:(Prog.info? 57).map (·.size) = some 2:=by kernel_rfl
theorem insI:(Prog.info? 57).map (fun i => (i.zero,i.size,i.bytes)) = some (some (.agg #[.int .i64 0,.int .i64 0]),2,16):=by kernel_rfl
set_option maxRecDepth 100000 in
set_option maxHeartbeats 4000000 in
theorem ins_none (base:Option Addr) (n c i:Nat) (vb:Option Addr) (vc:Nat) (w:World) (hi:i ≤ n) (hn:n ≤ c) (hb:base = none → n = 0 ∧ c = 0) :
  Calls Prog 75 #[.slice base n c,.int .i64 (i:Nat),.slice vb 0 vc] w fun e w' => e = .returned (.slice base n c) ∧ w' = w:=by
 go_enter Try.func75,Try.ntmps75
 cases base with
 | none =>
  obtain ⟨rfl,rfl⟩:=hb rfl;obtain rfl:i = 0:=by omega
  go_wp2
  go_ret
  exact ⟨rfl,rfl⟩
 | some a =>
  obtain ⟨ab,ao,asp⟩:=a
  go_wp2
  all_goals (go_ret; exact ⟨rfl,rfl⟩)
set_option maxRecDepth 100000 in
set_option maxHeartbeats 4000000 in
theorem ins_end (base:Option Addr) (n c:Nat) (vb:Option Addr) (m vc:Nat) (w:World) (v':Value) (w1:World) (hn:n ≤ c) (hb:base = none → n = 0 ∧ c = 0) (hm:0 < m) (hr:(Builtin.append_ #[22,22] 22 #[.slice base n c,.slice vb m vc]).run Prog w = .ok v' w1) :
  Calls Prog 75 #[.slice base n c,.int .i64 (n:Nat),.slice vb m vc] w fun e w' => e = .returned v' ∧ w' = w1:=by
 have hz1:¬ ((m:Int) = 0):=by omega
 go_enter Try.func75,Try.ntmps75
 cases base with
 | none =>
  obtain ⟨rfl,rfl⟩:=hb rfl
  go_wp2_with (at_builtin; refine Lib.wpList_append_run _ rfl _ _ _ _ rfl _ _ rfl rfl _ _ hr ?_)
  go_ret
  exact ⟨rfl,rfl⟩
 | some a =>
  obtain ⟨ab,ao,asp⟩:=a
  go_wp2_with (at_builtin; refine Lib.wpList_append_run _ rfl _ _ _ _ rfl _ _ rfl rfl _ _ hr ?_)
  all_goals (go_ret; exact ⟨rfl,rfl⟩)
set_option maxRecDepth 100000 in
set_option maxHeartbeats 4000000 in
theorem ζut (b off n c i vb voff m vc:Nat) (CS VS:Array Value) (el el2:TypeId) (cs vs:List Value) (w:World) (hi:i < n) (hm:0 < m) (hroom:n + m ≤ c) (h31:n + m ≤ 2 ^ 31) (hvb:vb ≠ b) (g1:w.heap[b]? = some (.cells CS el (0,0))) (g2:w.heap[vb]? = some (.cells VS el2 (0,0))) (f1:off + c * 2 ≤ CS.size) (f2:voff + m * 2 ≤ VS.size)
  (hcs:cs = (CS.toList.drop off).take (n * 2)) (hvs:vs = (VS.toList.drop voff).take (m * 2)) (h1c:Ones cs) (h1v:Ones vs) :
  Calls Prog 75 #[.slice (some ⟨b,off,none⟩) n c,.int .i64 (i:Nat),.slice (some ⟨vb,voff,none⟩) m vc] w fun e w' => e = .returned (.slice (some ⟨b,off,none⟩) (n + m) c) ∧ w' = (w.drew.setCells b (off + (i + m) * 2) (cs.drop (i * 2))).setCells b (off + i * 2) vs:=by
 have hz1:¬ ((m:Int) = 0):=by omega
 have hz2:¬ ((i:Int) = (n:Int)):=by omega
 have hz3:¬ (c:Int) < (n:Int) + (m:Int):=by omega
 have hcl:cs.length = n * 2:=by rw [hcs,List.length_take,List.length_drop,Array.length_toList]; omega
 have hvl:vs.length = m * 2:=by rw [hvs,List.length_take,List.length_drop,Array.length_toList]; omega
 have cellB:∀ j,w.cell? ⟨b,j,none⟩ = CS[j]?:=fun j => by simp [World.cell?,g1]
 have cellV:∀ j,w.cell? ⟨vb,j,none⟩ = VS[j]?:=fun j => by simp [World.cell?,g2]
 have frB:∀ j,w.frozen? ⟨b,j,none⟩ = false:=fun j => by simp [World.frozen?,g1]
 have frV:∀ j,w.frozen? ⟨vb,j,none⟩ = false:=fun j => by simp [World.frozen?,g2]
 have atB:∀ j v,cs[j]? = some v → w.cell? ⟨b,off + j,none⟩ = some v:=fun j v hj => by
  rw [cellB];rw [hcs,List.getElem?_take] at hj;split at hj
  ·rw [List.getElem?_drop] at hj;simpa using hj
  ·cases hj
 have atV:∀ j v,vs[j]? = some v → w.cell? ⟨vb,voff + j,none⟩ = some v:=fun j v hj => by
  rw [cellV];rw [hvs,List.getElem?_take] at hj;split at hj
  ·rw [List.getElem?_drop] at hj;simpa using hj
  ·cases hj
 have hsa:w.shape? vb = some (el2,VS.size):=by simp [World.shape?,g2]
 have hsb:w.shape? b = some (el,CS.size):=by simp [World.shape?,g1]
 have hov:∀ lb cb,(callFunc 148 #[.slice (some ⟨vb,voff,none⟩) m vc,.slice (some ⟨b,off + (i + m) * 2,none⟩) lb cb]).run Prog w = .ok (.value (.bool false)) w:=fun lb cb => by
  rw [run_callFunc_extern (f:=148) (fn:=Try.f148) Try.func148 (by kernel_rfl) (by kernel_rfl) (by kernel_rfl) (e:=Extern.SlicesOverlaps.overlaps #[22,22] #[4]) (by kernel_rfl),
   Lib.run_overlaps_apart w 22 4 57 insT 2 (fun w => by kernel_rfl) ⟨vb,voff,none⟩ ⟨b,off + (i + m) * 2,none⟩ m vc lb cb hvb el2 el VS.size CS.size hsa hsb (by omega) (frV _) (frV _)]
  rfl
 have hdl:(cs.drop (i * 2)).length = (n - i) * 2:=by rw [List.length_drop,hcl]; omega
 have hw1:IntKind.i64.wrap ((i:Int) + (m:Int)) = (i:Int) + (m:Int):=by rw [IntKind.wrap_i64]; omega
 have hw2:IntKind.i64.wrap ((n:Int) + (m:Int)) = (n:Int) + (m:Int):=by rw [IntKind.wrap_i64]; omega
 have hb1:(0:Int) ≤ (i:Int) + (m:Int):=by omega
 have hb1':(0:Int) ≤ (n:Int) + (m:Int):=by omega
 have hin:i ≤ n:=by omega
 have htn:((i:Int) + (m:Int)).toNat = i + m:=by omega
 have htn':((n:Int) + (m:Int)).toNat = n + m:=by omega
 have hb2:¬ (c = i + m):=by omega
 have hb3:(i:Int) ≤ (n:Int) + (m:Int):=by omega
 have hb4:¬ (c = i):=by omega
 have hcp1:∀ ty dc sc,(Builtin.copy_ #[22,22] ty #[.slice (some ⟨b,off + (i + m) * 2,none⟩) (n + m - (i + m)) dc,.slice (some ⟨b,off + i * 2,none⟩) (n + m - i) sc]).run Prog w.drew = .ok (goInt (Nat.min (n + m - i) (n + m - (i + m)))) (w.drew.setCells b (off + (i + m) * 2) (cs.drop (i * 2))):=fun ty dc sc =>
  ζgt w.drew 22 22 ty 57 b (off + (i + m) * 2) (n + m - (i + m)) dc ⟨b,off + i * 2,none⟩ (n + m - i) sc 2 (cs.drop (i * 2)) insT insZ (by rw [hdl,show Nat.min (n + m - i) (n + m - (i + m)) = n - i by simp only [Nat.min_def]; split <;> omega])
   (fun j v hj => by rw [Addr.add_lit,Nat.add_assoc]; exact atB (i * 2 + j) v (by rwa [List.getElem?_drop] at hj))
   (fun j hj => by
    show (w.cell? _).isSome = true;rw [cellB,Array.getElem?_eq_getElem (by omega)]; rfl) (fun j hj => frB _) (fun v hv => h1c v (List.mem_of_mem_drop hv))
 obtain ⟨W1,hW1⟩:∃ W1,W1 = w.drew.setCells b (off + (i + m) * 2) (cs.drop (i * 2)):=⟨_,rfl⟩
 have hW1r:W1 = w.drew.setRow b (splice CS.toList (off + (i + m) * 2) (cs.drop (i * 2))).toArray:=by rw [hW1]; exact ζ4q b el (0,0) _ _ CS w.drew g1 (by omega)
 have hW1b:W1.heap[b]? = some (.cells (splice CS.toList (off + (i + m) * 2) (cs.drop (i * 2))).toArray el (0,0)):=by rw [hW1r]; exact setRow_heap _ _ _ _ _ _ g1
 have hspl:(splice CS.toList (off + (i + m) * 2) (cs.drop (i * 2))).length = CS.size:=by rw [ζ33 _ _ _ (by rw [Array.length_toList (xs:=CS)]; omega)]; simp
 have hcp2:∀ (W:World),(∀ x,W.cell? x = W1.cell? x) → (∀ x,W.frozen? x = W1.frozen? x) → ∀ ty dc,(Builtin.copy_ #[22,22] ty #[.slice (some ⟨b,off + i * 2,none⟩) (n + m - i) dc,.slice (some ⟨vb,voff,none⟩) m vc]).run Prog W = .ok (goInt (Nat.min m (n + m - i))) (W.setCells b (off + i * 2) vs):=fun W hWc hWf ty dc =>
  ζgt W 22 22 ty 57 b (off + i * 2) (n + m - i) dc ⟨vb,voff,none⟩ m vc 2 vs insT insZ (by rw [hvl,show Nat.min m (n + m - i) = m by simp only [Nat.min_def]; split <;> omega])
   (fun j v hj => by
    rw [Addr.add_lit,hWc,hW1,World.cell?_setCells_out b _ _ _ _ (fun h _ => absurd h hvb)];exact atV j v hj)
   (fun j hj => by
    rw [hWc];simp only [World.cell?,hW1b];rw [Array.getElem?_eq_getElem (by rw [List.size_toArray,hspl]; omega)]; rfl) (fun j hj => by rw [hWf]; simp [World.frozen?,hW1b]) h1v
 rw [← hW1] at hcp1;clear hcs hvs
 go_enter Try.func75,Try.ntmps75
 go_wp2_with (simp only [hov])
 go_region_law (refine cp_step rfl rfl (by simp [Act.eval,Act.put]) (by simp [Act.eval,Act.put]) (hcp1 _ _ _) ?_)
 go_wp2_with (at_builtin; refine cp_list rfl rfl rfl rfl (hcp2 _ (fun _ => rfl) (fun _ => rfl) _ _) ?_)
 go_ret
 first | exact ⟨rfl,rfl⟩ | exact ⟨rfl,by rw [hW1]⟩
set_option maxRecDepth 100000 in
set_option maxHeartbeats 4000000 in
theorem ins_grow (b off n c i vb voff m vc:Nat) (CS VS:Array Value) (el el2:TypeId) (cs vs:List Value) (w:World) (hi:i < n) (hm:0 < m) (hnc:n ≤ c) (hroom:c < n + m) (h31:n + m ≤ 2 ^ 31) (g1:w.heap[b]? = some (.cells CS el (0,0))) (g2:w.heap[vb]? = some (.cells VS el2 (0,0))) (f1:off + n * 2 ≤ CS.size) (f2:voff + m * 2 ≤ VS.size)
  (hcs:cs = (CS.toList.drop off).take (n * 2)) (hvs:vs = (VS.toList.drop voff).take (m * 2)) (h1c:Ones cs) (h1v:Ones vs) :
  ∃ G,n + m ≤ G ∧ Calls Prog 75 #[.slice (some ⟨b,off,none⟩) n c,.int .i64 (i:Nat),.slice (some ⟨vb,voff,none⟩) m vc] w fun r w' => r = .returned (.slice (some ⟨w.heap.size,0,none⟩) (n + m) G) ∧
   w' = (((w.alloc (.cells ((cs.take (i * 2)).toArray ++ Builtin.zeroCells (Value.agg #[.int .i64 0,.int .i64 0]).cells (n + m - i) ++ Builtin.zeroCells (Value.agg #[.int .i64 0,.int .i64 0]).cells (G - (n + m))) 57)).drew.setCells w.heap.size (i * 2) vs).drew).setCells w.heap.size ((i + m) * 2) (cs.drop (i * 2)):=by
 refine ⟨grownCap w (n + m) c 57,grownCap_ge w _ _ _,?_⟩;obtain ⟨i0,hi0,hz0,hzs,hzb⟩:=info_parts insI;have hz1:¬ ((m:Int) = 0):=by omega
 have hz2:¬ ((i:Int) = (n:Int)):=by omega
 have hz3:(c:Int) < (n:Int) + (m:Int):=by omega
 have hcl:cs.length = n * 2:=by rw [hcs,List.length_take,List.length_drop,Array.length_toList]; omega
 have hvl:vs.length = m * 2:=by rw [hvs,List.length_take,List.length_drop,Array.length_toList]; omega
 have cellB:∀ j,w.cell? ⟨b,j,none⟩ = CS[j]?:=fun j => by simp [World.cell?,g1]
 have cellV:∀ j,w.cell? ⟨vb,j,none⟩ = VS[j]?:=fun j => by simp [World.cell?,g2]
 have atB:∀ j v,cs[j]? = some v → w.cell? ⟨b,off + j,none⟩ = some v:=fun j v hj => by
  rw [cellB];rw [hcs,List.getElem?_take] at hj;split at hj
  ·rw [List.getElem?_drop] at hj;simpa using hj
  ·cases hj
 have atV:∀ j v,vs[j]? = some v → w.cell? ⟨vb,voff + j,none⟩ = some v:=fun j v hj => by
  rw [cellV];rw [hvs,List.getElem?_take] at hj;split at hj
  ·rw [List.getElem?_drop] at hj;simpa using hj
  ·cases hj
 have hbw:b < w.heap.size:=(Array.getElem?_eq_some_iff.1 g1).1;have hvw:vb < w.heap.size:=(Array.getElem?_eq_some_iff.1 g2).1;have hkk:(n:Int) + (m:Int) - (i:Int) = ((n + m - i:Nat):Int):=by omega
 have hik:i + (n + m - i) = n + m:=by omega
 have hold:(Builtin.firstCells i0.size i (.slice (some ⟨b,off,none⟩) i c)).run Prog w.drew = .ok (cs.take (i * 2)).toArray w.drew:=by
  rw [hzs];exact run_firstCells_some w.drew 2 i ⟨b,off,none⟩ i c (cs.take (i * 2)) (by rw [List.length_take]; omega) (fun j v hj => by
   rw [Addr.add_lit];rw [List.getElem?_take] at hj;split at hj
   ·exact atB j v hj
   ·cases hj)
 have hfit:Builtin.nextslicecap (n + m) c * i0.bytes ≤ 281474976710656:=by
  rw [hzb];exact growslice_fits hroom (by omega)
 have hrz:∀ ty,(Builtin.append_ #[22,3] ty #[.slice (some ⟨b,off,none⟩) i c,.int .i64 ((n:Int) + (m:Int) - (i:Int))]).run Prog w =
   .ok (.slice (some ⟨w.heap.size,0,none⟩) (n + m) (grownCap w (n + m) c 57)) (w.drew.alloc (.cells ((cs.take (i * 2)).toArray ++ Builtin.zeroCells (Value.agg #[.int .i64 0,.int .i64 0]).cells (n + m - i) ++ Builtin.zeroCells (Value.agg #[.int .i64 0,.int .i64 0]).cells (grownCap w (n + m) c 57 - (n + m))) 57)):=fun ty => by
  have h:=Lib.run_append_grow_zeros w 22 3 ty 57 i0 _ .i64 .i64 insT (by kernel_rfl) hi0 hz0 (some ⟨b,off,none⟩) i c (cs.take (i * 2)) hold (n + m - i) (by omega) (by omega) (by omega) (by omega) (by rw [hzb]; omega) (by rw [hik]; exact hfit);rw [hik] at h;rw [hkk];exact h
 obtain ⟨G,hG⟩:∃ G,G = grownCap w (n + m) c 57:=⟨_,rfl⟩
 obtain ⟨ROW,hROW⟩:∃ ROW:Array Value,ROW = (cs.take (i * 2)).toArray ++ Builtin.zeroCells (Value.agg #[.int .i64 0,.int .i64 0]).cells (n + m - i) ++ Builtin.zeroCells (Value.agg #[.int .i64 0,.int .i64 0]).cells (G - (n + m)):=⟨_,rfl⟩
 rw [← hG] at hrz ⊢;rw [← hROW] at hrz ⊢;have hGn:n + m ≤ G:=by rw [hG]; exact grownCap_ge w _ _ _
 have hRl:(n + m) * 2 ≤ ROW.size:=by
  rw [hROW];simp only [Array.size_append,List.size_toArray,size_zeroCells,List.length_take,hcl];show _ ≤ _ + (n + m - i) * 2 + (G - (n + m)) * 2;omega
 obtain ⟨W1,hW1⟩:∃ W1,W1 = w.drew.alloc (.cells ROW 57):=⟨_,rfl⟩
 rw [← hW1] at hrz;have hNh:W1.heap[w.heap.size]? = some (.cells ROW 57 (0,0)):=by rw [hW1]; exact ζ3t _ _
 have hN:∀ j,j < (n + m) * 2 → (W1.cell? ⟨w.heap.size,j,none⟩).isSome = true:=fun j hj => by
  simp only [World.cell?,hNh];rw [Array.getElem?_eq_getElem (by omega)]; rfl
 have hNf:∀ j,W1.frozen? ⟨w.heap.size,j,none⟩ = false:=fun j => by simp [World.frozen?,hNh]
 have hOb:∀ j v,w.cell? ⟨b,j,none⟩ = some v → W1.cell? ⟨b,j,none⟩ = some v:=fun j v h => by rw [hW1,World.cell?_alloc_past (w:=w.drew) _ b j hbw]; exact h
 have hOv:∀ j v,w.cell? ⟨vb,j,none⟩ = some v → W1.cell? ⟨vb,j,none⟩ = some v:=fun j v h => by rw [hW1,World.cell?_alloc_past (w:=w.drew) _ vb j hvw]; exact h
 have hcpA:∀ (W:World),(∀ x,W.cell? x = W1.cell? x) → (∀ x,W.frozen? x = W1.frozen? x) → ∀ ty dc,(Builtin.copy_ #[22,22] ty #[.slice (some ⟨w.heap.size,i * 2,none⟩) (n + m - i) dc,.slice (some ⟨vb,voff,none⟩) m vc]).run Prog W = .ok (goInt (Nat.min m (n + m - i))) (W.setCells w.heap.size (i * 2) vs):=fun W hWc hWf ty dc =>
  ζgt W 22 22 ty 57 w.heap.size (i * 2) (n + m - i) dc ⟨vb,voff,none⟩ m vc 2 vs insT insZ (by rw [hvl,show Nat.min m (n + m - i) = m by simp only [Nat.min_def]; split <;> omega])
   (fun j v hj => by rw [Addr.add_lit,hWc]; exact hOv _ v (atV j v hj))
   (fun j hj => by rw [hWc]; exact hN _ (by omega)) (fun j hj => by rw [hWf]; exact hNf _) h1v
 have hG63:G ≤ 9223372036854775807:=by
  have:=grownCap_le_maxLen w (n + m) c 57 (by unfold maxLen; omega);rw [← hG] at this;unfold maxLen at this;omega
 have hGi:¬ (G = i):=by omega
 have hGim:¬ (G = i + m):=by omega
 have hci:¬ (c = i):=by omega
 have hbN:b ≠ w.heap.size:=by omega
 have hdl:(cs.drop (i * 2)).length = (n - i) * 2:=by rw [List.length_drop,hcl]; omega
 have hcpB:∀ (W:World),(∀ x,W.cell? x = (W1.setCells w.heap.size (i * 2) vs).cell? x) → (∀ x,W.frozen? x = (W1.setCells w.heap.size (i * 2) vs).frozen? x) → ∀ ty dc sc,(Builtin.copy_ #[22,22] ty #[.slice (some ⟨w.heap.size,(i + m) * 2,none⟩) (n + m - (i + m)) dc,.slice (some ⟨b,off + i * 2,none⟩) (n - i) sc]).run Prog W = .ok (goInt (Nat.min (n - i) (n + m - (i + m)))) (W.setCells w.heap.size ((i + m) * 2) (cs.drop (i * 2))):=fun W hWc hWf ty dc sc =>
  ζgt W 22 22 ty 57 w.heap.size ((i + m) * 2) (n + m - (i + m)) dc ⟨b,off + i * 2,none⟩ (n - i) sc 2 (cs.drop (i * 2)) insT insZ (by rw [hdl,show Nat.min (n - i) (n + m - (i + m)) = n - i by simp only [Nat.min_def]; split <;> omega])
   (fun j v hj => by
    rw [Addr.add_lit,hWc,World.cell?_setCells_out _ _ _ _ _ (fun h _ => absurd h hbN),Nat.add_assoc];exact hOb _ v (atB (i * 2 + j) v (by rwa [List.getElem?_drop] at hj)))
   (fun j hj => by
    rw [hWc,ζ4q w.heap.size 57 (0,0) _ _ ROW W1 hNh (by omega)];simp only [World.cell?,setRow_heap _ _ _ _ _ _ hNh];rw [Array.getElem?_eq_getElem (by rw [List.size_toArray,ζ33 _ _ _ (by rw [Array.length_toList (xs:=ROW)]; omega),Array.length_toList (xs:=ROW)]; omega)]; rfl)
   (fun j hj => by rw [hWf,World.frozen?_setCells]; exact hNf _) (fun v hv => h1c v (List.mem_of_mem_drop hv))
 subst hW1;have hE1:∀ x,((w.alloc (.cells ROW 57)).drew).cell? x = (w.drew.alloc (.cells ROW 57)).cell? x:=fun x => rfl;have hE2:∀ x,((w.alloc (.cells ROW 57)).drew).frozen? x = (w.drew.alloc (.cells ROW 57)).frozen? x:=fun x => rfl;have hF1:∀ x,(((w.alloc (.cells ROW 57)).drew.setCells w.heap.size (i * 2) vs).drew).cell? x = ((w.drew.alloc (.cells ROW 57)).setCells w.heap.size (i * 2) vs).cell? x:=fun x => rfl;have hF2:∀ x,(((w.alloc (.cells ROW 57)).drew.setCells w.heap.size (i * 2) vs).drew).frozen? x = ((w.drew.alloc (.cells ROW 57)).setCells w.heap.size (i * 2) vs).frozen? x:=fun x => rfl;have hw1:IntKind.i64.wrap ((i:Int) + (m:Int)) = (i:Int) + (m:Int):=by rw [IntKind.wrap_i64]; omega
 have hw2:IntKind.i64.wrap ((n:Int) + (m:Int)) = (n:Int) + (m:Int):=by rw [IntKind.wrap_i64]; omega
 have hw3:IntKind.i64.wrap ((n:Int) + (m:Int) - (i:Int)) = (n:Int) + (m:Int) - (i:Int):=by rw [IntKind.wrap_i64]; omega
 have hb1:(0:Int) ≤ (i:Int) + (m:Int):=by omega
 have hin:i ≤ n:=by omega
 have htn:((i:Int) + (m:Int)).toNat = i + m:=by omega
 have hb3:(i:Int) ≤ (n:Int):=by omega
 clear hkk hik hold hROW hG hRl hN hNf hNh cellB cellV;clear hcs hvs
 go_enter Try.func75,Try.ntmps75
 go_wp2_with (first
  | (at_builtin; refine Lib.wpList_append_run _ rfl _ _ _ _ rfl _ _ rfl rfl _ _ (hrz _) ?_)
  | (at_builtin; refine cp_list rfl rfl rfl rfl (hcpA _ hE1 hE2 _ _) ?_)
  | (at_builtin; refine cp_list rfl rfl rfl rfl (hcpB _ (fun _ => rfl) (fun _ => rfl) _ _ _) ?_))
 go_region_law (refine cp_step rfl rfl (v:=.slice (some ⟨w.heap.size,(i + m) * 2,none⟩) (n + m - (i + m)) (G - (i + m))) (u:=.slice (some ⟨b,off + i * 2,none⟩) (n - i) (c - i)) (by simp [Act.eval,Act.put]) (by simp [Act.eval,Act.put]) (hcpB _ hF1 hF2 _ (G - (i + m)) (c - i)) ?_)
 go_wp2
 go_ret
 exact ⟨rfl,rfl⟩
theorem ins_walk:InsWalk Prog 75 22 57 2 (.agg #[.int .i64 0,.int .i64 0]) :=
 ⟨⟨Try.f75,Try.func75,by kernel_rfl,by kernel_rfl⟩,ins_none,ins_end,ζut,ins_grow⟩
theorem ζt6:SpIs Prog F.ζh fun _ args H => insertV 2 16 args H:=by
 obtain ⟨i0,hi0,hz0,hzs,hzb⟩:=info_parts insI;exact ζuv (inf:=i0) insT hi0 hz0 (by rw [hzs]; rfl) hzs hzb (by decide) ins_walk
end Go.Sw
end
section
namespace Go.Sw
open Go.RowKit
theorem names_ok:NamesOk Prog:=NamesOk.of (by kernel_rfl)
theorem mixed_ok:Prog.follows .mixedOrders = true:=Checked.mixed Go.Proofs.Try.checked
theorem laid_ok:laidOutB Prog = true:=by kernel_rfl
theorem ζp6:SpIs Prog F.ζ7 fun _ args H => cloneV 2 16 args H :=
 clone_is (c:={ P:=Prog,kp:=kpS,sp:=fun _ => none }) (fun _ _ => rfl) names_ok mixed_ok (t:=22) (e:=57) (by kernel_rfl) fun call a H => (ζ46 0 _ call a H).trans (by
  unfold ζ7 cloneF;simp only [be_22_0,ap_22,beR_bare])
theorem ζp7:SpIs Prog F.ζn fun _ args H => cloneV 3 12 args H :=
 clone_is (c:={ P:=Prog,kp:=kpS,sp:=fun _ => none }) (fun _ _ => rfl) names_ok mixed_ok (t:=98) (e:=137) (by kernel_rfl) fun call a H => (ζ47 0 _ call a H).trans (by
  unfold ζn cloneF;simp only [be_98_0,ap_98,beR_bare])
theorem ζq9:SpIs Prog F.ζo fun _ args H => cloneV 2 40 args H :=
 clone_is (c:={ P:=Prog,kp:=kpS,sp:=fun _ => none }) (fun _ _ => rfl) names_ok mixed_ok (t:=142) (e:=140) (by kernel_rfl) fun call a H => (ζ48 0 _ call a H).trans (by
  unfold ζo cloneF;simp only [be_142_0,ap_142,beR_bare])
theorem more_is (f:FuncId) (s:Sp) (h:moreS f = some s):SpIs Prog f s:=by
 unfold moreS at h;cases h4:Nat.beq f 4 with
 | true => have:=Nat.eq_of_beq_eq_true h4; subst this; rw [h4,cond_true] at h; injection h with h; subst h; exact SpIs.stuck _ _
 | false =>
 rw [h4,cond_false] at h;cases h7:Nat.beq f 7 with
 | true => have:=Nat.eq_of_beq_eq_true h7; subst this; rw [h7,cond_true] at h; injection h with h; subst h; exact SpIs.stuck _ _
 | false =>
 rw [h7,cond_false] at h;cases h40:Nat.beq f 40 with
 | true => have:=Nat.eq_of_beq_eq_true h40; subst this; rw [h40,cond_true] at h; injection h with h; subst h; exact try_is
 | false =>
 rw [h40,cond_false] at h;cases h42:Nat.beq f 42 with
 | true => have:=Nat.eq_of_beq_eq_true h42; subst this; rw [h42,cond_true] at h; injection h with h; subst h; exact SpIs.stuck _ _
 | false =>
 rw [h42,cond_false] at h;cases h71:Nat.beq f 71 with
 | true => have:=Nat.eq_of_beq_eq_true h71; subst this; rw [h71,cond_true] at h; injection h with h; subst h; exact ζp6
 | false =>
 rw [h71,cond_false] at h;cases h73:Nat.beq f 73 with
 | true => have:=Nat.eq_of_beq_eq_true h73; subst this; rw [h73,cond_true] at h; injection h with h; subst h; exact trim_is (c:={ P:=Prog,kp:=kpS,sp:=fun _ => none }) (fun _ _ => rfl) names_ok mixed_ok
 | false =>
 rw [h73,cond_false] at h;cases h75:Nat.beq f 75 with
 | true => have:=Nat.eq_of_beq_eq_true h75; subst this; rw [h75,cond_true] at h; injection h with h; subst h; exact ζt6
 | false =>
 rw [h75,cond_false] at h;cases h115:Nat.beq f 115 with
 | true => have:=Nat.eq_of_beq_eq_true h115; subst this; rw [h115,cond_true] at h; injection h with h; subst h; exact ζp7
 | false =>
 rw [h115,cond_false] at h;cases h134:Nat.beq f 134 with
 | true => have:=Nat.eq_of_beq_eq_true h134; subst this; rw [h134,cond_true] at h; injection h with h; subst h; exact ζq9
 | false =>
 rw [h134,cond_false] at h;cases h
theorem T_prog (k:Nat):(T k).c.P = Prog:=by unfold T C; rfl
theorem told0 {k:Nat} (hk:oneOf (k % 1000000) speaksT = false):SpOk (T k).c:=by
 have h1:SpOk (C k):=by
  unfold C;exact SpOk.none (P:=Prog) (kp:=kpS) (speaks:=speaksT) (more:=moreS) (k:=k % 1000000) hk more_is
 exact h1
end Go.Sw
end
