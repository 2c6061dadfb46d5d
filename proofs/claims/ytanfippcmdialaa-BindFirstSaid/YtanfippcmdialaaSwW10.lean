/-
  Functions' forms, and what is proved of them, part 10.
-/
import Derived.Test.YtanfippcmdialaaSwW8
import Derived.Test.YtanfippcmdialaaSwW6
import Derived.Test.YtanfippcmdialaaSwW3
import Derived.Test.YtanfippcmdialaaSwW1
import Derived.Test.YtanfippcmdialaaSwW2
import Derived.Test.YtanfippcmdialaaSwW9
import Derived.Test.YtanfippcmdialaaSwW4
import Derived.Test.YtanfippcmdialaaSwCfg
import Derived.Test.YtanfippcmdialaaSwW5
import Derived.Test.YtanfippcmdialaaSwLib10
set_option linter.unusedSimpArgs false
set_option linter.unusedVariables false
set_option linter.unusedSectionVars false
section
namespace Go.Sw
open Go.RowKit
variable {σ:Type}
theorem ζlx {p:Plan} (hp:p.ok) {w:Int} (hw:w = 0 ∨ w = 1 ∨ w = 2) {rm more:List Int} (hrm:rm.length ≤ 1000) (h1:p.cls.length ≤ 1000) (h2:p.rows.length ≤ 1000) {g:Int} {m:Mach} (h:machS (planRoom p w rm ++ more) g w = some m) (hn:m.ents.length ≤ p.ents.length)
  {e:En} (he:e ∈ m.ents):∃ q,q ∈ p.ents ∧ e = entM w q:=by
 have e1:=ζns p hp w rm more hrm h1 h2 g;rw [h] at e1;obtain ⟨x,hx,hm⟩:=Option.map_eq_some_iff.1 e1.symm;obtain ⟨N,hN⟩:=ζem _ _ _ hx;have hme:m.ents = x.2:=by rw [← hm]
 rw [hme] at he hn;obtain ⟨i,hi⟩:=List.getElem?_of_mem he;obtain ⟨j,hj,hk⟩:=mapO_get hN hi;have hil:=(List.getElem?_eq_some_iff.1 hi).1;have hlen:=mapO_len hN;simp at hlen;rw [List.getElem?_range (by omega)] at hj;injection hj with hj;subst hj;obtain ⟨q,hq⟩:∃ q,p.ents[i]? = some q:=⟨_,List.getElem?_eq_getElem (by omega)⟩
 have:=ζn7 hw more hq;rw [this] at hk;injection hk with hk;exact ⟨q,List.mem_of_getElem? hq,hk.symm⟩
theorem runD_inv (m:Mach) (hm:m.ok) (ln:σ → List Gl) (f:σ → Int → En → σ × Int × Int) (P:σ → Prop) (hf:∀ s i e,P s → 0 ≤ i → e ∈ m.ents → P (f s i e).1) (most:Int) :
  ∀ (n:Nat) (x:σ × Drv),P x.1 → 0 ≤ x.2.pl → 0 ≤ x.2.st → x.2.st < m.rows.length → P (runD m ln f most n x).2.2
 | 0,x,h,_,_,_ => h
 | n + 1,x,h,hp,h0,h1 => by
  have hmem:=entS_mem hm (ln x.1) x.2 ⟨h0,h1⟩;have hent:=hm.ent _ hmem;have hP:P (stepD m ln f x).1.1:=by unfold stepD; split <;> exact hf _ _ _ h hp hmem
  have hst:0 ≤ (stepD m ln f x).1.2.st ∧ (stepD m ln f x).1.2.st < m.rows.length:=by unfold stepD; split <;> exact ⟨hent.1,hent.2.1⟩
  have hpl:=stepD_pl m ln f x;unfold runD;split
  ·split
   ·exact hP
   ·split
    ·exact hP
    ·exact runD_inv m hm ln f P hf most n _ hP hpl hst.1 hst.2
  ·exact h
theorem ζir (m:Mach) (l:List Gl) (j:Nat):(clsS m l j).2 = decide (l.length ≤ j):=by
 unfold clsS atG;by_cases h2:(j:Int) < l.length
 ·obtain ⟨g,hg⟩:∃ g,l[j]? = some g:=⟨_,List.getElem?_eq_getElem (by omega)⟩
  rw [if_pos ⟨by omega,h2⟩,Int.toNat_natCast,hg,decide_eq_false (by omega)]
 ·rw [if_neg (fun hc => h2 hc.2),decide_eq_true (by omega)]
theorem runD_go (m:Mach) (ln:σ → List Gl) (f:σ → Int → En → σ × Int × Int) (most:Int) (len:Nat) (hmost:(len:Int) < most) (P:Nat → σ → Int → Prop) (hlen:∀ j s st,P j s st → (ln s).length = len)
  (hgo:∀ (j:Nat) s st,j ≤ len → P j s st → ¬ (entS m (ln s) ⟨st,j,j,0⟩).flags / 16384 % 2 = 1 ∧ (f s j (entS m (ln s) ⟨st,j,j,0⟩)).2.2 = (j:Int) + 1 ∧ (j < len → P (j + 1) (f s j (entS m (ln s) ⟨st,j,j,0⟩)).1 (entS m (ln s) ⟨st,j,j,0⟩).next)) :
  ∀ (c j n:Nat) (z:Int) (s:σ) (st:Int),z = j → len = j + c → c < n → P j s st → ∃ s' st',P len s' st' ∧ runD m ln f most n (s,⟨st,z,z,0⟩) = ((len:Int) + 1,0,(f s' len (entS m (ln s') ⟨st',len,len,0⟩)).1)
 | c,j,0,z,s,st,_,_,h,_ => by omega
 | 0,j,n + 1,z,s,st,hz,hj,hn,hP => by
  subst hz;obtain ⟨g1,g2,_⟩:=hgo j s st (by omega) hP;have hl:=hlen j s st hP;have hjl:j = len:=by omega
  subst hjl;refine ⟨s,st,hP,?_⟩;unfold runD;rw [if_pos (by dsimp only; omega)];unfold stepD;dsimp only;rw [if_neg g1,ζir,hl,decide_eq_true (Nat.le_refl _)];rfl
 | c + 1,j,n + 1,z,s,st,hz,hj,hn,hP => by
  subst hz;obtain ⟨g1,g2,g3⟩:=hgo j s st (by omega) hP;have hl:=hlen j s st hP;have ih:=runD_go m ln f most len hmost P hlen hgo c (j + 1) n _ _ _ rfl (by omega) (by omega) (g3 (by omega));unfold runD;rw [if_pos (by dsimp only; omega)];unfold stepD;dsimp only;rw [if_neg g1,ζir,hl,decide_eq_false (by omega),g2];simp only [Bool.false_eq_true,if_false];rw [if_neg (by decide),show max ((j:Int) + 1) 0 = ((j + 1:Nat):Int) by omega,show (j:Int) + 1 = ((j + 1:Nat):Int) by omega];exact ih
end Go.Sw
end
section
namespace Go.Sw
open Go.RowKit
end Go.Sw
end
section
namespace Go.Sw
open Go.RowKit
theorem ζby (p:Plan) (w:Int) (rm rm':List Int) (h:rm.length = rm'.length):(planRoom p w rm).length = (planRoom p w rm').length:=by
 unfold planRoom;simp [h]
end Go.Sw
end
section
namespace Go.Sw
open Go.RowKit
variable {σ:Type}
end Go.Sw
end
section
namespace Go.Sw
open Go.RowKit
theorem ζm2 (p:Plan) (w:Int) (n:Nat):∃ hd tl:List Int,hd.length = 16 ∧ ∀ rm:List Int,rm.length = n → planRoom p w rm = hd ++ (rm ++ tl):=by
 refine ⟨bytesOf (planN p:Int) 4 ++ (bytesOf (16 + n:Int) 4 ++ (bytesOf (16 + n + (ofS p.cls).length:Int) 4 ++ bytesOf (16 + n + (ofS p.cls).length + (rowsL (planN p) p.rows).length:Int) 4)),ofS p.cls ++ (rowsL (planN p) p.rows ++ entsB w p.ents),by simp,fun rm h => ?_⟩;unfold planRoom;rw [h];simp only [List.append_assoc]
theorem twos_byt (l:List Int):Byt (twos l):=Byt.flat fun r hr => by
 obtain ⟨x,_,rfl⟩:=List.mem_map.1 hr;exact ζt _ _
def roomB (p:Plan) (w:Int) (hi:Int) (l:List Int):List Int:=planRoom p w (bytesOf (hi + (planRoom p w (List.replicate 4 0)).length:Int) 4) ++ twos l
theorem ζdn (p:Plan) (w n:Int):(planRoom p w (bytesOf n 4)).length = (planRoom p w (List.replicate 4 0)).length:=ζby p w _ _ (by simp)
theorem ζnz {p:Plan} (hp:p.ok) (w hi:Int) (l:List Int):Byt (roomB p w hi l):=(ζic hp w (ζt _ _)).app (twos_byt l)
theorem ζo0 {p:Plan} (hp:p.ok) (w hi:Int) {l:List Int} (h1:p.cls.length ≤ 1000) (h2:p.rows.length ≤ 1000) (h3:p.ents.length ≤ 1000) (h4:l.length ≤ 1000):(roomB p w hi l).length ≤ 102000:=by
 have:=ζdk hp w (rm:=List.replicate 4 0) (by simp) h1 h2 h3;unfold roomB;rw [List.length_append,ζdn,twos_len];omega
end Go.Sw
end
section
namespace Go.Sw
open Go.RowKit
theorem updPl_at {l:List Pl} {j i:Nat} (f:Pl → Pl):(updPl l (j:Int) f)[i]? = if i = j then l[i]?.map f else l[i]?:=by
 unfold updPl;rw [if_pos (by omega),Int.toNat_natCast,List.getElem?_modify];by_cases hij:i = j
 ·subst hij; simp
 ·rw [if_neg hij];simp [show ¬ j = i from fun h => hij h.symm]
end Go.Sw
end
section
namespace Go.Sw
open Go.RowKit
structure ATab where
 of:Int × List Pt
 data:List Int
abbrev ankC (t:ATab):List Value:=[tabV t.of,lv encB t.data]
abbrev ankV (t:ATab):Value:=boxV (ankC t).toArray
structure ATab.ok (t:ATab):Prop where
 pts:∀ p,p ∈ t.of.2 → p.ok
 rise:risesS t.of.2 = true
 plen:t.of.2.length < 2 ^ 31
 byt:Byt t.data
 len:t.data.length < 2 ^ 31
 has:∀ id at_,getS t.of.2 id = some at_ → 0 ≤ at_ ∧ ∃ n,uS t.data at_ 4 = some n ∧ at_ + 4 + 4 * n ≤ t.data.length
def cntA (t:ATab) (id:Int):Int:=match getS t.of.2 id with
 | some at_ => gU t.data at_ 4
 | none => 0
def getA (t:ATab) (id i:Int):Option (Int × Int):=match getS t.of.2 id with
 | some at_ => if 0 ≤ i ∧ i < gU t.data at_ 4 then some (s16 (gU t.data (at_ + 4 + 4 * i) 2),s16 (gU t.data (at_ + 6 + 4 * i) 2)) else none
 | none => none
theorem ζgb (k:Nat) (t:ATab) (ht:t.ok) (id:Int) (H:Heap):R (T k) F.ζ1x [ankV t,.int .i64 id] H = .ok (.int .i64 (cntA t id)) H:=by
 rw [ζb8];refine nrm_gc ⟨H,?_,Ext.refl H⟩ (.int _ _);have hg:=fun H' => Get_run k t.of ht.pts ht.rise id ht.plen H';unfold cntA;cases h:getS t.of.2 id with
 | none =>
  rw [h] at hg;simp only [Option.getD_none,Option.isSome_none] at hg;simp -implicitDefEqProofs (disch:=omega) [ζ1x,hg]
 | some at_ =>
  obtain ⟨h0,n,hn,hfit⟩:=ht.has id at_ h;rw [h] at hg;simp only [Option.getD_some,Option.isSome_some] at hg;have hU:=fun H' => U32_run k (Sl.lv H' 1 t.data) ht.byt at_ (by have:=ht.len; omega);rw [hn] at hU;dsimp only;rw [gU_some hn];simp -implicitDefEqProofs (disch:=omega) [ζ1x,hg,hU,orF]
theorem ζjs (k:Nat) (t:ATab) (ht:t.ok) (id i:Int) (H:Heap):R (T k) F.ζ1i [ankV t,.int .i64 id,.int .i64 i] H = .ok (.tuple #[.agg #[.int .i64 ((getA t id i).getD (0,0)).1,.int .i64 ((getA t id i).getD (0,0)).2],.bool (getA t id i).isSome]) H:=by
 rw [ζcv];have hx:=fun (p:Int × Int) => (Ext.refl H).push ⟨[.int .i64 p.1,.int .i64 p.2],1,false⟩;have fl:∀ x y b,Flat (.tuple #[.agg #[.int .i64 x,.int .i64 y],.bool b]):=fun x y b => Flat.tupleL (l:=[.agg #[.int .i64 x,.int .i64 y],.bool b]) (.cons (Flat.aggL (l:=[.int .i64 x,.int .i64 y]) (.cons (.int _ _) (.cons (.int _ _) .nil))) (.cons (.bool _) .nil));have hc:=fun H' => ζgb k t ht id H';by_cases h0:i < 0
 ·have hN:getA t id i = none:=by
   unfold getA;split
   ·rw [if_neg (by omega)]
   ·rfl
  rw [hN];refine nrm_gc ⟨_,?_,hx (0,0)⟩ (fl _ _ _).alive;simp -implicitDefEqProofs (disch:=omega) [ζ1i,h0]
 by_cases h1:cntA t id ≤ i
 ·have hN:getA t id i = none:=by
   unfold getA;unfold cntA at h1;split
   ·rename_i at_ e;rw [e] at h1;dsimp only at h1;rw [if_neg (by omega)]
   ·rfl
  rw [hN];refine nrm_gc ⟨_,?_,hx (0,0)⟩ (fl _ _ _).alive;simp -implicitDefEqProofs (disch:=omega) [ζ1i,h0,h1,hc]
 have hg:=fun H' => Get_run k t.of ht.pts ht.rise id ht.plen H';unfold getA;unfold cntA at h1 hc;cases h:getS t.of.2 id with
 | none => rw [h] at h1; dsimp only at h1; omega
 | some at_ =>
  obtain ⟨a0,n,hn,hfit⟩:=ht.has id at_ h;rw [h] at hg h1 hc;dsimp only at h1 hc ⊢;have hnb:=uS_four ht.byt hn;rw [gU_some hn] at h1 hc ⊢;rw [if_pos (by omega)];simp only [Option.getD_some,Option.isSome_some] at hg ⊢;have hU:∀ j:Int,0 ≤ j → j + 2 ≤ (t.data.length:Int) → uS t.data j 2 = some (gU t.data j 2):=fun j b0 b1 => by
   have:∃ x,uS t.data j 2 = some x:=by
    unfold uS pieceS;rw [if_pos ⟨by omega,by omega,by omega,by omega⟩];exact ⟨_,rfl⟩
   obtain ⟨x,hx⟩:=this;rw [hx,gU_some hx]
  have hl:=ht.len;have r1:=fun H' j => I16_run k (Sl.lv H' 1 t.data) ht.byt j (by omega);have q1:∀ H',R (T k) F.ζ17 [.agg #[lv encB t.data],.int .i64 (at_ + 4 + 4 * i)] H' = .ok (.int .i64 (s16 (gU t.data (at_ + 4 + 4 * i) 2))) H':=fun H' => by rw [r1,hU _ (by omega) (by omega)]; rfl
  have q2:∀ H',R (T k) F.ζ17 [.agg #[lv encB t.data],.int .i64 (at_ + 6 + 4 * i)] H' = .ok (.int .i64 (s16 (gU t.data (at_ + 6 + 4 * i) 2))) H':=fun H' => by rw [r1,hU _ (by omega) (by omega)]; rfl
  have w1:IntKind.i64.wrap (4 * i) = 4 * i:=wrap_i64 (by omega) (by omega);have w2:IntKind.i64.wrap (at_ + 4) = at_ + 4:=wrap_i64 (by omega) (by omega);have w3:IntKind.i64.wrap (at_ + 6) = at_ + 6:=wrap_i64 (by omega) (by omega);have w4:IntKind.i64.wrap (at_ + 4 + 4 * i) = at_ + 4 + 4 * i:=wrap_i64 (by omega) (by omega);have w5:IntKind.i64.wrap (at_ + 6 + 4 * i) = at_ + 6 + 4 * i:=wrap_i64 (by omega) (by omega);have vw:veq (vwB t.data) (vwB t.data) = true:=veq_agg (l:=[lv encB t.data]) fun u hu => by simp at hu; subst hu; exact veq_B t.data
  refine nrm_gc ⟨_,?_,hx (s16 (gU t.data (at_ + 4 + 4 * i) 2),s16 (gU t.data (at_ + 6 + 4 * i) 2))⟩ (fl _ _ _).alive;simp -implicitDefEqProofs (disch:=omega) [ζ1i,h0,h1,hc,hg,q1,q2,w1,w2,w3,w4,w5,vw]
end Go.Sw
end
section
namespace Go.Sw
open Go.RowKit
def andn (a:Int):Int:=IntKind.i64.wrap (BitVec.ofInt 64 a &&& ~~~(BitVec.ofInt 64 16384)).toNat
theorem andn_run (t:TypeId) (a:Int) (H:Heap):binR Prog .andNot t (.int .i64 a) (.int .i64 16384) H = .ok (.int .i64 (andn a)) H:=rfl
theorem andn_bit (a:Int):¬ m16 (andn a) / 16384 % 2 = 1:=by
 have h:((BitVec.ofInt 64 a &&& ~~~(BitVec.ofInt 64 16384)).toNat) / 2 ^ 14 % 2 = 0:=by
  have h1:(BitVec.ofInt 64 a &&& ~~~(BitVec.ofInt 64 16384)).getLsbD 14 = false:=by
   rw [BitVec.getLsbD_and,BitVec.getLsbD_not];have:(BitVec.ofInt 64 16384).getLsbD 14 = true:=by decide
   rw [this];simp
  rw [BitVec.getLsbD,Nat.testBit_eq_decide_div_mod_eq] at h1;have:=of_decide_eq_false h1;omega
 have hlt:(BitVec.ofInt 64 a &&& ~~~(BitVec.ofInt 64 16384)).toNat < 2 ^ 64:=BitVec.isLt _;unfold andn m16;generalize (BitVec.ofInt 64 a &&& ~~~(BitVec.ofInt 64 16384)).toNat = n at h hlt;unfold IntKind.wrap;simp [IntKind.signed,IntKind.bits];omega
theorem ζio (t:BTab) (pg:Int → Int → Option (Int × Int)) (gl:List Gl) (l:List Pl) (i mark:Int) (e:En) (h:atG gl i = none ∨ atG gl mark = none):bindPl t pg gl l i mark e = l:=by
 unfold bindPl;split
 ·rfl
 ·rcases h with h | h
  ·rw [h]
  ·rw [h];cases atG gl i <;> rfl
theorem ζi1 (t:BTab) (pg:Int → Int → Option (Int × Int)) (gl:List Gl) (l:List Pl) (i:Nat) (hi:i ≠ 0) (mark:Int) (e:En):(bindPl t pg gl l i mark e)[0]? = l[0]?:=by
 unfold bindPl;split
 ·rfl
 ·cases atG gl i with
  | none => rfl
  | some own =>
   cases atG gl mark with
   | none => rfl
   | some mk =>
    dsimp only;split
    ·unfold shiftPl;rw [updPl_at,if_neg (by omega)]
    ·rfl
theorem ζl6 (t:BTab) (ht:t.m.ok) (hno:∀ e,e ∈ t.m.ents → ¬ e.flags / 16384 % 2 = 1) (pg:Int → Int → Option (Int × Int)) (gl:List Gl) (l:List Pl) (x:Pl) (h0:l[0]? = some x):(runB t pg gl l).1[0]? = some x:=by
 unfold runB runBr
 obtain ⟨s',st',⟨_,_,h2,hst⟩,hrun⟩:=runD_go t.m (fun _:List Pl × Int => gl) (fun s i e => (doBi t pg gl s i e,i,i + 1)) (2 * (gl.length:Int) + 128) gl.length (by omega)
  (fun j s st => True ∧ (j = 0 → s.2 = -1) ∧ s.1[0]? = some x ∧ (0 ≤ st ∧ st < t.m.rows.length)) (fun j s st _ => rfl)
  (fun j s st hj ⟨_,h1,h2,h3⟩ => by
   have hmem:=entS_mem ht gl ⟨st,j,j,0⟩ h3;have hent:=ht.ent _ hmem;refine ⟨hno _ hmem,rfl,fun hjl => ⟨trivial,fun h => by omega,?_,hent.1,hent.2.1⟩⟩;unfold doBi;dsimp only;by_cases hj0:j = 0
   ·rw [h1 hj0,ζio _ _ _ _ _ _ _ (.inr (by unfold atG; rw [if_neg (by omega)]))];exact h2
   ·rw [ζi1 _ _ _ _ _ hj0];exact h2)
  gl.length 0 (2 * gl.length + 128) 0 (l,-1) 0 rfl (by omega) (by omega) ⟨trivial,fun _ => rfl,h0,Int.le_refl _,by have:=ht.two; omega⟩
 rw [hrun];dsimp only;unfold doBi;dsimp only;rw [ζio _ _ _ _ _ _ _ (.inl (by unfold atG; rw [if_neg (by omega)]))];exact h2
theorem s16_two {b:List Int} (hb:Byt b) (i:Int):-32768 ≤ s16 (gU b i 2) ∧ s16 (gU b i 2) < 32768:=by
 have:=gU_two hb i;unfold s16;split <;> omega
theorem pgA_ok (t:ATab) (hb:Byt t.data):PgOk (getA t):=by
 intro id i p h;unfold getA at h;split at h
 ·split at h
  ·injection h with h;subst h;exact ⟨(s16_two hb _).1,(s16_two hb _).2,(s16_two hb _).1,(s16_two hb _).2⟩
  ·cases h
 ·cases h
theorem pgA_at (k:Nat) (t:ATab) (ht:t.ok) (H:Heap):AnkAt k (ankV t) (getA t) H:=fun id i H' _ => ζjs k t ht id i H'
end Go.Sw
end
section
namespace Go.Sw
open Go.RowKit
end Go.Sw
end
section
set_option maxRecDepth 100000
set_option linter.unusedVariables false
namespace Go.Sw
noncomputable section
def ζ2r (k:Nat) (call:Caller):Env → Heap → Res (AExit × Env):=loopB (C k) call F.ζd [1,1,1,1,1,0,1,0,0]
def ζ49 (k:Nat) (call:Caller):Kont Value:=kBlock 0 (kSeq (pieceK (C k) call F.ζd [1,1,1,1,1,1]) (kDone Prog (resOf Prog F.ζd)))
def ζd (k:Nat) (call:Caller) (a0:Value) (h:Heap):Res Value :=
 (boxR a0 h).bind fun v1 h2 =>
 (call F.ζ22 [] h2).bind fun v3 h4 =>
 (unR .not v3 h4).bind fun v5 h6 =>
 condV (some v5) (
 .ok (.bool false) h6)
 (
 (loadR Prog 127 v1 h6).bind fun v7 h8 =>
 (call F.ζh [v7] h8).bind fun v9 h10 =>
 (unR .not v9 h10).bind fun v11 h12 =>
 condV (some v11) (
 .ok (.bool true) h12)
 (
 (fieldAddrR Prog 127 v1 0 h12).bind fun v13 h14 =>
 (loadR Prog 125 v13 h14).bind fun v15 h16 =>
 (allocR Prog 125 h16).bind fun v17 h18 =>
 (storeR Prog 125 v17 v15 h18).bind fun _v19 h20 =>
 (buildSliceR Prog 102 0 [] h20).bind fun v21 h22 =>
 (fieldAddrR Prog 127 v1 0 h22).bind fun v23 h24 =>
 (fieldAddrR Prog 125 v23 0 h24).bind fun v25 h26 =>
 (fieldAddrR Prog 104 v25 2 h26).bind fun v27 h28 =>
 (loadR Prog 102 v27 h28).bind fun v29 h30 =>
 (builtinV Prog .append [102,102] [v21,v29] h30).bind fun v31 h32 =>
 (fieldAddrR Prog 125 v17 0 h32).bind fun v33 h34 =>
 (fieldAddrR Prog 104 v33 2 h34).bind fun v35 h36 =>
 (storeR Prog 102 v35 v31 h36).bind fun _v37 h38 =>
 (fieldAddrR Prog 125 v17 0 h38).bind fun v39 h40 =>
 (fieldAddrR Prog 104 v39 2 h40).bind fun v41 h42 =>
 (loadR Prog 102 v41 h42).bind fun v43 h44 =>
 (builtinV Prog .len [102] [v43] h44).bind fun v45 h46 =>
 (loopN (ζ2r k call) loopFuel [(1,v1),(3,v17),(32,v45),(33,(.int .i64 0))] h46).bind fun r47 h48 =>
 ζ49 k call r47.1 r47.2 h48))
theorem ζ9c (k:Nat) (a0:Value) (h:Heap):R (T k) F.ζd [a0] h = nrm .gc h (ζd k (R (T k)) a0 h) :=
 (R_body (t:=T k) (T_scott k) (by kernel_rfl) (by kernel_rfl) _ _).trans (by kernel_rfl)
theorem ζ3f (k:Nat) (call:Caller) (a1 a3 a32 a33:Value) (h:Heap):ζ2r k call [(1,a1),(3,a3),(32,a32),(33,a33)] h =
 (binR Prog .lss 3 a33 a32 h).bind fun v49 h50 =>
 condV (some v49) (
 (fieldAddrR Prog 125 a3 0 h50).bind fun v51 h52 =>
 (fieldAddrR Prog 104 v51 2 h52).bind fun v53 h54 =>
 (loadR Prog 102 v53 h54).bind fun v55 h56 =>
 (indexAddrR Prog 102 v55 a33 h56).bind fun v57 h58 =>
 (fieldAddrR Prog 130 v57 1 h58).bind fun v59 h60 =>
 (loadR Prog 3 v59 h60).bind fun v61 h62 =>
 (binR Prog .andNot 3 v61 (.int .i64 16384) h62).bind fun v63 h64 =>
 (indexAddrR Prog 102 v55 a33 h64).bind fun v65 h66 =>
 (fieldAddrR Prog 130 v65 1 h66).bind fun v67 h68 =>
 (storeR Prog 3 v67 v63 h68).bind fun _v69 h70 =>
 (binR Prog .add 3 a33 (.int .i64 1) h70).bind fun v71 h72 =>
 .ok (.normal,[(1,a1),(3,a3),(32,a32),(33,v71)]) h72)
 (
 .ok ((.exit 0),[(1,a1),(3,a3),(32,a32),(33,a33),(34,v49)]) h50) :=
 (loopB_eq _ _).trans (by kernel_rfl)
theorem ζ13 (k:Nat) (call:Caller) (a1 a3 a32 a33 a34:Value) (h:Heap):ζ49 k call (.exit 0) [(1,a1),(3,a3),(32,a32),(33,a33),(34,a34)] h =
 (loadR Prog 125 a3 h).bind fun v73 h74 =>
 (call F.ζ11 [v73] h74).bind fun v75 h76 =>
 (call F.ζ5u [v75,(.int .i64 40)] h76).bind fun v77 h78 =>
 (extractR v77 0 h78).bind fun v79 h80 =>
 (extractR v77 1 h80).bind fun v81 h82 =>
 (call F.ζn [v75,(.int .i64 40)] h82).bind fun v83 h84 =>
 (extractR v83 0 h84).bind fun v85 h86 =>
 (extractR v83 1 h86).bind fun v87 h88 =>
 (allocR Prog 133 h88).bind fun v89 h90 =>
 (storeR Prog 133 v89 v85 h90).bind fun _v91 h92 =>
 (binR Prog .eql 90 v79 (.pointer none) h92).bind fun v93 h94 =>
 ((bif wantVal v93 false then Res.ok v87 h94 else Res.ok undef h94)).bind fun v95 h96 =>
 ((bif wantVal v93 false then unR .not v95 h96 else Res.ok undef h96)).bind fun v97 h98 =>
 (condV (some v93) (Res.ok (.bool true) h98) (Res.ok v97 h98)).bind fun v99 h100 =>
 ((bif wantVal v99 false then fieldAddrR Prog 133 v89 0 h100 else Res.ok undef h100)).bind fun v101 h102 =>
 ((bif wantVal v99 false then fieldAddrR Prog 115 v101 5 h102 else Res.ok undef h102)).bind fun v103 h104 =>
 ((bif wantVal v99 false then loadR Prog 3 v103 h104 else Res.ok undef h104)).bind fun v105 h106 =>
 ((bif wantVal v99 false then fieldAddrR Prog 125 a3 0 h106 else Res.ok undef h106)).bind fun v107 h108 =>
 ((bif wantVal v99 false then fieldAddrR Prog 104 v107 2 h108 else Res.ok undef h108)).bind fun v109 h110 =>
 ((bif wantVal v99 false then loadR Prog 102 v109 h110 else Res.ok undef h110)).bind fun v111 h112 =>
 ((bif wantVal v99 false then builtinV Prog .len [102] [v111] h112 else Res.ok undef h112)).bind fun v113 h114 =>
 ((bif wantVal v99 false then binR Prog .gtr 3 v105 v113 h114 else Res.ok undef h114)).bind fun v115 h116 =>
 (condV (some v99) (Res.ok (.bool true) h116) (Res.ok v115 h116)).bind fun v117 h118 =>
 ((bif wantVal v117 false then fieldAddrR Prog 133 v89 0 h118 else Res.ok undef h118)).bind fun v119 h120 =>
 ((bif wantVal v117 false then fieldAddrR Prog 115 v119 4 h120 else Res.ok undef h120)).bind fun v121 h122 =>
 ((bif wantVal v117 false then loadR Prog 3 v121 h122 else Res.ok undef h122)).bind fun v123 h124 =>
 ((bif wantVal v117 false then fieldAddrR Prog 125 a3 0 h124 else Res.ok undef h124)).bind fun v125 h126 =>
 ((bif wantVal v117 false then fieldAddrR Prog 104 v125 1 h126 else Res.ok undef h126)).bind fun v127 h128 =>
 ((bif wantVal v117 false then loadR Prog 101 v127 h128 else Res.ok undef h128)).bind fun v129 h130 =>
 ((bif wantVal v117 false then builtinV Prog .len [101] [v129] h130 else Res.ok undef h130)).bind fun v131 h132 =>
 ((bif wantVal v117 false then binR Prog .gtr 3 v123 v131 h132 else Res.ok undef h132)).bind fun v133 h134 =>
 (condV (some v117) (Res.ok (.bool true) h134) (Res.ok v133 h134)).bind fun v135 h136 =>
 ((bif wantVal v135 false then fieldAddrR Prog 127 a1 2 h136 else Res.ok undef h136)).bind fun v137 h138 =>
 ((bif wantVal v135 false then loadR Prog 23 v137 h138 else Res.ok undef h138)).bind fun v139 h140 =>
 ((bif wantVal v135 false then builtinV Prog .len [23] [v139] h140 else Res.ok undef h140)).bind fun v141 h142 =>
 ((bif wantVal v135 false then binR Prog .eql 3 v141 (.int .i64 0) h142 else Res.ok undef h142)).bind fun v143 h144 =>
 (condV (some v135) (Res.ok (.bool true) h144) (Res.ok v143 h144)).bind fun v145 h146 =>
 condV (some v145) (
 (binR Prog .eql 90 v79 (.pointer none) h146).bind fun v147 h148 =>
 ((bif wantVal v147 false then Res.ok v87 h148 else Res.ok undef h148)).bind fun v149 h150 =>
 (condV (some v147) (Res.ok (.bool true) h150) (Res.ok v149 h150)).bind fun v151 h152 =>
 .ok v151 h152)
 (
 (fieldAddrR Prog 127 a1 1 h146).bind fun v153 h154 =>
 (loadR Prog 61 v153 h154).bind fun v155 h156 =>
 (call F.ζq [v155] h156).bind fun v157 h158 =>
 (call F.ζ5t [v157,(.int .i64 40)] h158).bind fun v159 h160 =>
 (extractR v159 0 h160).bind fun v161 h162 =>
 (extractR v159 1 h162).bind fun v163 h164 =>
 (fieldAddrR Prog 127 a1 2 h164).bind fun v165 h166 =>
 (loadR Prog 23 v165 h166).bind fun v167 h168 =>
 (builtinV Prog .len [23] [v167] h168).bind fun v169 h170 =>
 (makeSliceV Prog 23 v169 v169 h170).bind fun v171 h172 =>
 (call F.ζ4v [(.int .i64 1),v171] h172).bind fun v173 h174 =>
 (binR Prog .eql 64 v161 (.pointer none) h174).bind fun v175 h176 =>
 condV (some v175) (
 .ok (.bool false) h176)
 (
 (fieldAddrR Prog 127 a1 2 h176).bind fun v177 h178 =>
 (loadR Prog 23 v177 h178).bind fun v179 h180 =>
 (call F.line_New [v179] h180).bind fun v181 h182 =>
 (call F.ζ35 [v79,v181,v173,v161] h182).bind fun v183 h184 =>
 (call F.ζ1z [v173] h184).bind fun v185 h186 =>
 (builtinV Prog .len [98] [v185] h186).bind fun v187 h188 =>
 (fieldAddrR Prog 127 a1 2 h188).bind fun v189 h190 =>
 (loadR Prog 23 v189 h190).bind fun v191 h192 =>
 (builtinV Prog .len [23] [v191] h192).bind fun v193 h194 =>
 (binR Prog .eql 3 v187 v193 h194).bind fun v195 h196 =>
 ((bif wantVal v195 true then Res.ok v185 h196 else Res.ok undef h196)).bind fun v197 h198 =>
 ((bif wantVal v195 true then indexAddrR Prog 98 v197 (.int .i64 0) h198 else Res.ok undef h198)).bind fun v199 h200 =>
 ((bif wantVal v195 true then loadR Prog 137 v199 h200 else Res.ok undef h200)).bind fun v201 h202 =>
 ((bif wantVal v195 true then buildR Prog 137 [] h202 else Res.ok undef h202)).bind fun v203 h204 =>
 ((bif wantVal v195 true then binR Prog .eql 137 v201 v203 h204 else Res.ok undef h204)).bind fun v205 h206 =>
 (condV (some v195) (Res.ok v205 h206) (Res.ok (.bool false) h206)).bind fun v207 h208 =>
 .ok v207 h208)):=by kernel_rfl
def ζ4a (k:Nat) (call:Caller):Env → Heap → Res (AExit × Env):=loopB (C k) call F.ζh [1,0,1,0,0]
def ζ3n (k:Nat) (call:Caller):Kont Value:=kBlock 0 (kSeq (pieceK (C k) call F.ζh [1,1]) (kDone Prog (resOf Prog F.ζh)))
def ζh (k:Nat) (call:Caller) (a0:Value) (h:Heap):Res Value :=
 (boxR a0 h).bind fun v1 h2 =>
 (fieldAddrR Prog 127 v1 1 h2).bind fun v3 h4 =>
 (loadR Prog 61 v3 h4).bind fun v5 h6 =>
 (builtinV Prog .len [61] [v5] h6).bind fun v7 h8 =>
 (loopN (ζ4a k call) loopFuel [(1,v1),(6,v5),(7,v7),(8,(.int .i64 0))] h8).bind fun r9 h10 =>
 ζ3n k call r9.1 r9.2 h10
theorem ζbo (k:Nat) (a0:Value) (h:Heap):R (T k) F.ζh [a0] h = nrm .gc h (ζh k (R (T k)) a0 h) :=
 (R_body (t:=T k) (T_scott k) (by kernel_rfl) (by kernel_rfl) _ _).trans (by kernel_rfl)
theorem ζ33 (k:Nat) (call:Caller) (a1 a6 a7 a8:Value) (h:Heap):ζ4a k call [(1,a1),(6,a6),(7,a7),(8,a8)] h =
 (binR Prog .lss 3 a8 a7 h).bind fun v11 h12 =>
 condV (some v11) (
 (indexAddrR Prog 61 a6 a8 h12).bind fun v13 h14 =>
 (loadR Prog 62 v13 h14).bind fun v15 h16 =>
 (builtinV Prog .len [62] [v15] h16).bind fun v17 h18 =>
 (binR Prog .gtr 3 v17 (.int .i64 20) h18).bind fun v19 h20 =>
 condV (some v19) (
 .ok (.ret,[(2,(.bool false))]) h20)
 (
 (binR Prog .add 3 a8 (.int .i64 1) h20).bind fun v21 h22 =>
 .ok (.normal,[(1,a1),(6,a6),(7,a7),(8,v21)]) h22))
 (
 .ok ((.exit 0),[(1,a1),(6,a6),(7,a7),(8,a8),(9,v11)]) h12) :=
 (loopB_eq _ _).trans (by kernel_rfl)
theorem ζ9d (k:Nat) (call:Caller) (a2:Value) (h:Heap):ζ3n k call .ret [(2,a2)] h =
 .ok a2 h:=by kernel_rfl
theorem ζx (k:Nat) (call:Caller) (a1 a6 a7 a8 a9:Value) (h:Heap):ζ3n k call (.exit 0) [(1,a1),(6,a6),(7,a7),(8,a8),(9,a9)] h =
 (fieldAddrR Prog 127 a1 0 h).bind fun v23 h24 =>
 (fieldAddrR Prog 125 v23 0 h24).bind fun v25 h26 =>
 (fieldAddrR Prog 104 v25 0 h26).bind fun v27 h28 =>
 (loadR Prog 31 v27 h28).bind fun v29 h30 =>
 (builtinV Prog .len [31] [v29] h30).bind fun v31 h32 =>
 (binR Prog .leq 3 v31 (.int .i64 40) h32).bind fun v33 h34 =>
 ((bif wantVal v33 true then fieldAddrR Prog 127 a1 0 h34 else Res.ok undef h34)).bind fun v35 h36 =>
 ((bif wantVal v33 true then fieldAddrR Prog 125 v35 0 h36 else Res.ok undef h36)).bind fun v37 h38 =>
 ((bif wantVal v33 true then fieldAddrR Prog 104 v37 1 h38 else Res.ok undef h38)).bind fun v39 h40 =>
 ((bif wantVal v33 true then loadR Prog 101 v39 h40 else Res.ok undef h40)).bind fun v41 h42 =>
 ((bif wantVal v33 true then builtinV Prog .len [101] [v41] h42 else Res.ok undef h42)).bind fun v43 h44 =>
 ((bif wantVal v33 true then binR Prog .leq 3 v43 (.int .i64 20) h44 else Res.ok undef h44)).bind fun v45 h46 =>
 (condV (some v33) (Res.ok v45 h46) (Res.ok (.bool false) h46)).bind fun v47 h48 =>
 ((bif wantVal v47 true then fieldAddrR Prog 127 a1 0 h48 else Res.ok undef h48)).bind fun v49 h50 =>
 ((bif wantVal v47 true then fieldAddrR Prog 125 v49 0 h50 else Res.ok undef h50)).bind fun v51 h52 =>
 ((bif wantVal v47 true then fieldAddrR Prog 104 v51 2 h52 else Res.ok undef h52)).bind fun v53 h54 =>
 ((bif wantVal v47 true then loadR Prog 102 v53 h54 else Res.ok undef h54)).bind fun v55 h56 =>
 ((bif wantVal v47 true then builtinV Prog .len [102] [v55] h56 else Res.ok undef h56)).bind fun v57 h58 =>
 ((bif wantVal v47 true then binR Prog .leq 3 v57 (.int .i64 40) h58 else Res.ok undef h58)).bind fun v59 h60 =>
 (condV (some v47) (Res.ok v59 h60) (Res.ok (.bool false) h60)).bind fun v61 h62 =>
 ((bif wantVal v61 true then fieldAddrR Prog 127 a1 0 h62 else Res.ok undef h62)).bind fun v63 h64 =>
 ((bif wantVal v61 true then fieldAddrR Prog 125 v63 2 h64 else Res.ok undef h64)).bind fun v65 h66 =>
 ((bif wantVal v61 true then loadR Prog 123 v65 h66 else Res.ok undef h66)).bind fun v67 h68 =>
 ((bif wantVal v61 true then builtinV Prog .len [123] [v67] h68 else Res.ok undef h68)).bind fun v69 h70 =>
 ((bif wantVal v61 true then binR Prog .leq 3 v69 (.int .i64 100) h70 else Res.ok undef h70)).bind fun v71 h72 =>
 (condV (some v61) (Res.ok v71 h72) (Res.ok (.bool false) h72)).bind fun v73 h74 =>
 ((bif wantVal v73 true then fieldAddrR Prog 127 a1 2 h74 else Res.ok undef h74)).bind fun v75 h76 =>
 ((bif wantVal v73 true then loadR Prog 23 v75 h76 else Res.ok undef h76)).bind fun v77 h78 =>
 ((bif wantVal v73 true then builtinV Prog .len [23] [v77] h78 else Res.ok undef h78)).bind fun v79 h80 =>
 ((bif wantVal v73 true then binR Prog .leq 3 v79 (.int .i64 60) h80 else Res.ok undef h80)).bind fun v81 h82 =>
 (condV (some v73) (Res.ok v81 h82) (Res.ok (.bool false) h82)).bind fun v83 h84 =>
 ((bif wantVal v83 true then fieldAddrR Prog 127 a1 1 h84 else Res.ok undef h84)).bind fun v85 h86 =>
 ((bif wantVal v83 true then loadR Prog 61 v85 h86 else Res.ok undef h86)).bind fun v87 h88 =>
 ((bif wantVal v83 true then builtinV Prog .len [61] [v87] h88 else Res.ok undef h88)).bind fun v89 h90 =>
 ((bif wantVal v83 true then binR Prog .leq 3 v89 (.int .i64 20) h90 else Res.ok undef h90)).bind fun v91 h92 =>
 (condV (some v83) (Res.ok v91 h92) (Res.ok (.bool false) h92)).bind fun v93 h94 =>
 .ok v93 h94:=by kernel_rfl
def ζ2w (k:Nat) (call:Caller):Env → Heap → Res (AExit × Env):=loopB (C k) call F.ζ11 [1,1,1,0,1,0,0]
def ζ6m (k:Nat) (call:Caller):Kont Value:=kBlock 0 (kSeq (pieceK (C k) call F.ζ11 [1,1,1,1]) (kDone Prog (resOf Prog F.ζ11)))
def ζ11 (k:Nat) (call:Caller) (a0:Value) (h:Heap):Res Value :=
 (boxR a0 h).bind fun v1 h2 =>
 (fieldAddrR Prog 125 v1 0 h2).bind fun v3 h4 =>
 (loadR Prog 104 v3 h4).bind fun v5 h6 =>
 (call F.ζ1 [v5,(.int .i64 1),(.int .i64 4)] h6).bind fun v7 h8 =>
 (sliceR Prog 31 v7 (some (.int .i64 16)) (some (.int .i64 20)) none h8).bindN fun v9 h10 =>
 (fieldAddrR Prog 125 v1 1 h10).bindN fun v11 h12 =>
 (loadR Prog 5 v11 h12).bindN fun v13 h14 =>
 (binR Prog .rem 5 v13 (.int .u8 4) h14).bindN fun v15 h16 =>
 (convR Prog 5 3 v15 h16).bindN fun v17 h18 =>
 (binR Prog .shl 3 v17 (.int .u64 30) h18).bindN fun v19 h20 =>
 (builtinV Prog .len [31] [v7] h20).bindN fun v21 h22 =>
 (binR Prog .or 3 v19 v21 h22).bindN fun v23 h24 =>
 (call F.ζ2 [(.slice none 0 0),v23,(.int .i64 4)] h24).bindT (fun p27 h28 => .panic p27 h28) fun v25 h26 =>
 (builtinV Prog .copy [31,31] [v9,v25] h26).bindN fun v29 h30 =>
 chkR ((okVal (sliceR Prog 31 v7 (some (.int .i64 16)) (some (.int .i64 20)) none h26) v9 && true) && true) (
 (fieldAddrR Prog 125 v1 2 h30).bind fun v31 h32 =>
 (loadR Prog 123 v31 h32).bind fun v33 h34 =>
 (builtinV Prog .len [123] [v33] h34).bind fun v35 h36 =>
 (loopN (ζ2w k call) loopFuel [(3,v7),(22,v33),(23,v35),(24,(.int .i64 0))] h36).bind fun r37 h38 =>
 ζ6m k call r37.1 r37.2 h38)
theorem ζbn (k:Nat) (a0:Value) (h:Heap):R (T k) F.ζ11 [a0] h = nrm (own k) h (ζ11 k (R (T k)) a0 h) :=
 (R_body (t:=T k) (T_scott k) (by kernel_rfl) (by kernel_rfl) _ _).trans (by kernel_rfl)
theorem ζ57 (k:Nat) (call:Caller) (a3 a22 a23 a24:Value) (h:Heap):ζ2w k call [(3,a3),(22,a22),(23,a23),(24,a24)] h =
 (binR Prog .lss 3 a24 a23 h).bind fun v39 h40 =>
 condV (some v39) (
 (indexAddrR Prog 123 a22 a24 h40).bind fun v41 h42 =>
 (loadR Prog 68 v41 h42).bind fun v43 h44 =>
 (convR Prog 68 80 v43 h44).bind fun v45 h46 =>
 (convR Prog 80 3 v45 h46).bind fun v47 h48 =>
 (call F.ζ2 [a3,v47,(.int .i64 2)] h48).bind fun v49 h50 =>
 (binR Prog .add 3 a24 (.int .i64 1) h50).bind fun v51 h52 =>
 .ok (.normal,[(3,v49),(22,a22),(23,a23),(24,v51)]) h52)
 (
 .ok ((.exit 0),[(3,a3),(22,a22),(23,a23),(24,a24),(25,v39)]) h40) :=
 (loopB_eq _ _).trans (by kernel_rfl)
theorem ζ8w (k:Nat) (call:Caller) (a3 a22 a23 a24 a25:Value) (h:Heap):ζ6m k call (.exit 0) [(3,a3),(22,a22),(23,a23),(24,a24),(25,a25)] h =
 .ok a3 h:=by kernel_rfl
end
end Go.Sw
end
section
namespace Go.Sw
open Go.RowKit
theorem ζig (k:Nat) (hk:k % 1000000 = F.ζ22) (H:Heap):R (T k) F.ζ22 [] H = .ok (.bool true) H :=
 (R_sp (t:=T k) (T_scott k) (s:=constSp (.bool true)) (by unfold T C; dsimp only; rw [hk]; kernel_rfl) [] H).trans (nrm_gc (Pure.of rfl) (.bool _))
theorem ζf1:∀ n:Nat,repeatCells [Value.int .i64 0] n = rows encI (List.replicate n 0)
 | 0 => rfl
 | n + 1 => by
  have ih:=ζf1 n;show [Value.int .i64 0] ++ repeatCells [Value.int .i64 0] n = _;rw [ih,List.replicate_succ];rfl
theorem ζnn {H:Heap} {b n:Nat} (hg:H.get b = some ⟨repeatCells [Value.int .i64 0] n,1,false⟩):Sl H 1 (.slice (some ⟨b,0,none⟩) n n) encI (List.replicate n 0) :=
 .inr (.inr ⟨b,0,n,_,by rw [List.length_replicate],by rw [List.length_replicate]; exact Nat.le_refl _,hg,by rw [List.drop_zero,ζf1,List.take_of_length_le (by rw [ζf encI_len]; exact Nat.le_refl _)]⟩)
end Go.Sw
end
section
namespace Go.Sw
open Go.RowKit
theorem Star.cut1 {H0 H:Heap} {L:List It} (h:Star H0 H L) (i:Nat) {o:Option Nat} {s:Value} {b:List Int} (hi:L[i]? = some (itRow o 1 s encB b)) (a n:Nat) (hn:0 < n) (hfit:a + n ≤ b.length) (k1 k2:IntKind) :
  ∃ c,o = some c ∧ s = .slice (some ⟨c,0,none⟩) b.length b.length ∧ slS 1 s (some (.int k1 (a:Nat))) (some (.int k2 ((a + n:Nat):Int))) none H = .ok (.slice (some ⟨c,a,none⟩) n (b.length - a)) H:=by
 obtain ⟨c,rfl,rfl,hc⟩:=(h.row i hi).full (fun e => by subst e; simp at hfit; omega);refine ⟨c,rfl,rfl,?_⟩;unfold slS;dsimp only [boundOf];rw [if_pos (Int.natCast_nonneg _),if_pos (Int.natCast_nonneg _)];simp only [Int.toNat_natCast];rw [if_pos ⟨Nat.le_refl _,hfit,by omega,by simp⟩];have:openOk H c 1 none = true:=by unfold openOk; rw [hc]; simp
 rw [if_pos this,Nat.mul_one,Nat.zero_add,Nat.add_sub_cancel_left]
theorem Star.copy1 {H0 H:Heap} {L:List It} (h:Star H0 H L) (i j:Nat) {c:Nat} {o2:Option Nat} {s s2:Value} {b r:List Int} (hi:L[i]? = some (itRow (some c) 1 s encB b)) (hj:L[j]? = some (itRow o2 1 s2 encB r)) (a n cap:Nat) (hr:r.length = n) (hn:0 < n) (hfit:a + n ≤ b.length) :
  ∃ H',cpR 1 (.slice (some ⟨c,a,none⟩) n cap) s2 H = .ok (.int .i64 n) H' ∧ Star H0 H' (L.set i (itRow (some c) 1 s encB (b.take a ++ (r ++ b.drop (a + n))))):=by
 obtain ⟨c',e1,e2,hc⟩:=(h.row i hi).full (fun e => by subst e; simp at hfit; omega);injection e1 with e1;subst e1;have hown2:=(h.row j hj).own0;have hl2:=hown2.lenV;have hf2:=hown2.first encB_len;have hrl:(rows encB r).length = n:=by rw [ζf encB_len,hr,Nat.mul_one]
 have hbl:(rows encB b).length = b.length:=by rw [ζf encB_len,Nat.mul_one]
 have hsp:splice (rows encB b) a (rows encB r) = rows encB (b.take a ++ (r ++ b.drop (a + n))):=by
  unfold splice;have t1:=ζ6x encB_len b a;rw [Nat.mul_one] at t1;have t2:(rows encB b).drop (a + n) = rows encB (b.drop (a + n)):=by
   have e:rows encB b = rows encB (b.take (a + n)) ++ rows encB (b.drop (a + n)):=by rw [← ζ2p,List.take_append_drop]
   have hl:(rows encB (b.take (a + n))).length = a + n:=by rw [ζf encB_len,Nat.mul_one,List.length_take]; omega
   rw [e,List.drop_append_of_le_length (by omega),List.drop_of_length_le (by omega),List.nil_append]
  rw [t1,hrl,t2,ζ2p,ζ2p]
 refine ⟨_,?_,h.setRow i hi (b.take a ++ (r ++ b.drop (a + n))) (by simp; omega)⟩;unfold cpR;dsimp only;rw [hl2];dsimp only;rw [hr,Nat.min_self];rw [hr] at hf2;rw [hf2];dsimp only;rw [if_neg (by intro e; rw [List.isEmpty_iff] at e; rw [e] at hrl; simp at hrl; omega)];unfold putCells;rw [hc];dsimp only;rw [if_pos (by rw [hrl,hbl]; simp; omega)];simp only [Res.bind];rw [hsp,show min (n:Int) n = n by omega]
end Go.Sw
end
section
namespace Go.Sw
open Go.RowKit
theorem ζg2 (p:Plan) (w:Int) (rm r x:List Int) (h:rm.length = r.length):((planRoom p w rm) ++ x).take 16 ++ (r ++ ((planRoom p w rm) ++ x).drop (16 + r.length)) = planRoom p w r ++ x:=by
 obtain ⟨hd,tl,h16,hs⟩:=ζm2 p w r.length;rw [hs rm h,hs r rfl];rw [← h16,show hd ++ (rm ++ tl) ++ x = hd ++ (rm ++ (tl ++ x)) by simp,List.take_left,← h];rw [show hd ++ (rm ++ (tl ++ x)) = (hd ++ rm) ++ (tl ++ x) by simp,show hd.length + rm.length = (hd ++ rm).length by simp,List.drop_left];simp
theorem ζmh (s:List Int) {j:Nat} {x:Int} (h:s[j]? = some x):twos (s.take (j + 1)) = twos (s.take j) ++ bytesOf x 2:=by rw [ζ1o h,ζg5]
theorem wrap16 (x:Int):IntKind.u16.wrap x = m16 x:=by
 unfold IntKind.wrap m16;simp [IntKind.signed,IntKind.bits]
theorem m16_lt (x:Int):0 ≤ m16 x ∧ m16 x < 65536:=by unfold m16; omega
abbrev enc16 (n:Int):List Value:=[.int .i16 n]
theorem ζn2 (n:Int):(enc16 n).length = 1:=rfl
structure SPlan where
 p:Plan
 vals:List Int
def SPlan.ok (x:SPlan):Prop:=x.p.ok
def SSmall (x:SPlan) (n:Nat):Prop:=x.p.cls.length ≤ 40 ∧ x.p.rows.length ≤ 20 ∧ x.p.ents.length ≤ 40 ∧ x.vals.length ≤ 100 ∧ n ≤ 60
instance (x:SPlan) (n:Nat):Decidable (SSmall x n):=by unfold SSmall; exact inferInstance
end Go.Sw
end
section
namespace Go.Sw
open Go.RowKit
theorem shl30 (P:Program) (t:TypeId) (H:Heap) {a:Int} (h0:0 ≤ a) (h1:a < 4):binR P .shl t (.int .i64 a) (.int .u64 30) H = .ok (.int .i64 (a * 1073741824)) H:=by
 unfold binR;simp [binV,shiftV,IntKind.signed,IntKind.bits];exact wrap_i64 (by omega) (by omega)
def kb (kind:Int):Int:=kind % 4 * 1073741824
theorem w25_l1 (k:Nat) {H0 H:Heap} {o:Option Nat} {s7:Value} {lk:List Int} (g:Star H0 H [itRow o 1 s7 encB lk]) {v:Value} {s:List Int} (hv:Sl H0 1 v enc16 s) (hl:lk.length + 2 * s.length < 2 ^ 29) :
  ∃ s' o' zz H',loopN (ζ2w k (R (T k))) loopFuel [(3,s7),(22,v),(23,.int .i64 s.length),(24,.int .i64 0)] H =
   .ok (.exit 0,[(3,s'),(22,v),(23,.int .i64 s.length),(24,zz),(25,.bool false)]) H' ∧ Star H0 H' [itRow o' 1 s' encB (lk ++ twos (s.map m16))]:=by
 obtain ⟨xx,e',H1,hr1,rfl,s',o',rfl,g1⟩:=loop_up (body:=ζ2w k (R (T k))) s.length
  (fun j e H' => ∃ s' o',e = [(3,s'),(22,v),(23,.int .i64 s.length),(24,.int .i64 j)] ∧ Star H0 H' [itRow o' 1 s' encB (lk ++ twos ((s.map m16).take j))])
  (fun xx e H' => xx = .exit 0 ∧ ∃ s' o',e = [(3,s'),(22,v),(23,.int .i64 s.length),(24,.int .i64 s.length),(25,.bool false)] ∧ Star H0 H' [itRow o' 1 s' encB (lk ++ twos (s.map m16))])
  (e0:=[(3,s7),(22,v),(23,.int .i64 s.length),(24,.int .i64 0)]) (H0:=H) ⟨s7,o,rfl,by simpa [twos] using g⟩ (by omega)
  (fun j e H' hj ⟨s',o',he,g⟩ => by
   subst he;have hjl:(j:Int) < s.length:=by omega
   obtain ⟨x,hx⟩:∃ x,s[j]? = some x:=⟨_,List.getElem?_eq_getElem hj⟩
   have hx2:(s.map m16)[j]? = some (m16 x):=by rw [List.getElem?_map,hx]; rfl
   have hxb:=m16_lt x;obtain ⟨p,i1,i2⟩:=hv.ix1 ζn2 j x hx _ rfl;have i2:=i2 H' g.ext;have hw:=wrap16 x;obtain ⟨s2,o2,H2,e2,g2⟩:=Put_star k g 0 rfl (m16 x) 2 2 rfl hxb.1 (by omega) (by omega) (by rw [List.length_append,twos_len,List.length_take,List.length_map]; omega);simp only [List.set_cons_zero] at g2;rw [List.append_assoc,← ζmh _ hx2] at g2;have hw64:IntKind.i64.wrap (m16 x) = m16 x:=wrap_i64 (by omega) (by omega);refine .inl ⟨_,H2,?_,s2,o2,rfl,g2⟩;rw [ζ57];simp -implicitDefEqProofs (disch:=omega) [hjl,i1,i2,hw,hw64,e2])
  (fun e H' ⟨s',o',he,g⟩ => by
   subst he;rw [List.take_of_length_le (by simp)] at g;refine ⟨.exit 0,_,H',?_,by simp,rfl,s',o',rfl,g⟩;rw [ζ57];simp -implicitDefEqProofs)
 exact ⟨s',o',_,H1,hr1,g1⟩
set_option maxRecDepth 20000 in
set_option maxHeartbeats 1000000 in
theorem ζij (k:Nat) (hW:ownW k = .no) (p:Plan) (hp:p.ok) (h1:p.cls.length ≤ 1000) (h2:p.rows.length ≤ 1000) (h3:p.ents.length ≤ 1000) {H:Heap} {vC vR sE:Value} {rv:List (List Int × Value)} (hP:PlanSl H p vC vR sE rv)
  {kind:Int} (hkind:0 ≤ kind ∧ kind < 256) {vV:Value} {vals:List Int} (hV:Sl H 1 vV enc16 vals) (h4:vals.length ≤ 1000) :
  ∃ s o H',ζ11 k (R (T k)) (.agg #[vC,vR,sE,.int .u8 p.wide,.int .u8 kind,vV]) H = .ok s H' ∧ Star H H' [itRow o 1 s encB (roomB p 1 (kb kind) (vals.map m16))]:=by
 obtain ⟨H1,hH1⟩:∃ H1,H1 = H.push ⟨[vC,vR,sE,.int .u8 p.wide,.int .u8 kind,vV],1,false⟩:=⟨_,rfl⟩
 have hx1:Ext H H1:=by rw [hH1]; exact (Ext.refl H).push _
 have hg1:H1.get H.n = some ⟨[vC,vR,sE,.int .u8 p.wide,.int .u8 kind,vV],1,false⟩:=by rw [hH1]; exact ζb _ _ _ rfl
 obtain ⟨N,hN⟩:∃ N,N = (planRoom p 1 (List.replicate 4 0)).length:=⟨_,rfl⟩
 have hNb:N ≤ 100000:=by rw [hN]; exact ζdk hp 1 (by simp) h1 h2 h3
 obtain ⟨s0,o0,J0,e0,g,_⟩:=ζjq k hW p hp 1 (by omega) 4 (by omega) h1 h2 h3 (Star.nil H1) (hP.up hx1);rw [ζg1] at g;simp only [List.nil_append] at g;have gx0:=g.ext;have hb0:=gx0.get hg1;have hkb:0 ≤ kb kind ∧ kb kind ≤ 3221225472 ∧ kb kind % 1073741824 = 0:=by unfold kb; omega
 have hrem:=fun H => bin_rem Prog 5 H .u8 kind 4 (by decide);rw [Int.tmod_eq_emod_of_nonneg hkind.1] at hrem;have hwk:IntKind.i64.wrap (kind % 4) = kind % 4:=wrap_i64 (by omega) (by omega);have hsh:∀ H,binR Prog .shl 3 (.int .i64 (kind % 4)) (.int .u64 30) H = .ok (.int .i64 (kb kind)) H:=fun H => shl30 Prog 3 H (a:=kind % 4) (by omega) (by omega);have hor:=fun H => bin_or Prog 3 H (kb kind) (N:Int) 30 hkb.1 hkb.2.2 (by omega) (by omega) (by omega);have hln0:∀ H',lnS s0 H' = .ok (.int .i64 N) H':=by rw [hN]; exact (g.row 0 rfl).len
 have hlnV:∀ H',lnS vV H' = .ok (.int .i64 vals.length) H':=fun H' => hV.len H';have hN16:20 ≤ N:=by rw [hN]; unfold planRoom; simp; omega
 obtain ⟨c5,rfl,hs5,cut1⟩:=g.cut1 0 rfl 16 4 (by omega) (by omega) .i64 .i64;have g:=g.more_row (Ext.refl _) (OwnO.nil encB _ 1) (fun b hb => by cases hb);simp only [List.cons_append,List.nil_append] at g;obtain ⟨t6,u6,J6,f6,g⟩:=Put_star k g 1 rfl (kb kind + N) 4 4 rfl (by omega) (by omega) (by omega) (by simp);simp only [List.set_cons_zero,List.set_cons_succ,List.nil_append] at g;obtain ⟨c6,h6,_,cut2⟩:=g.cut1 0 rfl 16 4 (by omega) (by omega) .i64 .i64;have h6:=Option.some.inj h6;subst h6;obtain ⟨J7,f7,g⟩:=g.copy1 0 1 rfl rfl 16 4 ((planRoom p 1 (List.replicate 4 0)).length - 16) (by simp) (by omega) (by omega);simp only [List.set_cons_zero] at g;have hcopy:=ζg2 p 1 (List.replicate 4 0) (bytesOf (kb kind + N:Int) 4) [] (by simp);rw [ζ2o,List.append_nil,List.append_nil] at hcopy;rw [hcopy] at g;have hrl:(planRoom p 1 (bytesOf (kb kind + N:Int) 4)).length = N:=by rw [hN]; exact ζby p 1 _ _ (by simp)
 have g0:=g.take 1;simp only [List.take_succ_cons,List.take_zero] at g0;have hv7:=g0.get;obtain ⟨s',o',zz,J8,f8,g8⟩:=w25_l1 k g0 (hV.up hx1) (by rw [hrl]; omega);have hfin:planRoom p 1 (bytesOf (kb kind + N:Int) 4) ++ twos (vals.map m16) = roomB p 1 (kb kind) (vals.map m16):=by unfold roomB; rw [← hN]
 rw [hfin] at g8;have g1':J7.get H.n = some ⟨[vC,vR,sE,.int .u8 p.wide,.int .u8 kind,vV],1,false⟩:=g.ext.get hg1;refine ⟨s',o',J8,?_,?_⟩;rotate_left
 ·have ho:=(g8.own 0 rfl).base hx1.n;obtain ⟨o2,ho2,hlt⟩:=ho.toO;have hst:Star H J8 ([] ++ [itRow o2 1 s' encB (roomB p 1 (kb kind) (vals.map m16))]):=(Star.nil H).more_row (hx1.trans g8.ext) ho2 fun b hb => ⟨hlt b hb,ho2.lt b hb⟩
  have h7:o2 = o':=by
   have hr:=g8.row 0 rfl;rcases hr with ⟨r1,r2,r3⟩ | ⟨b,r1,r2,r3⟩
   ·exfalso;have:=congrArg List.length r2;unfold roomB at this;rw [List.length_append,ζdn,← hN] at this;simp at this;omega
   ·rcases ho2 with ⟨q1,q2,q3⟩ | ⟨b2,q1,q2,q3⟩
    ·exfalso;have:=congrArg List.length q2;unfold roomB at this;rw [List.length_append,ζdn,← hN] at this;simp at this;omega
    ·rw [r1,q1];rw [r2] at q2;injection q2 with q2;injection q2 with q2;injection q2 with q2;rw [q2]
  subst h7;simpa using hst
 have hv5:veq (.slice (some ⟨c5,16,none⟩) 4 ((planRoom p 1 (List.replicate 4 0)).length - 16)) (.slice (some ⟨c5,16,none⟩) 4 ((planRoom p 1 (List.replicate 4 0)).length - 16)) = true:=by simp
 generalize (planRoom p 1 (List.replicate 4 0)).length - 16 = cap at cut1 cut2 f7 hv5;have cut1:slS 1 s0 (some (.int .i64 16)) (some (.int .i64 20)) none J0 = .ok (.slice (some ⟨c5,16,none⟩) 4 cap) J0:=cut1;have cut2:slS 1 s0 (some (.int .i64 16)) (some (.int .i64 20)) none J6 = .ok (.slice (some ⟨c5,16,none⟩) 4 cap) J6:=cut2;rw [hH1] at e0;have e0:R (T k) F.ζ1 [.agg #[vC,vR,sE,.int .u8 p.wide],.int .i64 1,.int .i64 4] (H.push ⟨[vC,vR,sE,.int .u8 p.wide,.int .u8 kind,vV],1,false⟩) = .ok s0 J0:=e0;simp -implicitDefEqProofs (disch:=omega) [ζ11,hb0,hrem,hwk,hsh,hor,e0,hln0,cut1,f6,cut2,f7,hv5,g1',hlnV,f8,ζ8w]
theorem ζml (k:Nat) (hk:k < 1000000) (hW:ownW k = .no) (p:Plan) (hp:p.ok) (h1:p.cls.length ≤ 1000) (h2:p.rows.length ≤ 1000) (h3:p.ents.length ≤ 1000) {H:Heap} {vC vR sE:Value} {rv:List (List Int × Value)} (hP:PlanSl H p vC vR sE rv)
  {kind:Int} (hkind:0 ≤ kind ∧ kind < 256) {vV:Value} {vals:List Int} (hV:Sl H 1 vV enc16 vals) (h4:vals.length ≤ 1000) :
  R (T k) F.ζ11 [.agg #[vC,vR,sE,.int .u8 p.wide,.int .u8 kind,vV]] H = .ok (lv encB (roomB p 1 (kb kind) (vals.map m16))) H:=by
 obtain ⟨s,o,H',e,g⟩:=ζij k hW p hp h1 h2 h3 hP hkind hV h4;rw [ζbn];have ho:own k = .fz:=by
  unfold own;rw [show Nat.blt k 1000000 = true from Nat.ble_eq_true_of_le hk];rfl
 rw [ho];obtain ⟨L,hf⟩:=(g.own 0 rfl).freeze encB_len (fun n _ v hv => by simp at hv; subst hv; trivial) 6;exact nrm_fz (v:=s) (H':=H') e hf g.ext (Flat.B _).alive
end Go.Sw
end
section
namespace Go.Sw
abbrev tyM:Nat:=193
abbrev tyS:Nat:=189
theorem alM (h:Heap):allocR Prog tyM h = newP [.map none] h:=al_eq (z:=.map none) (by kernel_rfl) h
theorem alU (h:Heap):allocR Prog tyS h = newP [] h:=al_eq (z:=.agg #[]) (by kernel_rfl) h
theorem ldM (a:Value) (h:Heap):loadR Prog tyM a h = ld1 a h:=ld1_eq (by kernel_rfl) a h
theorem stM (a v:Value) (h:Heap):storeR Prog tyM a v h = stR 1 a v h:=st_eq (by kernel_rfl) a v h
theorem stU (a v:Value) (h:Heap):storeR Prog tyS a v h = stR 0 a v h:=st_eq (by kernel_rfl) a v h
end Go.Sw
end
section
namespace Go.Sw
open Go.RowKit
def ptL (p:Pt):List (List Int):=(List.range (p.last - p.first + 1).toNat).map fun j => [p.first + (j:Nat),(p.num (p.first + (j:Nat))).getD 0]
theorem mapM_all {α β:Type} {f:α → Option β} {g:α → β}:∀ {l:List α},(∀ y,y ∈ l → f y = some (g y)) → l.mapM f = some (l.map g)
 | [],_ => rfl
 | y :: l,h => by rw [List.mapM_cons,h y (by simp),mapM_all (fun z hz => h z (by simp [hz]))]; rfl
theorem ζo3 (l:List Int) (i:Nat):(rows encI l)[i]? = (l[i]?).map (Value.int .i64):=by
 unfold rows
 induction l generalizing i with
 | nil => rfl
 | cons x l ih =>
  cases i with
  | zero => rfl
  | succ i => simpa using ih i
theorem partE_pt (p:Pt) (h:p.ok):partE p.first p.last (rows encI p.vals) = some (ptL p):=by
 obtain ⟨h1,h2,h3,h4,h5,h6⟩:=h;have hl:0 < p.vals.length:=List.length_pos_iff.2 h4;have hlen:(rows encI p.vals).length = p.vals.length:=by simpa using ζf encI_len p.vals
 unfold partE;rw [if_pos ⟨h1,by omega,by rw [hlen]; omega⟩];refine mapM_all fun j hj => ?_;have hj:=List.mem_range.1 hj;obtain ⟨x,hx⟩:∃ x,p.vals[min j (p.vals.length - 1)]? = some x:=⟨_,List.getElem?_eq_getElem (by omega)⟩
 rw [ζo3,hlen,hx];have:p.num (p.first + (j:Nat)) = some x:=by
  unfold Pt.num;rw [show (min (p.first + (j:Int) - p.first) ((p.vals.length:Int) - 1)).toNat = min j (p.vals.length - 1) by omega];exact hx
 simp [this]
theorem ζhb:∀ (ps:List Pt),(∀ p,p ∈ ps → p.ok) → partsE ps.length (rows encPt ps) = some (ps.flatMap ptL)
 | [],_ => rfl
 | p :: ps,h => by
  have h1:=partE_pt p (h p (by simp));have h2:=ζhb ps fun q hq => h q (by simp [hq]);have hlen:(rows encI p.vals).length = p.vals.length:=by simpa using ζf encI_len p.vals
  rw [ζ3a,List.length_cons];show partsE (ps.length + 1) (.int .i64 p.first :: .int .i64 p.last :: lv encI p.vals :: rows encPt ps) = _;unfold lv listV;simp [partsE,h1,h2,hlen]
theorem itS_tab (x:Int × List Pt) (hok:∀ p,p ∈ x.2 → p.ok) (hl:x.2.length < 2 ^ 31) (n:Nat) (H:Heap) (hH:H.get n = some ⟨[tabV x],1,false⟩) :
  itS (.func (.func F.ζ3l) #[] #[.pointer (some ⟨n,0,none⟩)]) H = some (x.2.flatMap ptL):=by
 have h1:=ζhb x.2 hok;unfold itS itAll;unfold tabV boxV lv listV at hH;simp only [hH];simp only [Nat.beq_refl,Bool.and_true,cond_true,Array.size_empty];rw [if_pos (show x.2.length < 1152921504606846976 by omega)];exact h1
theorem ζkc (k:Nat) (x:Int × List Pt) (H:Heap):R (T k) F.ζ1y [tabV x] H = .ok (.func (.func F.ζ3l) #[] #[.pointer (some ⟨H.n,0,none⟩)]) (H.push ⟨[tabV x],1,false⟩):=by
 rw [ζbb];simp [ζ1y]
end Go.Sw
end
section
namespace Go.Sw
open Go.RowKit
abbrev KontM (β:Type):=AExit → Env → Heap → Gs → Res β
section
variable {β:Type} {c:Cfg} {call:Caller} {f:FuncId} {p:List Nat} {e:Env} {H:Heap} {gs:Gs}
noncomputable def pieceM (c:Cfg) (call:Caller) (f:FuncId) (p:List Nat) (e:Env) (H:Heap) (gs:Gs) (K:KontM β):Res β :=
 (execM c call (runDraw c call (ntOf c.P f)) (ntOf c.P f) (c.kp f) (partOf c.P f p) e H gs).bind fun r H' => K r.1.1 r.1.2 H' r.2
noncomputable def pieceF (c:Cfg) (call:Caller) (f:FuncId) (p:List Nat) (e:Env) (H:Heap) (gs:Gs) (K:Kont β):Res β :=
 (execF c call (runDraw c call (ntOf c.P f)) (ntOf c.P f) (c.kp f) (partOf c.P f p) e H gs).bind fun r H' => K r.1 r.2 H'
def kSeqM (F:Env → Heap → Gs → KontM β → Res β) (K:KontM β):KontM β:=fun x e H gs =>
 match x with
 | .normal => F e H gs K
 | x => K x e H gs
def kSeqF (F:Env → Heap → Gs → Kont β → Res β) (K:Kont β):KontM β:=fun x e H gs =>
 match x with
 | .normal => F e H gs K
 | x => K x e H
theorem ζ3m (h:noMap (partOf c.P f p) = true) (K:KontM β):pieceM c call f p e H gs K = pieceK c call f p e H fun x e H => K x e H gs:=by
 unfold pieceM pieceK;rw [ζk3 _ h,execK_eq,Res.bind_assoc];rfl
theorem ζdh {a b:List Nat} (h:partOf c.P f p = .seq (partOf c.P f a) (partOf c.P f b)) (K:KontM β):pieceM c call f p e H gs K = pieceM c call f a e H gs (kSeqM (pieceM c call f b) K):=by
 unfold pieceM;rw [h];simp only [execM,Res.bind_assoc];congr 1;funext r H';obtain ⟨⟨x,e'⟩,gs'⟩:=r;cases x <;> rfl
theorem ζia {a:List Nat} {i:Nat} (h:partOf c.P f p = .block i (partOf c.P f a)) (K:KontM β):pieceM c call f p e H gs K = pieceM c call f a e H gs fun x e H gs => match x with
  | .exit j => if j == i then K .normal e H gs else K (.exit j) e H gs
  | x => K x e H gs:=by
 unfold pieceM;rw [h];simp only [execM,Res.bind_assoc];congr 1;funext r H';obtain ⟨⟨x,e'⟩,gs'⟩:=r;cases x with
 | normal => rfl
 | ret => rfl
 | exit j =>
  show (Res.ok (blockK i (.exit j,e'),gs') H').bind _ = _;unfold blockK;dsimp only;split <;> rfl
theorem ζ6a {a b:List Nat} (h:partOf c.P f p = .seq (partOf c.P f a) (partOf c.P f b)) (hp:plainCode (partOf c.P f a) = true) (K:Kont β):pieceF c call f p e H gs K = pieceM c call f a e H gs (kSeqF (pieceF c call f b) K):=by
 unfold pieceF pieceM;rw [h];simp only [execF,hp,cond_true,Res.bind_assoc];congr 1;funext r H';obtain ⟨⟨x,e'⟩,gs'⟩:=r;cases x <;> rfl
theorem ζi9 {a b:List Nat} (h:partOf c.P f p = .seq (partOf c.P f a) (partOf c.P f b)) (hp:plainCode (partOf c.P f a) = false) (K:Kont β):pieceF c call f p e H gs K = pieceF c call f a e H gs (kSeq (pieceK c call f b) K):=by
 unfold pieceF;rw [h];simp only [execF,hp,cond_false,Res.bind_assoc];congr 1;funext r H';obtain ⟨x,e'⟩:=r;cases x with
 | normal => exact (execK_eq _ _ _ _).symm
 | exit i => rfl
 | ret => rfl
theorem ζi8 {a:List Nat} {i:Nat} (h:partOf c.P f p = .block i (partOf c.P f a)) (K:Kont β):pieceF c call f p e H gs K = pieceF c call f a e H gs (kBlock i K):=by
 unfold pieceF;rw [h];simp only [execF,Res.bind_assoc];congr 1;funext r H';obtain ⟨x,e'⟩:=r;cases x with
 | normal => rfl
 | ret => rfl
 | exit j =>
  show (Res.ok (blockK i (.exit j,e')) H').bind _ = _;unfold blockK kBlock;dsimp only;cases j == i <;> rfl
theorem ζfz {r:Res ((AExit × Env) × Gs)} (h:execM c call (runDraw c call (ntOf c.P f)) (ntOf c.P f) (c.kp f) (partOf c.P f p) e H gs = r) (K:KontM β):pieceM c call f p e H gs K = r.bind fun r H' => K r.1.1 r.1.2 H' r.2:=by
 unfold pieceM;rw [h]
theorem ζk2 (c:Cfg) (call:Caller) (f:FuncId) (p:List Nat) (e:Env) (H:Heap) (gs:Gs):execM c call (runDraw c call (ntOf c.P f)) (ntOf c.P f) (c.kp f) (partOf c.P f p) e H gs = pieceM c call f p e H gs fun x e H gs => .ok ((x,e),gs) H:=by
 unfold pieceM;cases execM c call (runDraw c call (ntOf c.P f)) (ntOf c.P f) (c.kp f) (partOf c.P f p) e H gs <;> rfl
theorem ζie {a b:List Nat} {e e':Env} (h:∀ K:KontM ((AExit × Env) × Gs),pieceM c call f a e H gs K = K .normal e' H gs):roundM c call (runDraw c call (ntOf c.P f)) (ntOf c.P f) (c.kp f) (partOf c.P f a) (partOf c.P f b) e H gs = pieceM c call f b e' H gs fun x _ H gs => .ok (x,gs) H:=by
 unfold roundM;rw [ζk2,h];rfl
theorem bodyF_is (c:Cfg) (call:Caller) (f:FuncId) (args:List Value) (H:Heap) (hl:Nat.ble args.length (ntOf c.P f) = true):bodyF c call f args H = pieceF c call f [] (Env.of 0 args) H none (kDone c.P (resOf c.P f)):=by
 unfold bodyF pieceF;have hk:(fun (r:AExit × Env) H' => kDone c.P (resOf c.P f) r.1 r.2 H') = fun r H' => doneK c.P (resOf c.P f) r H':=by
  funext r H';exact kDone_eq _ _ _ _ _
 rw [hk];cases hf:c.P.funcs[f]? with
 | none =>
  have:partOf c.P f [] = .skip:=by unfold partOf; rw [hf]
  rw [this]; rfl
 | some fn =>
  dsimp only;cases hb:fn.body with
  | none =>
   have:partOf c.P f [] = .skip:=by unfold partOf; rw [hf]; dsimp only; rw [hb]
   rw [this]; rfl
  | some code =>
   have h1:partOf c.P f [] = code:=by unfold partOf; rw [hf]; dsimp only; rw [hb]; cases code <;> rfl
   have h2:ntOf c.P f = fn.ntmps:=by unfold ntOf; rw [hf]
   have h3:resOf c.P f = fn.results.toList:=by unfold resOf; rw [hf]
   rw [h1,h2,h3];rw [h2] at hl;dsimp only;rw [hl];rfl
end
def mapMk (H:Heap) (gs:Gs):Res (Value × Gs):=match gs with | none => .ok (.map (some H.n),some (H.n,[])) (deadH H) | some _ => .stuck
def mapLk (m n:Value) (H:Heap) (gs:Gs):Res (Value × Gs):=match some m,some n,gs with
 | some (.map (some b)),some (.int .i64 n),some (b',ks) => bif Nat.beq b b' && true then .ok (.tuple #[.agg #[],.bool (decide (n ∈ ks))],some (b',ks)) H else .stuck
 | _,_,_ => .stuck
def mapUp (m n v:Value) (H:Heap) (gs:Gs):Res (Value × Gs):=match some m,some n,some v,gs with
 | some (.map (some b)),some (.int .i64 n),some (.agg xs),some (b',ks) => bif Nat.beq b b' && true && Nat.beq xs.size 0 && !(decide (n ∈ ks)) then .ok (undef,some (b',n :: ks)) H else .stuck
 | _,_,_,_ => .stuck
def plM (r:Res Value) (gs:Gs):Res (Value × Gs):=r.bind fun v H => .ok (v,gs) H
def endM (ks:List Nat) (r:Res (Env × Gs)):Res ((AExit × Env) × Gs):=r.bind fun q H' => .ok ((.normal,Env.keep ks q.1),q.2) H'
theorem take_m3K (call:Caller) (draw:Draw) (a4 a5:Value) (H:Heap) (gs:Gs):execM CI call draw (ntOf Prog F.ζ0) (kpS F.ζ0) (partOf Prog F.ζ0 [1,1,1,0]) [(4,a4),(5,a5)] H gs =
  endM [4,5,6] ((mapMk H gs).bind fun q h1 => (plM (allocR Prog tyM h1) q.2).bind fun r h2 => (plM (storeR Prog tyM r.1 q.1 h2) r.2).bind fun s h3 => .ok ([(4,a4),(5,a5),(6,r.1),(27,q.1)],s.2) h3):=by kernel_rfl
theorem take_m3 (call:Caller) (draw:Draw) (a4 a5:Value) (H:Heap) (gs:Gs):execM CI call draw (ntOf Prog F.ζ0) (kpS F.ζ0) (partOf Prog F.ζ0 [1,1,1,0]) [(4,a4),(5,a5)] H gs =
  endM [4,5,6] ((mapMk H gs).bind fun q h1 => (plM (newP [.map none] h1) q.2).bind fun r h2 => (plM (stR 1 r.1 q.1 h2) r.2).bind fun s h3 => .ok ([(4,a4),(5,a5),(6,r.1),(27,q.1)],s.2) h3):=by
 have h:=take_m3K call draw a4 a5 H gs;simp only [alM,alU,ldM,stM,stU] at h;exact h
theorem take_m6K (call:Caller) (draw:Draw) (a5 a6 a8:Value) (H:Heap) (gs:Gs):execM CI call draw (ntOf Prog F.ζ0) (kpS F.ζ0) (partOf Prog F.ζ0 [1,1,1,1,0,1,0,1,0,0,0]) [(5,a5),(6,a6),(8,a8)] H gs =
  endM [5,6,8,10] ((plM (loadR Prog tyM a6 H) gs).bind fun m h1 => (mapLk m.1 a8 h1 m.2).bind fun q h2 => (plM (extractR q.1 0 h2) q.2).bind fun x h3 => (plM (extractR q.1 1 h3) x.2).bind fun y h4 => (plM (allocR Prog tyS h4) y.2).bind fun r h5 => (plM (storeR Prog tyS r.1 x.1 h5) r.2).bind fun s h6 =>
   .ok ([(5,a5),(6,a6),(8,a8),(9,r.1),(10,y.1),(35,q.1),(36,m.1),(37,a8),(38,q.1),(39,x.1),(40,y.1)],s.2) h6):=by kernel_rfl
theorem take_m6 (call:Caller) (draw:Draw) (a5 a6 a8:Value) (H:Heap) (gs:Gs):execM CI call draw (ntOf Prog F.ζ0) (kpS F.ζ0) (partOf Prog F.ζ0 [1,1,1,1,0,1,0,1,0,0,0]) [(5,a5),(6,a6),(8,a8)] H gs =
  endM [5,6,8,10] ((plM (ld1 a6 H) gs).bind fun m h1 => (mapLk m.1 a8 h1 m.2).bind fun q h2 => (plM (extractR q.1 0 h2) q.2).bind fun x h3 => (plM (extractR q.1 1 h3) x.2).bind fun y h4 => (plM (newP [] h4) y.2).bind fun r h5 => (plM (stR 0 r.1 x.1 h5) r.2).bind fun s h6 =>
   .ok ([(5,a5),(6,a6),(8,a8),(9,r.1),(10,y.1),(35,q.1),(36,m.1),(37,a8),(38,q.1),(39,x.1),(40,y.1)],s.2) h6):=by
 have h:=take_m6K call draw a5 a6 a8 H gs;simp only [alM,alU,ldM,stM,stU] at h;exact h
theorem take_m8K (call:Caller) (draw:Draw) (a5 a6 a8 a41:Value) (H:Heap) (gs:Gs):execM CI call draw (ntOf Prog F.ζ0) (kpS F.ζ0) (partOf Prog F.ζ0 [1,1,1,1,0,1,0,1,0,1,0]) [(5,a5),(6,a6),(8,a8),(41,a41)] H gs =
  endM [5,8] ((plM (loadR Prog tyM a6 H) gs).bind fun m h1 => (mapUp m.1 a8 (.agg #[]) h1 m.2).bind fun q h2 => .ok ([(5,a5),(6,a6),(8,a8),(41,a41),(42,m.1),(43,a8),(44,.agg #[])],q.2) h2):=by kernel_rfl
theorem take_m8 (call:Caller) (draw:Draw) (a5 a6 a8 a41:Value) (H:Heap) (gs:Gs):execM CI call draw (ntOf Prog F.ζ0) (kpS F.ζ0) (partOf Prog F.ζ0 [1,1,1,1,0,1,0,1,0,1,0]) [(5,a5),(6,a6),(8,a8),(41,a41)] H gs =
  endM [5,8] ((plM (ld1 a6 H) gs).bind fun m h1 => (mapUp m.1 a8 (.agg #[]) h1 m.2).bind fun q h2 => .ok ([(5,a5),(6,a6),(8,a8),(41,a41),(42,m.1),(43,a8),(44,.agg #[])],q.2) h2):=by
 have h:=take_m8K call draw a5 a6 a8 a41 H gs;simp only [alM,alU,ldM,stM,stU] at h;exact h
end Go.Sw
end
section
namespace Go.Sw
open Go.RowKit
section
variable {β:Type} {call:Caller} {e:Env} {H:Heap} {gs:Gs}
theorem ζof (call:Caller) (a0 a1:Value) (H:Heap):bodyF CI call F.ζ0 [a0,a1] H = pieceF CI call F.ζ0 [] [(0,a0),(1,a1)] H none (kDone Prog (resOf Prog F.ζ0)):=bodyF_is CI call F.ζ0 [a0,a1] H (by kernel_rfl)
theorem tF0 (K:Kont β):pieceF CI call F.ζ0 [] e H gs K = pieceM CI call F.ζ0 [0] e H gs (kSeqF (pieceF CI call F.ζ0 [1]) K):=ζ6a (by kernel_rfl) (by kernel_rfl) K
theorem tF1 (K:Kont β):pieceF CI call F.ζ0 [1] e H gs K = pieceM CI call F.ζ0 [1,0] e H gs (kSeqF (pieceF CI call F.ζ0 [1,1]) K):=ζ6a (by kernel_rfl) (by kernel_rfl) K
theorem tF2 (K:Kont β):pieceF CI call F.ζ0 [1,1] e H gs K = pieceM CI call F.ζ0 [1,1,0] e H gs (kSeqF (pieceF CI call F.ζ0 [1,1,1]) K):=ζ6a (by kernel_rfl) (by kernel_rfl) K
theorem tF3 (K:Kont β):pieceF CI call F.ζ0 [1,1,1] e H gs K = pieceM CI call F.ζ0 [1,1,1,0] e H gs (kSeqF (pieceF CI call F.ζ0 [1,1,1,1]) K):=ζ6a (by kernel_rfl) (by kernel_rfl) K
theorem tF4 (K:Kont β):pieceF CI call F.ζ0 [1,1,1,1] e H gs K = pieceF CI call F.ζ0 [1,1,1,1,0] e H gs (kSeq (pieceK CI call F.ζ0 [1,1,1,1,1]) K):=ζi9 (by kernel_rfl) (by kernel_rfl) K
theorem tF5 (K:Kont β):pieceF CI call F.ζ0 [1,1,1,1,0] e H gs K = pieceM CI call F.ζ0 [1,1,1,1,0,0] e H gs (kSeqF (pieceF CI call F.ζ0 [1,1,1,1,0,1]) K):=ζ6a (by kernel_rfl) (by kernel_rfl) K
theorem tF6 (K:Kont β):pieceF CI call F.ζ0 [1,1,1,1,0,1] e H gs K = pieceF CI call F.ζ0 [1,1,1,1,0,1,0] e H gs (kBlock 0 K):=ζi8 (by kernel_rfl) K
noncomputable abbrev takeRound (call:Caller):Env → Heap → Gs → Res (AExit × Gs):=roundM CI call (runDraw CI call (ntOf Prog F.ζ0)) (ntOf Prog F.ζ0) (kpS F.ζ0) (partOf Prog F.ζ0 [1,1,1,1,0,1,0,0]) (partOf Prog F.ζ0 [1,1,1,1,0,1,0,1])
theorem tF7 (a4 a5 a6 a32:Value) (K:Kont β):pieceF CI call F.ζ0 [1,1,1,1,0,1,0] [(4,a4),(5,a5),(6,a6),(32,a32)] H gs K =
  ((opt (itS a32 H) H).bind fun l H => rangeM (takeRound call) [33,34] [(4,a4),(5,a5),(6,a6)] l H gs).bind fun r H' => K r.1 r.2 H':=by kernel_rfl
theorem tM0 (K:KontM β):pieceM CI call F.ζ0 [0] e H gs K = pieceK CI call F.ζ0 [0] e H fun x e H => K x e H gs:=ζ3m (by kernel_rfl) K
theorem tM1 (K:KontM β):pieceM CI call F.ζ0 [1,0] e H gs K = pieceK CI call F.ζ0 [1,0] e H fun x e H => K x e H gs:=ζ3m (by kernel_rfl) K
theorem tM2 (K:KontM β):pieceM CI call F.ζ0 [1,1,0] e H gs K = pieceK CI call F.ζ0 [1,1,0] e H fun x e H => K x e H gs:=ζ3m (by kernel_rfl) K
theorem tM4 (K:KontM β):pieceM CI call F.ζ0 [1,1,1,1,0,0] e H gs K = pieceK CI call F.ζ0 [1,1,1,1,0,0] e H fun x e H => K x e H gs:=ζ3m (by kernel_rfl) K
theorem tM5 (K:KontM β):pieceM CI call F.ζ0 [1,1,1,1,0,1,0,0] e H gs K = pieceK CI call F.ζ0 [1,1,1,1,0,1,0,0] e H fun x e H => K x e H gs:=ζ3m (by kernel_rfl) K
theorem tM7 (K:KontM β):pieceM CI call F.ζ0 [1,1,1,1,0,1,0,1,0,0,1] e H gs K = pieceK CI call F.ζ0 [1,1,1,1,0,1,0,1,0,0,1] e H fun x e H => K x e H gs:=ζ3m (by kernel_rfl) K
theorem tM9 (K:KontM β):pieceM CI call F.ζ0 [1,1,1,1,0,1,0,1,0,1,1] e H gs K = pieceK CI call F.ζ0 [1,1,1,1,0,1,0,1,0,1,1] e H fun x e H => K x e H gs:=ζ3m (by kernel_rfl) K
theorem tS0 (K:KontM β):pieceM CI call F.ζ0 [1,1,1,1,0,1,0,1] e H gs K = pieceM CI call F.ζ0 [1,1,1,1,0,1,0,1,0] e H gs fun x e H gs => match x with
  | .exit j => if j == 1 then K .normal e H gs else K (.exit j) e H gs
  | x => K x e H gs:=ζia (by kernel_rfl) K
theorem tS1 (K:KontM β):pieceM CI call F.ζ0 [1,1,1,1,0,1,0,1,0] e H gs K = pieceM CI call F.ζ0 [1,1,1,1,0,1,0,1,0,0] e H gs (kSeqM (pieceM CI call F.ζ0 [1,1,1,1,0,1,0,1,0,1]) K):=ζdh (by kernel_rfl) K
theorem tS2 (K:KontM β):pieceM CI call F.ζ0 [1,1,1,1,0,1,0,1,0,0] e H gs K = pieceM CI call F.ζ0 [1,1,1,1,0,1,0,1,0,0,0] e H gs (kSeqM (pieceM CI call F.ζ0 [1,1,1,1,0,1,0,1,0,0,1]) K):=ζdh (by kernel_rfl) K
theorem tS3 (K:KontM β):pieceM CI call F.ζ0 [1,1,1,1,0,1,0,1,0,1] e H gs K = pieceM CI call F.ζ0 [1,1,1,1,0,1,0,1,0,1,0] e H gs (kSeqM (pieceM CI call F.ζ0 [1,1,1,1,0,1,0,1,0,1,1]) K):=ζdh (by kernel_rfl) K
theorem pM3 (a4 a5:Value) (K:KontM β):pieceM CI call F.ζ0 [1,1,1,0] [(4,a4),(5,a5)] H gs K = (endM [4,5,6] ((mapMk H gs).bind fun q h1 => (plM (newP [.map none] h1) q.2).bind fun r h2 => (plM (stR 1 r.1 q.1 h2) r.2).bind fun s h3 => .ok ([(4,a4),(5,a5),(6,r.1),(27,q.1)],s.2) h3)).bind fun r H' => K r.1.1 r.1.2 H' r.2 :=
 ζfz (take_m3 call _ a4 a5 H gs) K
theorem pM6 (a5 a6 a8:Value) (K:KontM β):pieceM CI call F.ζ0 [1,1,1,1,0,1,0,1,0,0,0] [(5,a5),(6,a6),(8,a8)] H gs K = (endM [5,6,8,10] ((plM (ld1 a6 H) gs).bind fun m h1 => (mapLk m.1 a8 h1 m.2).bind fun q h2 => (plM (extractR q.1 0 h2) q.2).bind fun x h3 => (plM (extractR q.1 1 h3) x.2).bind fun y h4 => (plM (newP [] h4) y.2).bind fun r h5 => (plM (stR 0 r.1 x.1 h5) r.2).bind fun s h6 =>
   .ok ([(5,a5),(6,a6),(8,a8),(9,r.1),(10,y.1),(35,q.1),(36,m.1),(37,a8),(38,q.1),(39,x.1),(40,y.1)],s.2) h6)).bind fun r H' => K r.1.1 r.1.2 H' r.2 :=
 ζfz (take_m6 call _ a5 a6 a8 H gs) K
theorem pM8 (a5 a6 a8 a41:Value) (K:KontM β):pieceM CI call F.ζ0 [1,1,1,1,0,1,0,1,0,1,0] [(5,a5),(6,a6),(8,a8),(41,a41)] H gs K = (endM [5,8] ((plM (ld1 a6 H) gs).bind fun m h1 => (mapUp m.1 a8 (.agg #[]) h1 m.2).bind fun q h2 => .ok ([(5,a5),(6,a6),(8,a8),(41,a41),(42,m.1),(43,a8),(44,.agg #[])],q.2) h2)).bind fun r H' => K r.1.1 r.1.2 H' r.2 :=
 ζfz (take_m8 call _ a5 a6 a8 a41 H gs) K
end
theorem ζhr (k:Nat) (call:Caller) (a4 a5 a6 id at_:Value) (H:Heap) (gs:Gs):takeRound call [(4,a4),(5,a5),(6,a6),(33,id),(34,at_)] H gs =
  pieceM CI call F.ζ0 [1,1,1,1,0,1,0,1] [(5,a5),(6,a6),(8,at_)] H gs fun x _ H gs => .ok (x,gs) H :=
 ζie fun K => by rw [tM5,ζge k]
theorem ζo2 (k:Nat) (a4 a5 id:Value) (pM G:Nat) (n:Int) (ks:List Int) (hn:n ∈ ks) (H:Heap) (hM:H.get pM = some ⟨[.map (some G)],1,false⟩) :
  takeRound (R (T k)) [(4,a4),(5,a5),(6,ptrV pM),(33,id),(34,.int .i64 n)] H (some (G,ks)) = .ok (.normal,some (G,ks)) (H.push ⟨[],1,false⟩):=by
 rw [ζhr k,tS0,tS1,tS2,pM6];have hl:ld1 (ptrV pM) H = .ok (.map (some G)) H:=by simp [hM]
 simp only [hl,plM,Res.bind_ok,mapLk,Nat.beq_refl,Bool.and_true,cond_true,decide_eq_true hn];have e0:∀ h:Heap,extractR (.tuple #[.agg #[],.bool true]) 0 h = .ok (.agg #[]) h:=fun _ => rfl;have e1:∀ h:Heap,extractR (.tuple #[.agg #[],.bool true]) 1 h = .ok (.bool true) h:=fun _ => rfl;have e2:newP [] H = .ok (ptrV H.n) (H.push ⟨[],1,false⟩):=rfl;have e3:stR 0 (ptrV H.n) (.agg #[]) (H.push ⟨[],1,false⟩) = .ok undef (H.push ⟨[],1,false⟩):=by simp
 simp only [e0,e1,e2,e3,Res.bind_ok,endM];show (kSeqM _ _) .normal [(5,a5),(6,ptrV pM),(8,.int .i64 n),(10,.bool true)] _ _ = _;unfold kSeqM;dsimp only;rw [tM7,ζbs k,ζbt k];unfold kSeq;dsimp only;rw [ζbu k,ζgf k];rfl
theorem ζo1 (k:Nat) (a4 id:Value) (pM pT pB G:Nat) (n:Int) (hn0:0 ≤ n ∧ n < 4294967296) (ks:List Int) (hn:n ∉ ks) (tab:Int × List Pt) (d:List Int) (hd:Byt d) (hl:d.length < 2 ^ 31) (H:Heap) (hM:H.get pM = some ⟨[.map (some G)],1,false⟩) (hT:H.get pT = some ⟨[ptrV pB],1,false⟩) (hB:H.get pB = some ⟨[tabV tab,lv encB d],1,false⟩) :
  takeRound (R (T k)) [(4,a4),(5,ptrV pT),(6,ptrV pM),(33,id),(34,.int .i64 n)] H (some (G,ks)) = match (uS d n 4).bind fun m => rowsS d (n + 4) m 4 with
   | some _ => .ok (.normal,some (G,n :: ks)) (H.push ⟨[],1,false⟩)
   | none => .panic failV (H.push ⟨[],1,false⟩):=by
 rw [ζhr k,tS0,tS1,tS2,pM6];have hl1:ld1 (ptrV pM) H = .ok (.map (some G)) H:=by simp [hM]
 have hM':(H.push ⟨[],1,false⟩).get pM = some ⟨[.map (some G)],1,false⟩:=((Ext.refl H).push _).get hM;have hT':(H.push ⟨[],1,false⟩).get pT = some ⟨[ptrV pB],1,false⟩:=((Ext.refl H).push _).get hT;have hB':(H.push ⟨[],1,false⟩).get pB = some ⟨[tabV tab,lv encB d],1,false⟩:=((Ext.refl H).push _).get hB;have hl2:ld1 (ptrV pM) (H.push ⟨[],1,false⟩) = .ok (.map (some G)) (H.push ⟨[],1,false⟩):=by simp [hM']
 simp only [hl1,plM,Res.bind_ok,mapLk,Nat.beq_refl,Bool.and_true,cond_true,decide_eq_false hn];have e0:∀ h:Heap,extractR (.tuple #[.agg #[],.bool false]) 0 h = .ok (.agg #[]) h:=fun _ => rfl;have e1:∀ h:Heap,extractR (.tuple #[.agg #[],.bool false]) 1 h = .ok (.bool false) h:=fun _ => rfl;have e2:newP [] H = .ok (ptrV H.n) (H.push ⟨[],1,false⟩):=rfl;have e3:stR 0 (ptrV H.n) (.agg #[]) (H.push ⟨[],1,false⟩) = .ok undef (H.push ⟨[],1,false⟩):=by simp
 simp only [e0,e1,e2,e3,Res.bind_ok,endM];show (kSeqM _ _) .normal [(5,ptrV pT),(6,ptrV pM),(8,.int .i64 n),(10,.bool false)] _ _ = _;unfold kSeqM;dsimp only;rw [tM7,ζbs k,ζbt k];unfold kSeq;dsimp only;rw [ζbu k,ζgg k];have cf:∀ x y:Res (AExit × Gs),condV (some (.bool false)) x y = y:=fun _ _ => rfl;rw [cf];dsimp only;rw [tS3,pM8];simp only [hl2,plM,Res.bind_ok,mapUp,Nat.beq_refl,Bool.and_true,cond_true,decide_eq_false hn,Bool.not_false,endM,Array.size_empty];show (kSeqM _ _) .normal [(5,ptrV pT),(8,.int .i64 n)] _ _ = _;unfold kSeqM;dsimp only;rw [tM9,ζgh k];have hU:=fun H' => U32_run k (Sl.lv H' 1 d) hd n (by omega);have hR:=fun m H' => Rows_lv k d (n + 4) m 4 (by omega) H';have w1:IntKind.i64.wrap (n + 4) = n + 4:=wrap_i64 (by omega) (by omega);have vb:veq (vwB d) (vwB d) = true:=veq_agg (l:=[lv encB d]) fun u hu => by simp at hu; subst hu; exact veq_B d
 cases h:uS d n 4 with
 | none =>
  rw [h] at hU;simp -implicitDefEqProofs (disch:=omega) [hT',hB',w1,hU,orF]
 | some m =>
  rw [h] at hU;have hR:=hR m;cases h2:rowsS d (n + 4) m 4 with
  | none =>
   rw [h2] at hR;simp -implicitDefEqProofs (disch:=omega) [hT',hB',w1,hU,hR,orF,vb,h2]
  | some r =>
   rw [h2] at hR;simp -implicitDefEqProofs (disch:=omega) [hT',hB',w1,hU,hR,orF,vb,h2]
end Go.Sw
end
