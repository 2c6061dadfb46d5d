/-
  Functions' forms, and what is proved of them, part 11.
-/
import Derived.Test.YtanfippcmdialaaGreatSwW9
import Derived.Test.YtanfippcmdialaaGreatSwW10
import Derived.Test.YtanfippcmdialaaGreatSwCfg
import Derived.Test.YtanfippcmdialaaGreatSwLib10
import Derived.RangeFuncKeeps
import Derived.RangeFuncLeaves
import Derived.Shelf.Abstract
import Derived.WalkKit
import Derived.OwnWalkIn
import Derived.TacticsInMore
import Derived.LoopNIn
import Derived.LoopIn
import Derived.Tactics
import Derived.Tactics2
import Derived.Defers
import Derived.Recover
import Derived.Laws.Pointers
import Derived.Laws.IdiomCopy
import Derived.Lib.Walk
import Derived.Lib.SliceRun
import Derived.Lib.JoinLaws
import Derived.Lib.AppendZeros
import Derived.Lib.AppendZerosOnto
import Derived.Lib.Overlaps
import Derived.Laws.Externs
import Derived.Laws.NewBlocks
import Derived.Deep.RegionLaw
import Derived.Test.YtanfippcmdialaaGreatSwW3
import Derived.Test.YtanfippcmdialaaGreatSwW6
import Derived.Test.YtanfippcmdialaaGreatSwLib8
import Derived.Eval
set_option linter.unusedSimpArgs false
set_option linter.unusedVariables false
set_option linter.unusedSectionVars false
section
namespace Go.Sw
open Go.RowKit
theorem sl_blk {α:Type} {enc:α → List Value} {m:Nat} (he:∀ x,(enc x).length = m) {H:Heap} {b e:Nat} {l:List α} {cs:List Value} (hcs:cs = rows enc l) (hg:H.get b = some ⟨cs,e,false⟩):Sl H m (.slice (some ⟨b,0,none⟩) l.length l.length) enc l :=
 .inr (.inr ⟨b,0,l.length,_,rfl,Nat.le_refl _,hg,by rw [List.drop_zero,hcs,List.take_of_length_le (by rw [ζe he]; exact Nat.le_refl _)]⟩)
theorem pB_ok:pB.ok:=by
 refine ⟨fun x hx => ?_,fun r hr => ?_,by decide⟩
 ·simp [pB] at hx; omega
 ·simp [pB] at hr;subst hr;intro x hx;simp at hx;omega
theorem w26B_len:(w26 [((4:Int),bB)]).length = 96:=by kernel_rfl
theorem ζhk (k:Nat) (hk:k < 1000000) (c:Cov) (hc:c.kind = 4) (hv:c.var = false) (b:List Int) (hb:Byt b) (g:Int) (hg:1 ≤ g ∧ g ≤ 65535) (hl:b.length < 2 ^ 31) (H:Heap):R (T k) F.ζ2h [covV c,vwB b,.int .i64 g] H = orF (mvS c b g) mvV H:=by
 rw [ζew];have hx:Ext H ((H.push ⟨encCov c,1,false⟩).push ⟨[lv encB b],1,false⟩):=((Ext.refl H).push _).push _;refine gc_orF ?_ fun _ _ => (Flat.mv _).alive;have hbi:=fun H' => ζhe k hk b hb g hg hl H';unfold mvS;rw [if_neg (by rw [hv]; simp),if_neg (by omega),if_neg (by omega),if_pos hc];have d0:(c.kind == 0) = false:=by rw [hc]; rfl
 have d2:(c.kind == 2) = false:=by rw [hc]; rfl
 have d6:(c.kind == 6) = false:=by rw [hc]; rfl
 have d1:(c.kind == 1) = false:=by rw [hc]; rfl
 have d4:(c.kind == 4) = true:=by rw [hc]; rfl
 cases h:bindS b g with
 | none =>
  rw [h] at hbi;refine ⟨_,?_,hx⟩;simp -implicitDefEqProofs (disch:=omega) [ζ2h,hv,d0,d2,d6,d1,d4,hbi,orF]
 | some t =>
  rw [h] at hbi;refine ⟨_,_,?_,hx,rfl⟩;simp -implicitDefEqProofs (disch:=omega) [ζ2h,hv,d0,d2,d6,d1,d4,hbi,orF,mvV]
theorem wB_1:(ksubsTo (w26 [((4:Int),bB)]) 9 1).map Prod.snd = some 96:=by kernel_rfl
theorem wB_2:(ksubsTo (w26 [((4:Int),bB)]) 9 2).isNone = true:=by kernel_rfl
theorem wB_u:uS (w26 [((4:Int),bB)]) 96 4 = none:=by kernel_rfl
theorem wB_s:uS (w26 [((4:Int),bB)]) 8 4 = some 88:=by kernel_rfl
theorem wB_w:((pieceS (w26 [((4:Int),bB)]) 8 88).bind fun s => uS s 4 4) = some 4:=by kernel_rfl
theorem wB_kind (j:Nat) (x:List KSub × Int) (h:ksubsTo (w26 [((4:Int),bB)]) 9 j = some x) (size:Int) (sb:List Int) (w:Int) (h1:uS (w26 [((4:Int),bB)]) x.2 4 = some size) (h2:pieceS (w26 [((4:Int),bB)]) x.2 size = some sb) (h3:uS sb 4 4 = some w):w = 4:=by
 rcases j with _ | _ | j
 ·injection h with h;subst h;rw [wB_s] at h1;injection h1 with h1;subst h1;have:=wB_w;rw [h2,Option.bind_some,h3] at this;injection this
 ·have:=wB_1;rw [h] at this;injection this with this;rw [this,wB_u] at h1;cases h1
 ·have h0:ksubsTo (w26 [((4:Int),bB)]) 9 2 = none:=by
   have:=wB_2;cases h:ksubsTo (w26 [((4:Int),bB)]) 9 2 with
   | none => rfl
   | some x => rw [h] at this; cases this
  rw [ζca h0 (by omega)] at h;cases h
theorem ζl0 (k:Nat) (hk:k < 1000000) (hby:Byt (w26 [((4:Int),bB)])) (H:Heap):R (T k) F.ζ3d [vwB (w26 [((4:Int),bB)]),.int .i64 9] H = orF (kerxS (w26 [((4:Int),bB)]) 9) kerxV H :=
 ζg8 k _ hby 9 (by rw [w26B_len]; omega) (fun w => w = 4) (fun w r hw hr hrl H' => by subst hw; exact ζhk k hk (covS 4) rfl rfl r hr 9 (by omega) hrl H') wB_kind H
theorem kerxS_B:kerxS (w26 [((4:Int),bB)]) 9 = some [⟨covS 4,.binds tB⟩]:=by
 rw [kerxS_26 9 (by simp) (fun x hx => by rw [List.mem_singleton.1 hx]; dsimp only; rw [bB_len]; omega)];simp only [List.length_singleton,kmapTo,Option.bind_some,List.getElem?_cons_zero,List.nil_append];have:mvS (covS 4) bB 9 = some (.binds tB):=by
  unfold mvS;rw [if_neg (by decide),if_neg (by decide),if_neg (by decide),if_pos (by decide),bindS_B];rfl
 rw [this];rfl
theorem sub_B (pg:Int → Int → Option (Int × Int)) (gl:List Gl) (down:Bool) (l:List Pl):subRun ⟨covS 4,.binds tB⟩ 0 gl down pg l = runB tB pg gl l:=by
 unfold subRun;have:turnedS (covS 4) 0 = false:=by decide
 rw [this];simp only [Bool.false_eq_true,if_false,kmoveS]
theorem runKs_B (pg:Int → Int → Option (Int × Int)) (gl:List Gl) (down:Bool) (l:List Pl) (h:(runB tB pg gl l).2 = 0):runKs 0 gl down pg [⟨covS 4,.binds tB⟩] 0 l = ((runB tB pg gl l).1,0,0):=by
 have hr:runsS (covS 4) 0 = true:=by decide
 simp only [runKs,sub_B,hr,h,if_true]
set_option maxRecDepth 20000 in
set_option maxHeartbeats 4000000 in
theorem ζei (b0 b1 m0 m1:Int) (hb0:-32768 ≤ b0 ∧ b0 < 32768) (hb1:-32768 ≤ b1 ∧ b1 < 32768) (hm0:-32768 ≤ m0 ∧ m0 < 32768) (hm1:-32768 ≤ m1 ∧ m1 < 32768) (ms:List Bool) :
  R (T 999999) F.ζ4 [.agg #[.int .i16 b0,.int .i16 b1],.agg #[.int .i16 m0,.int .i16 m1],lv encBo ms] Heap.empty = .ok (.bool true) Heap.empty:=by
 generalize hk:(999999:Nat) = k;have hW:ownW k = .no:=by subst hk; rfl
 have hk6:k < 1000000:=by subst hk; decide
 clear hk;rw [ζ8r];generalize Heap.empty = H
 have g:=(((((((Star.nil H).push ⟨[.int .i16 b0,.int .i16 b1],1,false⟩).push ⟨[.int .i16 m0,.int .i16 m1],1,false⟩).push ⟨[.int .u8 4,.int .u8 5],1,false⟩).push ⟨[.int .u8 0,.int .u8 0,.int .u8 0,.int .u8 0,.int .u8 1,.int .u8 2],1,false⟩).push ⟨[.int .u8 0,.int .u8 0,.int .u8 0,.int .u8 0,.int .u8 1,.int .u8 2],1,false⟩).push ⟨[.slice (some ⟨H.n + 3,0,none⟩) 6 6,.slice (some ⟨H.n + 4,0,none⟩) 6 6],1,false⟩).push
  ⟨[.int .i64 0,.int .i64 0,.int .i64 65535,.int .i64 0,.int .i64 0,.int .i64 32768,.int .i64 65535,.int .i64 0,.int .i64 0,.int .i64 0,.int .i64 0,.int .i64 0],4,false⟩
 have g:=(g.push ⟨[.slice (some ⟨H.n + 2,0,none⟩) 2 2,.slice (some ⟨H.n + 5,0,none⟩) 2 2,.slice (some ⟨H.n + 6,0,none⟩) 3 3,.int .u8 2],1,false⟩).push ⟨[.int .i16 0,.int .i16 0],1,false⟩;simp only [List.nil_append,List.cons_append,hn_push] at g
 have hP:=PlanSl.mk (p:=pB) (vC:=.slice (some ⟨H.n + 2,0,none⟩) 2 2) (vR:=.slice (some ⟨H.n + 5,0,none⟩) 2 2) (sE:=.slice (some ⟨H.n + 6,0,none⟩) 3 3) (rv:=[([0,0,0,0,1,2],.slice (some ⟨H.n + 3,0,none⟩) 6 6),([0,0,0,0,1,2],.slice (some ⟨H.n + 4,0,none⟩) 6 6)])
  (sl_blk (l:=[4,5]) encB_len rfl (g.get 2 rfl)) rfl (fun x hx => by
   simp at hx;rcases hx with rfl | rfl
   ·exact sl_blk (l:=[0,0,0,0,1,2]) encB_len rfl (g.get 3 rfl)
   ·exact sl_blk (l:=[0,0,0,0,1,2]) encB_len rfl (g.get 4 rfl))
  (sl_blk (l:=[([0,0,0,0,1,2],Value.slice (some ⟨H.n + 3,0,none⟩) 6 6),([0,0,0,0,1,2],Value.slice (some ⟨H.n + 4,0,none⟩) 6 6)]) encU_len rfl (g.get 5 rfl)) (sl_blk (l:=[⟨0,0,65535,0⟩,⟨0,32768,65535,0⟩,⟨0,0,0,0⟩]) ζ58 rfl (g.get 6 rfl))
 have hw:=ζlu k hk6 hW pB pB_ok (by decide) (by decide) (by decide) hP (kind:=1) (by omega) (sl_blk (l:=[0,0]) ζi8 rfl (g.get 8 rfl)) (by decide);have hw:R (T k) F.ζx [.agg #[.slice (some ⟨H.n + 2,0,none⟩) 2 2,.slice (some ⟨H.n + 5,0,none⟩) 2 2,.slice (some ⟨H.n + 6,0,none⟩) 3 3,.int .u8 2,.int .u8 1,.slice (some ⟨H.n + 8,0,none⟩) 2 2]] _ = .ok (lv encB bB) _:=hw;have hd:∀ x,x ∈ [((4:Int),bB)] → 0 ≤ x.1 ∧ x.1 < 4294967296 ∧ x.2.length ≤ 2 ^ 19:=fun x hx => by rw [List.mem_singleton.1 hx]; dsimp only; rw [bB_len]; omega
 have hby:Byt (w26 [((4:Int),bB)]):=Byt_w26 fun x hx => by rw [List.mem_singleton.1 hx]; exact bB_byt
 have g:=g.push ⟨encSb (4,bB),2,false⟩;simp only [List.nil_append,List.cons_append,hn_push] at g;have h26:=w26_run k (SbSl.one (g.get 9 rfl)) (by simp) hd;have hrd:=fun H' => ζhg k (H:=H') (Sl.lv H' 1 (w26 [((4:Int),bB)])) hby 9 (by rw [w26B_len]; omega) (fun _ H' => ζl0 k hk6 hby H');have hok:∀ y,y ∈ [(⟨covS 4,.binds tB⟩:KSub)] → MoveOk k y.mv:=fun y hy => by rw [List.mem_singleton.1 hy]; exact MoveOk.binds k tB_ok
 unfold kerxO kerxN at hrd;rw [if_pos (by omega),if_pos (by omega),kerxS_B] at hrd;simp only [kerxP,Option.isSome_some,if_true] at hrd;have g:=((g.push ⟨[.int .i16 b0,.int .i16 b1],2,false⟩).push ⟨[.int .i16 m0,.int .i16 m1],2,false⟩).push ⟨[.slice (some ⟨H.n + 10,0,none⟩) 1 1,.slice (some ⟨H.n + 11,0,none⟩) 1 1],1,false⟩;simp only [List.nil_append,List.cons_append,hn_push] at g;have hPts:=PtsSl.mk (ls:=[[(b0,b1)],[(m0,m1)]]) (v:=.slice (some ⟨H.n + 12,0,none⟩) 2 2) (rv:=[([(b0,b1)],.slice (some ⟨H.n + 10,0,none⟩) 1 1),([(m0,m1)],.slice (some ⟨H.n + 11,0,none⟩) 1 1)]) rfl (fun x hx => by
   simp at hx;rcases hx with rfl | rfl
   ·exact sl_blk (enc:=enc2) (m:=2) (l:=[(b0,b1)]) (fun _ => rfl) rfl (g.get 10 rfl)
   ·exact sl_blk (enc:=enc2) (m:=2) (l:=[(m0,m1)]) (fun _ => rfl) rfl (g.get 11 rfl))
  (sl_blk (enc:=encV) (m:=1) (l:=[([(b0,b1)],Value.slice (some ⟨H.n + 10,0,none⟩) 1 1),([(m0,m1)],Value.slice (some ⟨H.n + 11,0,none⟩) 1 1)]) (fun _ => rfl) rfl (g.get 12 rfl))
 have hls:∀ l,l ∈ [[(b0,b1)],[(m0,m1)]] → l.length ≤ 30:=fun l hl => by simp at hl; rcases hl with rfl | rfl <;> simp
 have h24:=ζlt k hk6 hPts (by simp) hls;have hab:=ankB_byt [[(b0,b1)],[(m0,m1)]];have hp0:getA (tabA [[(b0,b1)],[(m0,m1)]]) 0 0 = some (b0,b1):=by
  have:=tabA_get [[(b0,b1)],[(m0,m1)]] hls (j:=0) (i:=0) (l:=[(b0,b1)]) rfl;simpa [s16_m16 hb0.1 hb0.2,s16_m16 hb1.1 hb1.2] using this
 have hp1:getA (tabA [[(b0,b1)],[(m0,m1)]]) 1 0 = some (m0,m1):=by
  have:=tabA_get [[(b0,b1)],[(m0,m1)]] hls (j:=1) (i:=0) (l:=[(m0,m1)]) rfl;simpa [s16_m16 hm0.1 hm0.2,s16_m16 hm1.1 hm1.2] using this
 have htok:=tabA_ok [[(b0,b1)],[(m0,m1)]] (by simp) hls;have hback:=ζhy [[(b0,b1)],[(m0,m1)]] (by simp) hls 9;obtain ⟨p1,p2,p3,p4,p5,p6⟩:=ζbl [[(b0,b1)],[(m0,m1)]] (by simp);have hdl:=ζ9k [[(b0,b1)],[(m0,m1)]] hls;have hol:(ofS (aoffs [[(b0,b1)],[(m0,m1)]])).length = 6 + [[(b0,b1)],[(m0,m1)]].length * 2:=by unfold ofS; simp [twos_len,ζ4h]
 have habl:(ankB [[(b0,b1)],[(m0,m1)]]).length ≤ 1000:=by simp only [List.length_cons,List.length_nil] at hol hdl; omega
 have hrd2:=fun H' => ζh7 k (H:=H') (Sl.lv H' 1 (ankB [[(b0,b1)],[(m0,m1)]])) hab 9 (by omega) (fun _ H' => ζh8 k _ hab 9 (by omega) (by omega) H');unfold ankrO ankrN at hrd2;rw [if_pos (by omega),if_pos (by omega),hback] at hrd2;simp only [ankrP,Option.isSome_some,if_true] at hrd2;have hAt:∀ H,AnkAt k (ankV (tabA [[(b0,b1)],[(m0,m1)]])) (getA (tabA [[(b0,b1)],[(m0,m1)]])) H:=fun H => pgA_at k _ htok H;have hAk:PgOk (getA (tabA [[(b0,b1)],[(m0,m1)]])):=pgA_ok _ htok.byt;have hbe:=bound_eq ms (getA (tabA [[(b0,b1)],[(m0,m1)]])) (b0,b1) (m0,m1) hp0 hp1 (by dsimp only; omega) (by dsimp only; omega);clear p1 p2 p3 p4 p5 p6 hdl hol habl hback hp0 hp1 htok hls;generalize tabA [[(b0,b1)],[(m0,m1)]] = tab at hrd2 hAt hAk hbe;generalize ankB [[(b0,b1)],[(m0,m1)]] = ab at h24 hrd2 hab;generalize w26 [((4:Int),bB)] = wb at h26 hrd hby;have hids:(idsB ms).length = ms.length:=by simp [idsB]
 have q1:¬ H.n = H.n + 1:=by omega
 have q2:¬ H.n = H.n + 1 + 1:=by omega
 have q3:¬ H.n = H.n + 1 + 1 + 1:=by omega
 have q4:¬ H.n = H.n + 1 + 1 + 1 + 1:=by omega
 have q5:¬ H.n = H.n + 1 + 1 + 1 + 1 + 1:=by omega
 have q6:¬ H.n = H.n + 1 + 1 + 1 + 1 + 1 + 1:=by omega
 have q7:¬ H.n = H.n + 1 + 1 + 1 + 1 + 1 + 1 + 1:=by omega
 have q8:¬ H.n = H.n + 1 + 1 + 1 + 1 + 1 + 1 + 1 + 1:=by omega
 have q9:¬ H.n = H.n + 1 + 1 + 1 + 1 + 1 + 1 + 1 + 1 + 1:=by omega
 have q10:¬ H.n = H.n + 1 + 1 + 1 + 1 + 1 + 1 + 1 + 1 + 1 + 1:=by omega
 have q11:¬ H.n = H.n + 1 + 1 + 1 + 1 + 1 + 1 + 1 + 1 + 1 + 1 + 1:=by omega
 have q12:¬ H.n = H.n + 1 + 1 + 1 + 1 + 1 + 1 + 1 + 1 + 1 + 1 + 1 + 1:=by omega
 have q13:¬ H.n = H.n + 1 + 1 + 1 + 1 + 1 + 1 + 1 + 1 + 1 + 1 + 1 + 1 + 1:=by omega
 have r2:¬ H.n + 1 = H.n + 1 + 1:=by omega
 have r3:¬ H.n + 1 = H.n + 1 + 1 + 1:=by omega
 have r4:¬ H.n + 1 = H.n + 1 + 1 + 1 + 1:=by omega
 have r5:¬ H.n + 1 = H.n + 1 + 1 + 1 + 1 + 1:=by omega
 have r6:¬ H.n + 1 = H.n + 1 + 1 + 1 + 1 + 1 + 1:=by omega
 have r7:¬ H.n + 1 = H.n + 1 + 1 + 1 + 1 + 1 + 1 + 1:=by omega
 have r8:¬ H.n + 1 = H.n + 1 + 1 + 1 + 1 + 1 + 1 + 1 + 1:=by omega
 have r9:¬ H.n + 1 = H.n + 1 + 1 + 1 + 1 + 1 + 1 + 1 + 1 + 1:=by omega
 have r10:¬ H.n + 1 = H.n + 1 + 1 + 1 + 1 + 1 + 1 + 1 + 1 + 1 + 1:=by omega
 have r11:¬ H.n + 1 = H.n + 1 + 1 + 1 + 1 + 1 + 1 + 1 + 1 + 1 + 1 + 1:=by omega
 have r12:¬ H.n + 1 = H.n + 1 + 1 + 1 + 1 + 1 + 1 + 1 + 1 + 1 + 1 + 1 + 1:=by omega
 have r13:¬ H.n + 1 = H.n + 1 + 1 + 1 + 1 + 1 + 1 + 1 + 1 + 1 + 1 + 1 + 1 + 1:=by omega
 by_cases hm:ms.length > 60
 ·have hm':(ms.length:Int) > 60:=by omega
  refine nrm_gc ⟨_,?_,g.ext⟩ (.bool _);simp -implicitDefEqProofs (disch:=omega) [ζ4,q1,q2,q3,q4,q5,q6,q7,q8,q9,q10,q11,q12,q13,r2,r3,r4,r5,r6,r7,r8,r9,r10,r11,r12,r13,hw,h26,hrd,h24,hrd2,hm']
 have hm':¬ (ms.length:Int) > 60:=by omega
 obtain ⟨s1,o1,z1,H1,e1,g⟩:=bound_l1 k ms (by omega) (ptrV H.n) (ptrV (H.n + 1)) (kerxV [⟨covS 4,.binds tB⟩]) (ankV tab) g;simp only [List.cons_append,List.nil_append] at g;have hln:∀ H',lnS s1 H' = .ok (.int .i64 ms.length) H':=by rw [← hids]; exact (g.row 13 rfl).len
 have g:=g.push ⟨repeatCells [Value.int .i64 0] ms.length,1,false⟩;simp only [List.nil_append,List.cons_append] at g;have hmk:=fun (h:Heap) => mkR_nat 1 8 [Value.int .i64 0] .i64 .i64 ms.length h (by omega) (by decide);have hz:=ζmx (g.get 14 rfl);obtain ⟨o3,H3,e3,g⟩:=ζf7 k g 0 (List.replicate ms.length 0) (by simp; omega) hz;simp only [List.nil_append,List.cons_append,hn_push] at g e3;obtain ⟨c4,o4,H4,e4,g⟩:=ζga k g ((g.row 13 rfl).sl encI_len) (by omega);simp only [List.nil_append,List.cons_append] at g;obtain ⟨H5,e5,g,_⟩:=ζg7 k _ hok (by simp) 0 g 16 15 (by decide) rfl rfl (pv:=ankV tab) (pg:=getA tab) ⟨rfl,rfl,hAk,.inl hAt⟩ (by simp; omega) (by simp; omega) (newPl_ok _);simp only [List.set_cons_zero,List.set_cons_succ] at g;rw [runKs_B _ _ _ _ hbe.1] at e5 g;dsimp only at e5 g;obtain ⟨_,hbl,hbw⟩:=hbe;generalize (runB tB (getA tab) (newG (idsB ms)) (newPl (List.replicate ms.length 0))).1 = l at g hbl hbw;have g:=g.push ⟨[.int .i64 0,.int .i64 0,.int .i64 0],1,false⟩;simp only [List.nil_append,List.cons_append] at g;have a1:=ζhp k hk6 g 15 rfl (by omega);obtain ⟨z6,z7,H6,e6,hx6⟩:=bound_l2 k ms (by omega) b0 b1 m0 m1 hb0 hb1 hm0 hm1 H.n (H.n + 1) s1 (ptrV (H1.n + 1)) l hbl hbw (g.get 0 rfl) (g.get 1 rfl);have g:=g.rest hx6;have hpl:=Len_run k (g.pl 15 rfl);refine nrm_gc ⟨_,?_,g.ext⟩ (.bool _);simp -implicitDefEqProofs (disch:=omega) [ζ4,q1,q2,q3,q4,q5,q6,q7,q8,q9,q10,q11,q12,q13,r2,r3,r4,r5,r6,r7,r8,r9,r10,r11,r12,r13,hw,h26,hrd,h24,hrd2,hm',e1,ζ6i,hln,hmk,e3,e4,e5,a1,hbl,e6,ζ6j,hpl]
theorem wf_i16b {n:Int} (h:(Lit.int .i16 n).wf = true):-32768 ≤ n ∧ n < 32768:=by
 simp [Lit.wf,IntKind.min,IntKind.max,IntKind.signed,IntKind.bits] at h;omega
theorem row_Bo {r:List Da} {cs:List Value} (h:LayRow [.bool] r cs):∃ b:Bool,cs = encBo b ∧ True:=by
 obtain ⟨_,v1,_,_,rfl,h1,h⟩:=h.head;obtain rfl:=h.done;obtain ⟨b,rfl⟩:=h1.boolv;exact ⟨b,rfl,trivial⟩
theorem arg_pt {v:Value} (h:ArgLay (.agg [.int .i16,.int .i16]) v):∃ a b:Int,v = .agg #[.int .i16 a,.int .i16 b] ∧ (-32768 ≤ a ∧ a < 32768) ∧ (-32768 ≤ b ∧ b < 32768):=by
 cases h with
 | agg ss ds vs h =>
  obtain ⟨_,v1,_,_,rfl,h1,h⟩:=h.head;obtain ⟨_,v2,_,_,rfl,h2,h⟩:=h.head;obtain rfl:=h.done;obtain ⟨a,rfl,wa⟩:=h1.intv;obtain ⟨b,rfl,wb⟩:=h2.intv;exact ⟨a,b,rfl,wf_i16b wa,wf_i16b wb⟩
theorem ζd4 (vs:List Value) (h:ArgsLay [.agg [.int .i16,.int .i16],.agg [.int .i16,.int .i16],.one (.slice [.bool])] vs):∃ H',R (T 999999) F.ζ4 vs Heap.empty = .ok (.bool true) H':=by
 obtain ⟨v1,_,rfl,h1,h⟩:=h.head;obtain ⟨v2,_,rfl,h2,h⟩:=h.head;obtain ⟨v3,_,rfl,h3,h⟩:=h.head;obtain rfl:=h.done;obtain ⟨b0,b1,rfl,w0,w1⟩:=arg_pt h1;obtain ⟨m0,m1,rfl,w2,w3⟩:=arg_pt h2;obtain ⟨d,h3⟩:=h3.cell;obtain ⟨ms,rfl,_⟩:=Lay.list (enc:=encBo) (ok:=fun _ => True) (fun r cs h => row_Bo h) h3;exact ⟨_,ζei b0 b1 m0 m1 w0 w1 w2 w3 ms⟩
end Go.Sw
end
section
namespace Go.Sw
open Go.RowKit Go.Proofs Go.Shelf
attribute [local go_sem] Oper.semAt_some
set_option maxRecDepth 100000 in
set_option maxHeartbeats 1000000 in
theorem it_at_in (W:World) (f l id x:Int) (blk off m cap:Nat) (hf:0 ≤ f) (hid:f ≤ id) (hil:id < 4294967296) (hm:0 < m) (hm2:m < 2 ^ 60)
  (hc:W.cell? ⟨blk,off + min (id - f).toNat (m - 1),none⟩ = some (.int .i64 x)) (hb:blk < W.heap.size) :
  CallsIn Fence.wide 1 Prog 142 #[.agg #[.int .i64 f,.int .i64 l,.slice (some ⟨blk,off,none⟩) m cap],.int .i64 id] W fun e W' => e = .returned (.int .i64 x) ∧ W' = W.alloc (.cells #[.int .i64 f,.int .i64 l,.slice (some ⟨blk,off,none⟩) m cap] 273):=by
 refine callsIn_of_wp Tryz.func142 rfl trivial ?_ rfl;simp only [Tryz.ntmps142,List.size_toArray,List.length_cons,List.length_nil,Nat.reduceAdd,Nat.reduceSub,Array.replicate_succ,Array.replicate_zero,List.push_toArray,List.append_toArray,List.nil_append,List.cons_append];have hw':W.cell? ⟨blk,off + (min (id - f) ((m:Int) - 1)).toNat,none⟩ = some (.int .i64 x):=by
  rw [← hc,show (min (id - f) ((m:Int) - 1)).toNat = min (id - f).toNat (m - 1) by omega]
 by_cases hlt:(m:Int) - 1 < id - f
 ·have hw:W.cell? ⟨blk,off + (m - 1),none⟩ = some (.int .i64 x):=by
   rw [← hc,show min (id - f).toNat (m - 1) = m - 1 by omega]
  gi_wp2
  go_ret
  exact ⟨rfl,rfl⟩
 ·have hw:W.cell? ⟨blk,off + (id - f).toNat,none⟩ = some (.int .i64 x):=by
   rw [← hc,show min (id - f).toNat (m - 1) = (id - f).toNat by omega]
  gi_wp2
  go_ret
  exact ⟨rfl,rfl⟩
structure Pa where
 f:Int
 l:Int
 m:Nat
 x:Nat → Int
def paN (p:Pa):Nat:=(p.l - p.f + 1).toNat
def PaZ (z:Nat → Option Obj) (cs:Array Value) (o:Nat) (p:Pa):Prop :=
 ∃ a cap,cs[o]? = some (.int .i64 p.f) ∧ cs[o + 1]? = some (.int .i64 p.l) ∧ cs[o + 2]? = some (.slice a p.m cap) ∧
  (0 < p.m → ∃ blk off ws el fz,a = some ⟨blk,off,none⟩ ∧ z blk = some (.cells ws el fz) ∧ ∀ j,j < paN p → ws[off + min j (p.m - 1)]? = some (.int .i64 (p.x j)))
def cntP (ps:List Pa):Nat:=(ps.map paN).sum
set_option maxRecDepth 100000 in
set_option maxHeartbeats 4000000 in
theorem ζmp (z:Nat → Option Obj) (l0:Nat) (J:Nat → (Nat → Prop) → World → Prop) (Jx:World → Prop) (Jp:List PanicEntry → World → Prop) (ps:List Pa)
  (hal:∀ i T W o,J i T W → J i (fun k => T k ∨ k = W.heap.size) (W.alloc o))
  (htn:∀ i T W W',J i T W → W.heap.size = W'.heap.size → W'.os = W.os → W'.tape = W.tape → W'.output = W.output → (∀ k,¬ T k → W'.heap[k]? = W.heap[k]?) → J i T W')
  (hfz:∀ i T W,J i T W → ∀ k o,z k = some o → W.heap[k]? = some o)
  (hY:∀ (a:Nat) (p:Pa) (j:Nat) T W,ps[a]? = some p → j < paN p → J (cntP (ps.take a) + j) T W → YieldAt Fence.wide 0 Prog l0 #[.int .i64 (p.f + j),.int .i64 (p.x j)] W fun e W' =>
   (e = .returned (.bool true) ∧ J (cntP (ps.take a) + (j + 1)) T W' ∧ (∀ k,T k → W'.heap[k]? = W.heap[k]?) ∧ W.heap.size ≤ W'.heap.size) ∨ (e = .returned (.bool false) ∧ Jx W') ∨ ∃ ch,e = .panicked ch ∧ Jp ch W')
  (hok:∀ p,p ∈ ps → 0 ≤ p.f ∧ p.l < 4294967296 ∧ p.m < 2 ^ 60 ∧ (p.f ≤ p.l → 0 < p.m))
  (W:World) (h0:J 0 (fun _ => False) W) (BX bo tb toff:Nat) (hBX:W.cell? ⟨BX,bo,none⟩ = some (.pointer (some ⟨tb,toff,none⟩)))
  (tcs:Array Value) (tel:TypeId) (tfz:Nat × Nat) (htb:z tb = some (.cells tcs tel tfz)) (pa:Option Addr) (pcap:Nat) (htc:tcs[toff + 1]? = some (.slice pa ps.length pcap)) (hn:ps.length < 2 ^ 60)
  (hpa:ps ≠ [] → ∃ pb poff pcs pel pfz,pa = some ⟨pb,poff,none⟩ ∧ z pb = some (.cells pcs pel pfz) ∧ ∀ (a:Nat) p,ps[a]? = some p → PaZ z pcs (poff + a * 3) p) :
  CallsIn Fence.wide 3 Prog 141 #[.func (.yield l0) #[] #[],.pointer (some ⟨BX,bo,none⟩)] W fun e W' => ((∃ v,e = .returned v) ∧ ((∃ T,J (cntP ps) T W') ∨ Jx W')) ∨ ∃ ch,e = .panicked ch ∧ Jp ch W':=by
 have htW:=hfz _ _ _ h0 _ _ htb;have hT1:W.cell? ⟨tb,toff + 1,none⟩ = some (.slice pa ps.length pcap):=by simp only [World.cell?,htW,htc]; rfl
 refine callsIn_of_wp Tryz.func141 rfl trivial ?_ rfl;simp only [Tryz.ntmps141,List.size_toArray,List.length_cons,List.length_nil,Nat.reduceAdd,Nat.reduceSub,Array.replicate_succ,Array.replicate_zero,List.push_toArray,List.append_toArray,List.nil_append,List.cons_append]
 gi_wp2
 gi_loopw [11] (fun i wr => ∃ k:Nat,k ≤ ps.length ∧ i = .int .i64 k ∧ ∃ T,J (cntP (ps.take k)) T wr) (fun i _ => ps.length - (intOf i).toNat)
 case atStart => exact ⟨0,Nat.zero_le _,rfl,_,h0⟩
 case round =>
  obtain ⟨k,hk,rfl,T,hJ⟩:=hrel;by_cases hlt:k < ps.length
  ·obtain ⟨p,hp⟩:∃ p,ps[k]? = some p:=⟨_,List.getElem?_eq_getElem hlt⟩
   obtain ⟨pb,poff,pcs,pel,pfz,rfl,hzp,hPZ⟩:=hpa (fun e => by subst e; simp at hlt);obtain ⟨va,cap,c1,c2,c3,hv⟩:=hPZ k p hp;have hwp:=hfz _ _ _ hJ _ _ hzp;have d1:wr.cell? ⟨pb,poff + k * 3,none⟩ = some (.int .i64 p.f):=by simp only [World.cell?,hwp,c1]; rfl
   have d2:wr.cell? ⟨pb,poff + k * 3 + 1,none⟩ = some (.int .i64 p.l):=by simp only [World.cell?,hwp,c2]; rfl
   have d3:wr.cell? ⟨pb,poff + k * 3 + 2,none⟩ = some (.slice va p.m cap):=by simp only [World.cell?,hwp,c3]; rfl
   have hpo:=hok p (List.mem_of_getElem? hp);obtain ⟨w1,hw1⟩:∃ w1,w1 = wr:=⟨_,rfl⟩
   subst hw1
   gi_wp2
   gi_loopw [5] (fun i w2 => ∃ j:Nat,j ≤ paN p ∧ i = .int .i64 (p.f + j) ∧ ∃ T2,J (cntP (ps.take k) + j) T2 w2 ∧ T2 w1.heap.size ∧ w2.heap[w1.heap.size]? = some (.cells #[.int .i64 p.f,.int .i64 p.l,.slice va p.m cap] 273 (0,0)))
    (fun i _ => paN p - (intOf i - p.f).toNat)
   case atStart =>
    refine ⟨0,Nat.zero_le _,by simp,_,hal _ _ _ _ hJ,.inr rfl,ζ6g _ _⟩
   case round =>
    obtain ⟨j,hj,rfl,T2,hJ2,hT2,hbx⟩:=hrel;have b1:wr.cell? ⟨w1.heap.size,0,none⟩ = some (.int .i64 p.f):=by simp only [World.cell?,hbx]; rfl
    have b2:wr.cell? ⟨w1.heap.size,1,none⟩ = some (.int .i64 p.l):=by simp only [World.cell?,hbx]; rfl
    have b3:wr.cell? ⟨w1.heap.size,2,none⟩ = some (.slice va p.m cap):=by simp only [World.cell?,hbx]; rfl
    have hc0:wr.cell? ⟨w1.heap.size,0,none⟩ |>.isSome:=by rw [b1]; rfl
    by_cases hjl:j < paN p
    ·have hle:p.f ≤ p.l:=by unfold paN at hjl; omega
     have hjp:p.f + (j:Int) ≤ p.l:=by unfold paN at hjl; omega
     have hvl:=hpo.2.2.2 hle;obtain ⟨blk,off,ws,wel,wfz,rfl,hzw,hws⟩:=hv hvl;have hww:=hfz _ _ _ hJ2 _ _ hzw;have hval:wr.cell? ⟨blk,off + min (p.f + (j:Int) - p.f).toNat (p.m - 1),none⟩ = some (.int .i64 (p.x j)):=by
      rw [show (p.f + (j:Int) - p.f).toNat = j by omega];simp only [World.cell?,hww,hws j hjl]; rfl
     have hbl:blk < wr.heap.size:=(Array.getElem?_eq_some_iff.1 hww).1;have hat:=it_at_in wr p.f p.l (p.f + j) (p.x j) blk off p.m cap hpo.1 (by omega) (by omega) hvl hpo.2.2.1 hval hbl;have hJ3:=hal _ _ _ (.cells #[.int .i64 p.f,.int .i64 p.l,.slice (some ⟨blk,off,none⟩) p.m cap] 273) hJ2;obtain ⟨fn,tmps,assign,body,hy,hR⟩:=hY k p j _ _ hp hjl hJ3;have hf81:Fence.wide.fn 142:=trivial
     gi_wp2_with (gi_at_call 142; refine (callsIn_wide.2 (callsIn_wide.1 hat)).mono ?_; rintro e w' ⟨rfl,rfl⟩)
     refine (ζjz hR).mono ?_;rintro e w3 (⟨rfl,hJ4,hkeep,_⟩ | ⟨rfl,hx⟩ | ⟨ch,rfl,hpn⟩)
     ·have hbx3:w3.heap[w1.heap.size]? = some (.cells #[.int .i64 p.f,.int .i64 p.l,.slice (some ⟨blk,off,none⟩) p.m cap] 273 (0,0)) :=
       (hkeep _ (.inl hT2)).trans ((Below.heap_alloc wr _ _ (Array.getElem?_eq_some_iff.1 hbx).1).trans hbx)
      gi_wp2
      go_roundw
      ·exact ⟨j + 1,hjl,by congr 1; push_cast; omega,_,hJ4,.inl hT2,hbx3⟩
      ·simp [intOf]; omega
     ·gi_wp2
      refine bodyPost_ret (results_none rfl _ _ _) rfl ?_;exact .inl ⟨⟨_,rfl⟩,.inr hx⟩
     ·gi_wp2
      exact ⟨rfl,.inr ⟨_,rfl,hpn⟩⟩
    ·have hlj:p.l < p.f + (j:Int):=by unfold paN at hjl; omega
     gi_wp2
     obtain rfl:j = paN p:=by omega
     go_roundw
     ·refine ⟨k + 1,hlt,by simp,T2,?_⟩;have:cntP (ps.take (k + 1)) = cntP (ps.take k) + paN p:=by
       rw [List.take_add_one,hp]; simp [cntP]
      rw [this]; exact hJ2
     ·simp [intOf]; omega
  ·obtain rfl:k = ps.length:=by omega
   rw [List.take_length] at hJ
   gi_wp2
   go_end0
   exact .inl ⟨⟨_,rfl⟩,.inl ⟨T,hJ⟩⟩
def paL (p:Pa):List (List Int):=(List.range (paN p)).map fun j => [p.f + (j:Nat),p.x j]
theorem itm_some {α β:Type} {f:α → Option β} {g:α → β} (hg:∀ y z,f y = some z → z = g y):∀ {l:List α} {a:List β},l.mapM f = some a → a = l.map g ∧ ∀ y,y ∈ l → (f y).isSome = true
 | [],a,h => by simp at h; subst h; exact ⟨rfl,fun y hy => by cases hy⟩
 | y :: l,a,h => by
  rw [List.mapM_cons] at h;cases hy:f y with
  | none => rw [hy] at h; simp at h
  | some z =>
   cases hl:l.mapM f with
   | none => rw [hy,hl] at h; simp at h
   | some b =>
    rw [hy,hl] at h;obtain ⟨h1,h2⟩:=itm_some hg hl;have h:z :: b = a:=by simpa using h
    subst h;refine ⟨by rw [List.map_cons,← h1,hg _ _ hy],fun y' hy' => ?_⟩;rcases List.mem_cons.1 hy' with rfl | hm
    ·simp [hy]
    ·exact h2 _ hm
def itValX (vals:List Value) (j:Nat):Int:=match vals[min j (vals.length - 1)]? with | some (.int .i64 x) => x | _ => 0
theorem ζjk {f l:Int} {vals:List Value} {a:List (List Int)} (h:partE f l vals = some a) :
  0 ≤ f ∧ l < 4294967296 ∧ vals.length < 2 ^ 60 ∧ a = paL ⟨f,l,vals.length,itValX vals⟩ ∧ ∀ j,j < (l - f + 1).toNat → vals[min j (vals.length - 1)]? = some (.int .i64 (itValX vals j)):=by
 unfold partE at h;split at h
 ·rename_i hc;obtain ⟨h1,h2⟩:=itm_some (g:=fun j => [f + (j:Nat),itValX vals j]) (fun y z hz => by
   unfold itValX;split at hz
   ·rename_i e; rw [e]; injection hz with hz; exact hz.symm
   ·cases hz) h
  refine ⟨hc.1,hc.2.1,hc.2.2,h1,fun j hj => ?_⟩;have:=h2 j (List.mem_range.2 hj);unfold itValX;split at this
  ·rename_i e; rw [e]
  ·cases this
 ·cases h
theorem ζjl {μ:Mu} {cs:Array Value}:∀ (n:Nat) (vs:List Value) (L:List (List Int)) (o:Nat),partsE n vs = some L → o + vs.length ≤ cs.size → (∀ (i:Nat) v v',vs[i]? = some v → cs[o + i]? = some v' → VR μ v v') →
  ∃ pl:List Pa,pl.length = n ∧ (∀ p,p ∈ pl → 0 ≤ p.f ∧ p.l < 4294967296 ∧ p.m < 2 ^ 60 ∧ (p.f ≤ p.l → 0 < p.m)) ∧ (∀ (a:Nat) p,pl[a]? = some p → PaZ μ.z cs (o + a * 3) p) ∧ L = pl.flatMap paL:=by
 intro n
 induction n with
 | zero =>
  intro vs L o h _ _;cases vs with
  | nil => unfold partsE at h; injection h with h; subst h; exact ⟨[],rfl,fun p hp => (by cases hp),fun a p hp => (by cases hp),rfl⟩
  | cons v vs => unfold partsE at h; cases h
 | succ n ih =>
  intro vs L o h hs hv;unfold partsE at h;split at h
  ·rename_i e; cases e
  ·rename_i n' f l m pth g ws ys r e;injection e with e; subst e;cases hm:Nat.beq m ws.size with
   | false => rw [hm] at h; cases h
   | true =>
    rw [hm] at h;have hm:=Nat.eq_of_beq_eq_true hm;cases hp:partE f l ws.toList with
    | none => rw [hp] at h; cases h
    | some a =>
     cases hr:partsE n r with
     | none => rw [hp,hr] at h; cases h
     | some b =>
      rw [hp,hr] at h;have h:some (a ++ b) = some L:=h;injection h with h; subst h;simp only [List.length_cons] at hs;obtain ⟨pl,h1,h2,h3,h4⟩:=ih r b (o + 3) hr (by omega) fun i v v' hi hi' => hv (i + 3) v v' (by simpa using hi) (by rw [show o + (i + 3) = o + 3 + i by omega]; exact hi');obtain ⟨q1,q2,q3,q4,q5⟩:=ζjk hp;have g0:∀ k,k < 3 → ∃ v',cs[o + k]? = some v':=fun k hk => ⟨_,Array.getElem?_eq_getElem (by omega)⟩
      obtain ⟨c0,e0⟩:=g0 0 (by omega);obtain ⟨c1,e1⟩:=g0 1 (by omega);obtain ⟨c2,e2⟩:=g0 2 (by omega);have r0:=hv 0 _ _ rfl e0;have r1:=hv 1 _ _ rfl e1;have r2:=hv 2 _ _ rfl e2;refine ⟨⟨f,l,ws.toList.length,itValX ws.toList⟩ :: pl,by simp [h1],fun p hp => ?_,fun a' p ha => ?_,?_⟩
      ·rcases List.mem_cons.1 hp with rfl | hp
       ·refine ⟨q1,q2,q3,fun hle => ?_⟩;have:=q5 0 (by have hle':f ≤ l:=hle; omega);rcases Nat.eq_zero_or_pos ws.toList.length with hz | hz
        ·rw [List.length_eq_zero_iff.1 hz] at this; cases this
        ·exact hz
       ·exact h2 p hp
      ·cases a' with
       | succ a' => rw [show o + (a' + 1) * 3 = o + 3 + a' * 3 by omega]; exact h3 a' p (by simpa using ha)
       | zero =>
        simp at ha; subst ha;cases r0; cases r1;cases r2 with
        | list _ _ _ _ _ blk off cap zcs el fz hz hl hc hg h0 hx =>
         refine ⟨some ⟨blk,off,none⟩,cap,by simpa using e0,by simpa using e1,by rw [Nat.zero_mul,Nat.add_zero,e2,hm],fun hpos => ⟨blk,off,zcs,el,fz,rfl,hz,fun j hj => ?_⟩⟩;have hj':=q5 j hj;have hlt:=(List.getElem?_eq_some_iff.1 hj').1;have hlt':min j (ws.toList.length - 1) < ws.size:=by simpa using hlt
         obtain ⟨v',hv'⟩:∃ v',zcs[off + min j (ws.toList.length - 1)]? = some v':=⟨_,Array.getElem?_eq_getElem (by omega)⟩
         have:=hx _ _ _ (by rw [← Array.getElem?_toList]; exact hj') hv';cases this;exact hv'
        | empty _ _ _ _ x cap hn hs' =>
         have hz:ws.toList.length = 0:=by rw [Array.length_toList]; exact hm.symm
         refine ⟨x,cap,by simpa using e0,by simpa using e1,by rw [Nat.zero_mul,Nat.add_zero,e2]; show some (Value.slice x 0 cap) = some (Value.slice x ws.toList.length cap); rw [hz],fun hpos => ?_⟩;simp only [hz] at hpos; omega
      ·rw [List.flatMap_cons,← h4,q4]
  ·cases h
theorem paL_len (p:Pa):(paL p).length = paN p:=by simp [paL]
theorem itf_len:∀ pl:List Pa,(pl.flatMap paL).length = cntP pl
 | [] => rfl
 | p :: pl => by simp [List.flatMap_cons,itf_len pl,paL_len,cntP]
theorem itf_at:∀ (pl:List Pa) (a:Nat) (p:Pa) (j:Nat),pl[a]? = some p → j < paN p → (pl.flatMap paL)[cntP (pl.take a) + j]? = some [p.f + (j:Nat),p.x j]
 | [],a,p,j,h,_ => by simp at h
 | q :: pl,0,p,j,h,hj => by
  simp at h; subst h;rw [List.flatMap_cons,List.getElem?_append_left (by simp [cntP,paL_len]; exact hj)];simp [paL,cntP,hj]
 | q :: pl,a + 1,p,j,h,hj => by
  have:=itf_at pl a p j (by simpa using h) hj;rw [List.flatMap_cons,List.getElem?_append_right (by simp [cntP,paL_len]; omega)];rw [← this]; congr 1;simp [cntP,paL_len]; omega
set_option maxRecDepth 100000 in
theorem it_is:ItOk Prog itS:=by
 intro v H L hL w0 μ w v' hH hV;unfold itS itAll at hL;split at hL;rotate_left
 ·cases hL
 rename_i f xs ys;cases hb:(Nat.beq f 141 && Nat.beq xs.size 0) with
 | false => rw [hb] at hL; cases hL
 | true =>
  rw [hb] at hL;obtain ⟨hb1,hb2⟩:=Bool.and_eq_true_iff.1 hb;have hb1:=Nat.eq_of_beq_eq_true hb1;have hb2:=Nat.eq_of_beq_eq_true hb2;subst hb1;simp only [cond_true] at hL;split at hL;rotate_left
  ·cases hL
  rename_i b hys;split at hL;rotate_left
  ·cases hL
  rename_i n0 p0 g0 ts ty0 ez ro hblk;split at hL;rotate_left
  ·cases hL
  rename_i t0 n p1 g1 ps ty1 hts;split at hL;rotate_left
  ·cases hL
  rename_i hn;cases hV with
  | func _ _ xs' _ ys' h1 h2 h3 h4 =>
   have hx':xs' = #[]:=by apply Array.eq_empty_of_size_eq_zero; omega
   subst hx';obtain ⟨y',r',hy',hyr,hr'⟩:=VRs.cons_inv (by rw [← hys]; exact VRs.of_arr h3 h4);have:=hr'.nil_inv; subst this;have hye:ys' = #[y']:=by apply Array.toList_inj.1; rw [hy']
   subst hye;cases hyr with
   | ptr _ _ m hm =>
    obtain ⟨v1,hc1,hr1,_⟩:=hH.cell hblk hm (off:=0) rfl;cases hr1 with
    | box _ _ _ _ _ tb toff tcs tel tfz hz hl h0 hx =>
     have htl:ts.size = 2:=by rw [← Array.length_toList,hts]; rfl
     obtain ⟨v2,hv2⟩:∃ v2,tcs[toff + 1]? = some v2:=⟨_,Array.getElem?_eq_getElem (by omega)⟩
     have hr2:=hx 1 _ _ (by rw [← Array.getElem?_toList,hts]; rfl) hv2
     have key:∃ (pl:List Pa) (pa:Option Addr) (pcap:Nat),L = pl.flatMap paL ∧ (∀ p,p ∈ pl → 0 ≤ p.f ∧ p.l < 4294967296 ∧ p.m < 2 ^ 60 ∧ (p.f ≤ p.l → 0 < p.m)) ∧ pl.length = n ∧ v2 = .slice pa pl.length pcap ∧
       (pl ≠ [] → ∃ pb poff pcs pel pfz,pa = some ⟨pb,poff,none⟩ ∧ μ.z pb = some (.cells pcs pel pfz) ∧ ∀ (a:Nat) p,pl[a]? = some p → PaZ μ.z pcs (poff + a * 3) p):=by
      cases hr2 with
      | list _ _ _ _ _ pb poff pcap pcs pel pfz hz2 hl2 hc2 hg2 h02 hx2 =>
       obtain ⟨pl,e1,e2,e3,e4⟩:=ζjl (μ:=μ) (cs:=pcs) n ps.toList L poff hL (by simpa using hl2) fun i v v' hi hi' => hx2 i v v' (by rw [← Array.getElem?_toList]; exact hi) hi';exact ⟨pl,_,pcap,e4,e2,e1,by rw [e1],fun _ => ⟨pb,poff,pcs,pel,pfz,rfl,hz2,e3⟩⟩
      | empty _ _ _ _ x pcap hn2 hs2 =>
       generalize ps.toList = psl at hL;cases psl with
       | nil =>
        unfold partsE at hL; injection hL with hL; subst hL;exact ⟨[],x,pcap,rfl,fun p hp => (by cases hp),rfl,rfl,fun h => (h rfl).elim⟩
       | cons a r => unfold partsE at hL; cases hL
     obtain ⟨pl,pa,pcap,rfl,hok,hlen,rfl,hpa⟩:=key;refine ⟨141,#[.pointer (some ⟨m.blk,m.base + 0,none⟩)],rfl,⟨Tryz.f141,Tryz.func141,rfl,by decide⟩,fun l0 J Jx Jp hal htn hfz hY h0J => ?_⟩;have:=ζmp μ.z l0 J Jx Jp pl hal htn hfz (fun a p j T W hp hj hJ => hY _ T W _ hJ (itf_at pl a p j hp hj)) hok w h0J m.blk (m.base + 0) tb toff hc1 tcs tel tfz hz pa pcap hv2 (by rw [hlen]; exact hn) hpa;rw [itf_len];exact callsIn_wide.1 this
end Go.Sw
end
section
namespace Go.Sw
open Go.RowKit
theorem names_ok:NamesOk Prog:=NamesOk.of (by kernel_rfl)
theorem mixed_ok:Prog.follows .mixedOrders = true:=Checked.mixed Go.Proofs.Tryz.checked
theorem laid_ok:laidOutB Prog = true:=by kernel_rfl
theorem ζfx:SpIs Prog F.ζc fun _ args H => cloneV 3 12 args H :=
 clone_is (c:={ P:=Prog,kp:=kpS,sp:=fun _ => none }) (fun _ _ => rfl) names_ok mixed_ok (t:=56) (e:=93) (by kernel_rfl) fun call a H => (ζ30 0 _ call a H).trans (by
  unfold ζc cloneF;simp only [be_56_0,ap_56,beR_bare])
theorem ζfw:SpIs Prog F.ζh fun _ args H => cloneV 2 16 args H :=
 clone_is (c:={ P:=Prog,kp:=kpS,sp:=fun _ => none }) (fun _ _ => rfl) names_ok mixed_ok (t:=61) (e:=150) (by kernel_rfl) fun call a H => (ζ2z 0 _ call a H).trans (by
  unfold ζh cloneF;simp only [be_61_0,ap_61,beR_bare])
theorem more_is (f:FuncId) (s:Sp) (h:moreS f = some s):SpIs Prog f s:=by
 unfold moreS at h;cases h47:Nat.beq f 47 with
 | true => have:=Nat.eq_of_beq_eq_true h47; subst this; rw [h47,cond_true] at h; injection h with h; subst h; exact try_is
 | false =>
 rw [h47,cond_false] at h;cases h78:Nat.beq f 78 with
 | true => have:=Nat.eq_of_beq_eq_true h78; subst this; rw [h78,cond_true] at h; injection h with h; subst h; exact ζfx
 | false =>
 rw [h78,cond_false] at h;cases h79:Nat.beq f 79 with
 | true => have:=Nat.eq_of_beq_eq_true h79; subst this; rw [h79,cond_true] at h; injection h with h; subst h; exact ζfw
 | false =>
 rw [h79,cond_false] at h;cases h84:Nat.beq f 84 with
 | true => have:=Nat.eq_of_beq_eq_true h84; subst this; rw [h84,cond_true] at h; injection h with h; subst h; exact ζn4 (c:={ P:=Prog,kp:=kpS,sp:=fun _ => none,it:=itS }) names_ok mixed_ok it_is (by kernel_rfl)
 | false =>
 rw [h84,cond_false] at h;cases h97:Nat.beq f 97 with
 | true => have:=Nat.eq_of_beq_eq_true h97; subst this; rw [h97,cond_true] at h; injection h with h; subst h; exact defer_is (c:={ P:=Prog,kp:=kpS,sp:=fun _ => none }) (fun _ _ => rfl) names_ok mixed_ok
 | false =>
 rw [h97,cond_false] at h;cases h
theorem T_prog (k:Nat):(T k).c.P = Prog:=by unfold T C; rfl
theorem told0 {k:Nat} (hk:oneOf (k % 1000000) speaksT = false):SpOk (T k).c:=by
 have h1:SpOk (C k):=by
  unfold C;exact SpOk.none (P:=Prog) (kp:=kpS) (speaks:=speaksT) (more:=moreS) (k:=k % 1000000) hk more_is
 exact h1
end Go.Sw
end
