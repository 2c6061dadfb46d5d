/-
  Functions' forms, and what is proved of them, part 8.
-/
import Derived.Test.YtanfippcmdialaaGreatSwW6
import Derived.Test.YtanfippcmdialaaGreatSwW7
import Derived.Test.YtanfippcmdialaaGreatSwCfg
import Derived.Test.YtanfippcmdialaaGreatSwLib8
import Derived.Test.YtanfippcmdialaaGreatSwW4
import Derived.Test.YtanfippcmdialaaGreatSwW5
set_option linter.unusedSimpArgs false
set_option linter.unusedVariables false
set_option linter.unusedSectionVars false
section
namespace Go.Sw
open Go.RowKit
abbrev A5u(x:Bool)(of:List Int)(rs:List RP)(d:List Int):List Value:=[.bool x,lv B7 of,lv K3 rs,lv B7 d]
abbrev A8x(of:List Int)(rs:List RP)(d:List Int):Value:=.agg (A5u true of rs d).toArray
theorem D3.r24(of:List Int)(rs:List RP)(d:List Int):D3 (A8x of rs d):=.aggL (l:=A5u true of rs d) (.cons (.bool _) (.cons (D3.B _) (.cons (D3.RPs _) (.cons (D3.B _) .nil))))
structure B4i (t:A1o) (of:List Int) (rs:List RP):Prop where
 byt:Byt of
 len:of.length<2 ^ 31
 ok:∀ r,r ∈ rs→r.ok
 rlen:rs.length<2 ^ 31
 get:∀ id,A28 t.of.2 id=A0k of rs id
theorem G6r(k:Nat)(t:A1o)(ht:t.ok){of:List Int}{rs:List RP}(h:B4i t of rs)(id:Int)(H:A2):R (T k) F.B32 [A8x of rs t.data,.int .i64 id] H=.ok (.int .i64 (A4r t id)) H:=by
 rw[G1x];have hx:Ext H (H.push ⟨A5u true of rs t.data,1,false⟩):=(Ext.refl H).push _;refine D8 ⟨_,?_,hx⟩ (.int _ _);have hg:=fun H'=>D29 k of h.byt rs h.ok h.rlen h.len id H';rw[← h.get] at hg;unfold A4r;cases hs:A28 t.of.2 id with
 | none=>
  rw[hs] at hg;simp only[Option.getD_none,Option.isSome_none] at hg;simp -implicitDefEqProofs(disch:=omega) [B32,hg]
 | some at_=>
  obtain⟨h0,n,hn,hfit⟩:=ht.has id at_ hs;rw[hs] at hg;simp only[Option.getD_some,Option.isSome_some] at hg;have hU:=fun H'=>P0 k (H:=H') (Sl.lv H' 1 t.data) ht.byt at_ 4 (by have:=ht.len; omega) (by omega);rw[hn] at hU;simp only[Option.getD_some] at hU;dsimp only;rw[L8 hn];simp -implicitDefEqProofs(disch:=omega) [B32,hg,hU]
theorem J09 (k:Nat) (t:A1o) (ht:t.ok) {of:List Int} {rs:List RP} (h:B4i t of rs) (id i:Int) (H:A2):R (T k) F.A6z [A8x of rs t.data,.int .i64 id,.int .i64 i] H=.ok (.tuple #[.int .i64 ((A1c t id i).getD (0,0)).1,.int .i64 ((A1c t id i).getD (0,0)).2,.bool (A1c t id i).isSome]) H:=by
 rw[G40];have hx:Ext H (H.push ⟨A5u true of rs t.data,1,false⟩):=(Ext.refl H).push _;have fl:∀ x y b,D3 (.tuple #[.int .i64 x,.int .i64 y,.bool b]):=fun x y b=>D3.tupleL (l:=[.int .i64 x,.int .i64 y,.bool b]) (.cons (.int _ _) (.cons (.int _ _) (.cons (.bool _) .nil)));have hc:=fun H'=>G6r k t ht h id H';by_cases h0:i<0
 ·have hN:A1c t id i=none:=by
   unfold A1c;split
   ·rw[if_neg (by omega)]
   ·rfl
  rw[hN];refine D8 ⟨_,?_,hx⟩ (fl _ _ _).alive;simp -implicitDefEqProofs(disch:=omega) [A6z,h0]
 by_cases h1:A4r t id≤i
 ·have hN:A1c t id i=none:=by
   unfold A1c;unfold A4r at h1;split
   ·rename_i at_ e;rw[e] at h1;dsimp only at h1;rw[if_neg (by omega)]
   ·rfl
  have h1':i≥A4r t id:=h1;rw[hN];refine D8 ⟨_,?_,hx⟩ (fl _ _ _).alive;simp -implicitDefEqProofs(disch:=omega) [A6z,h0,hc,h1']
 have h1':¬ i≥A4r t id:=h1;have hg:=fun H'=>D29 k of h.byt rs h.ok h.rlen h.len id H';rw[← h.get] at hg;cases hs:A28 t.of.2 id with
 | none=>
  unfold A4r at h1;rw[hs] at h1;dsimp only at h1;omega
 | some at_=>
  obtain⟨hat,n,hn,hfit⟩:=ht.has id at_ hs;have hcn:A4r t id=n:=by unfold A4r; rw[hs]; exact L8 hn
  have hnb:=W5 ht.byt hn;have hA:A1c t id i=some (s16 (gU t.data (at_+4+4*i) 2),s16 (gU t.data (at_+6+4*i) 2)):=by
   unfold A1c;rw[hs];dsimp only;rw[L8 hn,if_pos (by omega)]
  rw[hA];rw[hs] at hg;simp only[Option.getD_some,Option.isSome_some] at hg ⊢;have hdl:=ht.len;have hU:=fun j H'=>P0 k (H:=H') (Sl.lv H' 1 t.data) ht.byt j 2 (by omega) (by omega);have u1:∀ H',R (T k) F.ζ2 [lv B7 t.data,.int .i64 (at_+4+4*i),.int .i64 2] H'=.ok (.int .i64 (gU t.data (at_+4+4*i) 2)) H':=fun H'=>hU _ H';have u2:∀ H',R (T k) F.ζ2 [lv B7 t.data,.int .i64 (at_+6+4*i),.int .i64 2] H'=.ok (.int .i64 (gU t.data (at_+6+4*i) 2)) H':=fun H'=>hU _ H';have g1:=X7 ht.byt (at_+4+4*i);have g2:=X7 ht.byt (at_+6+4*i);have s1:=fun H'=>D6q k (gU t.data (at_+4+4*i) 2) (by omega) (by omega) H';have s2:=fun H'=>D6q k (gU t.data (at_+6+4*i) 2) (by omega) (by omega) H';have hv:=A5z t.data;have hi1:i<A4r t id:=by omega
  refine D8 ⟨_,?_,hx⟩ (fl _ _ _).alive;simp -implicitDefEqProofs(disch:=omega) [A6z,h0,hc,h1',hg,u1,u2,s1,s2,hv]
theorem D3j (k:Nat) (t:A1o) (ht:t.ok) {of:List Int} {rs:List RP} (h:B4i t of rs) {j:Nat} {r:RP} (hj:rs[j]?=some r) (a4 a12:Value) (p10:Nat) (H:A2) (h10:H.get p10=some ⟨[lv B7 of,lv K3 rs],1,false⟩) :
  ∃ z w,loopN (D1i k (R (T k))) B8 [(4,a4),(8,lv B7 t.data),(10,B6 p10),(11,.bool true),(12,a12),(13,.int .i64 j),(14,.int .i64 r.first)] H=.ok (.exit 2,[(4,a4),(8,lv B7 t.data),(10,B6 p10),(11,.bool true),(12,a12),(13,.int .i64 j),(14,z),(78,w)]) H:=by
 have hro:=h.ok r (List.mem_of_getElem? hj);unfold RP.ok at hro;have ix:=fun H'=>S0 A8v rs .i64 j _ hj H'
 obtain ⟨xx,e',H1,hr1,rfl,rfl,z,w,rfl⟩:=A5i (body:=D1i k (R (T k)))
  (fun m e H'=>H'=H∧∃ id:Int,e=[(4,a4),(8,lv B7 t.data),(10,B6 p10),(11,.bool true),(12,a12),(13,.int .i64 j),(14,.int .i64 id)]∧r.first≤id∧id≤65537∧(m:Int)=65537 - id)
  (fun xx e H'=>xx=.exit 2∧H'=H∧∃ z w,e=[(4,a4),(8,lv B7 t.data),(10,B6 p10),(11,.bool true),(12,a12),(13,.int .i64 j),(14,z),(78,w)])
  (65537 - r.first).toNat (e0:=[(4,a4),(8,lv B7 t.data),(10,B6 p10),(11,.bool true),(12,a12),(13,.int .i64 j),(14,.int .i64 r.first)]) (H0:=H) ⟨rfl,r.first,rfl,by omega,by omega,by omega⟩ (by omega)
  (fun m e H' ⟨hH,id,he,h1,h2,h3⟩=>by
   subst hH he;by_cases hl:id≤r.last
   ·have hg:=D29 k of h.byt rs h.ok h.rlen h.len id H';rw[← h.get] at hg;obtain⟨at_,hs⟩:∃ at_,A28 t.of.2 id=some at_:=by
     rw[h.get];unfold A0k;cases hf:rs.find? fun r=>decide (r.first≤id∧id≤r.last) with
     | some r'=>exact⟨_,rfl⟩
     | none=>
      have:=List.find?_eq_none.1 hf r (List.mem_of_getElem? hj);simp at this;omega
    obtain⟨hat,n,hn,hfit⟩:=ht.has id at_ hs;have hnb:=W5 ht.byt hn;have hdl:=ht.len;rw[hs] at hg;simp only[Option.getD_some,Option.isSome_some] at hg;have hU:=P0 k (H:=H') (Sl.lv H' 1 t.data) ht.byt at_ 4 (by omega) (by omega);rw[hn] at hU;simp only[Option.getD_some] at hU;have hR:=B58 k (t.data.length:Int) (at_+4) n 4 (by omega) (by omega) H';rw[(B29 (by omega)).2 ⟨by omega,by omega,by omega,by omega⟩] at hR;have hn0:n≥0:=hnb.1;by_cases hst:r.step=0
    ·refine .inl ⟨(65537 - (r.last+1)).toNat,_,H',?_,by omega,rfl,r.last+1,rfl,by omega,by omega,by omega⟩;have hst':(r.step == 0)=true:=by rw[hst]; rfl
     rw[D4c];simp -implicitDefEqProofs(disch:=omega) [h10,ix,hl,hg,hU,hn0,hR,hst',G11]
    ·refine .inl ⟨(65537 - (id+1)).toNat,_,H',?_,by omega,rfl,id+1,rfl,by omega,by omega,by omega⟩;have hst':(r.step == 0)=false:=by rw[beq_eq_false_iff_ne]; exact hst
     rw[D4c];simp -implicitDefEqProofs(disch:=omega) [h10,ix,hl,hg,hU,hn0,hR,hst',G12]
   ·refine .inr ⟨.exit 2,_,H',?_,by simp,rfl,rfl,.int .i64 id,.bool false,rfl⟩;rw[D4c];simp -implicitDefEqProofs(disch:=omega) [h10,ix,hl])
 exact⟨z,w,hr1⟩
theorem D3i (k:Nat) (t:A1o) (ht:t.ok) {of:List Int} {rs:List RP} (h:B4i t of rs) (a4 a12:Value) (p10:Nat) (H:A2) (h10:H.get p10=some ⟨[lv B7 of,lv K3 rs],1,false⟩) :
  ∃ z w,loopN (D1h k (R (T k))) B8 [(4,a4),(8,lv B7 t.data),(10,B6 p10),(11,.bool true),(12,a12),(13,.int .i64 0)] H=.ok (.exit 0,[(4,a4),(8,lv B7 t.data),(10,B6 p10),(11,.bool true),(12,a12),(13,z),(59,w)]) H:=by
 have hrl:=h.rlen
 obtain ⟨xx,e',H1,hr1,rfl,rfl,z,w,rfl⟩:=K5 (body:=D1h k (R (T k))) rs.length
  (fun j e H'=>H'=H∧e=[(4,a4),(8,lv B7 t.data),(10,B6 p10),(11,.bool true),(12,a12),(13,.int .i64 j)])
  (fun xx e H'=>xx=.exit 0∧H'=H∧∃ z w,e=[(4,a4),(8,lv B7 t.data),(10,B6 p10),(11,.bool true),(12,a12),(13,z),(59,w)])
  (e0:=[(4,a4),(8,lv B7 t.data),(10,B6 p10),(11,.bool true),(12,a12),(13,.int .i64 0)]) (H0:=H) ⟨rfl,rfl⟩ (by omega)
  (fun j e H' hj ⟨hH,he⟩=>by
   subst hH he;have hjl:(j:Int)<rs.length:=by omega
   obtain⟨r,hr⟩:∃ r,rs[j]?=some r:=⟨_,List.getElem?_eq_getElem hj⟩
   have ix:=fun H'=>S0 A8v rs .i64 j _ hr H';obtain⟨z,w,h2⟩:=D3j k t ht h hr a4 a12 p10 H' h10;refine .inl ⟨_,H',?_,rfl,rfl⟩;rw[E19];simp -implicitDefEqProofs(disch:=omega) [h10,ix,hjl,h2,G0i])
  (fun e H' ⟨hH,he⟩=>by
   subst hH he;refine⟨.exit 0,_,H',?_,by simp,rfl,rfl,.int .i64 rs.length,.bool false,rfl⟩;rw[E19];simp -implicitDefEqProofs(disch:=omega) [h10])
 exact⟨z,w,hr1⟩
theorem G8r(k:Nat)(b:List Int)(hb:Byt b)(g:Int)(hg:1≤g∧g≤65535)(hl:b.length<2 ^ 31)(t:A1o)(h:A4q b g=some t)(H:A2) :
  ∃ of rs,R (T k) F.ζq [lv B7 b,.int .i64 g] H=.ok (.tuple #[A8x of rs t.data,.bool true]) H∧B4i t of rs:=by
 have ht:=B3n hb hg.1 hg.2 hl h;unfold A4q at h;obtain⟨z,hz,h⟩:=Option.bind_eq_some_iff.1 h;split at h;rotate_left
 ·cases h
 rename_i hz0;subst hz0;obtain⟨w,hw,h⟩:=Option.bind_eq_some_iff.1 h;obtain⟨of,hof,h⟩:=Option.bind_eq_some_iff.1 h;obtain⟨tab,htab,h⟩:=Option.bind_eq_some_iff.1 h;obtain⟨w2,hw2,h⟩:=Option.bind_eq_some_iff.1 h;obtain⟨d,hd,h⟩:=Option.bind_eq_some_iff.1 h;split at h;rotate_left
 ·cases h
 injection h with h;subst h;have hob:Byt of:=hb.rest hof;have hol:=A73 hof;obtain⟨rs,hrs,hrel⟩:=(A5h hob hg.1 hg.2 (.inl rfl:(2:Int)=2∨(2:Int)=4)).1 _ htab;have hO:B4i ⟨tab,d⟩ of rs:=⟨hob,by omega,E53 hob hg (.inl rfl) hrs,E4a hob hg (.inl rfl) htab hrs,fun id=>A9r hrel ht.pts ht.rise⟩
 refine⟨of,rs,?_,hO⟩;have hrd:=fun H'=>E52 k of hob g 2 hg (.inl rfl) (by omega) H';rw[hrs] at hrd;simp only[A9g,Option.isSome_some] at hrd;have u0:=fun H'=>P0 k (H:=H') (Sl.lv H' 1 b) hb 0 2 (by omega) (by omega);have u4:=fun H'=>P0 k (H:=H') (Sl.lv H' 1 b) hb 4 4 (by omega) (by omega);have u8:=fun H'=>P0 k (H:=H') (Sl.lv H' 1 b) hb 8 4 (by omega) (by omega);have f1:=fun H'=>D69 k b w H';have f2:=fun H'=>D69 k b w2 H';rw[hz] at u0;rw[hw] at u4;rw[hw2] at u8;rw[hof] at f1;rw[hd] at f2;simp only[Option.getD_some,Option.isSome_some] at u0 u4 u8 f1 f2;have g0:=(((D2.nil H).push ⟨[.bool false,.slice none 0 0,.slice none 0 0,.slice none 0 0],1,false⟩).push ⟨[lv B7 of,lv K3 rs],1,false⟩).push ⟨A5u true of rs d,1,false⟩;simp only[List.nil_append,List.cons_append,A02] at g0;obtain⟨z,w,e1⟩:=D3i k ⟨tab,d⟩ ht hO (B6 H.n) (B6 (H.n+1+1)) (H.n+1) _ (g0.get 1 rfl);have b0:=g0.get 0 rfl;have b2:=g0.get 2 rfl;have g1:=g0.setBlk 0 rfl ⟨A5u true of rs d,1,false⟩;rw[G3d];refine G7 (L:=[]) (v:=.tuple #[A8x of rs d,.bool true]) ?_ rfl g1.ext (D3.tupleL (.cons (D3.r24 _ _ _) (.cons (.bool _) .nil))).alive;simp -implicitDefEqProofs(disch:=omega) [ζq,u0,u4,u8,f1,f2,hrd,e1,G0h,b0,b2]
end Go.Sw
end
section
set_option maxRecDepth 100000
namespace Go.Sw
noncomputable section
variable (k:Nat) (call:A8)
def D60:Env→A2→Res (D0 × Env):=M4 (C k) call F.A9a [1,1,0,1,0,0]
def E3b:G0 Value:=D7 0 (E4 (B3 (C k) call F.A9a [1,1,1]) (G2 A0 (G3 A0 F.A9a)))
def A9a(a0 a1:Value)(h:A2):Res Value :=
 (A5 A0 .eql 3 a0 (.int .i64 2) h).bind fun v0 h0=>(E0 A0 145 [(0,v0)] h0).bind fun v1 h1=>(K9 v1 h1).bind fun v2 h2=>(A6 A0 .len [30] [a1] h2).bind fun v3 h3=>(loopN (D60 k call) B8 [(5,v2),(12,a1),(13,v3),(14,(.int .i64 0))] h3).bind fun r9 h4=>
 E3b k call r9.1 r9.2 h4
theorem G78(k:Nat)(a0 a1:Value)(h:A2):R (T k) F.A9a [a0,a1] h=nrm .no h (A9a k (R (T k)) a0 a1 h) :=G9
theorem E2y(a5 a12 a13 a14:Value)(h:A2):D60 k call [(5,a5),(12,a12),(13,a13),(14,a14)] h =
 (A5 A0 .lss 3 a14 a13 h).bind fun v0 h0=>
 condV (some v0) (
 (A9 A0 30 a12 a14 h0).bind fun v1 h1=>(A3 A0 3 v1 h1).bind fun v2 h2=>(G8 a5 h2).bindN fun v3 h3=>(A1 A0 145 v3 1 h3).bindN fun v4 h4=>(A3 A0 56 v4 h4).bindN fun v5 h5=>(call F.B26 [v2] h5).bindT (fun p25 h6=>.panic p25 h6) fun v6 h7=>(E0 A0 93 [(0,v6)] h7).bindN fun v7 h8=>(B9 A0 56 1 [(0,v7)] h8).bindN fun v8 h9=>(A6 A0 .append [56,56] [v5,v8] h9).bindN fun v9 ha=>(G8 a5 ha).bindN fun va hb=>(A1 A0 145 va 1 hb).bindN fun vb hc=>(B4 A0 56 vb v9 hc).bindN fun _vc hd=>
 E6 ((A4 (A3 A0 56 v4 h7) v5 && (A4 (A3 A0 56 v4 h9) v5 && true)) && true) (
 (A5 A0 .add 3 a14 (.int .i64 1) hd).bind fun vd he=>
 .ok (.normal,[(5,a5),(12,a12),(13,a13),(14,vd)]) he))
 (
 .ok ((.exit 0),[(5,a5),(12,a12),(13,a13),(14,a14),(15,v0)]) h0) :=
 (E2 _ _).trans (by kernel_rfl)
theorem G3m(a5 a12 a13 a14 a15:Value)(h:A2):E3b k call (.exit 0) [(5,a5),(12,a12),(13,a13),(14,a14),(15,a15)] h =
 .ok a5 h:=by kernel_rfl
def B2x(k:Nat)(call:A8)(a0 a1 a2 a3:Value)(h:A2):Res Value :=
 (call F.B23 [a0,a1] h).bind fun v0 h0=>(G8 v0 h0).bindN fun v1 h1=>(A1 A0 93 v1 1 h1).bindN fun v2 h2=>(A3 A0 21 v2 h2).bindN fun v3 h3=>(call F.B3f [v3,a2] h3).bindT (fun p11 h4=>(G8 v0 h3).bindN fun v4 h5=>(A1 A0 93 v4 2 h5).bindN fun v5 h6=>(A3 A0 21 v5 h6).bindN fun v6 h7=>E6 ((A4 (A3 A0 21 v5 h0) v6 && true) && true) (.panic p11 h4)) fun v7 h8=>(G8 v0 h8).bindN fun v8 h9=>(A1 A0 93 v8 2 h9).bindN fun v9 ha=>(A3 A0 21 v9 ha).bindN fun va hb=>(call F.B3f [va,a3] hb).bindT (fun p27 hc=>E6 ((A4 (A3 A0 21 v9 h0) va && true) && true) (.panic p27 hc)) fun vb hd=>(G8 v0 hd).bindN fun vc he=>(A1 A0 93 vc 1 he).bindN fun vd hf=>(B4 A0 21 vd v7 hf).bindN fun _ve hg=>(G8 v0 hg).bindN fun vf hh=>(A1 A0 93 vf 2 hh).bindN fun vg hi=>(B4 A0 21 vg vb hi).bindN fun _vh hj=>
 E6 ((A4 (A3 A0 21 v9 h0) va && true) && true) (
 .ok (.tuple #[]) hj)
theorem G16(k:Nat)(a0 a1 a2 a3:Value)(h:A2):R (T k) F.B2x [a0,a1,a2,a3] h=nrm .no h (B2x k (R (T k)) a0 a1 a2 a3 h) :=G9
def B21(k:Nat)(call:A8)(a0:Value)(h:A2):Res Value :=
 (G8 a0 h).bind fun v0 h0=>(A1 A0 145 v0 1 h0).bind fun v1 h1=>(A3 A0 56 v1 h1).bind fun v2 h2=>(call F.ζg [v2] h2).bind fun v3 h3=>
 .ok v3 h3
theorem G1m(k:Nat)(a0:Value)(h:A2):R (T k) F.B21 [a0] h=nrm (own k) h (B21 k (R (T k)) a0 h) :=G9
def B26(k:Nat)(call:A8)(a0:Value)(h:A2):Res Value :=
 (A6 A0 .max [3,3] [a0,(.int .i64 (-2147483648))] h).bind fun v0 h0=>(A6 A0 .min [3,3] [v0,(.int .i64 2147483647)] h0).bind fun v1 h1=>(M9 A0 3 21 v1 h1).bind fun v2 h2=>
 .ok v2 h2
theorem G5n(k:Nat)(a0:Value)(h:A2):R (T k) F.B26 [a0] h=nrm .gc h (B26 k (R (T k)) a0 h) :=G9
def B23(k:Nat)(call:A8)(a0 a1:Value)(h:A2):Res Value :=
 (A5 A0 .lss 3 a1 (.int .i64 0) h).bind fun v0 h0=>(wV v0 false (Res.ok a1 h0) h0).bind fun v1 h1=>(wV v0 false (Res.ok a0 h1) h1).bind fun v2 h2=>(wV v0 false (G8 v2 h2) h2).bind fun v3 h3=>(wV v0 false (A1 A0 145 v3 1 h3) h3).bind fun v4 h4=>(wV v0 false (A3 A0 56 v4 h4) h4).bind fun v5 h5=>(wV v0 false (A6 A0 .len [56] [v5] h5) h5).bind fun v6 h6=>(wV v0 false (A5 A0 .geq 3 v1 v6 h6) h6).bind fun v7 h7=>(condV (some v0) (Res.ok (.bool true) h7) (Res.ok v7 h7)).bind fun v8 h8=>
 condV (some v8) (
 (D1 A0 93 h8).bind fun v9 h9=>
 .ok v9 h9)
 (
 (G8 a0 h8).bind fun va ha=>(A1 A0 145 va 1 ha).bind fun vb hb=>(A3 A0 56 vb hb).bind fun vc hc=>(A9 A0 56 vc a1 hc).bind fun vd hd=>
 .ok vd hd)
theorem G2x(k:Nat)(a0 a1:Value)(h:A2):R (T k) F.B23 [a0,a1] h=nrm .no h (B23 k (R (T k)) a0 a1 h) :=G9
def B3f(k:Nat)(call:A8)(a0 a1:Value)(h:A2):Res Value :=
 (M9 A0 21 3 a0 h).bind fun v0 h0=>(call F.B26 [a1] h0).bind fun v1 h1=>(M9 A0 21 3 v1 h1).bind fun v2 h2=>(A5 A0 .add 3 v0 v2 h2).bind fun v3 h3=>(call F.B26 [v3] h3).bind fun v4 h4=>
 .ok v4 h4
theorem G77(k:Nat)(a0 a1:Value)(h:A2):R (T k) F.B3f [a0,a1] h=nrm .gc h (B3f k (R (T k)) a0 a1 h) :=G9
def D58:Env→A2→Res (D0 × Env):=M4 (C k) call F.B0e [1,1,0,1,0,0]
def E2l:G0 Value:=D7 0 (E4 (B3 (C k) call F.B0e [1,1,1]) (G2 A0 (G3 A0 F.B0e)))
def B0e(a0:Value)(h:A2):Res Value :=
 (B9 A0 56 0 [] h).bind fun v0 h0=>(loopN (D58 k call) B8 [(0,a0),(3,v0),(4,(.int .i64 0))] h0).bind fun r3 h1=>
 E2l k call r3.1 r3.2 h1
theorem G3z(k:Nat)(a0:Value)(h:A2):R (T k) F.B0e [a0] h=nrm .fz h (B0e k (R (T k)) a0 h) :=G9
theorem E1p(a0 a3 a4:Value)(h:A2):D58 k call [(0,a0),(3,a3),(4,a4)] h =
 (A6 A0 .len [30] [a0] h).bind fun v0 h0=>(A5 A0 .lss 3 a4 v0 h0).bind fun v1 h1=>
 condV (some v1) (
 (A9 A0 30 a0 a4 h1).bind fun v2 h2=>(A3 A0 3 v2 h2).bind fun v3 h3=>(call F.B22 [v3] h3).bind fun v4 h4=>(M9 A0 3 21 v4 h4).bind fun v5 h5=>(E0 A0 93 [(0,v5)] h5).bind fun v6 h6=>(B9 A0 56 1 [(0,v6)] h6).bind fun v7 h7=>(A6 A0 .append [56,56] [a3,v7] h7).bind fun v8 h8=>(A5 A0 .add 3 a4 (.int .i64 1) h8).bind fun v9 h9=>
 .ok (.normal,[(0,a0),(3,v8),(4,v9)]) h9)
 (
 .ok ((.exit 0),[(0,a0),(3,a3),(4,a4),(9,v1)]) h1) :=
 (E2 _ _).trans (by kernel_rfl)
theorem G0z(a0 a3 a4 a9:Value)(h:A2):E2l k call (.exit 0) [(0,a0),(3,a3),(4,a4),(9,a9)] h =
 .ok a3 h:=by kernel_rfl
def E2j(a11:Value)(h:A2):Res Value :=
 E4 (B3 (C k) call F.ζp [1,1,1]) (G2 A0 (G3 A0 F.ζp)) .normal [(11,a11)] h
def E2k(a1 a2 a3 a4 a11 a22:Value)(h:A2):Res Value :=
 E4 (B3 (C k) call F.ζp [1,1,1]) (G2 A0 (G3 A0 F.ζp)) .normal [(1,a1),(2,a2),(3,a3),(4,a4),(11,a11),(22,a22)] h
def ζp(a0 a1 a2 a3 a4:Value)(h:A2):Res Value :=
 (B9 A0 56 0 [] h).bind fun v0 h0=>(A6 A0 .append [56,56] [v0,a0] h0).bind fun v1 h1=>(A5 A0 .geq 3 a1 (.int .i64 0) h1).bind fun v2 h2=>(wV v2 true (Res.ok a1 h2) h2).bind fun v3 h3=>(wV v2 true (Res.ok v1 h3) h3).bind fun v4 h4=>(wV v2 true (A6 A0 .len [56] [v4] h4) h4).bind fun v5 h5=>(wV v2 true (A5 A0 .lss 3 v3 v5 h5) h5).bind fun v6 h6=>(condV (some v2) (Res.ok v6 h6) (Res.ok (.bool false) h6)).bind fun v7 h7=>
 condV (some v7) (
 (A9 A0 56 v1 a1 h7).bind fun v8 h8=>(A1 A0 93 v8 0 h8).bind fun v9 h9=>(A3 A0 21 v9 h9).bind fun va ha=>(call F.B24 [va,a2] ha).bind fun vb hb=>(A9 A0 56 v1 a1 hb).bind fun vc hc=>(A1 A0 93 vc 0 hc).bind fun vd hd=>(B4 A0 21 vd vb hd).bind fun _ve he=>(A9 A0 56 v1 a1 he).bind fun vf hf=>(A1 A0 93 vf 1 hf).bind fun vg hg=>(A3 A0 21 vg hg).bind fun vh hh=>(call F.B24 [vh,a3] hh).bind fun vi hi=>(A9 A0 56 v1 a1 hi).bind fun vj hj=>(A1 A0 93 vj 1 hj).bind fun vk hk=>(B4 A0 21 vk vi hk).bind fun _vl hl=>(A9 A0 56 v1 a1 hl).bind fun vm hm=>(A1 A0 93 vm 2 hm).bind fun vn hn=>(A3 A0 21 vn hn).bind fun vo ho=>(call F.B24 [vo,a4] ho).bind fun vp hp=>(A9 A0 56 v1 a1 hp).bind fun vq hq=>(A1 A0 93 vq 2 hq).bind fun vr hr=>(B4 A0 21 vr vp hr).bind fun _vs hs=>
 E2j k call v1 hs)
 (
 E2k k call a1 a2 a3 a4 v1 v7 h7)
theorem G3b(k:Nat)(a0 a1 a2 a3 a4:Value)(h:A2):R (T k) F.ζp [a0,a1,a2,a3,a4] h=nrm .fz h (ζp k (R (T k)) a0 a1 a2 a3 a4 h) :=G9
theorem G0y(a11:Value)(h:A2):E2j k call a11 h =
 .ok a11 h:=by kernel_rfl
theorem E17(a1 a2 a3 a4 a11 a22:Value)(h:A2):E2k k call a1 a2 a3 a4 a11 a22 h =
 .ok a11 h:=by kernel_rfl
def D53:Env→A2→Res (D0 × Env):=M4 (C k) call F.A6y [1,1,0,1,0,0]
def D4v:G0 Value:=D7 0 (E4 (B3 (C k) call F.A6y [1,1,1]) (G2 A0 (G3 A0 F.A6y)))
def A6y(a0 a1:Value)(h:A2):Res Value :=
 (A6 A0 .len [56] [a0] h).bind fun v0 h0=>(A6 A0 .len [56] [a1] h0).bind fun v1 h1=>(A5 A0 .neq 3 v0 v1 h1).bind fun v2 h2=>
 condV (some v2) (
 .ok (.bool false) h2)
 (
 (loopN (D53 k call) B8 [(0,a0),(1,a1),(5,(.int .i64 0))] h2).bind fun r7 h3=>
 D4v k call r7.1 r7.2 h3)
theorem G3c(k:Nat)(a0 a1:Value)(h:A2):R (T k) F.A6y [a0,a1] h=nrm .gc h (A6y k (R (T k)) a0 a1 h) :=G9
theorem E18(a0 a1 a5:Value)(h:A2):D53 k call [(0,a0),(1,a1),(5,a5)] h =
 (A6 A0 .len [56] [a0] h).bind fun v0 h0=>(A5 A0 .lss 3 a5 v0 h0).bind fun v1 h1=>
 condV (some v1) (
 (A9 A0 56 a0 a5 h1).bindN fun v2 h2=>(A3 A0 93 v2 h2).bindN fun v3 h3=>(A9 A0 56 a1 a5 h3).bindN fun v4 h4=>(A3 A0 93 v4 h4).bindN fun v5 h5=>(A5 A0 .neq 93 v3 v5 h5).bindN fun v6 h6=>
 condV (some v6) (
 .ok (.ret,[(4,(.bool false))]) h6)
 (
 (A5 A0 .add 3 a5 (.int .i64 1) h6).bind fun v7 h7=>
 .ok (.normal,[(0,a0),(1,a1),(5,v7)]) h7))
 (
 .ok ((.exit 0),[(0,a0),(1,a1),(5,a5),(14,v1)]) h1) :=
 (E2 _ _).trans (by kernel_rfl)
theorem G10(a4:Value)(h:A2):D4v k call .ret [(4,a4)] h =
 .ok a4 h:=by kernel_rfl
theorem G0g(a0 a1 a5 a14:Value)(h:A2):D4v k call (.exit 0) [(0,a0),(1,a1),(5,a5),(14,a14)] h =
 .ok (.bool true) h:=by kernel_rfl
def B22(k:Nat)(call:A8)(a0:Value)(h:A2):Res Value :=
 (A5 A0 .gtr 3 a0 (.int .i64 2147483647) h).bind fun v0 h0=>
 condV (some v0) (
 .ok (.int .i64 2147483647) h0)
 (
 (A5 A0 .lss 3 a0 (.int .i64 (-2147483648)) h0).bind fun v1 h1=>
 condV (some v1) (
 .ok (.int .i64 (-2147483648)) h1)
 (
 .ok a0 h1))
theorem G1w(k:Nat)(a0:Value)(h:A2):R (T k) F.B22 [a0] h=nrm .gc h (B22 k (R (T k)) a0 h) :=G9
def B24(k:Nat)(call:A8)(a0 a1:Value)(h:A2):Res Value :=
 (M9 A0 21 3 a0 h).bind fun v0 h0=>(call F.B22 [a1] h0).bind fun v1 h1=>(A5 A0 .add 3 v0 v1 h1).bind fun v2 h2=>(call F.B22 [v2] h2).bind fun v3 h3=>(M9 A0 3 21 v3 h3).bind fun v4 h4=>
 .ok v4 h4
theorem G3y(k:Nat)(a0 a1:Value)(h:A2):R (T k) F.B24 [a0,a1] h=nrm .gc h (B24 k (R (T k)) a0 a1 h) :=G9
end
end Go.Sw
end
section
namespace Go.Sw
def X5(n:Int):Int:=if n>2147483647 then 2147483647 else if n < -2147483648 then -2147483648 else n
theorem B5g(n:Int):-2147483648≤X5 n:=by unfold X5; omega
theorem B5f(n:Int):X5 n≤2147483647:=by unfold X5; omega
@[simp] theorem ζue(k:Nat)(x:Int)(H:A2):R (T k) F.B26 [.int .i64 x] H=.ok (.int .i32 (X5 x)) H:=by
 rw[G5n];refine D8 (A0t.of ?_) (.int _ _);simp only[B26,D07,D09,Res.bind_ok,B9t,B9s];congr 2;unfold X5;rw[B1z] <;> omega
@[simp] theorem ζtm(k:Nat)(x:Int)(H:A2):R (T k) F.B22 [.int .i64 x] H=.ok (.int .i64 (X5 x)) H:=by
 rw[G1w];refine D8 (A0t.of ?_) (.int _ _);simp only[B22,B9n,B9o,Res.bind_ok,G83,X5];by_cases h1:x>2147483647
 ·simp[h1]
 ·by_cases h2:x < -2147483648 <;> simp[h1,h2]
def N6(a n:Int):Int:=X5 (a+X5 n)
theorem B9i(a n:Int):-2147483648≤N6 a n:=B5g _
theorem B9h(a n:Int):N6 a n≤2147483647:=B5f _
theorem B3i(k:Nat)(a x:Int)(h1:-2147483648≤a)(h2:a≤2147483647)(H:A2):R (T k) F.B3f [.int .i32 a,.int .i64 x] H=.ok (.int .i32 (N6 a x)) H:=by
 have:=B5g x;have:=B5f x;rw[G77];refine D8 (A0t.of ?_) (.int _ _);simp (disch:=omega) [B3f,N6]
theorem D6p(k:Nat)(a x:Int)(h1:-2147483648≤a)(h2:a≤2147483647)(H:A2):R (T k) F.B24 [.int .i32 a,.int .i64 x] H=.ok (.int .i32 (N6 a x)) H:=by
 have:=B5g x;have:=B5f x;have h3:=B5g (a+X5 x);have h4:=B5f (a+X5 x);rw[G3y];refine D8 (A0t.of ?_) (.int _ _);simp (disch:=omega) [B24,N6]
structure Pl where
 adv:Int
 x:Int
 y:Int
 deriving DecidableEq
def Pl.ok(p:Pl):Prop:=(-2147483648≤p.adv∧p.adv≤2147483647)∧(-2147483648≤p.x∧p.x≤2147483647)∧(-2147483648≤p.y∧p.y≤2147483647)
abbrev U0(p:Pl):List Value:=[.int .i32 p.adv,.int .i32 p.x,.int .i32 p.y]
theorem M8(p:Pl):(U0 p).length=3:=rfl
theorem D1v(l:List Pl):∀ p,p ∈ l→∀ v,v ∈ U0 p→A2a v:=by
 intro p _ v hv;simp[U0] at hv;rcases hv with rfl | rfl | rfl <;> trivial
theorem B96(l:List Pl):∀ p,p ∈ l→A1p (U0 p):=fun p _=>.cons (.int _ _) (.cons (.int _ _) (.cons (.int _ _) .nil))
def V7(l:List Int):List Pl:=l.map fun n=>⟨X5 n,0,0⟩
theorem Pl.eqb(p q:Pl):([p.adv,p.x,p.y] == [q.adv,q.x,q.y])=decide (p=q):=by
 obtain⟨a,b,c⟩:=p;obtain⟨d,e,f⟩:=q;by_cases h:a=d <;> by_cases h1:b=e <;> by_cases h2:c=f <;> simp[h,h1,h2]
theorem G8t (k:Nat) {H:A2} {sa sb:Value} {a b:List Pl} (ra:Rd H 3 sa U0 a) (rb:Rd H 3 sb U0 b) (ha:a.length≤2 ^ 31):R (T k) F.A6y [sa,sb] H=.ok (.bool (decide (a=b))) H:=by
 rw[G3c];refine D8 (A0t.of ?_) (.bool _);by_cases hl:a.length=b.length
 ·obtain ⟨x,e',H1,hr,rfl,hq⟩:=K5 (body:=D53 k (R (T k))) a.length
   (fun i e H'=>e=[(0,sa),(1,sb),(5,.int .i64 i)]∧H'=H∧a.take i=b.take i)
   (fun x e H'=>H'=H∧((x=.ret∧e=[(4,.bool false)]∧a≠b)∨∃ v,x=.exit 0∧e=[(0,sa),(1,sb),(5,.int .i64 a.length),(14,v)]∧a=b))
   (e0:=[(0,sa),(1,sb),(5,.int .i64 0)]) (H0:=H) ⟨rfl,rfl,by simp⟩ (by omega)
   (fun i e H' hi ⟨he,hH,ht⟩=>by
    subst he hH;obtain⟨p,hp⟩:∃ p,a[i]?=some p:=⟨a[i],List.getElem?_eq_getElem hi⟩
    obtain⟨q,hq⟩:∃ q,b[i]?=some q:=⟨b[i],List.getElem?_eq_getElem (by omega)⟩
    have hlt:(i:Int)<a.length:=by omega
    obtain⟨pa,x1,y1⟩:=ra.2 i p hp;obtain⟨pb,x2,y2⟩:=rb.2 i q hq;have x1:=x1 .i64;have x2:=x2 .i64;rw[E18];by_cases hpq:p=q
    ·subst hpq;exact .inl ⟨_,H',by simp -implicitDefEqProofs(disch:=omega) [hlt,ra.1,x1,x2,y1,y2],rfl,rfl,by rw[List.take_add_one,List.take_add_one,ht,hp,hq]⟩
    ·refine .inr ⟨.ret,_,H',by simp -implicitDefEqProofs(disch:=omega) [hlt,ra.1,x1,x2,y1,y2,Pl.eqb,hpq,-List.cons_beq_cons,-List.cons.injEq],by simp,rfl,.inl ⟨rfl,rfl,?_⟩⟩;intro hab;subst hab;rw[hp] at hq;exact hpq (Option.some.inj hq))
   (fun e H' ⟨he,hH,ht⟩=>by
    subst he hH;rw[E18];refine⟨.exit 0,_,H',by simp[ra.1]; rfl,by simp,rfl,.inr ⟨_,rfl,rfl,?_⟩⟩;rw[List.take_length,hl,List.take_length] at ht;exact ht)
  have hbeq:((a.length:Int) != (b.length:Int))=false:=by simp[hl]
  rcases hq with⟨rfl,rfl,hne⟩ | ⟨v,rfl,rfl,heq⟩
  ·simp -implicitDefEqProofs [A6y,ra.1,rb.1,hbeq,hr,G10,hne]
  ·subst heq; simp -implicitDefEqProofs [A6y,ra.1,rb.1,hr,G0g]
 ·have hne:¬ a=b:=fun h=>hl (by rw[h]);have:((a.length:Int) != (b.length:Int))=true:=by simp; omega
  simp -implicitDefEqProofs [A6y,ra.1,rb.1,this,hne]
theorem G7d(k:Nat)(a b:List Pl)(ha:a.length≤2 ^ 31)(H:A2):R (T k) F.A6y [lv U0 a,lv U0 b] H=.ok (.bool (decide (a=b))) H :=
 G8t k (.lv M8 H a) (.lv M8 H b) ha
def A00(l:List Pl)(i:Int)(f:Pl→Pl):List Pl:=if 0≤i then l.modify i.toNat f else l
theorem G7b (k:Nat) (l:List Pl) (i a x y:Int) (hl:l.length≤2 ^ 20) (hok:∀ p,p ∈ l→p.ok) (H:A2) :
  R (T k) F.ζp [lv U0 l,.int .i64 i,.int .i64 a,.int .i64 x,.int .i64 y] H=.ok (lv U0 (A00 l i fun p=>⟨N6 p.adv a,N6 p.x x,N6 p.y y⟩)) H:=by
 rw[G3b];obtain⟨s,H1,e1,o1,x1,_⟩:=A53 (bytes:=12) M8 (Own.bare H H 3) (Ext.refl H) (b:=lv U0 l) (l2:=l) rfl (A3r M8 l H) (by simp; omega) (by decide);rw[List.nil_append] at o1;by_cases hi:0≤i∧i<l.length
 ·obtain ⟨n,rfl⟩:∃ n:Nat,i=n:=⟨i.toNat,by omega⟩
  have hn:n<l.length:=by omega
  obtain⟨p,hp⟩:∃ p,l[n]?=some p:=⟨l[n],List.getElem?_eq_getElem hn⟩
  have hpo:=hok p (List.mem_of_getElem? hp);obtain⟨b,rfl,hb,hg,_⟩:=A5f o1 .i64 n hn H1;have hix:∀ H':A2,ixS 3 (.slice (some ⟨b,0,none⟩) l.length l.length) (.int .i64 n) H'=.ok (.pointer (some ⟨b,n*3,none⟩)) H':=fun H'=>by
   obtain⟨b',he,_,_,h⟩:=A5f o1 .i64 n hn H';injection he with he; injection he with he; injection he with he;subst he; exact h
  have r1:=A35 M8 hg (c:=0) hp (by decide) rfl;obtain⟨H2,s1,g1,k1,n1⟩:=A4u M8 hg (c:=0) (n:=1) ⟨N6 p.adv a,p.x,p.y⟩ (v:=.int .i32 (N6 p.adv a)) hp rfl rfl (by decide) rfl;have hp2:(l.set n ⟨N6 p.adv a,p.x,p.y⟩)[n]?=some ⟨N6 p.adv a,p.x,p.y⟩:=by rw[List.getElem?_set_self hn]
  have r2:=A35 M8 g1 (c:=1) hp2 (by decide) rfl;obtain⟨H3,s2,g2,k2,n2⟩:=A4u M8 g1 (c:=1) (n:=1) ⟨N6 p.adv a,N6 p.x x,p.y⟩ (v:=.int .i32 (N6 p.x x)) hp2 rfl rfl (by decide) rfl;rw[List.set_set] at g2;have hp3:(l.set n ⟨N6 p.adv a,N6 p.x x,p.y⟩)[n]?=some ⟨N6 p.adv a,N6 p.x x,p.y⟩:=by rw[List.getElem?_set_self hn]
  have r3:=A35 M8 g2 (c:=2) hp3 (by decide) rfl;obtain⟨H4,s3,g3,k3,n3⟩:=A4u M8 g2 (c:=2) (n:=1) ⟨N6 p.adv a,N6 p.x x,N6 p.y y⟩ (v:=.int .i32 (N6 p.y y)) hp3 rfl rfl (by decide) rfl;rw[List.set_set] at g3;have hupd:A00 l n (fun p=>⟨N6 p.adv a,N6 p.x x,N6 p.y y⟩)=l.set n ⟨N6 p.adv a,N6 p.x x,N6 p.y y⟩:=by
   unfold A00;rw[if_pos (by omega)];rw[Int.toNat_natCast,D6j _ l n p hp]
  have hx4:Ext H H4:=⟨by rw[n3,n2,n1]; exact x1.n,fun c hc hs=>by
   rw[k3 c (by omega),k2 c (by omega),k1 c (by omega)]; exact x1.2 c hc hs⟩
  have o4:Own H H4 3 (.slice (some ⟨b,0,none⟩) l.length l.length) U0 (A00 l n fun p=>⟨N6 p.adv a,N6 p.x x,N6 p.y y⟩):=by
   rw[hupd];exact .inr ⟨b,by simp,hb,g3⟩
  obtain⟨L,hf⟩:=o4.freeze M8 (D1v _) 6;refine G7 (v:=.slice (some ⟨b,0,none⟩) l.length l.length) (H':=H4) ?_ hf hx4 (D3.alive (D3.lv (B96 _)));have hlt:(n:Int)<l.length:=hi.2;simp only[Nat.add_zero] at r1 s1;simp -implicitDefEqProofs [-A4a,-Q3,ζp,e1,hlt,hix,r1,s1,r2,s2,r3,s3,D6p _ _ _ hpo.1.1 hpo.1.2,D6p _ _ _ hpo.2.1.1 hpo.2.1.2,D6p _ _ _ hpo.2.2.1 hpo.2.2.2,G0y]
 ·have hupd:A00 l i (fun p=>⟨N6 p.adv a,N6 p.x x,N6 p.y y⟩)=l:=by
   unfold A00;split
   ·exact D67 _ _ _ (by omega)
   ·rfl
  rw[hupd];obtain⟨L,hf⟩:=o1.freeze M8 (D1v _) 6;refine G7 (v:=s) (H':=H1) ?_ hf x1 (D3.alive (D3.lv (B96 _)));by_cases h0:0≤i
  ·have hlt:¬ i<l.length:=fun h=>hi ⟨h0,h⟩;simp -implicitDefEqProofs [ζp,e1,h0,o1.len,hlt,E17]
  ·simp -implicitDefEqProofs [ζp,e1,h0,E17]
def A2i(H:A2)(p:Nat)(o:Option Nat)(down:Bool)(l:List Pl):Prop :=
 (∀ b,o=some b→b≠p)∧∃ s,H.get p=some ⟨[.bool down,s],1,false⟩∧N2 H o 3 s U0 l
theorem A2i.up{H H':A2}{p:Nat}{o:Option Nat}{down:Bool}{l:List Pl}(h:A2i H p o down l)(hp:H'.get p=H.get p)(ho:∀ b,o=some b→H'.get b=H.get b):A2i H' p o down l:=by
 obtain⟨h1,s,h2,h3⟩:=h;exact⟨h1,s,by rw[hp]; exact h2,h3.up ho⟩
theorem A2i.lt{H:A2}{p:Nat}{o:Option Nat}{down:Bool}{l:List Pl}(h:A2i H p o down l):p<H.n:=by
 obtain⟨_,s,h2,_⟩:=h;exact A2.get_lt h2
theorem A2i.lto{H:A2}{p:Nat}{o:Option Nat}{down:Bool}{l:List Pl}(h:A2i H p o down l):∀ b,o=some b→b<H.n:=by
 obtain⟨_,s,_,h3⟩:=h;intro b hb;rcases h3 with⟨h4,_⟩ | ⟨c,h4,_,h5⟩
 ·rw[h4] at hb; cases hb
 ·rw[h4] at hb; injection hb with hb; subst hb; exact A2.get_lt h5
theorem A2i.ext{H H':A2}{p:Nat}{o:Option Nat}{down:Bool}{l:List Pl}(h:A2i H p o down l)(hx:Ext H H'):A2i H' p o down l :=
 h.up (hx.2 p h.lt (by simp)) fun b hb=>hx.2 b (h.lto b hb) (by simp)
def fpP(p:Nat)(o:Option Nat):List Nat:=p :: o.toList
theorem B7f (k:Nat) {H:A2} {p:Nat} {o:Option Nat} {down:Bool} {l:List Pl} (h:A2i H p o down l) (hok:∀ q,q ∈ l→q.ok) (i:Int) :
  ∃ H1 b j l' q e,R (T k) F.B23 [.pointer (some ⟨p,0,none⟩),.int .i64 i] H=.ok (.pointer (some ⟨b,j*3,none⟩)) H1∧b≠p∧H1.get b=some ⟨rows U0 l',e,false⟩∧l'[j]?=some q∧q.ok∧H1.get p=H.get p ∧
   ∀ (H2:A2) (f:Pl→Pl),H2.get b=some ⟨rows U0 (l'.set j (f q)),e,false⟩→(∀ c,c≠b→H2.get c=H1.get c)→H2.n=H1.n→A2i H2 p o down (A00 l i f)∧Q6 (fpP p o) H H2:=by
 have hh:=h;have hlt:=h.lt;have hlto:=h.lto;obtain⟨hne,s,h2,h3⟩:=h;rw[G2x];by_cases hi:0≤i∧i<l.length
 ·obtain ⟨n,rfl⟩:∃ n:Nat,i=n:=⟨i.toNat,by omega⟩
  have hn:n<l.length:=by omega
  obtain⟨q,hq⟩:∃ q,l[n]?=some q:=⟨l[n],List.getElem?_eq_getElem hn⟩
  obtain⟨b,rfl,rfl,hb,hix⟩:=h3.ix .i64 n hn;have h0:¬ (n:Int)<0:=by omega
  have h1:¬ (l.length:Int)≤n:=by omega
  refine ⟨H,b,n,l,q,3,by simp -implicitDefEqProofs [B23,h2,h0,h1,hix],hne b rfl,hb,hq,hok q (List.mem_of_getElem? hq),rfl,fun H2 f g1 g2 g3=>⟨⟨hne,_,by rw[g2 p (fun e=>hne b rfl e.symm)]; exact h2,?_⟩,by rw[g3]; exact Nat.le_refl _,fun c hc hs=>g2 c fun e=>hs (by simp[fpP,e])⟩⟩;have:A00 l n f=l.set n (f q):=by
   unfold A00;rw[if_pos (by omega),Int.toNat_natCast,D6j _ l n q hq]
  rw[this];exact .inr ⟨b,rfl,by simp,g1⟩
 ·refine ⟨H.push ⟨[.int .i32 0,.int .i32 0,.int .i32 0],1,false⟩,H.n,0,[⟨0,0,0⟩],⟨0,0,0⟩,1,?_,by omega,by rw[A2.get_push,if_pos rfl]; rfl,rfl,by unfold Pl.ok; simp,A65 _ _ _ hlt,fun H2 f g1 g2 g3=>?_⟩
  ·by_cases h0:i<0
   ·simp -implicitDefEqProofs [B23,h0]
   ·have h1:(l.length:Int)≤i:=by omega
    simp -implicitDefEqProofs [B23,h0,h2,h3.len,h1]
  ·have:A00 l i f=l:=by
    unfold A00;split
    ·exact D67 _ _ _ (by omega)
    ·rfl
   rw[this];have hx:Ext H H2:=⟨by rw[g3]; simp,fun c hc hs=>by rw[g2 c (by omega)]; exact A65 _ _ _ hc⟩
   exact⟨hh.ext hx,hx.1,fun c hc _=>hx.2 c hc (by simp)⟩
theorem B69(k:Nat)(a:Value)(H:A2):R (T k) F.ζg [a] H=nrm .no H (A0f 3 12 [a] H) :=
 B5t (t:=T k) (A1g k) (s:=fun _ args H=>A0f 3 12 args H) (by kernel_rfl) _ _
theorem G9h(k:Nat){H:A2}{p:Nat}{o:Option Nat}{down:Bool}{l:List Pl}(h:A2i H p o down l)(hok:∀ q,q ∈ l→q.ok)(i x y:Int) :
  ∃ H2,R (T k) F.B2x [.pointer (some ⟨p,0,none⟩),.int .i64 i,.int .i64 x,.int .i64 y] H=.ok (.tuple #[]) H2∧A2i H2 p o down (A00 l i fun q=>⟨q.adv,N6 q.x x,N6 q.y y⟩)∧Q6 (fpP p o) H H2:=by
 obtain⟨H1,b,j,l',q,e,a1,_,a2,a3,a4,_,a5⟩:=B7f k h hok i;have hj:=(List.getElem?_eq_some_iff.1 a3).1;have r1:=A35 M8 a2 (c:=1) a3 (by decide) rfl;have r2:=A35 M8 a2 (c:=2) a3 (by decide) rfl;obtain⟨H2,s1,g1,k1,n1⟩:=A4u M8 a2 (c:=1) (n:=1) ⟨q.adv,N6 q.x x,q.y⟩ (v:=.int .i32 (N6 q.x x)) a3 rfl rfl (by decide) rfl;have hq2:(l'.set j ⟨q.adv,N6 q.x x,q.y⟩)[j]?=some ⟨q.adv,N6 q.x x,q.y⟩:=by rw[List.getElem?_set_self hj]
 obtain⟨H3,s2,g2,k2,n2⟩:=A4u M8 g1 (c:=2) (n:=1) ⟨q.adv,N6 q.x x,N6 q.y y⟩ (v:=.int .i32 (N6 q.y y)) hq2 rfl rfl (by decide) rfl;rw[List.set_set] at g2;obtain⟨b1,b2⟩:=a5 H3 (fun q=>⟨q.adv,N6 q.x x,N6 q.y y⟩) g2 (fun c hc=>by rw[k2 c hc,k1 c hc]) (by rw[n2,n1]);refine⟨H3,?_,b1,b2⟩;rw[G16];simp -implicitDefEqProofs [-A4a,-Q3,B2x,a1,r1,r2,s1,s2,B3i _ _ _ a4.2.1.1 a4.2.1.2,B3i _ _ _ a4.2.2.1 a4.2.2.2]
theorem B9d(k:Nat)(hk:k<1000000){H:A2}{p:Nat}{o:Option Nat}{down:Bool}{l:List Pl}(h:A2i H p o down l)(hl:l.length≤2 ^ 20):R (T k) F.B21 [.pointer (some ⟨p,0,none⟩)] H=.ok (lv U0 l) H:=by
 obtain⟨_,s,h2,h3⟩:=h;obtain⟨s',H',e1,o1,x1⟩:=G9u (bytes:=12) M8 h3 (by omega) (by decide);have ho:own k=.fz:=by unfold own; rw[show Nat.blt k 1000000=true from Nat.ble_eq_true_of_le hk]; rfl
 rw[G1m,ho];obtain⟨L,hf⟩:=o1.freeze M8 (D1v _) 6;refine G7 (v:=s') (H':=H') ?_ hf x1 (D3.alive (D3.lv (B96 _)));simp -implicitDefEqProofs [B21,h2,B69,e1]
theorem B5o (k:Nat) (dir:Int) (l:List Int) (hl:l.length≤2 ^ 20) (H:A2) {av:Value} (hv:Sl H 1 av N3 l) :
  ∃ H' o,R (T k) F.A9a [.int .i64 dir,av] H=.ok (.pointer (some ⟨H.n,0,none⟩)) H'∧A2i H' H.n o (dir == 2) (V7 l)∧(∀ b,o=some b→H.n<b)∧Ext H H':=by
 rw[G78]
 obtain ⟨x,e',H1,hr,v,rfl,rfl,o,ho,hf,hx⟩:=K5 (body:=D60 k (R (T k))) l.length
  (fun i e H'=>e=[(5,.pointer (some ⟨H.n,0,none⟩)),(12,av),(13,.int .i64 l.length),(14,.int .i64 i)]∧∃ o,A2i H' H.n o (dir == 2) (V7 (l.take i))∧(∀ b,o=some b→H.n<b)∧Ext H H')
  (fun x e H'=>∃ v,x=.exit 0∧e=[(5,.pointer (some ⟨H.n,0,none⟩)),(12,av),(13,.int .i64 l.length),(14,.int .i64 l.length),(15,v)]∧∃ o,A2i H' H.n o (dir == 2) (V7 l)∧(∀ b,o=some b→H.n<b)∧Ext H H')
  (e0:=[(5,.pointer (some ⟨H.n,0,none⟩)),(12,av),(13,.int .i64 l.length),(14,.int .i64 0)]) (H0:=H.push ⟨[.bool (dir == 2),.slice none 0 0],1,false⟩)
  ⟨rfl,none,⟨(fun b hb=>by cases hb),.slice none 0 0,by rw[A2.get_push,if_pos rfl],.inl ⟨rfl,rfl,.inl rfl⟩⟩,(fun b hb=>by cases hb),(Ext.refl H).push _⟩ (by omega)
  (fun i e H' hi ⟨he,o,⟨hne,s,h2,h3⟩,hof,hx⟩=>by
   subst he;obtain⟨n,hg⟩:∃ n,l[i]?=some n:=⟨l[i],List.getElem?_eq_getElem hi⟩
   have hlt:(i:Int)<l.length:=by omega
   have hpn:H.n<H'.n:=A2.get_lt h2;have hlto:∀ b,o=some b→b<H'.n:=fun b hb=>by
    rcases h3 with⟨h4,_⟩ | ⟨c,h4,_,h5⟩
    ·rw[h4] at hb; cases hb
    ·rw[h4] at hb; injection hb with hb; subst hb; exact A2.get_lt h5
   have hlen:(V7 (l.take i)).length<2 ^ 31:=by simp[V7]; omega
   obtain⟨s',H2,e1,o1,n1,k1⟩:=B0s (bytes:=12) M8 h3 hlto ⟨X5 n,0,0⟩ hlen (by decide);have k2:=k1 H.n hpn fun e=>hne H.n e rfl;rw[h2] at k2;have hne2:¬ H.n=H'.n:=by omega
   obtain⟨pt,hix,hld⟩:=hv.ix1 N0 i n hg _ rfl;have hld:=hld H' hx;refine .inl ⟨_,H2.set H.n (some ⟨[.bool (dir == 2),s'],1,false⟩),?_,rfl,some (H'.n+1),⟨fun b hb=>by injection hb; omega,s',by rw[A2.get_set k2,if_pos rfl],?_⟩,fun b hb=>by injection hb; omega,?_⟩
   ·rw[E2y];simp -implicitDefEqProofs(disch:=omega) [hlt,hix,hld,h2,e1,k2,hne2,h3.veq,o1.storable,o1.cells]
   ·have:=o1.up (H':=H2.set H.n (some ⟨[.bool (dir == 2),s'],1,false⟩)) fun b hb=>by
     injection hb with hb;exact A6j _ _ _ _ (by omega)
    have e:V7 (l.take (i+1))=V7 (l.take i)++[⟨X5 n,0,0⟩]:=by
     rw[List.take_add_one,hg]; simp[V7]
    rw[e];exact this
   ·refine⟨by rw[A2.n_set,n1]; have:=hx.n; omega,fun c hc hs=>?_⟩;rw[A6j _ _ _ _ (by omega),k1 c (by omega) (fun e=>by have:=hof c e; omega)];exact hx.2 c hc hs)
  (fun e H' ⟨he,o,ho,hof,hx⟩=>by
   subst he;rw[E2y];exact⟨.exit 0,_,H',by simp -implicitDefEqProofs <;> rfl,by simp,_,rfl,rfl,o,by simpa using ho,hof,hx⟩)
 have hln:=fun H'=>hv.len H';refine⟨H1,o,?_,ho,hf,hx⟩;simp -implicitDefEqProofs [A9a,hln,hr,G3m]
end Go.Sw
end
section
namespace Go.Sw
open Go.RowKit
theorem B1i(l:List Int):∀ q,q ∈ V7 l→q.ok:=by
 intro q hq;obtain⟨n,_,rfl⟩:=List.mem_map.1 hq;have:=B5g n;have:=B5f n;unfold Pl.ok;dsimp only;omega
@[simp] theorem E6a(l:List Int):(V7 l).length=l.length:=by simp[V7]
theorem D2x{a:Int}(h:-2147483648≤a∧a≤2147483647):N6 a 0=a:=by
 unfold N6 X5;omega
theorem B3m(a n:Int):-2147483648≤N6 a n∧N6 a n≤2147483647:=⟨B9i _ _,B9h _ _⟩
theorem B82 {l:List Pl} (h:∀ q,q ∈ l→q.ok) (i:Int) {f:Pl→Pl} (hf:∀ q,q.ok→(f q).ok):∀ q,q ∈ A00 l i f→q.ok:=by
 unfold A00;split
 ·intro q hq;obtain⟨j,hj⟩:=List.getElem?_of_mem hq;rw[List.getElem?_modify] at hj;cases hg:l[j]? with
  | none=>rw[hg] at hj; simp at hj
  | some x=>
   have hx:=h x (List.mem_of_getElem? hg);rw[hg] at hj;simp at hj;subst hj;split
   ·exact hf x hx
   ·exact hx
 ·exact h
@[simp] theorem ζuq(l:List Pl)(i:Int)(f:Pl→Pl):(A00 l i f).length=l.length:=by
 unfold A00;split <;> simp
end Go.Sw
end
section
set_option maxRecDepth 100000
namespace Go.Sw
noncomputable section
variable (k:Nat) (call:A8)
def D5x:Env→A2→Res (D0 × Env):=M4 (C k) call F.A8u [1,1,1,0,0,0]
def D1m:G0 Value:=D7 0 (E4 (B3 (C k) call F.A8u [1,1,1,1]) (G2 A0 (G3 A0 F.A8u)))
def A8u(a0 a1 a2:Value)(h:A2):Res Value :=
 (E0 A0 228 [(0,a0),(1,a1)] h).bind fun v0 h0=>(K9 v0 h0).bind fun v1 h1=>(call F.B50 [a1] h1).bind fun v2 h2=>(A5 A0 .mul 3 (.int .i64 2) v2 h2).bind fun v3 h3=>(A5 A0 .add 3 v3 (.int .i64 128) h3).bind fun v4 h4=>(loopN (D5x k call) B8 [(2,a2),(8,v1),(9,v4)] h4).bind fun r11 h5=>
 D1m k call r11.1 r11.2 h5
theorem G6s(k:Nat)(a0 a1 a2:Value)(h:A2):R (T k) F.A8u [a0,a1,a2] h=nrm .no h (A8u k (R (T k)) a0 a1 a2 h) :=G9
theorem D1l(a2 a8 a9:Value)(h:A2):D5x k call [(2,a2),(8,a8),(9,a9)] h =
 (G8 a8 h).bind fun v0 h0=>(A1 A0 228 v0 4 h0).bind fun v1 h1=>(A3 A0 3 v1 h1).bind fun v2 h2=>(A5 A0 .lss 3 v2 a9 h2).bind fun v3 h3=>
 condV (some v3) (
 (call F.B2y [a8,a2] h3).bind fun v4 h4=>
 condV (some v4) (
 (G8 a8 h4).bind fun v5 h5=>(A1 A0 228 v5 4 h5).bind fun v6 h6=>(A3 A0 3 v6 h6).bind fun v7 h7=>
 .ok (.ret,[(6,v7),(7,(.int .i64 0))]) h7)
 (
 (G8 a8 h4).bind fun v8 h8=>(A1 A0 228 v8 5 h8).bind fun v9 h9=>(A3 A0 3 v9 h9).bind fun va ha=>(A5 A0 .gtr 3 va (.int .i64 64) ha).bind fun vb hb=>
 condV (some vb) (
 .ok ((.exit 0),[(2,a2),(8,a8),(9,a9),(35,vb)]) hb)
 (
 .ok (.normal,[(2,a2),(8,a8),(9,a9)]) hb)))
 (
 .ok ((.exit 0),[(2,a2),(8,a8),(9,a9),(23,v3)]) h3) :=
 (E2 _ _).trans (by kernel_rfl)
theorem G4a(a6 a7:Value)(h:A2):D1m k call .ret [(6,a6),(7,a7)] h =
 .ok (.tuple #[a6,a7]) h:=by kernel_rfl
theorem G3k(a2 a8 a9 a35:Value)(h:A2):D1m k call (.exit 0) [(2,a2),(8,a8),(9,a9),(35,a35)] h =
 (G8 a8 h).bind fun v0 h0=>(A1 A0 228 v0 4 h0).bind fun v1 h1=>(A3 A0 3 v1 h1).bind fun v2 h2=>
 .ok (.tuple #[v2,(.int .i64 4)]) h2:=by kernel_rfl
theorem G1g(a2 a8 a9 a23:Value)(h:A2):D1m k call (.exit 0) [(2,a2),(8,a8),(9,a9),(23,a23)] h =
 (G8 a8 h).bind fun v0 h0=>(A1 A0 228 v0 4 h0).bind fun v1 h1=>(A3 A0 3 v1 h1).bind fun v2 h2=>
 .ok (.tuple #[v2,(.int .i64 4)]) h2:=by kernel_rfl
def B38(k:Nat)(call:A8)(a0:Value)(h:A2):Res Value :=
 (K9 a0 h).bind fun v0 h0=>
 .ok (.func (.func F.B0c) #[] #[v0]) h0
theorem G5f(k:Nat)(a0:Value)(h:A2):R (T k) F.B38 [a0] h=nrm .gc h (B38 k (R (T k)) a0 h) :=G9
def B2y(k:Nat)(call:A8)(a0 a1:Value)(h:A2):Res Value :=
 (call F.B2w [a0] h).bind fun v0 h0=>(B5 v0 0 h0).bind fun v1 h1=>(B5 v0 1 h1).bind fun v2 h2=>(G8 a0 h2).bindN fun v3 h3=>(A1 A0 228 v3 0 h3).bindN fun v4 h4=>(A3 A0 159 v4 h4).bindN fun v5 h5=>(G8 a0 h5).bindN fun v6 h6=>(A1 A0 228 v6 2 h6).bindN fun v7 h7=>(A3 A0 3 v7 h7).bindN fun v8 h8=>(call F.A90 [v5,v8,v1] h8).bindT (fun p21 h9=>(D1 A0 129 h8).bindN fun v9 ha=>.panic p21 h9) fun va hb=>(B5 va 0 hb).bindN fun vb hc=>(B5 va 1 hc).bindN fun vc hd=>(D1 A0 129 hd).bindN fun vd he=>(B4 A0 129 vd vb he).bindN fun _ve hf=>(G8 a0 hf).bind fun vf hg=>(A1 A0 228 vf 4 hg).bind fun vg hh=>(A3 A0 3 vg hh).bind fun vh hi=>(A5 A0 .add 3 vh (.int .i64 1) hi).bind fun vi hj=>(G8 a0 hj).bind fun vj hk=>(A1 A0 228 vj 4 hk).bind fun vk hl=>(B4 A0 3 vk vi hl).bind fun _vl hm=>(A1 A0 129 vd 0 hm).bind fun vm hn=>(A3 A0 3 vm hn).bind fun vn ho=>(G8 a0 ho).bind fun vo hp=>(A1 A0 228 vo 2 hp).bind fun vp hq=>(B4 A0 3 vp vn hq).bind fun _vq hr=>(G8 a0 hr).bindN fun vr hs=>(A1 A0 228 vr 3 hs).bindN fun vs ht=>(A3 A0 3 vs ht).bindN fun vt hu=>(A3 A0 129 vd hu).bindN fun vu hv=>(callV call a1 [vt,vu] hv).bindT (fun p67 hw=>.panic p67 hw) fun vv hx=>(B5 vv 0 hx).bindN fun vw hy=>(B5 vv 1 hy).bindN fun vx hz=>(A1 A0 129 vd 1 hz).bind fun vy h10=>(A3 A0 3 vy h10).bind fun vz h11=>(A5 A0 .and 3 vz (.int .i64 16384) h11).bind fun v10 h12=>(A5 A0 .neq 3 v10 (.int .i64 0) h12).bind fun v11 h13=>
 condV (some v11) (
 (A6 A0 .max [3,3] [vw,(.int .i64 0)] h13).bind fun v12 h14=>(G8 a0 h14).bind fun v13 h15=>(A1 A0 228 v13 3 h15).bind fun v14 h16=>(B4 A0 3 v14 v12 h16).bind fun _v15 h17=>(G8 a0 h17).bind fun v16 h18=>(A1 A0 228 v16 5 h18).bind fun v17 h19=>(A3 A0 3 v17 h19).bind fun v18 h1a=>(A5 A0 .add 3 v18 (.int .i64 1) h1a).bind fun v19 h1b=>(G8 a0 h1b).bind fun v1a h1c=>(A1 A0 228 v1a 5 h1c).bind fun v1b h1d=>(B4 A0 3 v1b v19 h1d).bind fun _v1c h1e=>
 .ok (.bool false) h1e)
 (
 (A6 A0 .max [3,3] [vx,(.int .i64 0)] h13).bind fun v1d h1f=>(G8 a0 h1f).bind fun v1e h1g=>(A1 A0 228 v1e 3 h1g).bind fun v1f h1h=>(B4 A0 3 v1f v1d h1h).bind fun _v1g h1i=>(G8 a0 h1i).bind fun v1h h1j=>(A1 A0 228 v1h 5 h1j).bind fun v1i h1k=>(B4 A0 3 v1i (.int .i64 0) h1k).bind fun _v1j h1l=>
 .ok v2 h1l)
theorem E1s(k:Nat)(a0 a1:Value)(h:A2):R (T k) F.B2y [a0,a1] h=nrm .no h (B2y k (R (T k)) a0 a1 h) :=G9
def B0c(k:Nat)(call:A8)(a0 a1 a2:Value)(h:A2):Res Value :=
 (K9 a1 h).bind fun v0 h0=>(A3 A0 168 a2 h0).bind fun v1 h1=>(A3 A0 129 v0 h1).bind fun v2 h2=>(callV call v1 [a0,v2] h2).bind fun v3 h3=>(A5 A0 .add 3 a0 (.int .i64 1) h3).bind fun v4 h4=>
 .ok (.tuple #[a0,v4]) h4
theorem G2v(k:Nat)(a0 a1 a2:Value)(h:A2):R (T k) F.B0c [a0,a1,a2] h=nrm .no h (B0c k (R (T k)) a0 a1 a2 h) :=G9
def B2w(k:Nat)(call:A8)(a0:Value)(h:A2):Res Value :=
 (G8 a0 h).bindN fun v0 h0=>(A1 A0 228 v0 1 h0).bindN fun v1 h1=>(A3 A0 52 v1 h1).bindN fun v2 h2=>(G8 a0 h2).bindN fun v3 h3=>(A1 A0 228 v3 3 h3).bindN fun v4 h4=>(A3 A0 3 v4 h4).bindN fun v5 h5=>(call F.B0h [v2,v5] h5).bindT (fun p15 h6=>(D1 A0 150 h5).bindN fun v6 h7=>.panic p15 h6) fun v7 h8=>(B5 v7 0 h8).bindN fun v8 h9=>(B5 v7 1 h9).bindN fun v9 ha=>(D1 A0 150 ha).bindN fun va hb=>(B4 A0 150 va v8 hb).bindN fun _vb hc=>(unR .not v9 hc).bind fun vc hd=>
 condV (some vc) (
 .ok (.tuple #[(.int .i64 0),(.bool true)]) hd)
 (
 (G8 a0 hd).bindN fun vd he=>(A1 A0 228 vd 0 he).bindN fun ve hf=>(A3 A0 159 ve hf).bindN fun vf hg=>(A1 A0 150 va 0 hg).bindN fun vg hh=>(A3 A0 3 vg hh).bindN fun vh hi=>(call F.B0a [vf,vh] hi).bindT (fun p41 hj=>.panic p41 hj) fun vi hk=>
 .ok (.tuple #[vi,(.bool false)]) hk)
theorem G15(k:Nat)(a0:Value)(h:A2):R (T k) F.B2w [a0] h=nrm .gc h (B2w k (R (T k)) a0 h) :=G9
end
end Go.Sw
end
section
namespace Go.Sw
open Go.RowKit
theorem D2.stEnd{H0 H:A2}{A B:List It}{c:Nat}{cells:List Value}{e:Nat}(h:D2 H0 H (A++D9 c ⟨cells,e,false⟩ :: B))(off:Nat){v:Value}(hs:storable v=true)(hc:v.cells=#[v])(ho:off<cells.length) :
  ∃ H',stR 1 (.pointer (some ⟨c,off,none⟩)) v H=.ok undef H'∧D2 H0 H' (A++D9 c ⟨cells.set off v,e,false⟩ :: B):=by
 obtain⟨H',h1,h2,_⟩:=h.stCell A.length (c:=c) (cells:=cells) (e:=e) (by simp) off hs hc ho;exact⟨H',h1,by simpa using h2⟩
structure Drv where
 st:Int
 pl:Int
 stp:Int
 rest:Int
abbrev A5a(m:Q7)(c:Nat)(d:Drv):List Value:=[W0 m,B6 c,.int .i64 d.st,.int .i64 d.pl,.int .i64 d.stp,.int .i64 d.rest]
def A27(m:Q7)(l:List Gl)(pl:Int):Int × Bool:=match atG l pl with | some g=>(A1t m g.id,false) | none=>(0,true)
def A1i(m:Q7)(l:List Gl)(d:Drv):En:=(X2 m d.st (A27 m l d.pl).1).getD ⟨0,0,0,0⟩
abbrev B6k(e:En):Value:=.agg (E7 e).toArray
theorem A8k{α:Type}(x:α)(B:List α):∀ A:List α,(A++x :: B).take (A.length+1)=A++[x]
 | []=>rfl
 | a :: A=>by simp[A8k x B A]
theorem G9k(n:Nat):n &&& 2 ^ 14=if n.testBit 14 then 2 ^ 14 else 0:=by
 apply Nat.eq_of_testBit_eq;intro i;rw[Nat.testBit_and,Nat.testBit_two_pow];by_cases h:14=i
 ·subst h;cases hb:n.testBit 14 <;> simp <;> decide
 ·cases hb:n.testBit 14
  ·simp[h]
  ·simp only[h,decide_false,Bool.and_false,if_true,Nat.testBit_two_pow]
theorem D7h(P:Program)(t:TypeId)(H:A2){a:Int}(h0:0≤a)(h1:a<65536):A5 P .and t (.int .i64 a) (.int .i64 16384) H=.ok (.int .i64 (if a / 16384 % 2=1 then 16384 else 0)) H:=by
 have e:(BitVec.ofInt 64 a &&& BitVec.ofInt 64 16384).toNat=(if a / 16384 % 2=1 then 16384 else 0):=by
  rw[BitVec.toNat_and,BitVec.toNat_ofInt,BitVec.toNat_ofInt];rw[show ((16384:Int) % ((2 ^ 64:Nat):Int)).toNat=2 ^ 14 from by decide,G9k,Nat.testBit_eq_decide_div_mod_eq];obtain⟨n,rfl⟩:=Int.eq_ofNat_of_zero_le h0;rw[show (((n:Int)) % ((2 ^ 64:Nat):Int)).toNat=n by omega];by_cases h:(n:Int) / 16384 % 2=1
  ·rw[if_pos h,decide_eq_true (show n / 2 ^ 14 % 2=1 by omega)]; rfl
  ·rw[if_neg h,decide_eq_false (show ¬ n / 2 ^ 14 % 2=1 by omega)]; rfl
 have e1:A0n P .and t (.int .i64 a) (.int .i64 16384)=some (.int .i64 (IntKind.i64.wrap (BitVec.ofInt 64 a &&& BitVec.ofInt 64 16384).toNat)):=rfl;unfold A5;rw[e1,e];by_cases h:a / 16384 % 2=1
 ·simp[h]
 ·simp[h]
theorem G4b(k:Nat)(m:Q7)(hm:m.ok){H0 H:A2}{L:List It}(h:D2 H0 H L){c q:Nat}{o:Option Nat}{l:List Gl}{d:Drv}(i:Nat)(hi:L[i]?=some (A0v c o l))(hq:H.get q=some ⟨A5a m c d,1,false⟩) :
  R (T k) F.B2w [B6 q] H=.ok (.tuple #[.int .i64 (A27 m l d.pl).1,.bool (A27 m l d.pl).2]) H:=by
 rw[G15];have hat:=D6h k h i hi d.pl;have fl:∀ (a:Int) b,D3 (.tuple #[.int .i64 a,.bool b]):=fun a b=>.tupleL (.cons (.int _ _) (.cons (.bool _) .nil));unfold A27;have hqn:¬ q=H.n:=by have:=A2.get_lt hq; omega
 cases ha:atG l d.pl with
 | none=>
  rw[ha] at hat;refine D8 ⟨H.push ⟨[.int .i64 0,.int .i64 0],1,false⟩,?_,(Ext.refl H).push _⟩ (fl _ _).alive;unfold A4t at hat;simp at hat;simp -implicitDefEqProofs(disch:=omega) [B2w,hq,hat]
 | some g=>
  rw[ha] at hat;have hc:=fun H'=>G9f k m hm g.id H';refine D8 ⟨H.push ⟨V5 g,1,false⟩,?_,(Ext.refl H).push _⟩ (fl _ _).alive;unfold A4t at hat;simp at hat;simp -implicitDefEqProofs(disch:=omega) [B2w,hq,hqn,hat,hc]
theorem G87 {m:Q7} (hm:m.ok) (l:List Gl) (d:Drv):let e:=A1i m l d; 0≤e.next∧e.next<65536∧0≤e.flags∧e.flags<65536∧0≤e.a∧e.a<65536∧0≤e.b∧e.b<65536:=by
 dsimp only;unfold A1i;cases h:X2 m d.st (A27 m l d.pl).1 with
 | none=>simp
 | some x=>
  have hx:x ∈ m.ents:=by
   unfold X2 at h;split at h
   ·obtain⟨r,_,h⟩:=Option.bind_eq_some_iff.1 h;obtain⟨y,_,h⟩:=Option.bind_eq_some_iff.1 h;exact List.mem_of_getElem? h
   ·cases h
  have:=hm.ent x hx;have:=hm.two;simp only[Option.getD_some];omega
theorem B6s{ps:List Pt}(hok:∀ p,p ∈ ps→p.ok){id x:Int}(h:A28 ps id=some x):0≤x:=by
 unfold A28 at h;obtain⟨p,hp,h⟩:=Option.bind_eq_some_iff.1 h;split at h
 ·exact ((hok p (List.mem_of_find?_eq_some hp)).2.2.2.2.2 x (List.mem_of_getElem? h)).1
 ·cases h
theorem G61{m:Q7}(hm:m.ok)(id:Int):0≤A1t m id∧A1t m id<m.classes:=by
 have:=hm.cl;unfold A1t;split
 ·omega
 ·split
  ·rename_i c hc;have:=B6s hm.pts hc;split <;> omega
  ·omega
theorem G81{m:Q7}(hm:m.ok)(l:List Gl)(p:Int):0≤(A27 m l p).1∧(A27 m l p).1<m.classes:=by
 have:=hm.cl;unfold A27;split
 ·exact G61 hm _
 ·dsimp only; omega
theorem A7w{m:Q7}(hm:m.ok)(l:List Gl)(d:Drv)(h:0≤d.st∧d.st<m.rows.length):A1i m l d ∈ m.ents:=by
 have hc:=G81 hm l d.pl;obtain⟨r,x,e,_,_,_,he,hs⟩:=D6s hm (s:=d.st) (c:=(A27 m l d.pl).1) ⟨h.1,h.2,hc.1,hc.2⟩;unfold A1i;rw[hs];exact List.mem_of_getElem? he
variable {σ:Type}
def B5m(k:Nat)(m:Q7)(H0:A2)(W:σ→List It)(Inv:σ→Prop)(a:Value)(f:σ→Int→En→σ × Int × Int):Prop :=
 ∀ s i e H X,Inv s→D2 H0 H (W s++X)→0≤i→i<2 ^ 50→e ∈ m.ents →
  ∃ H',callV (R (T k)) a [.int .i64 i,B6k e] H=.ok (.tuple #[.int .i64 (f s i e).2.1,.int .i64 (f s i e).2.2]) H'∧D2 H0 H' (W (f s i e).1++X)∧Inv (f s i e).1∧(f s i e).2.1≤i+128∧(f s i e).2.2≤i+128
def U6(m:Q7)(ln:σ→List Gl)(f:σ→Int→En→σ × Int × Int)(x:σ × Drv):(σ × Drv) × Bool :=
 if (A1i m (ln x.1) x.2).flags / 16384 % 2=1 then (((f x.1 x.2.pl (A1i m (ln x.1) x.2)).1,⟨(A1i m (ln x.1) x.2).next,max (f x.1 x.2.pl (A1i m (ln x.1) x.2)).2.1 0,x.2.stp+1,x.2.rest+1⟩),false)
 else (((f x.1 x.2.pl (A1i m (ln x.1) x.2)).1,⟨(A1i m (ln x.1) x.2).next,max (f x.1 x.2.pl (A1i m (ln x.1) x.2)).2.2 0,x.2.stp+1,0⟩),(A27 m (ln x.1) x.2.pl).2)
set_option maxHeartbeats 2000000 in
theorem G4n(k:Nat)(m:Q7)(hm:m.ok){H0 H:A2}(W:σ→List It)(Inv:σ→Prop)(ln:σ→List Gl)(c:Nat)(hW:∀ s,∃ (i:Nat) (o:Option Nat),(W s)[i]?=some (A0v c o (ln s)))(a:Value)(f:σ→Int→En→σ × Int × Int)(ha:B5m k m H0 W Inv a f)
  (X:List It) (q:Nat) (s:σ) (d:Drv) (hI:Inv s) (h:D2 H0 H (W s++X++[D9 q ⟨A5a m c d,1,false⟩])) (hp:0≤d.pl∧d.pl<2 ^ 50) (hst:0≤d.stp∧d.stp<2 ^ 50) (hr:0≤d.rest∧d.rest<2 ^ 50) (hse:0≤d.st∧d.st<m.rows.length) :
  ∃ H',R (T k) F.B2y [B6 q,a] H=.ok (.bool (U6 m ln f (s,d)).2) H'∧D2 H0 H' (W (U6 m ln f (s,d)).1.1++X++[D9 q ⟨A5a m c (U6 m ln f (s,d)).1.2,1,false⟩])∧Inv (U6 m ln f (s,d)).1.1∧(U6 m ln f (s,d)).1.2.pl≤d.pl+128∧0≤(U6 m ln f (s,d)).1.2.st∧(U6 m ln f (s,d)).1.2.st<m.rows.length:=by
 obtain ⟨i,o,ho⟩:=hW s;have hq:=h.memBlk (c:=q) (k:=⟨A5a m c d,1,false⟩) (by simp);have hline:(W s++X++[D9 q ⟨A5a m c d,1,false⟩])[i]?=some (A0v c o (ln s)):=by
  have h0:i<(W s).length:=(List.getElem?_eq_some_iff.1 ho).1;rw[List.append_assoc,List.getElem?_append_left h0];exact ho
 have hcls:=G4b k m hm h i hline hq;have hstep:=fun H'=>B5w k m hm d.st (A27 m (ln s) d.pl).1 H';have heb:=G87 hm (ln s) d;have hmem:=A7w hm (ln s) d hse;have hnx:=hm.ent _ hmem;have hee:Z9 (X2 m d.st (A27 m (ln s) d.pl).1)=B6k (A1i m (ln s) d):=rfl;rw[hee] at hstep;have hx:=ha s d.pl (A1i m (ln s) d);unfold U6;dsimp only;generalize (X2 m d.st (A27 m (ln s) d.pl).1).isSome=z at hstep;generalize (A27 m (ln s) d.pl)=cl at hcls hstep;generalize A1i m (ln s) d=e at hstep heb hx hmem hnx ⊢;dsimp only at heb;generalize f s d.pl e=r at hx ⊢;have g:=h.push ⟨E7 e,1,false⟩;rw[List.append_assoc,List.singleton_append] at g;have hqn:¬ q=H.n:=by have:=A2.get_lt hq; omega
 obtain⟨H2,e2,g⟩:=g.stEnd 4 (v:=.int .i64 (d.stp+1)) rfl rfl (by simp);simp only[List.set_cons_zero,List.set_cons_succ] at g;have he2:=g.memBlk (c:=H.n) (k:=⟨E7 e,1,false⟩) (by simp);have hq2:=g.memBlk (c:=q) (k:=⟨[W0 m,B6 c,.int .i64 d.st,.int .i64 d.pl,.int .i64 (d.stp+1),.int .i64 d.rest],1,false⟩) (by simp);obtain⟨H3,e3,g⟩:=g.stEnd 2 (v:=.int .i64 e.next) rfl rfl (by simp);simp only[List.set_cons_zero,List.set_cons_succ] at g;have hq3:=g.memBlk (c:=q) (k:=⟨[W0 m,B6 c,.int .i64 e.next,.int .i64 d.pl,.int .i64 (d.stp+1),.int .i64 d.rest],1,false⟩) (by simp);have he3:=g.memBlk (c:=H.n) (k:=⟨E7 e,1,false⟩) (by simp);rw[List.append_assoc] at g;obtain⟨H4,e4,g4,hI4,hs4,ho4⟩:=hx H3 _ hI g hp.1 hp.2 hmem;rw[← List.append_assoc] at g4;have hq4:=g4.memBlk (c:=q) (k:=⟨[W0 m,B6 c,.int .i64 e.next,.int .i64 d.pl,.int .i64 (d.stp+1),.int .i64 d.rest],1,false⟩) (by simp);have he4:=g4.memBlk (c:=H.n) (k:=⟨E7 e,1,false⟩) (by simp);have han:=fun H=>D7h A0 3 H heb.2.2.1 heb.2.2.2.1;rw[List.append_assoc] at g4;by_cases hfl:e.flags / 16384 % 2=1
 ·rw[if_pos hfl];rw[if_pos hfl] at han;have hmx:(if 0>r.2.1 then 0 else r.2.1)=max r.2.1 0:=by split <;> omega
  obtain⟨H5,e5,g5⟩:=D2.stEnd (A:=W r.1++X) (by simpa using g4) 3 (v:=.int .i64 (max r.2.1 0)) rfl rfl (by simp);simp only[List.set_cons_zero,List.set_cons_succ] at g5;have hq5:=g5.memBlk (c:=q) (k:=⟨[W0 m,B6 c,.int .i64 e.next,.int .i64 (max r.2.1 0),.int .i64 (d.stp+1),.int .i64 d.rest],1,false⟩) (by simp);obtain⟨H6,e6,g6⟩:=g5.stEnd 5 (v:=.int .i64 (d.rest+1)) rfl rfl (by simp);simp only[List.set_cons_zero,List.set_cons_succ] at g6;refine⟨H6,?_,?_,hI4,by dsimp only; omega,hnx.1,hnx.2.1⟩
  ·rw[E1s];simp -implicitDefEqProofs(disch:=omega) [-Q3,B2y,hcls,hq,hqn,hstep,Q3 4 H.n 0,e2,hq2,he2,e3,hq3,he3,e4,hq4,he4,han,hmx,e5,hq5,e6]
  ·have:=g6.take ((W r.1++X).length+1);rw[A8k] at this;exact this
 ·rw[if_neg hfl];rw[if_neg hfl] at han;have hmx:(if 0>r.2.2 then 0 else r.2.2)=max r.2.2 0:=by split <;> omega
  obtain⟨H5,e5,g5⟩:=D2.stEnd (A:=W r.1++X) (by simpa using g4) 3 (v:=.int .i64 (max r.2.2 0)) rfl rfl (by simp);simp only[List.set_cons_zero,List.set_cons_succ] at g5;have hq5:=g5.memBlk (c:=q) (k:=⟨[W0 m,B6 c,.int .i64 e.next,.int .i64 (max r.2.2 0),.int .i64 (d.stp+1),.int .i64 d.rest],1,false⟩) (by simp);obtain⟨H6,e6,g6⟩:=g5.stEnd 5 (v:=.int .i64 0) rfl rfl (by simp);simp only[List.set_cons_zero,List.set_cons_succ] at g6;refine⟨H6,?_,?_,hI4,by dsimp only; omega,hnx.1,hnx.2.1⟩
  ·rw[E1s];simp -implicitDefEqProofs(disch:=omega) [-Q3,B2y,hcls,hq,hqn,hstep,Q3 4 H.n 0,e2,hq2,he2,e3,hq3,he3,e4,hq4,he4,han,hmx,bne,e5,hq5,e6]
  ·have:=g6.take ((W r.1++X).length+1);rw[A8k] at this;exact this
def E98(vs:List Int)(a:Int):Bool:=(List.range (vs.length / 2)).any fun i=>decide (a≤(i:Int)∧gU vs (2*(i:Int)) 2 % 2=1)
structure D7f where
 m:Q7
 vals:List Int
structure D7f.ok (t:D7f):Prop where
 m:t.m.ok
 byt:Byt t.vals
 len:t.vals.length<2 ^ 31
 has:∀ e,e ∈ t.m.ents→e.a=65535∨E98 t.vals e.a=true
def A3e(p:Nat)(o:Option Nat)(down:Bool)(l:List Pl):It :=
 ⟨fpP p o,fun H=>A2i H p o down l,fun _ _ h hk=>h.up (hk p (by simp[fpP])) fun b hb=>hk b (by simp[fpP,hb])⟩
theorem D2.pl{H0 H:A2}{L:List It}(h:D2 H0 H L)(i:Nat){p:Nat}{o:Option Nat}{down:Bool}{l:List Pl}(hi:L[i]?=some (A3e p o down l)):A2i H p o down l:=h.at i hi
theorem D2.plStep{H0 H H2:A2}{L:List It}(h:D2 H0 H L)(i:Nat){p:Nat}{o:Option Nat}{down:Bool}{l l2:List Pl}(hi:L[i]?=some (A3e p o down l))(hp:A2i H2 p o down l2)(hk:Q6 (fpP p o) H H2):D2 H0 H2 (L.set i (A3e p o down l2)) :=
 h.step i hi hk.1 (fun c hc hs=>hk.2 c hc hs) _ hp fun b hb=>.inl hb
theorem G91(k:Nat){H0 H:A2}{L:List It}(h:D2 H0 H L)(i:Nat){p:Nat}{o:Option Nat}{down:Bool}{l:List Pl}(hi:L[i]?=some (A3e p o down l))(hok:∀ q,q ∈ l→q.ok)(j x y:Int) :
  ∃ H2,R (T k) F.B2x [B6 p,.int .i64 j,.int .i64 x,.int .i64 y] H=.ok (.tuple #[]) H2∧D2 H0 H2 (L.set i (A3e p o down (A00 l j fun q=>⟨q.adv,N6 q.x x,N6 q.y y⟩))):=by
 obtain⟨H2,e,h1,h2⟩:=G9h k (h.pl i hi) hok j x y;exact⟨H2,e,h.plStep i hi h1 h2⟩
theorem G4s(k:Nat){H0 H:A2}{L:List It}(h:D2 H0 H L)(dir:Int)(l:List Int)(hl:l.length≤2 ^ 20){av:Value}(hv:Sl H 1 av N3 l) :
  ∃ o H',R (T k) F.A9a [.int .i64 dir,av] H=.ok (B6 H.n) H'∧D2 H0 H' (L++[A3e H.n o (dir == 2) (V7 l)]):=by
 obtain⟨H',o,e,h1,h2,h3⟩:=B5o k dir l hl H hv;refine⟨o,H',e,h.more h3 _ h1 fun b hb=>?_⟩;have hlt:=h1.lt;rcases List.mem_cons.1 hb with rfl | hb
 ·omega
 ·have:=h2 b (Option.mem_toList.1 hb);have:=h1.lto b (Option.mem_toList.1 hb);omega
theorem E3o(k:Nat)(hk:k<1000000){H0 H:A2}{L:List It}(h:D2 H0 H L)(i:Nat){p:Nat}{o:Option Nat}{down:Bool}{l:List Pl}(hi:L[i]?=some (A3e p o down l))(hl:l.length≤2 ^ 20):R (T k) F.B21 [B6 p] H=.ok (lv U0 l) H:=B9d k hk (h.pl i hi) hl
end Go.Sw
end
section
namespace Go.Sw
open Go.RowKit
variable {σ:Type}
def A42 (m:Q7) (ln:σ→List Gl) (f:σ→Int→En→σ × Int × Int) (most:Int):Nat→σ × Drv→Int × Int × σ
  | 0,x=>(x.2.stp,4,x.1)
  | n + 1,x=>if x.2.stp<most then
      (if (U6 m ln f x).2 then ((U6 m ln f x).1.2.stp,0,(U6 m ln f x).1.1)
       else if (U6 m ln f x).1.2.rest>64 then ((U6 m ln f x).1.2.stp,4,(U6 m ln f x).1.1)
       else A42 m ln f most n (U6 m ln f x).1)
    else (x.2.stp,4,x.1)
theorem J14(m:Q7)(ln:σ→List Gl)(f:σ→Int→En→σ × Int × Int)(x:σ × Drv):(U6 m ln f x).1.2.stp=x.2.stp+1:=by unfold U6; split <;> rfl
theorem B1r(m:Q7)(ln:σ→List Gl)(f:σ→Int→En→σ × Int × Int)(x:σ × Drv):0≤(U6 m ln f x).1.2.pl:=by unfold U6; split <;> (dsimp only; omega)
theorem G93(m:Q7)(ln:σ→List Gl)(f:σ→Int→En→σ × Int × Int)(x:σ × Drv)(h:0≤x.2.rest):0≤(U6 m ln f x).1.2.rest∧(U6 m ln f x).1.2.rest≤x.2.rest+1:=by unfold U6; split <;> (dsimp only; omega)
set_option maxHeartbeats 1000000 in
theorem G5e (k:Nat) (m:Q7) (hm:m.ok) {H0 H:A2} (W:σ→List It) (Inv:σ→Prop) (ln:σ→List Gl) (c:Nat) (hW:∀ s,∃ (i:Nat) (o:Option Nat),(W s)[i]?=some (A0v c o (ln s))) (a:Value) (f:σ→Int→En→σ × Int × Int) (ha:B5m k m H0 W Inv a f)
  (X:List It) (s:σ) (hI:Inv s) (h:D2 H0 H (W s++X)) (hl:(ln s).length<2 ^ 40) :
  ∃ H',R (T k) F.A8u [W0 m,B6 c,a] H=.ok (.tuple #[.int .i64 (A42 m ln f (2*(ln s).length+128) (2*(ln s).length+128) (s,⟨0,0,0,0⟩)).1,.int .i64 (A42 m ln f (2*(ln s).length+128) (2*(ln s).length+128) (s,⟨0,0,0,0⟩)).2.1]) H' ∧
   D2 H0 H' (W (A42 m ln f (2*(ln s).length+128) (2*(ln s).length+128) (s,⟨0,0,0,0⟩)).2.2++X)∧Inv (A42 m ln f (2*(ln s).length+128) (2*(ln s).length+128) (s,⟨0,0,0,0⟩)).2.2:=by
 rw[G6s];obtain⟨N,hN⟩:∃ N,N=2*(ln s).length+128:=⟨_,rfl⟩
 have hNi:(2*((ln s).length:Int)+128)=(N:Int):=by omega
 obtain⟨x0,hx0⟩:∃ x0:σ × Drv,x0=(s,⟨0,0,0,0⟩):=⟨_,rfl⟩
 rw [← hN,hNi,← hx0];generalize hR0:A42 m ln f (N:Int) N x0=R0;have g:=h.push ⟨A5a m c ⟨0,0,0,0⟩,1,false⟩;obtain⟨i,o,ho⟩:=hW s;have hline:(W s++X++[D9 H.n ⟨A5a m c ⟨0,0,0,0⟩,1,false⟩])[i]?=some (A0v c o (ln s)):=by
  have h0:i<(W s).length:=(List.getElem?_eq_some_iff.1 ho).1;rw[List.append_assoc,List.getElem?_append_left h0];exact ho
 have hlen:=G71 k g i hline
 obtain ⟨e,eE,H1,hr1,hQ⟩:=K5 (body:=D5x k (R (T k))) N
  (fun j e H'=>e=[(2,a),(8,B6 H.n),(9,.int .i64 N)]∧∃ x:σ × Drv,D2 H0 H' (W x.1++X++[D9 H.n ⟨A5a m c x.2,1,false⟩])∧Inv x.1∧x.2.stp=j∧0≤x.2.pl∧x.2.pl≤128*j∧0≤x.2.rest∧x.2.rest≤j∧(0≤x.2.st∧x.2.st<m.rows.length)∧A42 m ln f N (N - j) x=R0)
  (fun x' e H'=>∃ r:Int × Int × σ,r=R0∧∃ d:Drv,D2 H0 H' (W r.2.2++X++[D9 H.n ⟨A5a m c d,1,false⟩])∧Inv r.2.2 ∧
   ((x'=.ret∧e=[(6,.int .i64 r.1),(7,.int .i64 0)]∧r.2.1=0)∨(x'=.exit 0∧d.stp=r.1∧r.2.1=4∧(e=[(2,a),(8,B6 H.n),(9,.int .i64 N),(35,.bool true)]∨e=[(2,a),(8,B6 H.n),(9,.int .i64 N),(23,.bool false)]))))
  (e0:=[(2,a),(8,B6 H.n),(9,.int .i64 N)]) (H0:=H.push ⟨A5a m c ⟨0,0,0,0⟩,1,false⟩)
  ⟨rfl,x0,by rw[hx0]; exact g,by rw[hx0]; exact hI,by rw[hx0]; rfl,by rw[hx0]; exact Int.le_refl _,by rw[hx0]; exact Int.le_refl _,by rw[hx0]; exact Int.le_refl _,by rw[hx0]; exact Int.le_refl _,by rw[hx0]; have:=hm.two; dsimp only; omega,by rw[Nat.sub_zero]; exact hR0⟩ (by omega)
  (fun j e H' hj ⟨he,x,g,hI,h1,h2,h3,h4,h5,hse,hrun⟩=>by
   subst he;obtain⟨H2,e2,g2,hI2,h6,h7⟩:=G4n k m hm W Inv ln c hW a f ha X H.n x.1 x.2 hI g (by omega) (by omega) (by omega) hse;have hq:=g.memBlk (c:=H.n) (k:=⟨A5a m c x.2,1,false⟩) (by simp);have p1:=J14 m ln f x;have p2:=B1r m ln f x;have p3:=G93 m ln f x h4;have hlt:x.2.stp<(N:Int):=by omega
   have hNj:N - j=(N - (j+1))+1:=by omega
   rw[hNj] at hrun;unfold A42 at hrun;rw[if_pos hlt] at hrun;have hxx:(x.1,x.2)=x:=rfl;rw[hxx] at e2 g2 hI2 h6 h7;generalize U6 m ln f x=y at *;have hq2:=g2.memBlk (c:=H.n) (k:=⟨A5a m c y.1.2,1,false⟩) (by simp);cases hy:y.2 with
   | true=>
    rw[hy] at hrun e2;simp only[if_true] at hrun;refine .inr ⟨.ret,_,H2,?_,by simp,_,hrun,y.1.2,g2,hI2,.inl ⟨rfl,rfl,rfl⟩⟩;rw[D1l];simp -implicitDefEqProofs(disch:=omega) [hq,hlt,e2,hq2]
   | false=>
    rw[hy] at hrun e2;simp only[Bool.false_eq_true,if_false] at hrun;by_cases hr:y.1.2.rest>64
    ·rw[if_pos hr] at hrun;refine .inr ⟨.exit 0,_,H2,?_,by simp,_,hrun,y.1.2,g2,hI2,.inr ⟨rfl,rfl,rfl,.inl rfl⟩⟩;rw[D1l];simp -implicitDefEqProofs(disch:=omega) [hq,hlt,e2,hq2,hr]
    ·rw[if_neg hr] at hrun;refine .inl ⟨_,H2,?_,rfl,y.1,g2,hI2,by omega,p2,by omega,p3.1,by omega,h7,hrun⟩;rw[D1l];simp -implicitDefEqProofs(disch:=omega) [hq,hlt,e2,hq2,hr])
  (fun e H' ⟨he,x,g,hI,h1,h2,h3,h4,h5,hse,hrun⟩=>by
   subst he;rw[Nat.sub_self] at hrun;have hq:=g.memBlk (c:=H.n) (k:=⟨A5a m c x.2,1,false⟩) (by simp);refine⟨.exit 0,_,H',?_,by simp,_,hrun,x.2,g,hI,.inr ⟨rfl,rfl,rfl,.inr rfl⟩⟩;have hnl:¬ x.2.stp<(N:Int):=by omega
   rw[D1l];simp -implicitDefEqProofs(disch:=omega) [hq,hnl])
 obtain⟨r,hr,d,g,hIr,hcase⟩:=hQ;subst hr;have hq:=g.memBlk (c:=H.n) (k:=⟨A5a m c d,1,false⟩) (by simp);have gX:D2 H0 H1 (W r.2.2++X):=g.ζk1;refine⟨H1,?_,gX,hIr⟩;rcases hcase with⟨rfl,rfl,hc⟩ | ⟨rfl,hd,hc,rfl | rfl⟩
 ·rw[hc];simp -implicitDefEqProofs(disch:=omega) [A8u,hlen,hNi,hr1,G4a]
 ·rw[hc];simp -implicitDefEqProofs(disch:=omega) [A8u,hlen,hNi,hr1,G3k,hq,hd]
 ·rw[hc];simp -implicitDefEqProofs(disch:=omega) [A8u,hlen,hNi,hr1,G1g,hq,hd]
end Go.Sw
end
