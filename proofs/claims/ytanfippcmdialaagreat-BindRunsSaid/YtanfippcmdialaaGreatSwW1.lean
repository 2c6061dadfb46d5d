/-
  Functions' forms, and what is proved of them, part 1.
-/
import Derived.Test.YtanfippcmdialaaGreatSwCfg
import Derived.Test.YtanfippcmdialaaGreatSwLib8
set_option linter.unusedSimpArgs false
set_option linter.unusedVariables false
set_option linter.unusedSectionVars false
section
set_option maxRecDepth 100000
namespace Go.Sw
noncomputable section
variable (k:Nat) (call:A8)
def A11(k:Nat)(call:A8)(a0:Value)(h:A2):Res Value :=
 (D1 A0 113 h).bind fun v0 h0=>(E0 A0 113 [(0,a0)] h0).bind fun v1 h1=>(B4 A0 113 v0 v1 h1).bind fun _v2 h2=>(A3 A0 113 v0 h2).bind fun v3 h3=>
 .ok v3 h3
theorem J1b(k:Nat)(a0:Value)(h:A2):R (T k) F.A11 [a0] h=nrm .gc h (A11 k (R (T k)) a0 h) :=G9
def B34(k:Nat)(call:A8)(a0:Value)(h:A2):Res Value :=
 (K9 a0 h).bind fun v0 h0=>(B9 A0 22 0 [] h0).bind fun v1 h1=>(A1 A0 113 v0 0 h1).bind fun v2 h2=>(A3 A0 22 v2 h2).bind fun v3 h3=>(A6 A0 .append [22,22] [v1,v3] h3).bind fun v4 h4=>
 .ok v4 h4
theorem G3g(k:Nat)(a0:Value)(h:A2):R (T k) F.B34 [a0] h=nrm .fz h (B34 k (R (T k)) a0 h) :=G9
def ζc(k:Nat)(call:A8)(a0 a1:Value)(h:A2):Res Value :=
 (K9 a0 h).bind fun v0 h0=>(A3 A0 113 v0 h0).bind fun v1 h1=>(call F.ζx [v1,a1,(.int .i64 2)] h1).bind fun v2 h2=>(A9 A0 22 v2 (.int .i64 0) h2).bindN fun v3 h3=>(A3 A0 5 v3 h3).bindN fun v4 h4=>(M9 A0 5 3 v4 h4).bindN fun v5 h5=>(A5 A0 .shl 3 v5 (.int .u64 8) h5).bindN fun v6 h6=>(A9 A0 22 v2 (.int .i64 1) h6).bindN fun v7 h7=>(A3 A0 5 v7 h7).bindN fun v8 h8=>(M9 A0 5 3 v8 h8).bindN fun v9 h9=>(A5 A0 .or 3 v6 v9 h9).bindN fun va ha=>
 .ok va ha
theorem G4k(k:Nat)(a0 a1:Value)(h:A2):R (T k) F.ζc [a0,a1] h=nrm .gc h (ζc k (R (T k)) a0 a1 h) :=G9
def ζv(k:Nat)(call:A8)(a0 a1:Value)(h:A2):Res Value :=
 (K9 a0 h).bind fun v0 h0=>(A3 A0 113 v0 h0).bind fun v1 h1=>(call F.ζx [v1,a1,(.int .i64 4)] h1).bind fun v2 h2=>(A9 A0 22 v2 (.int .i64 0) h2).bindN fun v3 h3=>(A3 A0 5 v3 h3).bindN fun v4 h4=>(M9 A0 5 3 v4 h4).bindN fun v5 h5=>(A5 A0 .shl 3 v5 (.int .u64 24) h5).bindN fun v6 h6=>(A9 A0 22 v2 (.int .i64 1) h6).bindN fun v7 h7=>(A3 A0 5 v7 h7).bindN fun v8 h8=>(M9 A0 5 3 v8 h8).bindN fun v9 h9=>(A5 A0 .shl 3 v9 (.int .u64 16) h9).bindN fun va ha=>(A5 A0 .or 3 v6 va ha).bindN fun vb hb=>(A9 A0 22 v2 (.int .i64 2) hb).bindN fun vc hc=>(A3 A0 5 vc hc).bindN fun vd hd=>(M9 A0 5 3 vd hd).bindN fun ve he=>(A5 A0 .shl 3 ve (.int .u64 8) he).bindN fun vf hf=>(A5 A0 .or 3 vb vf hf).bindN fun vg hg=>(A9 A0 22 v2 (.int .i64 3) hg).bindN fun vh hh=>(A3 A0 5 vh hh).bindN fun vi hi=>(M9 A0 5 3 vi hi).bindN fun vj hj=>(A5 A0 .or 3 vg vj hj).bindN fun vk hk=>
 .ok vk hk
theorem G4l(k:Nat)(a0 a1:Value)(h:A2):R (T k) F.ζv [a0,a1] h=nrm .gc h (ζv k (R (T k)) a0 a1 h) :=G9
def A37(k:Nat)(call:A8)(a0:Value)(h:A2):Res Value :=
 (unR .not a0 h).bind fun v0 h0=>
 condV (some v0) (
 (call F.B3h [] h0).bind fun v1 h1=>
 .ok (.tuple #[]) h1)
 (
 .ok (.tuple #[]) h0)
theorem E4k(k:Nat)(a0:Value)(h:A2):R (T k) F.A37 [a0] h=nrm .gc h (A37 k (R (T k)) a0 h) :=G9
def A70(k:Nat)(call:A8)(a0 a1 a2:Value)(h:A2):Res Value :=
 (K9 a0 h).bind fun v0 h0=>(D1 A0 113 h0).bind fun v1 h1=>(A3 A0 113 v0 h1).bind fun v2 h2=>(call F.ζx [v2,a1,a2] h2).bind fun v3 h3=>(E0 A0 113 [(0,v3)] h3).bind fun v4 h4=>(B4 A0 113 v1 v4 h4).bind fun _v5 h5=>(A3 A0 113 v1 h5).bind fun v6 h6=>
 .ok v6 h6
theorem G4i(k:Nat)(a0 a1 a2:Value)(h:A2):R (T k) F.A70 [a0,a1,a2] h=nrm .gc h (A70 k (R (T k)) a0 a1 a2 h) :=G9
def A4v(k:Nat)(call:A8)(a0 a1:Value)(h:A2):Res Value :=
 (K9 a0 h).bind fun v0 h0=>(D1 A0 113 h0).bind fun v1 h1=>(A3 A0 113 v0 h1).bind fun v2 h2=>(A1 A0 113 v0 0 h2).bind fun v3 h3=>(A3 A0 22 v3 h3).bind fun v4 h4=>(A6 A0 .len [22] [v4] h4).bind fun v5 h5=>(A5 A0 .sub 3 v5 a1 h5).bind fun v6 h6=>(A6 A0 .max [3,3] [v6,(.int .i64 0)] h6).bind fun v7 h7=>(call F.ζx [v2,a1,v7] h7).bind fun v8 h8=>(E0 A0 113 [(0,v8)] h8).bind fun v9 h9=>(B4 A0 113 v1 v9 h9).bind fun _va ha=>(A3 A0 113 v1 ha).bind fun vb hb=>
 .ok vb hb
theorem G42(k:Nat)(a0 a1:Value)(h:A2):R (T k) F.A4v [a0,a1] h=nrm .gc h (A4v k (R (T k)) a0 a1 h) :=G9
def A64(k:Nat)(call:A8)(a0 a1:Value)(h:A2):Res Value :=
 (K9 a0 h).bind fun v0 h0=>(A3 A0 113 v0 h0).bind fun v1 h1=>(call F.ζc [v1,a1] h1).bind fun v2 h2=>(M9 A0 3 125 v2 h2).bind fun v3 h3=>(M9 A0 125 3 v3 h3).bind fun v4 h4=>
 .ok v4 h4
theorem G4j(k:Nat)(a0 a1:Value)(h:A2):R (T k) F.A64 [a0,a1] h=nrm .gc h (A64 k (R (T k)) a0 a1 h) :=G9
def ζw(k:Nat)(call:A8)(a0 a1 a2 a3:Value)(h:A2):Res Value :=
 (K9 a0 h).bind fun v0 h0=>(D1 A0 113 h0).bind fun v1 h1=>(A5 A0 .geq 3 a2 (.int .i64 0) h1).bind fun v2 h2=>(wV v2 true (Res.ok a3 h2) h2).bind fun v3 h3=>(wV v2 true (A5 A0 .geq 3 v3 (.int .i64 0) h3) h3).bind fun v4 h4=>(condV (some v2) (Res.ok v4 h4) (Res.ok (.bool false) h4)).bind fun v5 h5=>(wV v5 true (Res.ok a3 h5) h5).bind fun v6 h6=>(wV v5 true (A5 A0 .eql 3 v6 (.int .i64 0) h6) h6).bind fun v7 h7=>(wV v5 true (Res.ok v7 h7) h7).bind fun v8 h8=>(wV v8 false (Res.ok a2 h8) h8).bind fun v9 h9=>(wV v8 false (A1 A0 113 v0 0 h9) h9).bind fun va ha=>(wV v8 false (A3 A0 22 va ha) ha).bind fun vb hb=>(wV v8 false (A6 A0 .len [22] [vb] hb) hb).bind fun vc hc=>(wV v8 false (Res.ok a3 hc) hc).bind fun vd hd=>(wV v8 false (A5 A0 .quo 3 vc vd hd) hd).bind fun ve he=>(wV v8 false (A5 A0 .leq 3 v9 ve he) he).bind fun vf hf=>(wV v5 true (condV (some v8) (Res.ok (.bool true) hf) (Res.ok vf hf)) hf).bind fun vg hg=>(condV (some v5) (Res.ok vg hg) (Res.ok (.bool false) hg)).bind fun vh hh=>(call F.A37 [vh] hh).bind fun vi hi=>(A3 A0 113 v0 hi).bind fun vj hj=>(A5 A0 .mul 3 a2 a3 hj).bind fun vk hk=>(call F.A70 [vj,a1,vk] hk).bind fun vl hl=>(B4 A0 113 v1 vl hl).bind fun _vm hm=>(A3 A0 113 v1 hm).bind fun vn hn=>
 .ok vn hn
theorem G43(k:Nat)(a0 a1 a2 a3:Value)(h:A2):R (T k) F.ζw [a0,a1,a2,a3] h=nrm .gc h (ζw k (R (T k)) a0 a1 a2 a3 h) :=G9
def ζx(k:Nat)(call:A8)(a0 a1 a2:Value)(h:A2):Res Value :=
 (K9 a0 h).bind fun v0 h0=>(A5 A0 .geq 3 a1 (.int .i64 0) h0).bind fun v1 h1=>(wV v1 true (Res.ok a2 h1) h1).bind fun v2 h2=>(wV v1 true (A5 A0 .geq 3 v2 (.int .i64 0) h2) h2).bind fun v3 h3=>(condV (some v1) (Res.ok v3 h3) (Res.ok (.bool false) h3)).bind fun v4 h4=>(wV v4 true (Res.ok a1 h4) h4).bind fun v5 h5=>(wV v4 true (A1 A0 113 v0 0 h5) h5).bind fun v6 h6=>(wV v4 true (A3 A0 22 v6 h6) h6).bind fun v7 h7=>(wV v4 true (A6 A0 .len [22] [v7] h7) h7).bind fun v8 h8=>(wV v4 true (A5 A0 .leq 3 v5 v8 h8) h8).bind fun v9 h9=>(condV (some v4) (Res.ok v9 h9) (Res.ok (.bool false) h9)).bind fun va ha=>(wV va true (Res.ok a2 ha) ha).bind fun vb hb=>(wV va true (A1 A0 113 v0 0 hb) hb).bind fun vc hc=>(wV va true (A3 A0 22 vc hc) hc).bind fun vd hd=>(wV va true (A6 A0 .len [22] [vd] hd) hd).bind fun ve he=>(wV va true (Res.ok a1 he) he).bind fun vf hf=>(wV va true (A5 A0 .sub 3 ve vf hf) hf).bind fun vg hg=>(wV va true (A5 A0 .leq 3 vb vg hg) hg).bind fun vh hh=>(condV (some va) (Res.ok vh hh) (Res.ok (.bool false) hh)).bind fun vi hi=>(call F.A37 [vi] hi).bind fun vj hj=>(A1 A0 113 v0 0 hj).bind fun vk hk=>(A3 A0 22 vk hk).bind fun vl hl=>(A5 A0 .add 3 a1 a2 hl).bind fun vm hm=>(A5 A0 .add 3 a1 a2 hm).bind fun vn hn=>(A06 A0 22 vl (some a1) (some vm) (some vn) hn).bind fun vo ho=>
 .ok vo ho
theorem G3h(k:Nat)(a0 a1 a2:Value)(h:A2):R (T k) F.ζx [a0,a1,a2] h=nrm .gc h (ζx k (R (T k)) a0 a1 a2 h) :=G9
def B3h(k:Nat)(call:A8)(h:A2):Res Value :=
 (E0 A0 217 [] h).bind fun v0 h0=>(A6b A0 217 v0 h0).bind fun v1 h1=>(B01 v1 h1).bind fun _v2 h2=>
 .ok (.tuple #[]) h2
theorem G7o(k:Nat)(h:A2):R (T k) F.B3h [] h=nrm .gc h (B3h k (R (T k)) h) :=G9
def B37(k:Nat)(call:A8)(a0 a1:Value)(h:A2):Res Value :=
 (K9 a0 h).bind fun v0 h0=>(A3 A0 113 v0 h0).bind fun v1 h1=>(call F.ζx [v1,a1,(.int .i64 1)] h1).bind fun v2 h2=>(A9 A0 22 v2 (.int .i64 0) h2).bind fun v3 h3=>(A3 A0 5 v3 h3).bind fun v4 h4=>(M9 A0 5 3 v4 h4).bind fun v5 h5=>
 .ok v5 h5
theorem G4w(k:Nat)(a0 a1:Value)(h:A2):R (T k) F.B37 [a0,a1] h=nrm .gc h (B37 k (R (T k)) a0 a1 h) :=G9
end
end Go.Sw
end
section
namespace Go.Sw
open Go.RowKit
abbrev B7(n:Int):List Value:=[.int .u8 n]
theorem E9(n:Int):(B7 n).length=1:=rfl
def Byt(b:List Int):Prop:=∀ n,n ∈ b→0≤n∧n<256
abbrev K7:Value:=.iface B03 (.agg #[])
abbrev vw(b:List Int):Value:=.agg #[lv B7 b]
def orF{α:Type}(o:Option α)(f:α→Value)(H:A2):Res Value:=match o with
 | some a=>.ok (f a) H
 | none=>.panic K7 H
@[simp] theorem A3w{α:Type}(a:α)(f:α→Value)(H:A2):orF (some a) f H=.ok (f a) H:=rfl
@[simp] theorem orF_none{α:Type}(f:α→Value)(H:A2):orF (none:Option α) f H=.panic K7 H:=rfl
def E1(b:List Int)(i n:Int):Option (List Int):=if 0≤i∧0≤n∧i≤b.length∧n≤b.length - i then some ((b.drop i.toNat).take n.toNat) else none
def num(l:List Int):Int:=l.foldl (fun x y=>256*x+y) 0
def uS(b:List Int)(i n:Int):Option Int:=(E1 b i n).map num
theorem Byt.piece{b:List Int}(h:Byt b){i n:Int}{l:List Int}(hl:E1 b i n=some l):Byt l∧(l.length:Int)=n:=by
 unfold E1 at hl;split at hl
 ·rename_i hc;injection hl with hl; subst hl;refine⟨fun x hx=>h x (List.mem_of_mem_drop (List.mem_of_mem_take hx)),?_⟩;simp;omega
 ·cases hl
theorem D3.fail:D3 K7:=.iface _ _ (.aggL .nil)
theorem D3.unit:D3 (.tuple #[]):=.tupleL .nil
theorem D3.B(b:List Int):D3 (Go.Sw.lv B7 b):=.lv fun n _=>.cons (.int _ _) .nil
theorem D3.vw(b:List Int):D3 (Go.Sw.vw b):=.aggL (.cons (.B b) .nil)
@[simp] theorem A5z(b:List Int):veq (Go.Sw.lv B7 b) (Go.Sw.lv B7 b)=true:=A45 fun n _ v hv=>by simp at hv; subst hv; simp
@[simp] theorem Fail_run(k:Nat)(H:A2):R (T k) F.B3h [] H=.panic K7 H:=by
 rw[G7o];refine A0p ⟨H,?_,Ext.refl H⟩ D3.fail.alive;simp -implicitDefEqProofs [B3h]
theorem D26(k:Nat)(H:A2):R (T k) F.A37 [.bool true] H=.ok (.tuple #[]) H:=by
 rw[E4k];refine D8 (A0t.of ?_) D3.unit.alive;simp -implicitDefEqProofs [A37]
theorem D1u(k:Nat)(H:A2):R (T k) F.A37 [.bool false] H=.panic K7 H:=by
 rw[E4k];refine A0p ⟨H,?_,Ext.refl H⟩ D3.fail.alive;simp -implicitDefEqProofs [A37]
attribute [simp] D26 D1u
theorem A6k{H:A2}{v:Value}{b l:List Int}(hv:Sl H 1 v B7 b){i n:Int}(h:E1 b i n=some l):Sl H 1 (X9 1 v i.toNat n.toNat) B7 l:=by
 unfold E1 at h;split at h
 ·injection h with h; subst h;exact (hv.sub E9 .i64 .i64 .i64 i.toNat n.toNat (by omega)).2
 ·cases h
theorem B9a (k:Nat) {H:A2} {v:Value} {b:List Int} (hv:Sl H 1 v B7 b) (i n:Int) (hl:b.length<2 ^ 62):R (T k) F.ζx [.agg #[v],.int .i64 i,.int .i64 n] H=orF (E1 b i n) (fun _=>X9 1 v i.toNat n.toNat) H:=by
 rw[G3h];have bx:∀ H:A2,K9 (.agg #[v]) H=V1 [v] H:=fun _=>rfl;have hlen:=hv.len;by_cases h1:0≤i
 ·by_cases h2:0≤n
  ·by_cases h3:i≤b.length
   ·by_cases h4:n≤b.length - i
    ·have hp:E1 b i n=some ((b.drop i.toNat).take n.toNat):=by rw[E1,if_pos ⟨h1,h2,h3,h4⟩]
     rw[hp];obtain⟨i',rfl⟩:=Int.eq_ofNat_of_zero_le h1;obtain⟨n',rfl⟩:=Int.eq_ofNat_of_zero_le h2;rw[Int.toNat_natCast,Int.toNat_natCast];obtain⟨hs,hs2⟩:=hv.sub E9 .i64 .i64 .i64 i' n' (by omega);have hs:=hs _ ((Ext.refl H).push ⟨[v],1,false⟩);rw[show (((i'+n':Nat):Nat):Int)=(i':Int)+n' by omega] at hs;refine D8 ⟨H.push ⟨[v],1,false⟩,?_,(Ext.refl H).push _⟩ (hs2.alive fun _ _=>.cons (.int _ _) .nil);simp -implicitDefEqProofs(disch:=omega) [ζx,bx,hlen,h3,h4,hs]
    ·have hp:E1 b i n=none:=by rw[E1,if_neg (fun h=>h4 h.2.2.2)]
     rw[hp];refine A0p ⟨H.push ⟨[v],1,false⟩,?_,(Ext.refl H).push _⟩ D3.fail.alive;simp -implicitDefEqProofs(disch:=omega) [ζx,bx,hlen,h1,h2,h3,h4]
   ·have hp:E1 b i n=none:=by rw[E1,if_neg (fun h=>h3 h.2.2.1)]
    rw[hp];refine A0p ⟨H.push ⟨[v],1,false⟩,?_,(Ext.refl H).push _⟩ D3.fail.alive;simp -implicitDefEqProofs(disch:=omega) [ζx,bx,hlen,h1,h2,h3]
  ·have hp:E1 b i n=none:=by rw[E1,if_neg (fun h=>h2 h.2.1)]
   rw[hp];refine A0p ⟨H.push ⟨[v],1,false⟩,?_,(Ext.refl H).push _⟩ D3.fail.alive;simp -implicitDefEqProofs(disch:=omega) [ζx,bx,hlen,h1,h2]
 ·have hp:E1 b i n=none:=by rw[E1,if_neg (fun h=>h1 h.1)]
  rw[hp];refine A0p ⟨H.push ⟨[v],1,false⟩,?_,(Ext.refl H).push _⟩ D3.fail.alive;simp -implicitDefEqProofs(disch:=omega) [ζx,bx,hlen,h1]
theorem A72{b:List Int}{i n:Int}{l:List Int}(h:E1 b i n=some l):(l.length:Int)=n:=by
 unfold E1 at h;split at h
 ·injection h with h; subst h;simp;omega
 ·cases h
theorem B3q(v:Value)(H:A2):K9 (.agg #[v]) H=V1 [v] H:=rfl
theorem B7z{l:List Int}(h:(l.length:Int)=2):∃ x y,l=[x,y]:=by
 match l,h with
 | [x,y],_=>exact⟨x,y,rfl⟩
theorem B3w{l:List Int}(h:(l.length:Int)=4):∃ x y z u,l=[x,y,z,u]:=by
 match l,h with
 | [x,y,z,u],_=>exact⟨x,y,z,u,rfl⟩
theorem D3c{l:List Int}(h:(l.length:Int)=1):∃ x,l=[x]:=by
 match l,h with
 | [x],_=>exact⟨x,rfl⟩
theorem S5(k:Nat){H:A2}{v:Value}{b:List Int}(hv:Sl H 1 v B7 b)(hb:Byt b)(i:Int)(hl:b.length<2 ^ 62):R (T k) F.ζc [.agg #[v],.int .i64 i] H=orF (uS b i 2) (.int .i64) H:=by
 rw[G4k];have hx1:Ext H (H.push ⟨[v],1,false⟩):=(Ext.refl H).push _;have hp:=B9a k (hv.up hx1) i 2 hl;unfold uS;cases h:E1 b i 2 with
 | none=>
  rw[h] at hp;refine A0p ⟨_,?_,hx1⟩ D3.fail.alive;simp -implicitDefEqProofs(disch:=omega) [ζc,hp]
 | some l=>
  have hsl:=A6k (hv.up hx1) h;generalize X9 1 v i.toNat (2:Int).toNat=v' at hp hsl;obtain⟨x,y,rfl⟩:=B7z (A72 h);rw[h] at hp;have hx:=(hb.piece h).1 x (by simp);have hy:=(hb.piece h).1 y (by simp);obtain⟨p0,i0,d0⟩:=hsl.ix1 E9 0 x rfl _ rfl;obtain⟨p1,i1,d1⟩:=hsl.ix1 E9 1 y rfl _ rfl;have i0:∀ H',ixS 1 v' (.int .i64 0) H'=.ok p0 H':=i0 .i64;have i1:∀ H',ixS 1 v' (.int .i64 1) H'=.ok p1 H':=i1 .i64;have d0:=d0 _ (Ext.refl _);have d1:=d1 _ (Ext.refl _);refine D8 ⟨_,?_,hx1⟩ (.int _ _);have or1:=fun H=>A7m A0 3 H (x*256) y 8 (by omega) (by omega) (by omega) (by omega) (by omega);simp -implicitDefEqProofs(disch:=omega) [ζc,hp,i0,i1,d0,d1,or1,num];omega
theorem D2w(k:Nat){H:A2}{v:Value}{b:List Int}(hv:Sl H 1 v B7 b)(hb:Byt b)(i:Int)(hl:b.length<2 ^ 62):R (T k) F.B37 [.agg #[v],.int .i64 i] H=orF (uS b i 1) (.int .i64) H:=by
 rw[G4w];have hx1:Ext H (H.push ⟨[v],1,false⟩):=(Ext.refl H).push _;have hp:=B9a k (hv.up hx1) i 1 hl;unfold uS;cases h:E1 b i 1 with
 | none=>
  rw[h] at hp;refine A0p ⟨_,?_,hx1⟩ D3.fail.alive;simp -implicitDefEqProofs(disch:=omega) [B37,hp]
 | some l=>
  have hsl:=A6k (hv.up hx1) h;generalize X9 1 v i.toNat (1:Int).toNat=v' at hp hsl;obtain⟨x,rfl⟩:=D3c (A72 h);rw[h] at hp;have hx:=(hb.piece h).1 x (by simp);obtain⟨p0,i0,d0⟩:=hsl.ix1 E9 0 x rfl _ rfl;have i0:∀ H',ixS 1 v' (.int .i64 0) H'=.ok p0 H':=i0 .i64;have d0:=d0 _ (Ext.refl _);refine D8 ⟨_,?_,hx1⟩ (.int _ _);simp -implicitDefEqProofs(disch:=omega) [B37,hp,i0,d0,num]
theorem A0z(k:Nat){H:A2}{v:Value}{b:List Int}(hv:Sl H 1 v B7 b)(hb:Byt b)(i:Int)(hl:b.length<2 ^ 62):R (T k) F.ζv [.agg #[v],.int .i64 i] H=orF (uS b i 4) (.int .i64) H:=by
 rw[G4l];have hx1:Ext H (H.push ⟨[v],1,false⟩):=(Ext.refl H).push _;have hp:=B9a k (hv.up hx1) i 4 hl;unfold uS;cases h:E1 b i 4 with
 | none=>
  rw[h] at hp;refine A0p ⟨_,?_,hx1⟩ D3.fail.alive;simp -implicitDefEqProofs(disch:=omega) [ζv,hp]
 | some l=>
  have hsl:=A6k (hv.up hx1) h;generalize X9 1 v i.toNat (4:Int).toNat=v' at hp hsl;obtain⟨x,y,z,u,rfl⟩:=B3w (A72 h);rw[h] at hp;have hx:=(hb.piece h).1 x (by simp);have hy:=(hb.piece h).1 y (by simp);have hz:=(hb.piece h).1 z (by simp);have hu:=(hb.piece h).1 u (by simp);obtain⟨p0,i0,d0⟩:=hsl.ix1 E9 0 x rfl _ rfl;have i0:∀ H',ixS 1 v' (.int .i64 0) H'=.ok p0 H':=i0 .i64;have d0:=d0 _ (Ext.refl _);obtain⟨p1,i1,d1⟩:=hsl.ix1 E9 1 y rfl _ rfl;have i1:∀ H',ixS 1 v' (.int .i64 1) H'=.ok p1 H':=i1 .i64;have d1:=d1 _ (Ext.refl _);obtain⟨p2,i2,d2⟩:=hsl.ix1 E9 2 z rfl _ rfl;have i2:∀ H',ixS 1 v' (.int .i64 2) H'=.ok p2 H':=i2 .i64;have d2:=d2 _ (Ext.refl _);obtain⟨p3,i3,d3⟩:=hsl.ix1 E9 3 u rfl _ rfl;have i3:∀ H',ixS 1 v' (.int .i64 3) H'=.ok p3 H':=i3 .i64;have d3:=d3 _ (Ext.refl _);refine D8 ⟨_,?_,hx1⟩ (.int _ _);have or1:=fun H=>A7m A0 3 H (x*16777216) (y*65536) 24 (by omega) (by omega) (by omega) (by omega) (by omega);have or2:=fun H=>A7m A0 3 H (x*16777216+y*65536) (z*256) 16 (by omega) (by omega) (by omega) (by omega) (by omega);have or3:=fun H=>A7m A0 3 H (x*16777216+y*65536+z*256) u 8 (by omega) (by omega) (by omega) (by omega) (by omega);simp -implicitDefEqProofs(disch:=omega) [ζv,hp,i0,i1,i2,i3,d0,d1,d2,d3,or1,or2,or3,num];omega
def s16(n:Int):Int:=if n≥32768 then n - 65536 else n
theorem B8a{n:Int}(h1:0≤n)(h2:n<65536):IntKind.i16.wrap n=s16 n:=by
 unfold IntKind.wrap s16;simp[IntKind.signed,IntKind.bits];omega
theorem K8{b:List Int}(hb:Byt b){i x:Int}(h:uS b i 2=some x):0≤x∧x<65536:=by
 unfold uS at h;obtain⟨l,hl,rfl⟩:=Option.map_eq_some_iff.1 h;obtain⟨x,y,rfl⟩:=B7z (A72 hl);have hx:=(hb.piece hl).1 x (by simp);have hy:=(hb.piece hl).1 y (by simp);simp[num];omega
theorem W5{b:List Int}(hb:Byt b){i x:Int}(h:uS b i 4=some x):0≤x∧x<4294967296:=by
 unfold uS at h;obtain⟨l,hl,rfl⟩:=Option.map_eq_some_iff.1 h;obtain⟨x,y,z,u,rfl⟩:=B3w (A72 hl);have hx:=(hb.piece hl).1 x (by simp);have hy:=(hb.piece hl).1 y (by simp);have hz:=(hb.piece hl).1 z (by simp);have hu:=(hb.piece hl).1 u (by simp);simp[num];omega
theorem B3k(k:Nat){H:A2}{v:Value}{b:List Int}(hv:Sl H 1 v B7 b)(hb:Byt b)(i:Int)(hl:b.length<2 ^ 62):R (T k) F.A64 [.agg #[v],.int .i64 i] H=orF ((uS b i 2).map s16) (.int .i64) H:=by
 rw[G4j];have hx1:Ext H (H.push ⟨[v],1,false⟩):=(Ext.refl H).push _;have hp:=S5 k (hv.up hx1) hb i hl;cases h:uS b i 2 with
 | none=>
  rw[h] at hp;refine A0p ⟨_,?_,hx1⟩ D3.fail.alive;simp -implicitDefEqProofs(disch:=omega) [A64,hp]
 | some x=>
  rw[h] at hp;have hx:=K8 hb h;have h1:-32768≤s16 x∧s16 x≤32767:=by unfold s16; omega
  refine D8 ⟨_,?_,hx1⟩ (.int _ _);simp -implicitDefEqProofs(disch:=omega) [A64,hp,B8a hx.1 hx.2]
theorem A4x (k:Nat) {H:A2} {v:Value} {b:List Int} (hv:Sl H 1 v B7 b) (i n:Int) (hl:b.length<2 ^ 62):R (T k) F.A70 [.agg #[v],.int .i64 i,.int .i64 n] H=orF (E1 b i n) (fun _=>.agg #[X9 1 v i.toNat n.toNat]) H:=by
 rw[G4i];have hx2:Ext H ((H.push ⟨[v],1,false⟩).push ⟨[.slice none 0 0],1,false⟩):=((Ext.refl H).push _).push _;have hp:=B9a k (hv.up hx2) i n hl;cases h:E1 b i n with
 | none=>
  rw[h] at hp;refine A0p ⟨_,?_,hx2⟩ D3.fail.alive;simp -implicitDefEqProofs(disch:=omega) [A70,hp]
 | some l=>
  rw[h] at hp;have hs:=A6k hv h;generalize X9 1 v i.toNat n.toNat=v' at hp hs ⊢;refine D8 ⟨_,?_,((Ext.refl H).push ⟨[v],1,false⟩).push ⟨[v'],1,false⟩⟩ (.agg _ fun i u hu=>?_)
  ·simp -implicitDefEqProofs(disch:=omega) [A70,hp,hs.storable,hs.cells]
  ·match i,hu with
   | 0,hu=>simp at hu; subst hu; exact hs.alive fun _ _=>.cons (.int _ _) .nil
   | i+1,hu=>simp at hu
def L5(b:List Int)(i:Int):Option (List Int):=if 0≤i∧i≤b.length then some (b.drop i.toNat) else none
theorem G7e(b:List Int)(i n:Int)(hn:0≤n)(h:0≤i→n=max (b.length - i) 0):E1 b i n=L5 b i:=by
 unfold E1 L5;by_cases h0:0≤i
 ·have:=h h0;subst this;by_cases h1:i≤b.length
  ·rw[if_pos ⟨h0,by omega,h1,by omega⟩,if_pos ⟨h0,h1⟩,List.take_of_length_le (by simp; omega)]
  ·rw[if_neg (by omega),if_neg (by omega)]
 ·rw[if_neg (by omega),if_neg (by omega)]
theorem G9j{H:A2}{v:Value}(h:L6 H v):L6 H (.agg #[v]):=.agg _ fun i u hu=>by
 match i,hu with
 | 0,hu=>simp at hu; subst hu; exact h
 | i+1,hu=>simp at hu
theorem Sl.vw{H:A2}{v:Value}{b:List Int}(hv:Sl H 1 v B7 b):L6 H (.agg #[v]):=G9j (hv.alive fun _ _=>.cons (.int _ _) .nil)
def A1r(b:List Int)(i:Int):Int:=if 0>IntKind.i64.wrap ((b.length:Int) - i) then 0 else IntKind.i64.wrap ((b.length:Int) - i)
theorem D5w(b:List Int)(i:Int)(hl:b.length<2 ^ 62)(hi:i≤9223372036854775807):E1 b i (A1r b i)=L5 b i:=by
 unfold A1r;exact G7e b i _ (by split <;> omega) (fun h0=>by rw[wrap_i64 (by omega) (by omega)]; omega)
theorem A4z(k:Nat){H:A2}{v:Value}{b:List Int}(hv:Sl H 1 v B7 b)(i:Int)(hl:b.length<2 ^ 62)(hi:i≤9223372036854775807):R (T k) F.A4v [.agg #[v],.int .i64 i] H=orF (L5 b i) (fun _=>.agg #[X9 1 v i.toNat (A1r b i).toNat]) H:=by
 rw[G42];have hx2:Ext H ((H.push ⟨[v],1,false⟩).push ⟨[.slice none 0 0],1,false⟩):=((Ext.refl H).push _).push _;have hp:=B9a k (hv.up hx2) i (A1r b i) hl;have hlen:=hv.len;have hbp:=D5w b i hl hi;cases h:L5 b i with
 | none=>
  rw[hbp,h] at hp;unfold A1r at hp;refine A0p ⟨_,?_,hx2⟩ D3.fail.alive;simp -implicitDefEqProofs [A4v,-wrap_i64,hlen,hp]
 | some l=>
  rw[h] at hbp;have hs:=A6k hv hbp;rw[hbp] at hp;generalize X9 1 v i.toNat (A1r b i).toNat=v' at hp hs ⊢;unfold A1r at hp;refine D8 ⟨_,?_,((Ext.refl H).push ⟨[v],1,false⟩).push ⟨[v'],1,false⟩⟩ hs.vw;simp -implicitDefEqProofs [A4v,-wrap_i64,hlen,hp,hs.storable,hs.cells]
def S1(b:List Int)(i n s:Int):Option (List Int):=if 0≤n∧0≤s∧(s=0∨n≤(b.length:Int) / s) then E1 b i (n*s) else none
theorem A71{b:List Int}{i n s:Int}{l:List Int}(h:S1 b i n s=some l):E1 b i (n*s)=some l:=by
 unfold S1 at h;split at h
 ·exact h
 ·cases h
theorem A50 (k:Nat) {H:A2} {v:Value} {b:List Int} (hv:Sl H 1 v B7 b) (i n s:Int) (hl:b.length<2 ^ 62):R (T k) F.ζw [.agg #[v],.int .i64 i,.int .i64 n,.int .i64 s] H=orF (S1 b i n s) (fun _=>.agg #[X9 1 v i.toNat (n*s).toNat]) H:=by
 rw[G43];have ext:Ext H ((H.push ⟨[v],1,false⟩).push ⟨[.slice none 0 0],1,false⟩):=((Ext.refl H).push _).push _;have hlen:=hv.len;by_cases h1:0≤n
 ·by_cases h2:0≤s
  ·have hcut:=A4x k (hv.up ext) i (n*s) hl;by_cases h3:s=0
   ·subst h3;have e:S1 b i n 0=E1 b i (n*0):=by rw[S1,if_pos ⟨h1,h2,.inl rfl⟩]
    rw[e];cases h:E1 b i (n*0) with
    | none=>
     rw[h] at hcut;rw[Int.mul_zero] at hcut;refine A0p ⟨_,?_,ext⟩ D3.fail.alive;simp -implicitDefEqProofs(disch:=omega) [ζw,h1,hcut]
    | some l=>
     have hs:=A6k hv h;rw[h] at hcut;generalize X9 1 v i.toNat (n*0).toNat=v' at hcut hs ⊢;rw[Int.mul_zero] at hcut;refine D8 ⟨_,?_,((Ext.refl H).push ⟨[v],1,false⟩).push ⟨[v'],1,false⟩⟩ hs.vw;simp -implicitDefEqProofs(disch:=omega) [ζw,h1,hcut]
   ·have hq:((b.length:Int).tdiv s)=(b.length:Int) / s:=Int.tdiv_eq_ediv_of_nonneg (by omega);have hq0:0≤(b.length:Int) / s:=Int.ediv_nonneg (by omega) h2;have hq1:(b.length:Int) / s≤b.length:=Int.ediv_le_self _ (by omega);have hb3:(s == 0)=false:=by simpa using h3
    have qr:=fun H=>A49 A0 3 H .i64 (b.length:Int) s h3;rw[hq] at qr;by_cases h4:n≤(b.length:Int) / s
    ·have e:S1 b i n s=E1 b i (n*s):=by rw[S1,if_pos ⟨h1,h2,.inr h4⟩]
     have hm:n*s≤b.length:=Int.le_trans (Int.mul_le_mul_of_nonneg_right h4 h2) (Int.ediv_mul_le _ h3);have hm0:0≤n*s:=Int.mul_nonneg h1 h2;rw[e];cases h:E1 b i (n*s) with
     | none=>
      rw[h] at hcut;refine A0p ⟨_,?_,ext⟩ D3.fail.alive;simp -implicitDefEqProofs(disch:=omega) [ζw,hlen,h1,h2,hb3,qr,h4,hcut]
     | some l=>
      have hs:=A6k hv h;rw[h] at hcut;generalize X9 1 v i.toNat (n*s).toNat=v' at hcut hs ⊢;refine D8 ⟨_,?_,((Ext.refl H).push ⟨[v],1,false⟩).push ⟨[v'],1,false⟩⟩ hs.vw;simp -implicitDefEqProofs(disch:=omega) [ζw,hlen,h1,h2,hb3,qr,h4,hcut]
    ·have e:S1 b i n s=none:=by rw[S1,if_neg (by omega)]
     rw[e];refine A0p ⟨_,?_,ext⟩ D3.fail.alive;simp -implicitDefEqProofs(disch:=omega) [ζw,hlen,h1,h2,hb3,qr,h4]
  ·have e:S1 b i n s=none:=by rw[S1,if_neg (by omega)]
   rw[e];refine A0p ⟨_,?_,ext⟩ D3.fail.alive;simp -implicitDefEqProofs(disch:=omega) [ζw,h1,h2]
 ·have e:S1 b i n s=none:=by rw[S1,if_neg (by omega)]
  rw[e];refine A0p ⟨_,?_,ext⟩ D3.fail.alive;simp -implicitDefEqProofs(disch:=omega) [ζw,h1]
theorem B2c(k:Nat){H:A2}{v:Value}{b:List Int}(hv:Sl H 1 v B7 b):R (T k) F.A11 [v] H=.ok (.agg #[v]) H:=by
 rw[J1b];refine D8 ⟨_,?_,(Ext.refl H).push ⟨[v],1,false⟩⟩ hv.vw;simp -implicitDefEqProofs [A11,hv.storable,hv.cells]
end Go.Sw
end
section
set_option maxRecDepth 100000
namespace Go.Sw
noncomputable section
variable (k:Nat) (call:A8)
def D1o:Env→A2→Res (D0 × Env):=M4 (C k) call F.A3i [1,1,1,1,1,1,0,1,0,0]
def E3e:G0 Value:=D7 0 (E4 (B3 (C k) call F.A3i [1,1,1,1,1,1,1]) (G2 A0 (G3 A0 F.A3i)))
def A3i(a0 a1 a2 a3:Value)(h:A2):Res Value :=
 (K9 a0 h).bind fun v0 h0=>(A3 A0 113 v0 h0).bindN fun v1 h1=>(call F.ζc [v1,a1] h1).bindT (fun p7 h2=>(A3 A0 113 v0 h1).bindN fun v2 h3=>(A5 A0 .add 3 a1 (.int .i64 2) h3).bindN fun v3 h4=>E6 ((A4 (A3 A0 113 v0 h0) v2 && true) && true) (.panic p7 h2)) fun v4 h5=>(A3 A0 113 v0 h5).bindN fun v5 h6=>(A5 A0 .add 3 a1 (.int .i64 2) h6).bindN fun v6 h7=>(call F.ζc [v5,v6] h7).bindT (fun p19 h8=>E6 ((A4 (A3 A0 113 v0 h0) v5 && true) && true) (.panic p19 h8)) fun v7 h9=>
 E6 ((A4 (A3 A0 113 v0 h0) v5 && true) && true) (
 (A3 A0 113 v0 h9).bind fun v8 ha=>(call F.A70 [v8,a1,(.int .i64 10)] ha).bind fun v9 hb=>(A5 A0 .geq 3 v4 a2 hb).bind fun va hc=>(call F.A37 [va] hc).bind fun vb hd=>(A3 A0 113 v0 hd).bind fun vc he=>(A5 A0 .add 3 a1 (.int .i64 10) he).bind fun vd hf=>(call F.ζw [vc,vd,v7,v4] hf).bind fun ve hg=>(D1 A0 113 hg).bind fun vf hh=>(B4 A0 113 vf ve hh).bind fun _vg hi=>(loopN (D1o k call) B8 [(3,a3),(9,v4),(10,v7),(11,vf),(12,(.slice none 0 0)),(34,v7),(35,(.int .i64 0))] hi).bind fun r39 hj=>
 E3e k call r39.1 r39.2 hj)
theorem G7i(k:Nat)(a0 a1 a2 a3:Value)(h:A2):R (T k) F.A3i [a0,a1,a2,a3] h=nrm .fz h (A3i k (R (T k)) a0 a1 a2 a3 h) :=G9
theorem E2z(a3 a9 a10 a11 a12 a34 a35:Value)(h:A2):D1o k call [(3,a3),(9,a9),(10,a10),(11,a11),(12,a12),(34,a34),(35,a35)] h =
 (A5 A0 .lss 3 a35 a34 h).bind fun v0 h0=>
 condV (some v0) (
 (A3 A0 113 a11 h0).bind fun v1 h1=>(A5 A0 .mul 3 a9 a35 h1).bind fun v2 h2=>(call F.A70 [v1,v2,a9] h2).bind fun v3 h3=>(B9 A0 287 1 [(0,v3)] h3).bind fun v4 h4=>(A6 A0 .append [287,287] [a12,v4] h4).bind fun v5 h5=>(A5 A0 .add 3 a35 (.int .i64 1) h5).bind fun v6 h6=>
 .ok (.normal,[(3,a3),(9,a9),(10,a10),(11,a11),(12,v5),(34,a34),(35,v6)]) h6)
 (
 .ok ((.exit 0),[(3,a3),(9,a9),(10,a10),(11,a11),(12,a12),(34,a34),(35,a35),(36,v0)]) h0) :=
 (E2 _ _).trans (by kernel_rfl)
theorem D5f(a3 a9 a10 a11 a12 a34 a35 a36:Value)(h:A2):E3e k call (.exit 0) [(3,a3),(9,a9),(10,a10),(11,a11),(12,a12),(34,a34),(35,a35),(36,a36)] h =
 (A5 A0 .gtr 3 a10 (.int .i64 0) h).bind fun v0 h0=>(wV v0 true (Res.ok a12 h0) h0).bind fun v1 h1=>(wV v0 true (Res.ok a10 h1) h1).bind fun v2 h2=>(wV v0 true (A5 A0 .sub 3 v2 (.int .i64 1) h2) h2).bind fun v3 h3=>(wV v0 true (A9 A0 287 v1 v3 h3) h3).bind fun v4 h4=>(wV v0 true (A3 A0 113 v4 h4) h4).bind fun v5 h5=>(wV v0 true (Res.ok a3 h5) h5).bind fun v6 h6=>(wV v0 true (call F.B0o [v5,v6] h6) h6).bind fun v7 h7=>(condV (some v0) (Res.ok v7 h7) (Res.ok (.bool false) h7)).bind fun v8 h8=>
 condV (some v8) (
 (A5 A0 .sub 3 a10 (.int .i64 1) h8).bind fun v9 h9=>(A06 A0 287 a12 none (some v9) none h9).bind fun va ha=>
 .ok va ha)
 (
 .ok a12 h8):=by kernel_rfl
def D5s:Env→A2→Res (D0 × Env):=M4 (C k) call F.B0k [1,1,0,0,0]
def E34:G0 Value:=D7 0 (E4 (B3 (C k) call F.B0k [1,1,1]) (G2 A0 (G3 A0 F.B0k)))
def B0k(a0 a1:Value)(h:A2):Res Value :=
 (loopN (D5s k call) B8 [(1,a1),(5,(.int .i64 0)),(6,a0)] h).bind fun r1 h0=>
 E34 k call r1.1 r1.2 h0
theorem G6b(k:Nat)(a0 a1:Value)(h:A2):R (T k) F.B0k [a0,a1] h=nrm .gc h (B0k k (R (T k)) a0 a1 h) :=G9
theorem D5e(a1 a5 a6:Value)(h:A2):D5s k call [(1,a1),(5,a5),(6,a6)] h =
 (A5 A0 .lss 3 a5 a6 h).bind fun v0 h0=>
 condV (some v0) (
 (A5 A0 .sub 3 a6 a5 h0).bind fun v1 h1=>(A5 A0 .quo 3 v1 (.int .i64 2) h1).bind fun v2 h2=>(A5 A0 .add 3 a5 v2 h2).bind fun v3 h3=>(callV call a1 [v3] h3).bind fun v4 h4=>
 condV (some v4) (
 .ok (.normal,[(1,a1),(5,a5),(6,v3)]) h4)
 (
 (A5 A0 .add 3 v3 (.int .i64 1) h4).bind fun v5 h5=>
 .ok (.normal,[(1,a1),(5,v5),(6,a6)]) h5))
 (
 .ok ((.exit 0),[(1,a1),(5,a5),(6,a6),(11,v0)]) h0) :=
 (E2 _ _).trans (by kernel_rfl)
theorem G2y(a1 a5 a6 a11:Value)(h:A2):E34 k call (.exit 0) [(1,a1),(5,a5),(6,a6),(11,a11)] h =
 .ok a5 h:=by kernel_rfl
def D62:Env→A2→Res (D0 × Env):=M4 (C k) call F.B0o [1,0,1,0,0]
def D5t:G0 Value:=D7 0 (E4 (B3 (C k) call F.B0o [1,1]) (G2 A0 (G3 A0 F.B0o)))
def B0o(a0 a1:Value)(h:A2):Res Value :=
 (K9 a0 h).bind fun v0 h0=>(loopN (D62 k call) B8 [(2,v0),(6,a1),(7,(.int .i64 0))] h0).bind fun r3 h1=>
 D5t k call r3.1 r3.2 h1
theorem G7j(k:Nat)(a0 a1:Value)(h:A2):R (T k) F.B0o [a0,a1] h=nrm .gc h (B0o k (R (T k)) a0 a1 h) :=G9
theorem D5l(a2 a6 a7:Value)(h:A2):D62 k call [(2,a2),(6,a6),(7,a7)] h =
 (A5 A0 .lss 3 a7 a6 h).bind fun v0 h0=>
 condV (some v0) (
 (A3 A0 113 a2 h0).bind fun v1 h1=>(A5 A0 .mul 3 (.int .i64 2) a7 h1).bind fun v2 h2=>(call F.ζc [v1,v2] h2).bind fun v3 h3=>(A5 A0 .neq 3 v3 (.int .i64 65535) h3).bind fun v4 h4=>
 condV (some v4) (
 .ok (.ret,[(4,(.bool false))]) h4)
 (
 (A5 A0 .add 3 a7 (.int .i64 1) h4).bind fun v5 h5=>
 .ok (.normal,[(2,a2),(6,a6),(7,v5)]) h5))
 (
 .ok ((.exit 0),[(2,a2),(6,a6),(7,a7),(8,v0)]) h0) :=
 (E2 _ _).trans (by kernel_rfl)
theorem G4f(a4:Value)(h:A2):D5t k call .ret [(4,a4)] h =
 .ok a4 h:=by kernel_rfl
theorem G3t(a2 a6 a7 a8:Value)(h:A2):D5t k call (.exit 0) [(2,a2),(6,a6),(7,a7),(8,a8)] h =
 .ok (.bool true) h:=by kernel_rfl
end
end Go.Sw
end
section
namespace Go.Sw
open Go.RowKit
def E6n(k:Nat)(f:Value)(n:Nat)(p:Nat→Bool)(H:A2):Prop:=∀ j:Nat,j<n→callV (R (T k)) f [.int .i64 j] H=.ok (.bool (p j)) H
def A74(n:Nat)(p:Nat→Bool)(i:Nat):Prop:=i≤n∧(∀ j,j<i→p j=false)∧∀ j,i≤j→j<n→p j=true
theorem G9g (k:Nat) (n:Nat) (f:Value) (p:Nat→Bool) (H:A2) (hn:n<2 ^ 62) (hf:E6n k f n p H) (hm:∀ i j,i≤j→j<n→p i=true→p j=true) (i:Nat) (hi:A74 n p i) :
  R (T k) F.B0k [.int .i64 n,f] H=.ok (.int .i64 i) H:=by
 rw[G6b];refine D8 (A0t.of ?_) (.int _ _)
 obtain ⟨x,e',H1,hr,rfl,rfl,a,rfl⟩:=A5i (body:=D5s k (R (T k)))
  (fun m e H'=>H'=H∧∃ lo hi:Nat,m=hi - lo∧e=[(1,f),(5,.int .i64 lo),(6,.int .i64 hi)]∧lo≤i∧i≤hi∧hi≤n)
  (fun x e H'=>H'=H∧x=.exit 0∧∃ a,e=[(1,f),(5,.int .i64 i),(6,.int .i64 i),(11,a)])
  (e0:=[(1,f),(5,.int .i64 0),(6,.int .i64 n)]) (H0:=H) n ⟨rfl,0,n,by omega,rfl,by omega,hi.1,Nat.le_refl _⟩ (by omega)
  (fun m e H' ⟨hH,lo,hg,hmm,he,h1,h2,h3⟩=>by
   subst hH he;by_cases hlt:lo<hg
   ·have hlt':(lo:Int)<hg:=by omega
    obtain⟨d,hd1,hd2⟩:∃ d,2*d≤hg - lo∧hg - lo<2*d+2:=⟨(hg - lo) / 2,by omega,by omega⟩
    have hmid:(((hg:Int) - lo).tdiv 2)=(d:Nat):=by
     rw[Int.tdiv_eq_ediv_of_nonneg (by omega)]; omega
    have q:=A49 A0 3 H' .i64 ((hg:Int) - lo) 2 (by decide);rw[hmid] at q;have ha:=hf (lo+d) (by omega);rw[show (((lo+d:Nat):Nat):Int)=(lo:Int)+(d:Nat) by omega] at ha;have hle:((d:Nat):Int)≤hg - lo:=by omega
    refine .inl ?_;cases hp:p (lo+d) with
    | true=>
     rw[hp] at ha;refine⟨(lo+d) - lo,_,H',?_,by omega,rfl,lo,lo+d,rfl,rfl,h1,?_,by omega⟩
     ·rw[D5e];simp -implicitDefEqProofs(disch:=omega) [hlt',q,ha]
     ·rcases Nat.lt_or_ge (lo+d) i with h | h
      ·rw[hi.2.1 _ h] at hp; cases hp
      ·exact h
    | false=>
     rw[hp] at ha;refine⟨hg - (lo+d+1),_,H',?_,by omega,rfl,lo+d+1,hg,rfl,rfl,?_,h2,h3⟩
     ·rw[D5e];simp -implicitDefEqProofs(disch:=omega) [hlt',q,ha]
     ·rcases Nat.lt_or_ge (lo+d) i with h | h
      ·exact h
      ·rw[hi.2.2 _ h (by omega)] at hp; cases hp
   ·have hlt':¬ (lo:Int)<hg:=by omega
    have e1:lo=i:=by omega
    have e2:hg=i:=by omega
    subst e1;rw[e2];refine .inr ⟨.exit 0,_,H',?_,by simp,rfl,rfl,.bool false,rfl⟩;rw[D5e];simp -implicitDefEqProofs(disch:=omega))
 simp -implicitDefEqProofs(disch:=omega) [B0k,hr,G2y]
theorem G8f (n:Nat) (p:Nat→Bool) (hm:∀ i j,i≤j→j<n→p i=true→p j=true):∃ i,A74 n p i:=by
 induction n with
 | zero=>exact⟨0,Nat.le_refl _,fun j h=>by omega,fun j h1 h2=>by omega⟩
 | succ n ih=>
  obtain⟨i,h1,h2,h3⟩:=ih fun a b hab hb=>hm a b hab (by omega);by_cases hi:i<n
  ·exact ⟨i,by omega,h2,fun j hj hn=>by
    by_cases he:j=n
    ·subst he; exact hm i j hj hn (h3 i (Nat.le_refl _) hi)
    ·exact h3 j hj (by omega)⟩
  ·have:i=n:=by omega
   subst this;cases hp:p i with
   | true=>exact⟨i,by omega,h2,fun j hj hn=>by rw[show j=i by omega]; exact hp⟩
   | false=>exact⟨i+1,Nat.le_refl _,fun j hj=>by
     by_cases he:j=i
     ·subst he; exact hp
     ·exact h2 j (by omega),fun j h1 h2=>by omega⟩
def A4k(l:List Int)(keys:Nat):Bool:=(List.range keys).all fun j=>uS l (2*j) 2 == some 65535
theorem B75 (k:Nat) {H:A2} {v:Value} {l:List Int} (hv:Sl H 1 v B7 l) (hb:Byt l) (keys:Nat) (hl:l.length<2 ^ 62) (hk:2*keys≤l.length):R (T k) F.B0o [.agg #[v],.int .i64 keys] H=.ok (.bool (A4k l keys)) H:=by
 rw[G7j]
 obtain ⟨x,e',H1,hr,hH,hq⟩:=K5 (body:=D62 k (R (T k))) keys
  (fun j e H'=>H'=H.push ⟨[v],1,false⟩∧(∀ i,i<j→uS l (2*(i:Nat)) 2=some 65535)∧e=[(2,.pointer (some ⟨H.n,0,none⟩)),(6,.int .i64 keys),(7,.int .i64 j)])
  (fun x e H'=>H'=H.push ⟨[v],1,false⟩∧((x=.ret∧e=[(4,.bool false)]∧A4k l keys=false)∨(∃ a,x=.exit 0∧e=[(2,.pointer (some ⟨H.n,0,none⟩)),(6,.int .i64 keys),(7,.int .i64 keys),(8,a)]∧A4k l keys=true)))
  (e0:=[(2,.pointer (some ⟨H.n,0,none⟩)),(6,.int .i64 keys),(7,.int .i64 0)]) (H0:=H.push ⟨[v],1,false⟩) ⟨rfl,fun i h=>by omega,rfl⟩ (by omega)
  (fun j e H' hj ⟨hH,ha,he⟩=>by
   subst he hH;have hlt:(j:Int)<keys:=by omega
   have hu:=S5 k (hv.up ((Ext.refl H).push ⟨[v],1,false⟩)) hb (2*(j:Int)) hl;obtain⟨x,hx⟩:∃ x,uS l (2*(j:Int)) 2=some x:=by
    unfold uS E1;rw[if_pos (by omega)];exact⟨_,rfl⟩
   rw[hx] at hu;by_cases he:x=65535
   ·subst he;refine .inl ⟨_,_,?_,rfl,fun i hi=>?_,rfl⟩
    ·rw[D5l];simp -implicitDefEqProofs(disch:=omega) [hlt,hu]
    ·by_cases hij:i=j
     ·subst hij; exact hx
     ·exact ha i (by omega)
   ·refine .inr ⟨.ret,_,_,?_,by simp,rfl,.inl ⟨rfl,rfl,?_⟩⟩
    ·have hne:(x != 65535)=true:=by simpa using he
     rw[D5l];simp -implicitDefEqProofs(disch:=omega) [hlt,hu,hne]
    ·unfold A4k;rw[List.all_eq_false];exact⟨j,List.mem_range.2 hj,by rw[hx]; simpa using he⟩)
  (fun e H' ⟨hH,ha,he⟩=>by
   subst he hH;refine⟨.exit 0,_,_,?_,by simp,rfl,.inr ⟨.bool false,rfl,rfl,?_⟩⟩
   ·rw[D5l];simp -implicitDefEqProofs
   ·unfold A4k;rw[List.all_eq_true];intro i hi;rw[ha i (List.mem_range.1 hi)];rfl)
 subst hH;refine D8 ⟨_,?_,(Ext.refl H).push ⟨[v],1,false⟩⟩ (.bool _);rcases hq with⟨rfl,rfl,hn⟩ | ⟨a,rfl,rfl,hn⟩ <;> simp -implicitDefEqProofs(disch:=omega) [B0o,B3q,hr,G4f,G3t,hn]
abbrev A3m(u:Value):List Value:=[u]
theorem A1v(u:Value):(A3m u).length=1:=rfl
def U4(r:List Int)(z n:Nat):List (List Int):=(List.range n).map fun i=>(r.drop (z*i)).take z
@[simp] theorem ζu1(r:List Int)(z n:Nat):(U4 r z n).length=n:=by simp[U4]
theorem B0i(r:List Int)(z n i:Nat)(h:i<n):(U4 r z n)[i]?=some ((r.drop (z*i)).take z):=by simp[U4,h]
def N5(r:List Int)(z n keys:Nat):List (List Int):=if 0<n∧A4k ((r.drop (z*(n - 1))).take z) keys=true then U4 r z (n - 1) else U4 r z n
def P7(b:List Int)(i need:Int)(keys:Nat):Option (List (List Int)) :=
 match uS b i 2,uS b (i+2) 2 with
 | some z,some n=>if (E1 b i 10).isSome∧need≤z then (S1 b (i+10) n z).map fun r=>N5 r z.toNat n.toNat keys else none
 | _,_=>none
def A15(r:Value)(z n:Nat):List Value:=(List.range n).map fun i=>X9 1 r (z*i) z
@[simp] theorem A7t(r:Value)(z n:Nat):(A15 r z n).length=n:=by simp[A15]
theorem E5q(r:Value)(z n:Nat):A15 r z (n+1)=A15 r z n++[X9 1 r (z*n) z]:=by simp[A15,List.range_succ]
theorem A7s(r:Value)(z n i:Nat)(h:i<n):(A15 r z n)[i]?=some (X9 1 r (z*i) z):=by simp[A15,h]
theorem E5r(r:Value)(z n:Nat):(A15 r z n).take (n - 1)=A15 r z (n - 1):=by
 cases n with
 | zero=>rfl
 | succ n=>rw[E5q]; simp
theorem A76{H:A2}{rv:Value}{r:List Int}(hv:Sl H 1 rv B7 r)(z n i:Nat)(hr:r.length=n*z)(h:i<n):Sl H 1 (X9 1 rv (z*i) z) B7 ((r.drop (z*i)).take z):=by
 have hzi:z*i+z≤r.length:=by
  rw[hr,← Nat.mul_succ,Nat.mul_comm];exact Nat.mul_le_mul_right _ h
 exact (hv.sub E9 .i64 .i64 .i64 (z*i) z hzi).2
theorem G9i (k:Nat) {rv:Value} (r:List Int) (keys z n:Nat) (hr:r.length=n*z) (hz:z<65536) (hn:n<65536) (p:Nat) {H:A2} (hv:Sl H 1 rv B7 r) (hp:H.get p=some ⟨[rv],1,false⟩) :
  ∃ s H',loopN (D1o k (R (T k))) B8 [(3,.int .i64 keys),(9,.int .i64 z),(10,.int .i64 n),(11,.pointer (some ⟨p,0,none⟩)),(12,.slice none 0 0),(34,.int .i64 n),(35,.int .i64 0)] H =
   .ok (.exit 0,[(3,.int .i64 keys),(9,.int .i64 z),(10,.int .i64 n),(11,.pointer (some ⟨p,0,none⟩)),(12,s),(34,.int .i64 n),(35,.int .i64 n),(36,.bool false)]) H'∧Own H H' 1 s A3m (A15 rv z n)∧Ext H H':=by
 have hlen:r.length<2 ^ 62:=by
  have:n*z≤65536*65536:=Nat.mul_le_mul (by omega) (by omega);omega
 obtain ⟨x,e',H',hr',s,rfl,rfl,ho,hx⟩:=K5 (body:=D1o k (R (T k))) n
  (fun i e H'=>∃ s,e=[(3,.int .i64 keys),(9,.int .i64 z),(10,.int .i64 n),(11,.pointer (some ⟨p,0,none⟩)),(12,s),(34,.int .i64 n),(35,.int .i64 i)]∧Own H H' 1 s A3m (A15 rv z i)∧Ext H H')
  (fun x e H'=>∃ s,x=.exit 0∧e=[(3,.int .i64 keys),(9,.int .i64 z),(10,.int .i64 n),(11,.pointer (some ⟨p,0,none⟩)),(12,s),(34,.int .i64 n),(35,.int .i64 n),(36,.bool false)]∧Own H H' 1 s A3m (A15 rv z n)∧Ext H H')
  (e0:=[(3,.int .i64 keys),(9,.int .i64 z),(10,.int .i64 n),(11,.pointer (some ⟨p,0,none⟩)),(12,.slice none 0 0),(34,.int .i64 n),(35,.int .i64 0)]) (H0:=H) ⟨_,rfl,Own.nil _ _ _,Ext.refl H⟩ (by omega)
  (fun i e H' hi ⟨s,he,ho,hx⟩=>by
   subst he;have hlt:(i:Int)<n:=by omega
   have hpg:=hx.get hp;have hzi:z*i+z≤r.length:=by
    rw[hr,← Nat.mul_succ,Nat.mul_comm];exact Nat.mul_le_mul_right _ hi
   have hcut:=A4x k (hv.up hx) ((z:Int)*i) z hlen;have e1:((z:Int)*i)=((z*i:Nat):Int):=by simp
   have hps:E1 r ((z:Int)*i) z=some ((r.drop (z*i)).take z):=by
    rw[e1,E1,if_pos (by omega),Int.toNat_natCast,Int.toNat_natCast]
   have e2:((z:Int)*i).toNat=z*i:=by rw[e1,Int.toNat_natCast]
   rw[hps,e2,Int.toNat_natCast] at hcut;have hmul:((z:Int)*i)≤9223372036854775807:=by omega
   have hmul0:0≤((z:Int)*i):=Int.mul_nonneg (by omega) (by omega);have hsl:=A76 hv z n i hr hi;obtain⟨s',H2,e3,o1,x1⟩:=A52 (bytes:=24) A1v ho hx (X9 1 rv (z*i) z) (by simp; omega) (by decide);refine .inl ⟨_,H2,?_,s',rfl,by rw[E5q]; exact o1,x1⟩;rw[E2z];generalize X9 1 rv (z*i) z=u at hcut hsl e3;simp -implicitDefEqProofs(disch:=omega) [hlt,hpg,hcut,e3])
  (fun e H' ⟨s,he,ho,hx⟩=>by
   subst he;refine⟨.exit 0,_,H',?_,by simp,s,rfl,rfl,ho,hx⟩;rw[E2z];simp -implicitDefEqProofs(disch:=omega))
 exact⟨s,H',hr',ho,hx⟩
def A40(v:Value)(b:List Int)(i:Int):Value:=X9 1 v (i+10).toNat (((uS b (i+2) 2).getD 0)*((uS b i 2).getD 0)).toNat
def A8i(b:List Int)(i:Int):Nat:=((uS b i 2).getD 0).toNat
theorem B3r{H0 H:A2}{rv:Value}(h:A8w H0 rv)(z n d:Nat):∀ x,x ∈ A15 rv z n→∀ v,v ∈ A3m x→fzV H0.n H (d+1) v=some (v,[]):=fun x hx v hv=>by
 simp at hv;subst hv;obtain⟨i,_,rfl⟩:=List.mem_map.1 hx;exact (h.sub 1 _ _).fz d
theorem D6d{H:A2}{rv:Value}{r:List Int}(hv:Sl H 1 rv B7 r)(z n m:Nat)(hr:r.length=n*z)(hm:m≤n):L6 H (lv A3m (A15 rv z m)):=.list _ _ _ _ _ fun i u hu=>by
 have hu:(rows A3m (A15 rv z m))[i]?=some u:=by simpa using hu
 have:rows A3m (A15 rv z m)=A15 rv z m:=by simp[rows]
 rw[this] at hu;have hi:=(List.getElem?_eq_some_iff.1 hu).1;simp at hi;rw[A7s _ _ _ _ hi] at hu;injection hu with hu; subst hu;exact (A76 hv z n i hr (by omega)).alive fun _ _=>.cons (.int _ _) .nil
theorem A7j (k:Nat) {H:A2} {v:Value} {b:List Int} (hv:Sl H 1 v B7 b) (hb:Byt b) (i need:Int) (keys:Nat) (hl:b.length<2 ^ 31) (hi0:-4294967296≤i) (hi:i<4294967296) (hk:2*(keys:Int)≤need) :
  R (T k) F.A3i [.agg #[v],.int .i64 i,.int .i64 need,.int .i64 keys] H=orF (P7 b i need keys) (fun l=>lv A3m (A15 (A40 v b i) (A8i b i) l.length)) H:=by
 rw[G7i];have ext1:Ext H (H.push ⟨[v],1,false⟩):=(Ext.refl H).push _;have hu1:=S5 k (hv.up ext1) hb i (by omega);have hu2:=S5 k (hv.up ext1) hb (i+2) (by omega);have hcut:=A4x k (hv.up ext1) i 10 (by omega);have hq:veq v v=true:=hv.veq fun n _ u hu=>by simp at hu; subst hu; simp
 have hqa:veq (.agg #[v]) (.agg #[v])=true:=U7 (l:=[v]) fun u hu=>by simp at hu; subst hu; exact hq
 cases h1:uS b i 2 with
 | none=>
  have e:P7 b i need keys=none:=by unfold P7; rw[h1]
  rw[h1] at hu1;rw[e];refine A0p ⟨_,?_,ext1⟩ D3.fail.alive;simp -implicitDefEqProofs(disch:=omega) [A3i,hqa,hu1]
 | some z =>
  have hz:=K8 hb h1;rw[h1] at hu1;cases h2:uS b (i+2) 2 with
  | none=>
   have e:P7 b i need keys=none:=by unfold P7; rw[h1,h2]
   rw[h2] at hu2;rw[e];refine A0p ⟨_,?_,ext1⟩ D3.fail.alive;simp -implicitDefEqProofs(disch:=omega) [A3i,hqa,hu1,hu2]
  | some n=>
   have hn:=K8 hb h2;rw[h2] at hu2;cases h3:E1 b i 10 with
   | none=>
    have e:P7 b i need keys=none:=by unfold P7; rw[h1,h2]; simp[h3]
    rw[h3] at hcut;rw[e];refine A0p ⟨_,?_,ext1⟩ D3.fail.alive;simp -implicitDefEqProofs(disch:=omega) [A3i,hqa,hu1,hu2,hcut]
   | some c=>
    rw[h3] at hcut;by_cases h4:need≤z
    ·have hrows:=A50 k (hv.up ext1) (i+10) n z (by omega);cases h5:S1 b (i+10) n z with
     | none=>
      have e:P7 b i need keys=none:=by unfold P7; rw[h1,h2]; simp[h3,h4,h5]
      rw[h5] at hrows;rw[e];refine A0p ⟨_,?_,ext1⟩ D3.fail.alive;simp -implicitDefEqProofs(disch:=omega) [A3i,hqa,hu1,hu2,hcut,h4,hrows]
     | some r=>
      have e:P7 b i need keys=some (N5 r z.toNat n.toNat keys):=by unfold P7; rw[h1,h2]; simp[h3,h4,h5]
      rw [h5] at hrows;rw[e];obtain⟨z,rfl⟩:=Int.eq_ofNat_of_zero_le hz.1;obtain⟨n,rfl⟩:=Int.eq_ofNat_of_zero_le hn.1;rw[Int.toNat_natCast,Int.toNat_natCast];have hp5:E1 b (i+10) ((n:Int)*z)=some r:=by
       unfold S1 at h5;split at h5
       ·exact h5
       ·cases h5
      have hrl:r.length=n*z:=by have:=A72 hp5; exact_mod_cast this
      have hrb:=(hb.piece hp5).1;have hrv:A40 v b i=X9 1 v (i+10).toNat ((n:Int)*z).toNat:=by unfold A40; rw[h1,h2]; rfl
      have hrz:A8i b i=z:=by unfold A8i; rw[h1]; simp
      have hsr:=A6k hv hp5;have hne:b≠[]:=fun e=>by
       subst e;unfold uS E1 at h1;split at h1
       ·rename_i hc; simp at hc; omega
       ·cases h1
      have hfirm:A8w H (X9 1 v (i+10).toNat ((n:Int)*z).toNat):=(hv.firm hne).sub _ _ _;simp only[A3w,hrv,hrz];simp only[A3w] at hrows hu1 hu2 hcut;generalize X9 1 v (i+10).toNat ((n:Int)*z).toNat=rv at hrows hsr hfirm ⊢;obtain⟨s,H',hloop,ho,hx⟩:=G9i k r keys z n hrl (by omega) (by omega) (H.n+1) (hsr.up (ext1.push ⟨[rv],1,false⟩)) (ζd _ _ _ (by simp));have hxx:Ext H H':=(ext1.push _).trans hx;have ho':Own H H' 1 s A3m (A15 rv z n):=ho.base (by simp; omega);have hst:=hsr.storable;have hce:=hsr.cells;by_cases hn0:n=0
      ·subst hn0;have e2:(N5 r z 0 keys).length=0:=by simp[N5]
       rw[e2];obtain⟨L,hf⟩:=ho'.freeze A1v (fun x hx=>by simp[A15] at hx) 6;refine G7 (v:=s) (H':=H') ?_ hf hxx (D6d hsr z 0 0 hrl (Nat.le_refl _));simp only[Int.natCast_zero] at hu2 hrows hloop;simp -implicitDefEqProofs(disch:=omega) [A3i,hqa,hu1,hu2,hcut,h4,hrows,hloop,D5f]
      ·have hlast:=A7s rv z n (n - 1) (by omega);have hlb:Byt ((r.drop (z*(n - 1))).take z):=fun x hx=>hrb x (List.mem_of_mem_drop (List.mem_of_mem_take hx));have hsl0:=A76 hsr z n (n - 1) hrl (by omega);have hll:((r.drop (z*(n - 1))).take z).length=z:=by
        have:z*(n - 1)+z≤r.length:=by
         rw[hrl,← Nat.mul_succ,Nat.mul_comm,show (n - 1).succ=n by omega];exact Nat.le_refl _
        simp; omega
       have hnone:=B75 k (hsl0.up hxx) hlb keys (by omega) (by omega);have hn1:((n:Int) - 1)=((n - 1:Nat):Int):=by omega
       have hgt:0<n:=by omega
       obtain ⟨bk,hsk,hbk,hgk,_⟩:=A5f ho' .i64 (n - 1) (by simp; omega) H';have hixk0:∀ H'',ixS 1 s (.int .i64 ((n:Int) - 1)) H''=.ok (.pointer (some ⟨bk,(n - 1)*1,none⟩)) H'':=fun H''=>by
        obtain⟨b2,h1',_,_,h4'⟩:=A5f ho' .i64 (n - 1) (by simp; omega) H'';have:bk=b2:=by rw[hsk] at h1'; simpa using h1'
        subst this;rw[hn1]; exact h4'
       obtain⟨p,hixk,hld⟩:∃ p,(∀ H'',ixS 1 s (.int .i64 ((n:Int) - 1)) H''=.ok p H'')∧ldA 1 p H'=.ok (.agg #[X9 1 rv (z*(n - 1)) z]) H':=⟨_,hixk0,A9v A1v hgk hlast⟩
       generalize X9 1 rv (z*(n - 1)) z=u at hld hnone;cases hno:A4k ((r.drop (z*(n - 1))).take z) keys with
       | false=>
        have e2:(N5 r z n keys).length=n:=by simp[N5,hno]
        rw[e2];rw[hno] at hnone;obtain⟨b3,L,hs3,hf⟩:=ho'.freezeF A1v 6 n (B3r hfirm z n 6) (by simp) (by simp; omega);rw[List.take_of_length_le (by simp)] at hf;rw[A7t] at hs3;refine G7 (v:=s) (H':=H') ?_ (by rw[hs3]; exact hf n) hxx (D6d hsr z n n hrl (Nat.le_refl _));simp -implicitDefEqProofs(disch:=omega) [A3i,hqa,hu1,hu2,hcut,h4,hrows,hloop,D5f,hgt,hixk,hld,hnone]
       | true=>
        have e2:(N5 r z n keys).length=n - 1:=by rw[N5,if_pos ⟨by omega,hno⟩]; simp
        rw[e2,← E5r];rw[hno] at hnone;obtain⟨b3,L,hs3,hf⟩:=ho'.freezeF A1v 6 (n - 1) (B3r hfirm z n 6) (by simp) (by simp; omega);have hb3:bk=b3:=by rw[hsk] at hs3; simpa using hs3
        subst hb3;have hsl:=B4e hgk .i64 (n - 1) (by simp);rw[A7t,← hn1] at hsl;rw[A7t] at hsk;refine G7 (v:=.slice (some ⟨bk,0,none⟩) (n - 1) n) (H':=H') ?_ (hf n) hxx (by rw[E5r]; exact D6d hsr z n (n - 1) hrl (by omega));subst hsk;simp -implicitDefEqProofs(disch:=omega) [A3i,hqa,hu1,hu2,hcut,h4,hrows,hloop,D5f,hgt,hixk,hld,hnone,hsl]
    ·have e:P7 b i need keys=none:=by unfold P7; rw[h1,h2]; simp[h4]
     rw[e];refine A0p ⟨_,?_,ext1⟩ D3.fail.alive;simp -implicitDefEqProofs(disch:=omega) [A3i,hqa,hu1,hu2,hcut,h4]
end Go.Sw
end
section
set_option maxRecDepth 100000
namespace Go.Sw
noncomputable section
variable (k:Nat) (call:A8)
def A92(k:Nat)(call:A8)(a0 a1:Value)(h:A2):Res Value :=
 (A5 A0 .lss 3 a1 (.int .i64 0) h).bind fun v0 h0=>(wV v0 false (Res.ok a1 h0) h0).bind fun v1 h1=>(wV v0 false (Res.ok a0 h1) h1).bind fun v2 h2=>(wV v0 false (A6 A0 .len [22] [v2] h2) h2).bind fun v3 h3=>(wV v0 false (A5 A0 .gtr 3 v1 v3 h3) h3).bind fun v4 h4=>(condV (some v0) (Res.ok (.bool true) h4) (Res.ok v4 h4)).bind fun v5 h5=>
 condV (some v5) (
 .ok (.tuple #[(.slice none 0 0),(.bool false)]) h5)
 (
 (A06 A0 22 a0 (some a1) none none h5).bind fun v6 h6=>
 .ok (.tuple #[v6,(.bool true)]) h6)
theorem G33(k:Nat)(a0 a1:Value)(h:A2):R (T k) F.A92 [a0,a1] h=nrm .fz h (A92 k (R (T k)) a0 a1 h) :=G9
def D5m:Env→A2→Res (D0 × Env):=M4 (C k) call F.ζ2 [1,1,1,0,1,0,0]
def E2t:G0 Value:=D7 0 (E4 (B3 (C k) call F.ζ2 [1,1,1,1]) (G2 A0 (G3 A0 F.ζ2)))
def ζ2(a0 a1 a2:Value)(h:A2):Res Value :=
 (A6 A0 .len [22] [a0] h).bind fun v0 h0=>(call F.A8r [v0,a1,a2] h0).bind fun v1 h1=>(unR .not v1 h1).bind fun v2 h2=>
 condV (some v2) (
 .ok (.int .i64 (-1)) h2)
 (
 (loopN (D5m k call) B8 [(0,a0),(1,a1),(2,a2),(7,(.int .i64 0)),(8,(.int .i64 0))] h2).bind fun r7 h3=>
 E2t k call r7.1 r7.2 h3)
theorem G4v(k:Nat)(a0 a1 a2:Value)(h:A2):R (T k) F.ζ2 [a0,a1,a2] h=nrm .gc h (ζ2 k (R (T k)) a0 a1 a2 h) :=G9
theorem E26(a0 a1 a2 a7 a8:Value)(h:A2):D5m k call [(0,a0),(1,a1),(2,a2),(7,a7),(8,a8)] h =
 (A5 A0 .lss 3 a8 a2 h).bind fun v0 h0=>
 condV (some v0) (
 (A5 A0 .mul 3 (.int .i64 256) a7 h0).bind fun v1 h1=>(A5 A0 .add 3 a1 a8 h1).bind fun v2 h2=>(A9 A0 22 a0 v2 h2).bind fun v3 h3=>(A3 A0 5 v3 h3).bind fun v4 h4=>(M9 A0 5 3 v4 h4).bind fun v5 h5=>(A5 A0 .add 3 v1 v5 h5).bind fun v6 h6=>(A5 A0 .add 3 a8 (.int .i64 1) h6).bind fun v7 h7=>
 .ok (.normal,[(0,a0),(1,a1),(2,a2),(7,v6),(8,v7)]) h7)
 (
 .ok ((.exit 0),[(0,a0),(1,a1),(2,a2),(7,a7),(8,a8),(17,v0)]) h0) :=
 (E2 _ _).trans (by kernel_rfl)
theorem G1d(a0 a1 a2 a7 a8 a17:Value)(h:A2):E2t k call (.exit 0) [(0,a0),(1,a1),(2,a2),(7,a7),(8,a8),(17,a17)] h =
 .ok a7 h:=by kernel_rfl
def B0d(k:Nat)(call:A8)(a0:Value)(h:A2):Res Value :=
 (A5 A0 .geq 3 a0 (.int .i64 32768) h).bind fun v0 h0=>
 condV (some v0) (
 (A5 A0 .sub 3 a0 (.int .i64 65536) h0).bind fun v1 h1=>
 .ok v1 h1)
 (
 .ok a0 h0)
theorem G3u(k:Nat)(a0:Value)(h:A2):R (T k) F.B0d [a0] h=nrm .gc h (B0d k (R (T k)) a0 h) :=G9
def A8r(k:Nat)(call:A8)(a0 a1 a2:Value)(h:A2):Res Value :=
 (A5 A0 .geq 3 a1 (.int .i64 0) h).bind fun v0 h0=>(wV v0 true (Res.ok a2 h0) h0).bind fun v1 h1=>(wV v0 true (A5 A0 .geq 3 v1 (.int .i64 0) h1) h1).bind fun v2 h2=>(condV (some v0) (Res.ok v2 h2) (Res.ok (.bool false) h2)).bind fun v3 h3=>(wV v3 true (Res.ok a1 h3) h3).bind fun v4 h4=>(wV v3 true (Res.ok a0 h4) h4).bind fun v5 h5=>(wV v3 true (A5 A0 .leq 3 v4 v5 h5) h5).bind fun v6 h6=>(condV (some v3) (Res.ok v6 h6) (Res.ok (.bool false) h6)).bind fun v7 h7=>(wV v7 true (Res.ok a2 h7) h7).bind fun v8 h8=>(wV v7 true (Res.ok a0 h8) h8).bind fun v9 h9=>(wV v7 true (Res.ok a1 h9) h9).bind fun va ha=>(wV v7 true (A5 A0 .sub 3 v9 va ha) ha).bind fun vb hb=>(wV v7 true (A5 A0 .leq 3 v8 vb hb) hb).bind fun vc hc=>(condV (some v7) (Res.ok vc hc) (Res.ok (.bool false) hc)).bind fun vd hd=>
 .ok vd hd
theorem G4g(k:Nat)(a0 a1 a2:Value)(h:A2):R (T k) F.A8r [a0,a1,a2] h=nrm .gc h (A8r k (R (T k)) a0 a1 a2 h) :=G9
def ζn(k:Nat)(call:A8)(a0 a1 a2 a3:Value)(h:A2):Res Value :=
 (A5 A0 .lss 3 a1 (.int .i64 0) h).bind fun v0 h0=>(wV v0 false (Res.ok a2 h0) h0).bind fun v1 h1=>(wV v0 false (A5 A0 .lss 3 v1 (.int .i64 0) h1) h1).bind fun v2 h2=>(condV (some v0) (Res.ok (.bool true) h2) (Res.ok v2 h2)).bind fun v3 h3=>(wV v3 false (Res.ok a3 h3) h3).bind fun v4 h4=>(wV v3 false (A5 A0 .lss 3 v4 (.int .i64 0) h4) h4).bind fun v5 h5=>(condV (some v3) (Res.ok (.bool true) h5) (Res.ok v5 h5)).bind fun v6 h6=>(wV v6 false (Res.ok a1 h6) h6).bind fun v7 h7=>(wV v6 false (Res.ok a0 h7) h7).bind fun v8 h8=>(wV v6 false (A5 A0 .gtr 3 v7 v8 h8) h8).bind fun v9 h9=>(condV (some v6) (Res.ok (.bool true) h9) (Res.ok v9 h9)).bind fun va ha=>
 condV (some va) (
 .ok (.bool false) ha)
 (
 (A5 A0 .eql 3 a3 (.int .i64 0) ha).bind fun vb hb=>(wV vb false (Res.ok a2 hb) hb).bind fun vc hc=>(wV vb false (Res.ok a0 hc) hc).bind fun vd hd=>(wV vb false (Res.ok a1 hd) hd).bind fun ve he=>(wV vb false (A5 A0 .sub 3 vd ve he) he).bind fun vf hf=>(wV vb false (Res.ok a3 hf) hf).bind fun vg hg=>(wV vb false (A5 A0 .quo 3 vf vg hg) hg).bind fun vh hh=>(wV vb false (A5 A0 .leq 3 vc vh hh) hh).bind fun vi hi=>(condV (some vb) (Res.ok (.bool true) hi) (Res.ok vi hi)).bind fun vj hj=>
 .ok vj hj)
theorem G34(k:Nat)(a0 a1 a2 a3:Value)(h:A2):R (T k) F.ζn [a0,a1,a2,a3] h=nrm .gc h (ζn k (R (T k)) a0 a1 a2 a3 h) :=G9
end
end Go.Sw
end
section
namespace Go.Sw
open Go.RowKit
def inS(size i n:Int):Bool:=decide (0≤i∧0≤n∧i≤size∧n≤size - i)
theorem D77 (k:Nat) (z i n:Int) (hz0:0≤z) (hz:z<2 ^ 62) (H:A2):R (T k) F.A8r [.int .i64 z,.int .i64 i,.int .i64 n] H=.ok (.bool (inS z i n)) H:=by
 rw[G4g];refine D8 (A0t.of ?_) (.bool _);unfold inS;by_cases h1:0≤i
 ·by_cases h2:0≤n
  ·by_cases h3:i≤z
   ·by_cases h4:n≤z - i <;> simp -implicitDefEqProofs(disch:=omega) [A8r,h1,h2,h3,h4]
   ·simp -implicitDefEqProofs(disch:=omega) [A8r,h1,h2,h3]
  ·simp -implicitDefEqProofs(disch:=omega) [A8r,h1,h2]
 ·simp -implicitDefEqProofs(disch:=omega) [A8r,h1]
theorem B78(l:List Int)(y:Int):num (l++[y])=256*num l+y:=by simp[num]
theorem B47:∀ (l:List Int) (x m:Int),0≤x→x<m→Byt l→0≤l.foldl (fun x y=>256*x+y) x∧l.foldl (fun x y=>256*x+y) x<m*256 ^ l.length
 | [],x,m,h0,h1,_=>by simp; exact⟨h0,h1⟩
 | y :: l,x,m,h0,h1,hb=>by
  have hy:=hb y (by simp);have:=B47 l (256*x+y) (256*m) (by omega) (by omega) fun n hn=>hb n (by simp[hn]);rw[List.foldl_cons,List.length_cons,Int.pow_succ,Int.mul_comm (256 ^ l.length) 256,← Int.mul_assoc,Int.mul_comm m 256];exact this
theorem D2e(l:List Int)(h:Byt l):0≤num l∧num l<256 ^ l.length:=by
 have:=B47 l 0 1 (by omega) (by omega) h;rw[Int.one_mul] at this;exact this
theorem G8n(l:List Int)(h:Byt l)(hl:l.length≤3):0≤num l∧num l<16777216:=by
 have:=D2e l h;rcases (by omega:l.length=0∨l.length=1∨l.length=2∨l.length=3) with e | e | e | e <;> rw[e] at this <;> omega
theorem P0 (k:Nat) {H:A2} {v:Value} {b:List Int} (hv:Sl H 1 v B7 b) (hb:Byt b) (i n:Int) (hl:b.length<2 ^ 62) (hn:n≤4):R (T k) F.ζ2 [v,.int .i64 i,.int .i64 n] H=.ok (.int .i64 ((uS b i n).getD (-1))) H:=by
 rw[G4v];refine D8 (A0t.of ?_) (.int _ _);have hin:=D77 k b.length i n (by omega) (by omega);by_cases hc:0≤i∧0≤n∧i≤b.length∧n≤b.length - i
 ·have hi:inS b.length i n=true:=by simpa[inS] using hc
  rw[hi] at hin;obtain⟨h1,h2,h3,h4⟩:=hc;obtain⟨i,rfl⟩:=Int.eq_ofNat_of_zero_le h1;obtain⟨n,rfl⟩:=Int.eq_ofNat_of_zero_le h2;obtain⟨l,hld⟩:∃ l,l=(b.drop i).take n:=⟨_,rfl⟩
  have hp:E1 b i n=some l:=by rw[E1,if_pos ⟨h1,h2,h3,h4⟩,hld]; simp
  have hbl:=(hb.piece hp).1;have hll:l.length=n:=by have:=A72 hp; omega
  have hu:(uS b i n).getD (-1)=num l:=by rw[uS,hp]; rfl
  rw[hu]
  obtain ⟨x,e',H1,hr,rfl,rfl,a,rfl⟩:=K5 (body:=D5m k (R (T k))) n
   (fun j e H'=>H'=H∧e=[(0,v),(1,.int .i64 i),(2,.int .i64 n),(7,.int .i64 (num (l.take j))),(8,.int .i64 j)])
   (fun x e H'=>H'=H∧x=.exit 0∧∃ a,e=[(0,v),(1,.int .i64 i),(2,.int .i64 n),(7,.int .i64 (num l)),(8,.int .i64 n),(17,a)])
   (e0:=[(0,v),(1,.int .i64 i),(2,.int .i64 n),(7,.int .i64 0),(8,.int .i64 0)]) (H0:=H) ⟨rfl,rfl⟩ (by omega)
   (fun j e H' hj ⟨hH,he⟩=>by
    subst he hH;obtain⟨y,hy⟩:∃ y,l[j]?=some y:=⟨l[j]'(by omega),List.getElem?_eq_getElem _⟩
    have hyb:=hbl y (List.mem_of_getElem? hy);have hg:b[i+j]?=some y:=by
     rw[hld,List.getElem?_take,if_pos hj,List.getElem?_drop] at hy;exact hy
    obtain⟨p,hix,hld⟩:=hv.ix1 E9 (i+j) y hg _ rfl;have hix:∀ H'',ixS 1 v (.int .i64 ((i:Int)+j)) H''=.ok p H'':=fun H''=>by rw[← hix .i64 H'',Int.natCast_add]
    have hld:=hld _ (Ext.refl _);have hnb:=G8n (l.take j) (fun z hz=>hbl z (List.mem_of_mem_take hz)) (by simp; omega);have hlt:(j:Int)<n:=by omega
    refine .inl ⟨_,H',?_,rfl,rfl⟩;rw[E26,List.take_add_one,hy,Option.toList_some,B78];simp -implicitDefEqProofs(disch:=omega) [hlt,hix,hld])
   (fun e H' ⟨hH,he⟩=>by
    subst he hH;refine⟨.exit 0,_,H',?_,by simp,rfl,rfl,.bool false,rfl⟩;rw[E26,List.take_of_length_le (by omega)];simp -implicitDefEqProofs)
  simp -implicitDefEqProofs(disch:=omega) [ζ2,hv.len,hin,hr,G1d]
 ·have hi:inS b.length i n=false:=by simpa[inS] using hc
  rw[hi] at hin;have hu:(uS b i n).getD (-1) = -1:=by rw[uS,E1,if_neg hc]; rfl
  rw[hu];simp -implicitDefEqProofs(disch:=omega) [ζ2,hv.len,hin]
def U9(z i n s:Int):Bool:=decide (0≤i∧0≤n∧0≤s∧i≤z∧(s=0∨n≤(z - i) / s))
theorem B58(k:Nat)(z i n s:Int)(hz0:0≤z)(hz:z<2 ^ 62)(H:A2):R (T k) F.ζn [.int .i64 z,.int .i64 i,.int .i64 n,.int .i64 s] H=.ok (.bool (U9 z i n s)) H:=by
 rw[G34];refine D8 (A0t.of ?_) (.bool _);by_cases h1:i<0
 ·have e:U9 z i n s=false:=by unfold U9; simp; omega
  simp -implicitDefEqProofs(disch:=omega) [ζn,h1,e]
 by_cases h2:n<0
 ·have e:U9 z i n s=false:=by unfold U9; simp; omega
  simp -implicitDefEqProofs(disch:=omega) [ζn,h1,h2,e]
 by_cases h3:s<0
 ·have e:U9 z i n s=false:=by unfold U9; simp; omega
  simp -implicitDefEqProofs(disch:=omega) [ζn,h1,h2,h3,e]
 by_cases h4:i>z
 ·have e:U9 z i n s=false:=by unfold U9; simp; omega
  simp -implicitDefEqProofs(disch:=omega) [ζn,h1,h2,h3,h4,e]
 by_cases h5:s=0
 ·subst h5;have e:U9 z i n 0=true:=by unfold U9; simp; omega
  simp -implicitDefEqProofs(disch:=omega) [ζn,h1,h2,h4,e]
 have hq:(z - i).tdiv s=(z - i) / s:=Int.tdiv_eq_ediv_of_nonneg (by omega);have hq0:0≤(z - i) / s:=Int.ediv_nonneg (by omega) (by omega);have hq1:(z - i) / s≤z - i:=Int.ediv_le_self _ (by omega);have qr:=fun H=>A49 A0 3 H .i64 (z - i) s h5;rw[hq] at qr;have hb5:(s == 0)=false:=by simpa using h5
 have e:U9 z i n s=decide (n≤(z - i) / s):=by unfold U9; simp only[decide_eq_decide]; omega
 simp -implicitDefEqProofs(disch:=omega) [ζn,h1,h2,h3,h4,hb5,qr,e]
theorem D6q(k:Nat)(n:Int)(h1:-9223372036854775808≤n)(h2:n≤9223372036854775807)(H:A2):R (T k) F.B0d [.int .i64 n] H=.ok (.int .i64 (s16 n)) H:=by
 rw[G3u];refine D8 (A0t.of ?_) (.int _ _);unfold s16;by_cases h:n≥32768
 ·simp -implicitDefEqProofs(disch:=omega) [B0d,h]
 ·simp -implicitDefEqProofs(disch:=omega) [B0d,h]
theorem D69 (k:Nat) (b:List Int) (i:Int) (H:A2):R (T k) F.A92 [lv B7 b,.int .i64 i] H=.ok (.tuple #[lv B7 ((L5 b i).getD []),.bool (L5 b i).isSome]) H:=by
 rw[G33];have hst:∀ (b:List Int) (x:Bool),fzV H.n H N9 (.tuple #[lv B7 b,.bool x])=some (.tuple #[lv B7 b,.bool x],[]):=fun b x=>rfl;by_cases h1:0≤i
 ·by_cases h2:i≤b.length
  ·have e:L5 b i=some (b.drop i.toNat):=by rw[L5,if_pos ⟨h1,h2⟩]
   rw[e];obtain⟨i,rfl⟩:=Int.eq_ofNat_of_zero_le h1;have hs:=B04 E9 b (some (.int .i64 i)) none none i b.length b.length (by simp[E5]) rfl rfl (fun h=>by cases h) (by omega) (by omega) (by omega);rw[List.take_length] at hs;refine G7 (v:=.tuple #[lv B7 (b.drop i),.bool true]) (H':=H) ?_ (hst _ _) (Ext.refl H) (D3.tupleL (.cons (D3.B _) (.cons (.bool _) .nil))).alive;have h3:¬ (i:Int)<0:=by omega
   have h4:¬ (i:Int)>b.length:=by omega
   simp -implicitDefEqProofs(disch:=omega) [A92,h3,h4,hs]
  ·have e:L5 b i=none:=by rw[L5,if_neg (by omega)]
   rw[e];refine G7 (v:=.tuple #[.slice none 0 0,.bool false]) (H':=H) ?_ (L:=[]) rfl (Ext.refl H) (D3.tupleL (.cons (D3.B []) (.cons (.bool _) .nil))).alive;have h3:¬ (i:Int)<0:=by omega
   have h4:(i:Int)>b.length:=by omega
   simp -implicitDefEqProofs(disch:=omega) [A92,h3,h4]
 ·have e:L5 b i=none:=by rw[L5,if_neg (by omega)]
  rw[e];refine G7 (v:=.tuple #[.slice none 0 0,.bool false]) (H':=H) ?_ (L:=[]) rfl (Ext.refl H) (D3.tupleL (.cons (D3.B []) (.cons (.bool _) .nil))).alive;have h3:(i:Int)<0:=by omega
  simp -implicitDefEqProofs(disch:=omega) [A92,h3]
end Go.Sw
end
