/-
  Functions' forms, and what is proved of them, part 7.
-/
import Derived.Test.YtanfippcmdialaaGreatSwCfg
import Derived.Test.YtanfippcmdialaaGreatSwW6
set_option linter.unusedSimpArgs false
set_option linter.unusedVariables false
set_option linter.unusedSectionVars false
section
set_option maxRecDepth 100000
namespace Go.Sw
noncomputable section
variable (k:Nat) (call:A8)
def D4z:Env→A2→Res (D0 × Env):=M4 (C k) call F.ζt [1,1,0,1,0,0]
def E1z:G0 Value:=D7 0 (E4 (B3 (C k) call F.ζt [1,1,1]) (G2 A0 (G3 A0 F.ζt)))
def E2c(a0 a6 a8 a9 a10:Value)(h:A2):Res (D0 × Env) :=
 E4 (B3 (C k) call F.ζt [1,1,0,1,0,0,1,1]) (M2 (Q2 (C k) F.ζt [1,1,0,1,0,0])) .normal [(0,a0),(6,a6),(8,a8),(9,a9),(10,a10)] h
def E2d(a0 a6 a8 a9 a10 a52:Value)(h:A2):Res (D0 × Env) :=
 E4 (B3 (C k) call F.ζt [1,1,0,1,0,0,1,1]) (M2 (Q2 (C k) F.ζt [1,1,0,1,0,0])) .normal [(0,a0),(6,a6),(8,a8),(9,a9),(10,a10),(52,a52)] h
def ζt(a0 a1 a2:Value)(h:A2):Res Value :=
 (D1 A0 42 h).bind fun v0 h0=>(call F.ζh [a0,a1,a2] h0).bind fun v1 h1=>(B5 v1 0 h1).bind fun v2 h2=>(B5 v1 1 h2).bind fun v3 h3=>(loopN (D4z k call) B8 [(0,a0),(6,v0),(8,v2),(9,v3),(10,(.int .i64 0))] h3).bind fun r9 h4=>
 E1z k call r9.1 r9.2 h4
theorem G36(k:Nat)(a0 a1 a2:Value)(h:A2):R (T k) F.ζt [a0,a1,a2] h=nrm .fz h (ζt k (R (T k)) a0 a1 a2 h) :=G9
theorem E15(a0 a6 a8 a9 a10:Value)(h:A2):D4z k call [(0,a0),(6,a6),(8,a8),(9,a9),(10,a10)] h =
 (A6 A0 .len [40] [a8] h).bind fun v0 h0=>(A5 A0 .lss 3 a10 v0 h0).bind fun v1 h1=>
 condV (some v1) (
 (A9 A0 40 a8 a10 h1).bindN fun v2 h2=>(A1 A0 186 v2 0 h2).bindN fun v3 h3=>(A3 A0 3 v3 h3).bindN fun v4 h4=>(A9 A0 40 a8 a10 h4).bindN fun v5 h5=>(A1 A0 186 v5 1 h5).bindN fun v6 h6=>(A3 A0 3 v6 h6).bindN fun v7 h7=>(A5 A0 .gtr 3 v4 v7 h7).bindN fun v8 h8=>(wV v8 false (Res.ok a10 h8) h8).bindN fun v9 h9=>(wV v8 false (A5 A0 .gtr 3 v9 (.int .i64 0) h9) h9).bindN fun va ha=>(wV v8 false (Res.ok va ha) ha).bindN fun vb hb=>(wV vb true (Res.ok a8 hb) hb).bindN fun vc hc=>(wV vb true (Res.ok a10 hc) hc).bindN fun vd hd=>(wV vb true (A5 A0 .sub 3 vd (.int .i64 1) hd) hd).bindN fun ve he=>(wV vb true (A9 A0 40 vc ve he) he).bindN fun vf hf=>(wV vb true (A1 A0 186 vf 1 hf) hf).bindN fun vg hg=>(wV vb true (A3 A0 3 vg hg) hg).bindN fun vh hh=>(wV vb true (Res.ok a8 hh) hh).bindN fun vi hi=>(wV vb true (Res.ok a10 hi) hi).bindN fun vj hj=>(wV vb true (A9 A0 40 vi vj hj) hj).bindN fun vk hk=>(wV vb true (A1 A0 186 vk 0 hk) hk).bindN fun vl hl=>(wV vb true (A3 A0 3 vl hl) hl).bindN fun vm hm=>(wV vb true (A5 A0 .geq 3 vh vm hm) hm).bindN fun vn hn=>(wV v8 false (condV (some vb) (Res.ok vn hn) (Res.ok (.bool false) hn)) hn).bindN fun vo ho=>(condV (some v8) (Res.ok (.bool true) ho) (Res.ok vo ho)).bindN fun vp hp=>
 condV (some vp) (
 E2c k call a0 a6 a8 (.bool false) a10 hp)
 (
 E2d k call a0 a6 a8 a9 a10 vp hp))
 (
 .ok ((.exit 0),[(0,a0),(6,a6),(8,a8),(9,a9),(10,a10),(21,v1)]) h1) :=
 (E2 _ _).trans (by kernel_rfl)
theorem E13(a0 a6 a8 a9 a10:Value)(h:A2):E2c k call a0 a6 a8 a9 a10 h =
 (A5 A0 .add 3 a10 (.int .i64 1) h).bind fun v0 h0=>
 .ok (.normal,[(0,a0),(6,a6),(8,a8),(9,a9),(10,v0)]) h0:=by kernel_rfl
theorem E14(a0 a6 a8 a9 a10 a52:Value)(h:A2):E2d k call a0 a6 a8 a9 a10 a52 h =
 (A5 A0 .add 3 a10 (.int .i64 1) h).bind fun v0 h0=>
 .ok (.normal,[(0,a0),(6,a6),(8,a8),(9,a9),(10,v0)]) h0:=by kernel_rfl
theorem E0o(a0 a6 a8 a9 a10 a21:Value)(h:A2):E1z k call (.exit 0) [(0,a0),(6,a6),(8,a8),(9,a9),(10,a10),(21,a21)] h =
 (unR .not a9 h).bind fun v0 h0=>
 condV (some v0) (
 (E0 A0 42 [] h0).bind fun v1 h1=>(B4 A0 42 a6 v1 h1).bind fun _v2 h2=>(A3 A0 42 a6 h2).bind fun v3 h3=>
 .ok (.tuple #[v3,(.bool false)]) h3)
 (
 (E0 A0 42 [(0,a0),(1,a8)] h0).bind fun v4 h4=>(B4 A0 42 a6 v4 h4).bind fun _v5 h5=>(A3 A0 42 a6 h5).bind fun v6 h6=>
 .ok (.tuple #[v6,(.bool true)]) h6):=by kernel_rfl
def D56:Env→A2→Res (D0 × Env):=M4 (C k) call F.A6h [1,0,1,0,0]
def D4y:G0 Value:=D7 0 (E4 (B3 (C k) call F.A6h [1,1]) (G2 A0 (G3 A0 F.A6h)))
def A6h(a0 a1:Value)(h:A2):Res Value :=
 (K9 a0 h).bind fun v0 h0=>(loopN (D56 k call) B8 [(1,a1),(2,v0),(6,(.int .i64 0))] h0).bind fun r3 h1=>
 D4y k call r3.1 r3.2 h1
theorem G3w(k:Nat)(a0 a1:Value)(h:A2):R (T k) F.A6h [a0,a1] h=nrm .gc h (A6h k (R (T k)) a0 a1 h) :=G9
theorem D1a(a1 a2 a6:Value)(h:A2):D56 k call [(1,a1),(2,a2),(6,a6)] h =
 (A1 A0 42 a2 1 h).bind fun v0 h0=>(A3 A0 40 v0 h0).bind fun v1 h1=>(A6 A0 .len [40] [v1] h1).bind fun v2 h2=>(A5 A0 .lss 3 a6 v2 h2).bind fun v3 h3=>
 condV (some v3) (
 (A1 A0 42 a2 1 h3).bind fun v4 h4=>(A3 A0 40 v4 h4).bind fun v5 h5=>(A9 A0 40 v5 a6 h5).bind fun v6 h6=>(A3 A0 186 v6 h6).bind fun v7 h7=>(D1 A0 186 h7).bind fun v8 h8=>(B4 A0 186 v8 v7 h8).bind fun _v9 h9=>(A1 A0 186 v8 0 h9).bind fun va ha=>(A3 A0 3 va ha).bind fun vb hb=>(A5 A0 .geq 3 a1 vb hb).bind fun vc hc=>(wV vc true (Res.ok a1 hc) hc).bind fun vd hd=>(wV vc true (A1 A0 186 v8 1 hd) hd).bind fun ve he=>(wV vc true (A3 A0 3 ve he) he).bind fun vf hf=>(wV vc true (A5 A0 .leq 3 vd vf hf) hf).bind fun vg hg=>(condV (some vc) (Res.ok vg hg) (Res.ok (.bool false) hg)).bind fun vh hh=>
 condV (some vh) (
 (A1 A0 42 a2 0 hh).bind fun vi hi=>(A3 A0 22 vi hi).bind fun vj hj=>(A1 A0 186 v8 2 hj).bind fun vk hk=>(A3 A0 3 vk hk).bind fun vl hl=>(A1 A0 186 v8 0 hl).bind fun vm hm=>(A3 A0 3 vm hm).bind fun vn hn=>(A5 A0 .sub 3 a1 vn hn).bind fun vo ho=>(A1 A0 186 v8 4 ho).bind fun vp hp=>(A3 A0 3 vp hp).bind fun vq hq=>(A5 A0 .mul 3 vo vq hq).bind fun vr hr=>(A5 A0 .add 3 vl vr hr).bind fun vs hs=>(A1 A0 186 v8 3 hs).bind fun vt ht=>(A3 A0 3 vt ht).bind fun vu hu=>(call F.ζ2 [vj,vs,vu] hu).bind fun vv hv=>
 .ok (.ret,[(4,vv),(5,(.bool true))]) hv)
 (
 (A5 A0 .add 3 a6 (.int .i64 1) hh).bind fun vw hw=>
 .ok (.normal,[(1,a1),(2,a2),(6,vw)]) hw))
 (
 .ok ((.exit 0),[(1,a1),(2,a2),(6,a6),(12,v3)]) h3) :=
 (E2 _ _).trans (by kernel_rfl)
theorem G19(a4 a5:Value)(h:A2):D4y k call .ret [(4,a4),(5,a5)] h =
 .ok (.tuple #[a4,a5]) h:=by kernel_rfl
theorem G0q(a1 a2 a6 a12:Value)(h:A2):D4y k call (.exit 0) [(1,a1),(2,a2),(6,a6),(12,a12)] h =
 .ok (.tuple #[(.int .i64 0),(.bool false)]) h:=by kernel_rfl
def D4p:Env→A2→Res (D0 × Env):=M4 (C k) call F.ζh [1,0,1,0,1,1,1,1,1,1,1,0,1,1,0,1,0,0]
def E1m:G0 Value:=D7 1 (E4 (B3 (C k) call F.ζh [1,0,1,0,1,1,1,1,1,1,1,0,1,1,1]) (D7 0 (E4 (B3 (C k) call F.ζh [1,1]) (G2 A0 (G3 A0 F.ζh)))))
def ζh(a0 a1 a2:Value)(h:A2):Res Value :=
 (call F.ζ2 [a0,(.int .i64 0),(.int .i64 2)] h).bind fun v0 h0=>(A5 A0 .eql 3 v0 (.int .i64 0) h0).bind fun v1 h1=>
 condV (some v1) (
 (A5 A0 .sub 3 a1 (.int .i64 1) h1).bind fun v2 h2=>(E0 A0 186 [(0,(.int .i64 0)),(1,v2),(2,(.int .i64 2)),(3,a2),(4,a2)] h2).bind fun v3 h3=>(B9 A0 40 1 [(0,v3)] h3).bind fun v4 h4=>(A6 A0 .len [22] [a0] h4).bind fun v5 h5=>(call F.ζn [v5,(.int .i64 2),a1,a2] h5).bind fun v6 h6=>
 .ok (.tuple #[v4,v6]) h6)
 (
 (A5 A0 .eql 3 v0 (.int .i64 2) h1).bind fun v7 h7=>
 condV (some v7) (
 (call F.ζ5 [a0,a2,(.bool false)] h7).bind fun v8 h8=>(B5 v8 0 h8).bind fun v9 h9=>(B5 v8 1 h9).bind fun va ha=>
 .ok (.tuple #[v9,va]) ha)
 (
 (A5 A0 .eql 3 v0 (.int .i64 4) h7).bind fun vb hb=>
 condV (some vb) (
 (call F.ζ5 [a0,a2,(.bool true)] hb).bind fun vc hc=>(B5 vc 0 hc).bind fun vd hd=>(B5 vc 1 hd).bind fun ve he=>
 .ok (.tuple #[vd,ve]) he)
 (
 (A5 A0 .eql 3 v0 (.int .i64 6) hb).bind fun vf hf=>
 condV (some vf) (
 (A5 A0 .add 3 (.int .i64 2) a2 hf).bind fun vg hg=>(call F.ζ7 [a0,(.int .i64 2),vg,(.int .i64 1)] hg).bind fun vh hh=>(B5 vh 0 hh).bind fun vi hi=>(B5 vh 1 hi).bind fun vj hj=>(B5 vh 2 hj).bind fun vk hk=>(B9 A0 40 0 [] hk).bind fun vl hl=>(loopN (D4p k call) B8 [(0,a0),(2,a2),(8,vi),(10,vk),(11,vl),(12,(.int .i64 0))] hl).bind fun r45 hm=>
 E1m k call r45.1 r45.2 hm)
 (
 (A5 A0 .eql 3 v0 (.int .i64 8) hf).bind fun vm hn=>
 condV (some vm) (
 (call F.ζr [a0,(.int .i64 2),a2] hn).bind fun vn ho=>(B5 vn 0 ho).bind fun vo hp=>(B5 vn 1 hp).bind fun vp hq=>
 .ok (.tuple #[vo,vp]) hq)
 (
 (A5 A0 .eql 3 v0 (.int .i64 10) hn).bind fun vq hr=>
 condV (some vq) (
 (call F.ζ2 [a0,(.int .i64 2),(.int .i64 2)] hr).bind fun vr hs=>(A5 A0 .neq 3 vr (.int .i64 1) hs).bind fun vs ht=>(wV vs true (Res.ok vr ht) ht).bind fun vt hu=>(wV vs true (A5 A0 .neq 3 vt (.int .i64 2) hu) hu).bind fun vu hv=>(condV (some vs) (Res.ok vu hv) (Res.ok (.bool false) hv)).bind fun vv hw=>(wV vv true (Res.ok vr hw) hw).bind fun vw hx=>(wV vv true (A5 A0 .neq 3 vw (.int .i64 4) hx) hx).bind fun vx hy=>(condV (some vv) (Res.ok vx hy) (Res.ok (.bool false) hy)).bind fun vy hz=>
 condV (some vy) (
 .ok (.tuple #[(.slice none 0 0),(.bool false)]) hz)
 (
 (call F.ζr [a0,(.int .i64 4),vr] hz).bind fun vz h10=>(B5 vz 0 h10).bind fun v10 h11=>(B5 vz 1 h11).bind fun v11 h12=>
 .ok (.tuple #[v10,v11]) h12))
 (
 .ok (.tuple #[(.slice none 0 0),(.bool false)]) hr))))))
theorem G1r(k:Nat)(a0 a1 a2:Value)(h:A2):R (T k) F.ζh [a0,a1,a2] h=nrm .fz h (ζh k (R (T k)) a0 a1 a2 h) :=G9
theorem E0p(a0 a2 a8 a10 a11 a12:Value)(h:A2):D4p k call [(0,a0),(2,a2),(8,a8),(10,a10),(11,a11),(12,a12)] h =
 (A6 A0 .len [30] [a8] h).bind fun v0 h0=>(A5 A0 .lss 3 a12 v0 h0).bind fun v1 h1=>
 condV (some v1) (
 (A9 A0 30 a8 a12 h1).bind fun v2 h2=>(A3 A0 3 v2 h2).bind fun v3 h3=>(call F.ζ2 [a0,v3,(.int .i64 2)] h3).bind fun v4 h4=>(A9 A0 30 a8 a12 h4).bind fun v5 h5=>(A3 A0 3 v5 h5).bind fun v6 h6=>(A5 A0 .add 3 v6 (.int .i64 2) h6).bind fun v7 h7=>(E0 A0 186 [(0,v4),(1,v4),(2,v7),(3,a2)] h7).bind fun v8 h8=>(B9 A0 40 1 [(0,v8)] h8).bind fun v9 h9=>(A6 A0 .append [40,40] [a11,v9] h9).bind fun va ha=>(A5 A0 .add 3 a12 (.int .i64 1) ha).bind fun vb hb=>
 .ok (.normal,[(0,a0),(2,a2),(8,a8),(10,a10),(11,va),(12,vb)]) hb)
 (
 .ok ((.exit 1),[(0,a0),(2,a2),(8,a8),(10,a10),(11,a11),(12,a12),(58,v1)]) h1) :=
 (E2 _ _).trans (by kernel_rfl)
theorem G04(a0 a2 a8 a10 a11 a12 a58:Value)(h:A2):E1m k call (.exit 1) [(0,a0),(2,a2),(8,a8),(10,a10),(11,a11),(12,a12),(58,a58)] h =
 .ok (.tuple #[a11,a10]) h:=by kernel_rfl
def E0q(a0 a1 a2 a8:Value)(h:A2):Res Value :=
 E4 (B3 (C k) call F.ζ5 [1,1,1]) (G2 A0 (G3 A0 F.ζ5)) .normal [(0,a0),(1,a1),(2,a2),(8,a8)] h
def E0r(a0 a1 a2 a8 a17:Value)(h:A2):Res Value :=
 E4 (B3 (C k) call F.ζ5 [1,1,1]) (G2 A0 (G3 A0 F.ζ5)) .normal [(0,a0),(1,a1),(2,a2),(8,a8),(17,a17)] h
def D15:Env→A2→Res (D0 × Env):=M4 (C k) call F.ζ5 [1,1,1,1,1,0,1,0,0]
def D45:G0 Value:=D7 0 (E4 (B3 (C k) call F.ζ5 [1,1,1,1,1,1]) (G2 A0 (G3 A0 F.ζ5)))
def E0s(a0 a1 a2 a9 a11 a12 a13 a14:Value)(h:A2):Res (D0 × Env) :=
 E4 (B3 (C k) call F.ζ5 [1,1,1,1,1,0,1,0,0,1,0,0,1,1]) (D7 1 (E4 (B3 (C k) call F.ζ5 [1,1,1,1,1,0,1,0,0,1,1]) (M2 (Q2 (C k) F.ζ5 [1,1,1,1,1,0,1,0,0])))) .normal [(0,a0),(1,a1),(2,a2),(9,a9),(11,a11),(12,a12),(13,a13),(14,a14)] h
def E0t(a0 a1 a2 a9 a11 a12 a13 a14 a55:Value)(h:A2):Res (D0 × Env) :=
 E4 (B3 (C k) call F.ζ5 [1,1,1,1,1,0,1,0,0,1,0,0,1,1]) (D7 1 (E4 (B3 (C k) call F.ζ5 [1,1,1,1,1,0,1,0,0,1,1]) (M2 (Q2 (C k) F.ζ5 [1,1,1,1,1,0,1,0,0])))) .normal [(0,a0),(1,a1),(2,a2),(9,a9),(11,a11),(12,a12),(13,a13),(14,a14),(55,a55)] h
def ζ5(a0 a1 a2:Value)(h:A2):Res Value :=
 (A5 A0 .add 3 (.int .i64 4) a1 h).bind fun v0 h0=>
 condV (some a2) (
 E0q k call a0 a1 a2 (.int .i64 6) h0)
 (
 E0r k call a0 a1 a2 v0 a2 h0)
theorem G0r(k:Nat)(a0 a1 a2:Value)(h:A2):R (T k) F.ζ5 [a0,a1,a2] h=nrm .fz h (ζ5 k (R (T k)) a0 a1 a2 h) :=G9
theorem E9i(a0 a1 a2 a8:Value)(h:A2):E0q k call a0 a1 a2 a8 h =
 (call F.ζ7 [a0,(.int .i64 2),a8,(.int .i64 2)] h).bind fun v0 h0=>(B5 v0 0 h0).bind fun v1 h1=>(B5 v0 1 h1).bind fun v2 h2=>(B5 v0 2 h2).bind fun v3 h3=>(B9 A0 40 0 [] h3).bind fun v4 h4=>(loopN (D15 k call) B8 [(0,a0),(1,a1),(2,a2),(9,v1),(11,v3),(12,v4),(13,(.int .i64 0))] h4).bind fun r13 h5=>
 D45 k call r13.1 r13.2 h5:=by kernel_rfl
theorem E9j(a0 a1 a2 a8 a17:Value)(h:A2):E0r k call a0 a1 a2 a8 a17 h =
 (call F.ζ7 [a0,(.int .i64 2),a8,(.int .i64 2)] h).bind fun v0 h0=>(B5 v0 0 h0).bind fun v1 h1=>(B5 v0 1 h1).bind fun v2 h2=>(B5 v0 2 h2).bind fun v3 h3=>(B9 A0 40 0 [] h3).bind fun v4 h4=>(loopN (D15 k call) B8 [(0,a0),(1,a1),(2,a2),(9,v1),(11,v3),(12,v4),(13,(.int .i64 0))] h4).bind fun r25 h5=>
 D45 k call r25.1 r25.2 h5:=by kernel_rfl
theorem D43(a0 a1 a2 a9 a11 a12 a13:Value)(h:A2):D15 k call [(0,a0),(1,a1),(2,a2),(9,a9),(11,a11),(12,a12),(13,a13)] h =
 (A6 A0 .len [30] [a9] h).bind fun v0 h0=>(A5 A0 .lss 3 a13 v0 h0).bind fun v1 h1=>(wV v1 true (Res.ok a11 h1) h1).bind fun v2 h2=>(condV (some v1) (Res.ok v2 h2) (Res.ok (.bool false) h2)).bind fun v3 h3=>
 condV (some v3) (
 (A9 A0 30 a9 a13 h3).bindN fun v4 h4=>(A3 A0 3 v4 h4).bindN fun v5 h5=>(A5 A0 .add 3 v5 (.int .i64 2) h5).bindN fun v6 h6=>(call F.ζ2 [a0,v6,(.int .i64 2)] h6).bindT (fun p43 h7=>(A9 A0 30 a9 a13 h6).bindN fun v7 h8=>(A3 A0 3 v7 h8).bindN fun v8 h9=>(A9 A0 30 a9 a13 h9).bindN fun v9 ha=>(A3 A0 3 v9 ha).bindN fun va hb=>(A5 A0 .add 3 va (.int .i64 4) hb).bindN fun vb hc=>(D1 A0 186 hc).bindN fun vc hd=>E6 ((A4 (A3 A0 3 v7 h3) v8 && true) && ((A4 (A3 A0 3 v9 h3) va && (A4 (A3 A0 3 v9 hd) va && true)) && true)) (.panic p43 h7)) fun vd he=>(A9 A0 30 a9 a13 he).bindN fun ve hf=>(A3 A0 3 ve hf).bindN fun vf hg=>(call F.ζ2 [a0,vf,(.int .i64 2)] hg).bindT (fun p63 hh=>(A9 A0 30 a9 a13 hg).bindN fun vg hi=>(A3 A0 3 vg hi).bindN fun vh hj=>(A5 A0 .add 3 vh (.int .i64 4) hj).bindN fun vi hk=>(D1 A0 186 hk).bindN fun vj hl=>E6 ((A4 (A3 A0 3 ve h3) vf && true) && ((A4 (A3 A0 3 vg h3) vh && (A4 (A3 A0 3 vg he) vh && (A4 (A3 A0 3 vg hl) vh && true))) && true)) (.panic p63 hh)) fun vk hm=>(A9 A0 30 a9 a13 hm).bindN fun vl hn=>(A3 A0 3 vl hn).bindN fun vm ho=>(A5 A0 .add 3 vm (.int .i64 4) ho).bindN fun vn hp=>(E0 A0 186 [(0,vd),(1,vk),(2,vn),(3,a1)] hp).bindN fun vo hq=>(D1 A0 186 hq).bindN fun vp hr=>(B4 A0 186 vp vo hr).bindN fun _vq hs=>
 E6 ((A4 (A3 A0 3 ve h3) vf && true) && ((A4 (A3 A0 3 vl h3) vm && (A4 (A3 A0 3 vl he) vm && (A4 (A3 A0 3 vl hr) vm && true))) && true)) (
 condV (some a2) (
 (A9 A0 30 a9 a13 hs).bind fun vr ht=>(A3 A0 3 vr ht).bind fun vs hu=>(A5 A0 .add 3 vs (.int .i64 4) hu).bind fun vt hv=>(call F.ζ2 [a0,vt,(.int .i64 2)] hv).bind fun vu hw=>(A1 A0 186 vp 2 hw).bind fun vv hx=>(B4 A0 3 vv vu hx).bind fun _vw hy=>(A1 A0 186 vp 4 hy).bind fun vx hz=>(B4 A0 3 vx a1 hz).bind fun _vy h10=>(A6 A0 .len [22] [a0] h10).bind fun vz h11=>(A1 A0 186 vp 2 h11).bind fun v10 h12=>(A3 A0 3 v10 h12).bind fun v11 h13=>(A1 A0 186 vp 1 h13).bind fun v12 h14=>(A3 A0 3 v12 h14).bind fun v13 h15=>(A1 A0 186 vp 0 h15).bind fun v14 h16=>(A3 A0 3 v14 h16).bind fun v15 h17=>(A5 A0 .sub 3 v13 v15 h17).bind fun v16 h18=>(A5 A0 .add 3 v16 (.int .i64 1) h18).bind fun v17 h19=>(call F.ζn [vz,v11,v17,a1] h19).bind fun v18 h1a=>
 E0s k call a0 a1 a2 a9 v18 a12 a13 vp h1a)
 (
 E0t k call a0 a1 a2 a9 a11 a12 a13 vp a2 hs)))
 (
 .ok ((.exit 0),[(0,a0),(1,a1),(2,a2),(9,a9),(11,a11),(12,a12),(13,a13),(32,v3)]) h3) :=
 (E2 _ _).trans (by kernel_rfl)
theorem E9k(a0 a1 a2 a9 a11 a12 a13 a14:Value)(h:A2):E0s k call a0 a1 a2 a9 a11 a12 a13 a14 h =
 (A3 A0 186 a14 h).bind fun v0 h0=>(B9 A0 40 1 [(0,v0)] h0).bind fun v1 h1=>(A6 A0 .append [40,40] [a12,v1] h1).bind fun v2 h2=>(A5 A0 .add 3 a13 (.int .i64 1) h2).bind fun v3 h3=>
 .ok (.normal,[(0,a0),(1,a1),(2,a2),(9,a9),(11,a11),(12,v2),(13,v3)]) h3:=by kernel_rfl
theorem E9l(a0 a1 a2 a9 a11 a12 a13 a14 a55:Value)(h:A2):E0t k call a0 a1 a2 a9 a11 a12 a13 a14 a55 h =
 (A3 A0 186 a14 h).bind fun v0 h0=>(B9 A0 40 1 [(0,v0)] h0).bind fun v1 h1=>(A6 A0 .append [40,40] [a12,v1] h1).bind fun v2 h2=>(A5 A0 .add 3 a13 (.int .i64 1) h2).bind fun v3 h3=>
 .ok (.normal,[(0,a0),(1,a1),(2,a2),(9,a9),(11,a11),(12,v2),(13,v3)]) h3:=by kernel_rfl
theorem E04(a0 a1 a2 a9 a11 a12 a13 a32:Value)(h:A2):D45 k call (.exit 0) [(0,a0),(1,a1),(2,a2),(9,a9),(11,a11),(12,a12),(13,a13),(32,a32)] h =
 .ok (.tuple #[a12,a11]) h:=by kernel_rfl
def ζr(k:Nat)(call:A8)(a0 a1 a2:Value)(h:A2):Res Value :=
 (call F.ζ2 [a0,a1,(.int .i64 2)] h).bind fun v0 h0=>(A5 A0 .add 3 a1 (.int .i64 2) h0).bind fun v1 h1=>(call F.ζ2 [a0,v1,(.int .i64 2)] h1).bind fun v2 h2=>(A5 A0 .lss 3 v0 (.int .i64 0) h2).bind fun v3 h3=>(wV v3 false (Res.ok v2 h3) h3).bind fun v4 h4=>(wV v3 false (A5 A0 .lss 3 v4 (.int .i64 0) h4) h4).bind fun v5 h5=>(condV (some v3) (Res.ok (.bool true) h5) (Res.ok v5 h5)).bind fun v6 h6=>(wV v6 false (Res.ok v0 h6) h6).bind fun v7 h7=>(wV v6 false (Res.ok v2 h7) h7).bind fun v8 h8=>(wV v6 false (A5 A0 .add 3 v7 v8 h8) h8).bind fun v9 h9=>(wV v6 false (A5 A0 .gtr 3 v9 (.int .i64 65536) h9) h9).bind fun va ha=>(condV (some v6) (Res.ok (.bool true) ha) (Res.ok va ha)).bind fun vb hb=>(wV vb false (Res.ok a0 hb) hb).bind fun vc hc=>(wV vb false (A6 A0 .len [22] [vc] hc) hc).bind fun vd hd=>(wV vb false (Res.ok a1 hd) hd).bind fun ve he=>(wV vb false (A5 A0 .add 3 ve (.int .i64 4) he) he).bind fun vf hf=>(wV vb false (Res.ok v2 hf) hf).bind fun vg hg=>(wV vb false (Res.ok a2 hg) hg).bind fun vh hh=>(wV vb false (call F.ζn [vd,vf,vg,vh] hh) hh).bind fun vi hi=>(wV vb false (unR .not vi hi) hi).bind fun vj hj=>(condV (some vb) (Res.ok (.bool true) hj) (Res.ok vj hj)).bind fun vk hk=>
 condV (some vk) (
 .ok (.tuple #[(.slice none 0 0),(.bool false)]) hk)
 (
 (A5 A0 .eql 3 v2 (.int .i64 0) hk).bind fun vl hl=>
 condV (some vl) (
 (B9 A0 40 0 [] hl).bind fun vm hm=>
 .ok (.tuple #[vm,(.bool true)]) hm)
 (
 (A5 A0 .add 3 v0 v2 hl).bind fun vn hn=>(A5 A0 .sub 3 vn (.int .i64 1) hn).bind fun vo ho=>(A5 A0 .add 3 a1 (.int .i64 4) ho).bind fun vp hp=>(E0 A0 186 [(0,v0),(1,vo),(2,vp),(3,a2),(4,a2)] hp).bind fun vq hq=>(B9 A0 40 1 [(0,vq)] hq).bind fun vr hr=>
 .ok (.tuple #[vr,(.bool true)]) hr))
theorem G1a(k:Nat)(a0 a1 a2:Value)(h:A2):R (T k) F.ζr [a0,a1,a2] h=nrm .fz h (ζr k (R (T k)) a0 a1 a2 h) :=G9
end
end Go.Sw
end
section
namespace Go.Sw
open Go.RowKit
abbrev K3(r:RP):List Value:=[.int .i64 r.first,.int .i64 r.last,.int .i64 r.pos,.int .i64 r.size,.int .i64 r.step]
theorem A8v(r:RP):(K3 r).length=5:=rfl
theorem D1q(l:List RP):∀ p,p ∈ l→∀ v,v ∈ K3 p→A2a v:=fun p _ v hv=>by
 simp[K3] at hv;rcases hv with rfl | rfl | rfl | rfl | rfl <;> trivial
theorem D3.RPs(l:List RP):D3 (Go.Sw.lv K3 l):=.lv fun p _=>.cons (.int _ _) (.cons (.int _ _) (.cons (.int _ _) (.cons (.int _ _) (.cons (.int _ _) .nil))))
def A0d(o:Option (List RP))(v:Value):Prop:=∃ l,v=.tuple #[lv K3 l,.bool o.isSome]∧(∀ x,o=some x→l=x)∧l.length≤65536
theorem B3c(l:List RP)(x:Bool):D3 (.tuple #[lv K3 l,.bool x]):=.tupleL (.cons (D3.RPs _) (.cons (.bool _) .nil))
def B2k(b:List Int)(z:Int)(each:Bool)(p:Int):RP:=if each then ⟨gU b (p+2) 2,gU b p 2,gU b (p+4) 2,z,z⟩ else ⟨gU b (p+2) 2,gU b p 2,p+4,z,0⟩
def B4p(b:List Int)(z:Int)(each:Bool)(p:Int):Bool:=if each then U9 b.length (gU b (p+4) 2) (gU b p 2 - gU b (p+2) 2+1) z else true
theorem B4c(b:List Int)(z:Int)(each:Bool)(p:Int):A5w b z each p=if B4p b z each p then some (B2k b z each p) else none:=by
 unfold A5w B4p B2k;cases each <;> simp
theorem E66 {β:Type} {f:Int→Option β} {l:List Int} {j:Nat} {p:Int} (hp:l[j]?=some p):M6 f (l.take (j+1))=(M6 f (l.take j)).bind fun r=>(f p).map fun y=>r++[y]:=by
 have h:∀ (a:List Int),M6 f (a++[p])=(M6 f a).bind fun r=>(f p).map fun y=>r++[y]:=by
  intro a
  induction a with
  | nil=>simp[M6]; cases f p <;> rfl
  | cons x a ih=>
   simp only[List.cons_append,M6,ih];cases f x with
   | none=>rfl
   | some y=>
    simp only[Option.bind_some];cases M6 f a with
    | none=>rfl
    | some r=>simp only[Option.bind_some,Option.map_some]; cases f p <;> rfl
 rw[A29 hp,h]
theorem G4r {β:Type} {f:Int→Option β} {l:List Int} {j:Nat} (h:M6 f (l.take j)=none):M6 f l=none:=by
 have:∀ (a b:List Int),M6 f a=none→M6 f (a++b)=none:=by
  intro a
  induction a with
  | nil=>intro b h; cases h
  | cons x a ih=>
   intro b h;simp only[List.cons_append,M6] at h ⊢;cases hx:f x with
   | none=>rfl
   | some y=>
    rw[hx] at h;simp only[Option.bind_some,Option.map_eq_none_iff] at h ⊢;exact ih b h
 rw[← List.take_append_drop j l];exact this _ _ h
theorem E5d (k:Nat) (b:List Int) (hb:Byt b) (z:Int) (hz:z=2∨z=4) (each:Bool) (hl:b.length<2 ^ 31) (H:A2) :
  ∃ v,R (T k) F.ζ5 [lv B7 b,.int .i64 z,.bool each] H=.ok v H∧A0d (A1j b z each) v:=by
 have hU:=fun j H'=>P0 k (H:=H') (Sl.lv H' 1 b) hb j 2 (by omega) (by omega);have hRows:=fun i n H'=>B58 k b.length i n z (by omega) (by omega) H';obtain⟨need,hneed⟩:∃ need:Int,need=if each then 6 else 4+z:=⟨_,rfl⟩
 have hr5:∀ H',R (T k) F.ζ7 [lv B7 b,.int .i64 2,.int .i64 need,.int .i64 2] H'=.ok (A3z b 2 need 2) H':=fun H'=>E58 k b hb 2 need 2 hl (by omega) (by omega) (by subst hneed; split <;> omega) (by subst hneed; split <;> omega) H'
 -- the rows
 obtain ⟨ps,ok,zz,hrow,hps,hok⟩:∃ (ps:List Int) (ok:Bool) (zz:Int),A3z b 2 need 2=.tuple #[lv N3 ps,.int .i64 zz,.bool ok]∧(∀ p,p ∈ ps→0≤p∧p<2 ^ 34) ∧
   ps.length<65536∧A1j b z each=(if ok then M6 (A5w b z each) ps else none)∧(ok=false→ps=[]):=by
  unfold A3z A1j;rw[← hneed];cases ht:P7 b 2 need 2 with
  | none=>exact⟨[],false,0,rfl,(fun p h=>by cases h),by simp,rfl,fun _=>rfl⟩
  | some rows=>
   obtain⟨s,n,h1,h2,h3,h4,h5,h6⟩:=B9c ht;have hs:=K8 hb h1;have hn:=K8 hb h2;rw[L8 h1];refine⟨A3f 2 s rows.length,true,s,rfl,fun p hp=>?_,by simp; omega,rfl,fun h=>by cases h⟩;obtain⟨i,hi⟩:=List.getElem?_of_mem hp;have hlt:=(List.getElem?_eq_some_iff.1 hi).1;simp at hlt;rw[A2s _ _ _ _ hlt] at hi;injection hi with hi;have:=Int.mul_nonneg hs.1 (show (0:Int)≤(i:Nat) by omega);have:s*(i:Nat)≤65536*65536:=Int.mul_le_mul (by omega) (by omega) (by omega) (by omega);omega
 obtain⟨hplen,href,hoknil⟩:=hok;rw[href]
 obtain ⟨x,e',H1,hr,rfl,hx,a,s,out,fl,rfl,ho,hq⟩:=K5 (body:=D15 k (R (T k))) ps.length
  (fun j e H'=>Ext H H'∧∃ s out fl,e=[(0,lv B7 b),(1,.int .i64 z),(2,.bool each),(9,lv N3 ps),(11,.bool fl),(12,s),(13,.int .i64 j)]∧Own H H' 5 s K3 out ∧
   out.length≤j∧((ok=true∧fl=true∧M6 (A5w b z each) (ps.take j)=some out)∨(fl=false∧(ok=false∨M6 (A5w b z each) ps=none))))
  (fun x e H'=>x=.exit 0∧Ext H H'∧∃ a s out fl,e=[(0,lv B7 b),(1,.int .i64 z),(2,.bool each),(9,lv N3 ps),(11,.bool fl),(12,s),(13,a),(32,.bool false)]∧Own H H' 5 s K3 out ∧
   out.length≤ps.length∧((ok=true∧fl=true∧M6 (A5w b z each) ps=some out)∨(fl=false∧(ok=false∨M6 (A5w b z each) ps=none))))
  (e0:=[(0,lv B7 b),(1,.int .i64 z),(2,.bool each),(9,lv N3 ps),(11,.bool ok),(12,U8),(13,.int .i64 0)]) (H0:=H)
  ⟨Ext.refl H,U8,[],ok,rfl,Own.bare _ _ _,by simp,by cases ok; exact .inr ⟨rfl,.inl rfl⟩; exact .inl ⟨rfl,rfl,rfl⟩⟩ (by omega)
  (fun j e H' hj ⟨hx,s,out,fl,he,ho,hol,hq⟩=>by
   subst he;have hlt:(j:Int)<ps.length:=by omega
   rcases hq with⟨hok,rfl,hm⟩ | ⟨rfl,hn⟩
   rotate_left
   ·refine .inr ⟨.exit 0,_,H',?_,by simp,rfl,hx,.int .i64 j,s,out,false,rfl,ho,by omega,.inr ⟨rfl,hn⟩⟩;rw[D43];simp -implicitDefEqProofs(disch:=omega) [hlt]
   ·obtain ⟨p,hp⟩:∃ p,ps[j]?=some p:=⟨_,List.getElem?_eq_getElem hj⟩
    have hpb:=hps p (List.mem_of_getElem? hp);have i1:=fun H'=>S0 N0 ps .i64 j p hp H';have u0:=fun H'=>hU p H';have u2:=fun H'=>hU (p+2) H';have u4:=fun H'=>hU (p+4) H';have g0:=X7 hb p;have g2:=X7 hb (p+2);have g4:=X7 hb (p+4);obtain⟨f,hf⟩:∃ f,gU b (p+2) 2=f:=⟨_,rfl⟩
    obtain⟨l,hll⟩:∃ l,gU b p 2=l:=⟨_,rfl⟩
    obtain⟨q,hqq⟩:∃ q,gU b (p+4) 2=q:=⟨_,rfl⟩
    rw[hf] at g2;rw[hll] at g0;rw[hqq] at g4;have u0:∀ H',R (T k) F.ζ2 [lv B7 b,.int .i64 p,.int .i64 2] H'=.ok (.int .i64 l) H':=fun H'=>by rw[u0]; unfold gU at hll; rw[hll]
    have u2:∀ H',R (T k) F.ζ2 [lv B7 b,.int .i64 (p+2),.int .i64 2] H'=.ok (.int .i64 f) H':=fun H'=>by rw[u2]; unfold gU at hf; rw[hf]
    have u4:∀ H',R (T k) F.ζ2 [lv B7 b,.int .i64 (p+4),.int .i64 2] H'=.ok (.int .i64 q) H':=fun H'=>by rw[u4]; unfold gU at hqq; rw[hqq]
    have hE:B2k b z each p=if each then ⟨f,l,q,z,z⟩ else ⟨f,l,p+4,z,0⟩:=by unfold B2k; rw[hf,hll,hqq]
    have hB:B4p b z each p=if each then U9 b.length q (l - f+1) z else true:=by unfold B4p; rw[hf,hll,hqq]
    have hx1:Ext H' (H'.push ⟨K3 (B2k b z each p),1,false⟩):=(Ext.refl H').push _;obtain⟨s2,H2,e2,o2,x2⟩:=A52 (bytes:=40) A8v (ho.up hx1) (hx.trans hx1) (B2k b z each p) (by omega) (by decide);refine .inl ⟨_,H2,?_,x2,s2,out++[B2k b z each p],B4p b z each p,rfl,o2,by simp; omega,?_⟩
    ·rw [D43];rw[hE] at e2;rw[hB];cases each with
     | false=>
      simp only[Bool.false_eq_true,if_false,A02,K3] at e2 ⊢;simp -implicitDefEqProofs(disch:=omega) [hlt,i1,u0,u2,E9l,e2]
     | true=>
      simp only[if_true,A02,K3] at e2 ⊢;simp -implicitDefEqProofs(disch:=omega) [hlt,i1,u0,u2,u4,hRows,E9k,e2]
    ·cases hsb:B4p b z each p with
     | true=>
      refine .inl ⟨hok,rfl,?_⟩;rw[E66 hp,hm,B4c,hsb];rfl
     | false=>
      refine .inr ⟨rfl,.inr (G4r (j:=j+1) ?_)⟩;rw[E66 hp,hm,B4c,hsb];rfl)
  (fun e H' ⟨hx,s,out,fl,he,ho,hol,hq⟩=>by
   subst he;refine⟨.exit 0,_,H',?_,by simp,rfl,hx,.int .i64 ps.length,s,out,fl,rfl,ho,hol,by rw[List.take_length] at hq; exact hq⟩;rw[D43];simp -implicitDefEqProofs)
 obtain ⟨L,hf⟩:=ho.freeze A8v (D1q _) 5;have hall:ζ5 k (R (T k)) (lv B7 b) (.int .i64 z) (.bool each) H=.ok (.tuple #[s,.bool fl]) H1:=by
  cases each with
  | false=>
   simp only[Bool.false_eq_true,if_false] at hneed;subst hneed;have hr5':=hr5;rw[hrow] at hr5';rcases hz with rfl | rfl <;> simp only[show (4:Int)+2=6 from rfl,show (4:Int)+4=8 from rfl] at hr5' <;> simp -implicitDefEqProofs(disch:=omega) [ζ5,E9j,hr5',hr,E04]
  | true=>
   simp only[if_true] at hneed;subst hneed;have hr5':=hr5;rw[hrow] at hr5';rcases hz with rfl | rfl <;> simp -implicitDefEqProofs(disch:=omega) [ζ5,E9i,hr5',hr,E04]
 refine⟨.tuple #[lv K3 out,.bool fl],?_,?_⟩
 ·rw[G0r];exact G7 hall (A1y (l:=[s,.bool fl]) (A1k hf (X1 (L:=[]) rfl))) hx (B3c _ _).alive
 ·rcases hq with⟨hol,⟨rfl,rfl,hm⟩ | ⟨rfl,hn⟩⟩
  ·exact⟨out,by simp[hm],fun x h=>(by simp[hm] at h; exact h),by omega⟩
  ·have:(if ok=true then M6 (A5w b z each) ps else none)=none:=by
    rcases hn with rfl | hn
    ·rfl
    ·rw[hn]; split <;> rfl
   rw[this];exact⟨out,rfl,fun x h=>(by cases h),by omega⟩
theorem A8c{H:A2}{r:Res Value}(h:r=.ok (.tuple #[.slice none 0 0,.bool false]) H):nrm .fz H r=.ok (.tuple #[lv K3 [],.bool false]) H :=
 G7 (L:=[]) h rfl (Ext.refl H) (B3c [] false).alive
theorem A0d.no:A0d none (.tuple #[lv K3 [],.bool false]):=⟨[],rfl,fun x h=>(by cases h),by simp⟩
theorem E5h (k:Nat) (b:List Int) (hb:Byt b) (i z:Int) (hz:z=1∨z=2∨z=4) (hi:0≤i∧i≤4) (hl:b.length<2 ^ 31) (H:A2) :
  ∃ v,R (T k) F.ζr [lv B7 b,.int .i64 i,.int .i64 z] H=.ok v H∧A0d (A18 b i z) v:=by
 have hU:=fun j H'=>P0 k (H:=H') (Sl.lv H' 1 b) hb j 2 (by omega) (by omega);have hR:=fun n H'=>B58 k b.length (i+4) n z (by omega) (by omega) H';rw[G1a];unfold A18;cases h1:uS b i 2 with
 | none=>
  refine⟨_,A8c ?_,.no⟩;have u1:=fun H'=>hU i H';rw[h1] at u1;have g2:=X7 hb (i+2);unfold gU at g2;simp -implicitDefEqProofs(disch:=omega) [ζr,u1,hU]
 | some f=>
  have u1:=fun H'=>hU i H';rw[h1] at u1;have hf:=K8 hb h1;have hf':¬ f<0:=by omega
  cases h2:uS b (i+2) 2 with
  | none=>
   refine⟨_,A8c ?_,.no⟩;have u2:=fun H'=>hU (i+2) H';rw[h2] at u2;simp -implicitDefEqProofs(disch:=omega) [ζr,u1,u2,hf']
  | some n=>
   have u2:=fun H'=>hU (i+2) H';rw[h2] at u2;have hn:=K8 hb h2;have hn':¬ n<0:=by omega
   simp only[Option.bind_some,Option.getD_some] at u1 u2 ⊢;by_cases h3:f+n≤65536
   ·have h3':¬ f+n>65536:=by omega
    cases h4:U9 b.length (i+4) n z with
    | false=>
     rw[if_neg (by simp)];refine⟨_,A8c ?_,.no⟩;have hR4:=hR n;rw[h4] at hR4;simp -implicitDefEqProofs(disch:=omega) [ζr,u1,u2,hf',hn',h3',hR4]
    | true=>
     rw[if_pos ⟨h3,rfl⟩];have hR4:=hR n;rw[h4] at hR4;by_cases h0:n=0
     ·subst h0;rw[if_pos rfl];have h3'':¬ 65536<f:=by omega
      refine⟨.tuple #[lv K3 [],.bool true],G7 (v:=.tuple #[U8,.bool true]) (H':=H) (L:=[]) ?_ rfl (Ext.refl H) (B3c [] true).alive,[],rfl,fun x h=>(by injection h),by simp⟩;simp -implicitDefEqProofs(disch:=omega) [ζr,u1,u2,hf',h3'',hR4]
     ·rw[if_neg h0];have h0':(n == 0)=false:=by simpa using h0
      obtain⟨r,hr⟩:∃ r:RP,r=⟨f,f+n - 1,i+4,z,z⟩:=⟨_,rfl⟩
      rw[← hr];have ho:Own H (H.push ⟨K3 r,5,false⟩) 5 (.slice (some ⟨H.n,0,none⟩) 1 1) K3 [r]:=.inr ⟨H.n,rfl,by omega,ζd _ _ _ rfl⟩;obtain⟨L,hfz⟩:=ho.freeze A8v (D1q _) 5;refine⟨.tuple #[lv K3 [r],.bool true],G7 (v:=.tuple #[.slice (some ⟨H.n,0,none⟩) 1 1,.bool true]) (H':=H.push ⟨K3 r,5,false⟩) ?_ (A1y (l:=[.slice (some ⟨H.n,0,none⟩) 1 1,.bool true]) (A1k hfz (X1 (L:=[]) rfl))) ((Ext.refl H).push _) (B3c [r] true).alive,[r],rfl,fun x h=>(by injection h),by simp⟩;subst hr;simp -implicitDefEqProofs(disch:=omega) [ζr,u1,u2,hf',hn',h3',hR4,h0']
   ·rw[if_neg (fun h=>h3 h.1)];have h3':f+n>65536:=by omega
    refine⟨_,A8c ?_,.no⟩;simp -implicitDefEqProofs(disch:=omega) [ζr,u1,u2,hf',hn',h3']
theorem A0d.val{o:Option (List RP)}{v:Value}(h:A0d o v):∃ l ok,v=.tuple #[lv K3 l,.bool ok]∧o=(if ok then some l else none)∧l.length≤65536:=by
 obtain⟨l,rfl,h1,h2⟩:=h;cases o with
 | none=>exact⟨l,false,rfl,rfl,h2⟩
 | some x=>exact⟨l,true,rfl,by simp[h1 x rfl],h2⟩
theorem A0d.pass{o:Option (List RP)}{l:List RP}{ok:Bool}(h:o=(if ok then some l else none))(hl:l.length≤65536):A0d o (.tuple #[lv K3 l,.bool ok]):=by
 subst h;cases ok with
 | true=>exact⟨l,rfl,fun x h=>(by injection h),hl⟩
 | false=>exact⟨l,rfl,fun x h=>(by cases h),hl⟩
theorem D2d{H:A2}{r:Res Value}{l:List RP}{ok:Bool}(h:r=.ok (.tuple #[lv K3 l,.bool ok]) H):nrm .fz H r=.ok (.tuple #[lv K3 l,.bool ok]) H :=
 G7 (L:=[]) h rfl (Ext.refl H) (B3c l ok).alive
theorem G76 (k:Nat) (b:List Int) (hb:Byt b) (g z:Int) (hg:1≤g∧g≤65535) (hz:z=2∨z=4) (hl:b.length<2 ^ 31) (H:A2) :
  ∃ v,R (T k) F.ζh [lv B7 b,.int .i64 g,.int .i64 z] H=.ok v H∧A0d (A09 b g z (gU b 0 2)) v:=by
 have hU:=fun j H'=>P0 k (H:=H') (Sl.lv H' 1 b) hb j 2 (by omega) (by omega);have hR:=fun H'=>B58 k b.length 2 g z (by omega) (by omega) H';rw[G1r];have hu0:∀ H',R (T k) F.ζ2 [lv B7 b,.int .i64 0,.int .i64 2] H'=.ok (.int .i64 (gU b 0 2)) H':=fun H'=>hU 0 H';have hu2:∀ H',R (T k) F.ζ2 [lv B7 b,.int .i64 2,.int .i64 2] H'=.ok (.int .i64 (gU b 2 2)) H':=fun H'=>hU 2 H';generalize gU b 0 2=fmt at hu0 ⊢;unfold A09;by_cases h0:fmt=0
 ·subst h0;rw[if_pos rfl];obtain⟨r,hr⟩:∃ r:RP,r=⟨0,g - 1,2,z,z⟩:=⟨_,rfl⟩
  rw[← hr];have ho:Own H (H.push ⟨K3 r,5,false⟩) 5 (.slice (some ⟨H.n,0,none⟩) 1 1) K3 [r]:=.inr ⟨H.n,rfl,by omega,ζd _ _ _ rfl⟩;obtain⟨L,hfz⟩:=ho.freeze A8v (D1q _) 5;refine⟨.tuple #[lv K3 [r],.bool (U9 b.length 2 g z)],G7 (v:=.tuple #[.slice (some ⟨H.n,0,none⟩) 1 1,.bool (U9 b.length 2 g z)]) (H':=H.push ⟨K3 r,5,false⟩) ?_ (A1y (l:=[.slice (some ⟨H.n,0,none⟩) 1 1,.bool (U9 b.length 2 g z)]) (A1k hfz (X1 (L:=[]) rfl))) ((Ext.refl H).push _) (B3c [r] _).alive,.pass rfl (by simp)⟩;subst hr;simp -implicitDefEqProofs(disch:=omega) [ζh,hu0,hR]
 rw[if_neg h0];have h0':(fmt == 0)=false:=by simpa using h0
 by_cases h2:fmt=2
 ·subst h2;rw[if_pos rfl];obtain⟨v,e,hp⟩:=E5d k b hb z hz false hl H;obtain⟨l,ok,rfl,ho,hll⟩:=hp.val;refine⟨_,D2d (l:=l) (ok:=ok) ?_,.pass ho hll⟩;simp -implicitDefEqProofs(disch:=omega) [ζh,hu0,e]
 rw[if_neg h2];have h2':(fmt == 2)=false:=by simpa using h2
 by_cases h4:fmt=4
 ·subst h4;rw[if_pos rfl];obtain⟨v,e,hp⟩:=E5d k b hb z hz true hl H;obtain⟨l,ok,rfl,ho,hll⟩:=hp.val;refine⟨_,D2d (l:=l) (ok:=ok) ?_,.pass ho hll⟩;simp -implicitDefEqProofs(disch:=omega) [ζh,hu0,e]
 rw[if_neg h4];have h4':(fmt == 4)=false:=by simpa using h4
 by_cases h6:fmt=6
 ·subst h6;rw[if_pos rfl];have hr5:=fun H'=>E58 k b hb 2 (2+z) 1 hl (by omega) (by omega) (by omega) (by omega) H'
  obtain ⟨ps,ok,zz,hrow,hps,hpl,hok⟩:∃ (ps:List Int) (ok:Bool) (zz:Int),A3z b 2 (2+z) 1=.tuple #[lv N3 ps,.int .i64 zz,.bool ok]∧(∀ p,p ∈ ps→0≤p∧p<2 ^ 34) ∧
    ps.length<65536∧A4c b z=(if ok then some (ps.map (A9z b z)) else none):=by
   unfold A3z A4c;cases ht:P7 b 2 (2+z) 1 with
   | none=>exact⟨[],false,0,rfl,(fun p h=>by cases h),by simp,rfl⟩
   | some rows=>
    obtain⟨s,n,h1,h2,h3,h4,h5,h6⟩:=B9c ht;have hs:=K8 hb h1;have hn:=K8 hb h2;rw[L8 h1];refine⟨A3f 2 s rows.length,true,s,rfl,fun p hp=>?_,by simp; omega,by rw[Option.map_some]; rfl⟩;obtain⟨j,hj⟩:=List.getElem?_of_mem hp;have hjl:=(List.getElem?_eq_some_iff.1 hj).1;rw[A3y] at hjl;rw[A2s _ _ _ _ hjl] at hj;injection hj with hj;have h7:=Int.mul_nonneg hs.1 (show (0:Int)≤(j:Int) by omega);have h8:s*(j:Int)≤65536*65536:=Int.mul_le_mul (by omega) (by omega) (by omega) (by omega);omega
  rw[hrow] at hr5;rw[hok]
  obtain ⟨x,e',H1,hr,rfl,hx,a,s,rfl,ho⟩:=K5 (body:=D4p k (R (T k))) ps.length
   (fun j e H'=>Ext H H'∧∃ s,e=[(0,lv B7 b),(2,.int .i64 z),(8,lv N3 ps),(10,.bool ok),(11,s),(12,.int .i64 j)]∧Own H H' 5 s K3 ((ps.take j).map (A9z b z)))
   (fun x e H'=>x=.exit 1∧Ext H H'∧∃ a s,e=[(0,lv B7 b),(2,.int .i64 z),(8,lv N3 ps),(10,.bool ok),(11,s),(12,a),(58,.bool false)]∧Own H H' 5 s K3 (ps.map (A9z b z)))
   (e0:=[(0,lv B7 b),(2,.int .i64 z),(8,lv N3 ps),(10,.bool ok),(11,U8),(12,.int .i64 0)]) (H0:=H) ⟨Ext.refl H,_,rfl,Own.bare _ _ _⟩ (by omega)
   (fun j e H' hj ⟨hx,s,he,ho⟩=>by
    subst he;have hlt:(j:Int)<ps.length:=by omega
    obtain⟨p,hp⟩:∃ p,ps[j]?=some p:=⟨_,List.getElem?_eq_getElem hj⟩
    have hpb:=hps p (List.mem_of_getElem? hp);have i1:=fun H'=>S0 N0 ps .i64 j p hp H';have u0:∀ H',R (T k) F.ζ2 [lv B7 b,.int .i64 p,.int .i64 2] H'=.ok (.int .i64 (gU b p 2)) H':=fun H'=>hU p H';obtain⟨s2,H2,e2,o2,x2⟩:=A52 (bytes:=40) A8v ho hx (A9z b z p) (by simp; omega) (by decide);refine .inl ⟨_,H2,?_,x2,s2,rfl,by rw[A29 hp,List.map_append]; exact o2⟩;rw[E0p];unfold K3 A9z at e2;simp -implicitDefEqProofs(disch:=omega) [hlt,i1,u0,e2])
   (fun e H' ⟨hx,s,he,ho⟩=>by
    subst he;refine⟨.exit 1,_,H',?_,by simp,rfl,hx,.int .i64 ps.length,s,rfl,by rw[List.take_length] at ho; exact ho⟩;rw[E0p];simp -implicitDefEqProofs)
  obtain⟨L,hf⟩:=ho.freeze A8v (D1q _) 5;refine⟨.tuple #[lv K3 (ps.map (A9z b z)),.bool ok],G7 (v:=.tuple #[s,.bool ok]) (H':=H1) ?_ (A1y (l:=[s,.bool ok]) (A1k hf (X1 (L:=[]) rfl))) hx (B3c _ _).alive,.pass rfl (by simp; omega)⟩;rcases hz with rfl | rfl <;> simp -implicitDefEqProofs(disch:=omega) at hr5 <;> simp -implicitDefEqProofs(disch:=omega) [ζh,hu0,hr5,hr,G04]
 rw[if_neg h6];have h6':(fmt == 6)=false:=by simpa using h6
 by_cases h8:fmt=8
 ·subst h8;rw[if_pos rfl];obtain⟨v,e,hp⟩:=E5h k b hb 2 z (by omega) (by omega) hl H;obtain⟨l,ok,rfl,ho,hll⟩:=hp.val;refine⟨_,D2d (l:=l) (ok:=ok) ?_,.pass ho hll⟩;simp -implicitDefEqProofs(disch:=omega) [ζh,hu0,e]
 rw[if_neg h8];have h8':(fmt == 8)=false:=by simpa using h8
 by_cases h10:fmt=10
 ·subst h10;rw[if_pos rfl];have hno:¬ (gU b 2 2=1∨gU b 2 2=2∨gU b 2 2=4)→ζh k (R (T k)) (lv B7 b) (.int .i64 g) (.int .i64 z) H=.ok (.tuple #[.slice none 0 0,.bool false]) H:=fun hu=>by
   have u1:(gU b 2 2 == 1)=false:=by simpa using fun h=>hu (.inl h)
   have u2:(gU b 2 2 == 2)=false:=by simpa using fun h=>hu (.inr (.inl h))
   have u4:(gU b 2 2 == 4)=false:=by simpa using fun h=>hu (.inr (.inr h))
   simp -implicitDefEqProofs(disch:=omega) [ζh,hu0,hu2,bne,u1,u2,u4]
  cases h:uS b 2 2 with
  | none=>
   have hg2:gU b 2 2 = -1:=by unfold gU; rw[h]; rfl
   exact⟨_,A8c (hno (by rw[hg2]; decide)),.no⟩
  | some u=>
   have hg2:=L8 h;rw[hg2] at hu2 hno;simp only[Option.bind_some];by_cases hu:u=1∨u=2∨u=4
   ·rw[if_pos hu];obtain⟨v,e,hp⟩:=E5h k b hb 4 u hu (by omega) hl H;obtain⟨l,ok,rfl,ho,hll⟩:=hp.val;refine⟨_,D2d (l:=l) (ok:=ok) ?_,.pass ho hll⟩;rcases hu with rfl | rfl | rfl <;> simp -implicitDefEqProofs(disch:=omega) [ζh,hu0,hu2,bne,e]
   ·rw[if_neg hu];exact⟨_,A8c (hno hu),.no⟩
 rw[if_neg h10];have h10':(fmt == 10)=false:=by simpa using h10
 refine⟨_,A8c ?_,.no⟩;simp -implicitDefEqProofs(disch:=omega) [ζh,hu0,h0',h2',h4',h6',h8',h10']
theorem E4u(r:RP):∀ a:List RP,A08 (a++[r])=(A08 a && decide (r.first≤r.last) && match a.getLast? with | some q=>decide (q.last<r.first) | none=>true)
 | []=>by simp[A08]
 | [x]=>by
  simp only[List.singleton_append,A08,List.getLast?_singleton];cases decide (x.first≤x.last) <;> cases decide (x.last<r.first) <;> cases decide (r.first≤r.last) <;> rfl
 | x :: y :: t=>by
  have ih:=E4u r (y :: t);simp only[List.cons_append] at ih ⊢;simp only[A08,ih,List.getLast?_cons_cons];simp only[Bool.and_assoc]
abbrev tabRV(b:List Int)(rs:List RP):Value:=.agg #[lv B7 b,lv K3 rs]
def A9g(b:List Int)(o:Option (List RP)):Value:=match o with | some rs=>tabRV b rs | none=>tabRV [] []
theorem D3.tabRV(b:List Int)(rs:List RP):D3 (tabRV b rs):=.aggL (.cons (D3.B _) (.cons (D3.RPs _) .nil))
theorem G96(b:List Int)(o:Option (List RP)):D3 (A9g b o):=by
 unfold A9g;split
 ·exact D3.tabRV _ _
 ·exact D3.tabRV _ _
theorem E52 (k:Nat) (b:List Int) (hb:Byt b) (g z:Int) (hg:1≤g∧g≤65535) (hz:z=2∨z=4) (hl:b.length<2 ^ 31) (H:A2) :
  R (T k) F.ζt [lv B7 b,.int .i64 g,.int .i64 z] H=.ok (.tuple #[A9g b (V9 b g z),.bool (V9 b g z).isSome]) H:=by
 have hx0:Ext H (H.push ⟨[.slice none 0 0,.slice none 0 0],1,false⟩):=(Ext.refl H).push _;obtain⟨v,e,hp⟩:=G76 k b hb g z hg hz hl (H.push ⟨[.slice none 0 0,.slice none 0 0],1,false⟩);obtain⟨l,ok,rfl,ho,hll⟩:=hp.val;rw[G36]
 obtain ⟨x,e',H1,hr,rfl,rfl,rfl⟩:=K5 (body:=D4z k (R (T k))) l.length
  (fun j e H'=>H'=H.push ⟨[.slice none 0 0,.slice none 0 0],1,false⟩∧e=[(0,lv B7 b),(6,.pointer (some ⟨H.n,0,none⟩)),(8,lv K3 l),(9,.bool (ok && A08 (l.take j))),(10,.int .i64 j)])
  (fun x e H'=>H'=H.push ⟨[.slice none 0 0,.slice none 0 0],1,false⟩∧x=.exit 0∧e=[(0,lv B7 b),(6,.pointer (some ⟨H.n,0,none⟩)),(8,lv K3 l),(9,.bool (ok && A08 l)),(10,.int .i64 l.length),(21,.bool false)])
  (e0:=[(0,lv B7 b),(6,.pointer (some ⟨H.n,0,none⟩)),(8,lv K3 l),(9,.bool ok),(10,.int .i64 0)]) (H0:=H.push ⟨[.slice none 0 0,.slice none 0 0],1,false⟩) ⟨rfl,by simp[A08]⟩ (by omega)
  (fun j e H' hj ⟨hH,he⟩=>by
   subst he hH;have hlt:(j:Int)<l.length:=by omega
   obtain⟨r,hr⟩:∃ r,l[j]?=some r:=⟨_,List.getElem?_eq_getElem hj⟩
   have i1:=fun H'=>S0 A8v l .i64 j r hr H';refine .inl ⟨_,_,?_,rfl,rfl⟩;rw[E15,A29 hr,E4u];by_cases h1:r.last<r.first
   ·have h1':¬ r.first≤r.last:=by omega
    simp -implicitDefEqProofs(disch:=omega) [hlt,i1,h1,h1',E13]
   ·have h1':r.first≤r.last:=by omega
    cases j with
    | zero=>
     simp -implicitDefEqProofs(disch:=omega) at i1 hlt;simp -implicitDefEqProofs(disch:=omega) [hlt,i1,h1,h1',E14,A08]
    | succ j=>
     obtain⟨q,hq⟩:∃ q,l[j]?=some q:=⟨_,List.getElem?_eq_getElem (by omega)⟩
     have i2:=fun H'=>S0 A8v l .i64 j q hq H';have hlast:(l.take (j+1)).getLast?=some q:=by rw[A29 hq]; simp
     rw[hlast];have hj0:(0:Int)<(j:Int)+1:=by omega
     simp -implicitDefEqProofs(disch:=omega) at i1 hlt;by_cases h2:r.first≤q.last
     ·have h2':¬ q.last<r.first:=by omega
      simp -implicitDefEqProofs(disch:=omega) [hlt,i1,i2,h1,h1',h2,h2',hj0,E13]
     ·have h2':q.last<r.first:=by omega
      simp -implicitDefEqProofs(disch:=omega) [hlt,i1,i2,h1,h1',h2,h2',hj0,E14])
  (fun e H' ⟨hH,he⟩=>by
   subst he hH;refine⟨.exit 0,_,_,?_,by simp,rfl,rfl,rfl⟩;rw[E15,List.take_length];simp -implicitDefEqProofs)
 have hread:V9 b g z=if (ok && A08 l)=true then some l else none:=by
  unfold V9;rw[ho];cases ok <;> simp
 rw[hread];cases hgood:(ok && A08 l) with
 | false=>
  rw[hgood] at hr;refine G7 (v:=.tuple #[.agg #[.slice none 0 0,.slice none 0 0],.bool false]) (L:=[]) (H':=H.push ⟨[.slice none 0 0,.slice none 0 0],1,false⟩) ?_ rfl hx0 (D3.tupleL (.cons (G96 b none) (.cons (.bool _) .nil))).alive;simp -implicitDefEqProofs [ζt,e,hr,E0o]
 | true=>
  rw[hgood] at hr;refine G7 (v:=.tuple #[tabRV b l,.bool true]) (L:=[]) (H':=H.push ⟨[lv B7 b,lv K3 l],1,false⟩) ?_ rfl ((Ext.refl H).push _) (D3.tupleL (.cons (D3.tabRV b l) (.cons (.bool _) .nil))).alive;simp -implicitDefEqProofs [ζt,e,hr,E0o]
def RP.ok(r:RP):Prop:=-1≤r.first∧r.first≤65536 ∧ -1≤r.last∧r.last≤65536 ∧ -1≤r.pos∧r.pos<2 ^ 35∧0≤r.step∧r.step≤4∧0≤r.size∧r.size≤4
theorem E51{b:List Int}(hb:Byt b){i need:Int}{keys:Nat}{rows:List (List Int)}(h:P7 b i need keys=some rows)(hi:0≤i∧i≤65536):∀ p,p ∈ A3f i (gU b i 2) rows.length→0≤p∧p<2 ^ 34:=by
 obtain⟨s,n,h1,h2,h3,h4,h5,h6⟩:=B9c h;have hs:=K8 hb h1;have hn:=K8 hb h2;rw[L8 h1];intro p hp;obtain⟨j,hj⟩:=List.getElem?_of_mem hp;have hjl:=(List.getElem?_eq_some_iff.1 hj).1;rw[A3y] at hjl;rw[A2s _ _ _ _ hjl] at hj;injection hj with hj;have h7:=Int.mul_nonneg hs.1 (show (0:Int)≤(j:Int) by omega);have h8:s*(j:Int)≤65536*65536:=Int.mul_le_mul (by omega) (by omega) (by omega) (by omega);omega
theorem E54{b:List Int}(hb:Byt b){i z:Int}(hi:0≤i∧i≤4)(hz:z=1∨z=2∨z=4){rs:List RP}(h:A18 b i z=some rs):∀ r,r ∈ rs→r.ok:=by
 unfold A18 at h;obtain⟨f,hf,h⟩:=Option.bind_eq_some_iff.1 h;obtain⟨n,hn,h⟩:=Option.bind_eq_some_iff.1 h;have hf:=K8 hb hf;have hn:=K8 hb hn;split at h
 ·rename_i hc;injection h with h;subst h;intro r hr;split at hr
  ·cases hr
  ·rw[List.mem_singleton] at hr;subst hr;refine⟨?_,?_,?_,?_,?_,?_,?_,?_,?_,?_⟩ <;> dsimp only <;> omega
 ·cases h
theorem G7c {b:List Int} (hb:Byt b) {g z fmt:Int} (hg:1≤g∧g≤65535) (hz:z=2∨z=4) {rs:List RP} (h:A09 b g z fmt=some rs):∀ r,r ∈ rs→r.ok:=by
 have seg:∀ each rs,A1j b z each=some rs→∀ r,r ∈ rs→r.ok:=fun each rs h=>by
  unfold A1j at h;obtain⟨rows,h1,h2⟩:=Option.bind_eq_some_iff.1 h;refine A5m h2 fun p r hp hr=>?_;have hpb:=E51 hb h1 (by omega) p hp;have g0:=X7 hb p;have g2:=X7 hb (p+2);have g4:=X7 hb (p+4);unfold A5w at hr;split at hr
  ·split at hr
   ·injection hr with hr;subst hr;refine⟨?_,?_,?_,?_,?_,?_,?_,?_,?_,?_⟩ <;> dsimp only <;> omega
   ·cases hr
  ·injection hr with hr;subst hr;refine⟨?_,?_,?_,?_,?_,?_,?_,?_,?_,?_⟩ <;> dsimp only <;> omega
 unfold A09 at h;split at h
 ·split at h
  ·injection h with h;subst h;intro r hr;rw[List.mem_singleton] at hr;subst hr;refine⟨?_,?_,?_,?_,?_,?_,?_,?_,?_,?_⟩ <;> dsimp only <;> omega
  ·cases h
 split at h
 ·exact seg _ _ h
 split at h
 ·exact seg _ _ h
 split at h
 ·unfold A4c at h;obtain⟨rows,h1,rfl⟩:=Option.map_eq_some_iff.1 h;intro r hr;obtain⟨p,hp,rfl⟩:=List.mem_map.1 hr;have hpb:=E51 hb h1 (by omega) p hp;have g0:=X7 hb p;unfold A9z;refine⟨?_,?_,?_,?_,?_,?_,?_,?_,?_,?_⟩ <;> dsimp only <;> omega
 split at h
 ·exact E54 hb (by omega) (by omega) h
 split at h
 ·obtain⟨u,_,h⟩:=Option.bind_eq_some_iff.1 h;split at h
  ·rename_i hu;exact E54 hb (by omega) hu h
  ·cases h
 ·cases h
theorem E53{b:List Int}(hb:Byt b){g z:Int}(hg:1≤g∧g≤65535)(hz:z=2∨z=4){rs:List RP}(h:V9 b g z=some rs):∀ r,r ∈ rs→r.ok:=by
 unfold V9 at h;obtain⟨qs,h1,h⟩:=Option.bind_eq_some_iff.1 h;split at h
 ·injection h with h;subst h;exact G7c hb hg hz h1
 ·cases h
theorem E4a{b:List Int}{g z:Int}{rs:List RP}(hb:Byt b)(hg:1≤g∧g≤65535)(hz:z=2∨z=4){x:Int × List Pt}(hx:A17 b g z=some x)(h:V9 b g z=some rs):rs.length<2 ^ 31:=by
 obtain ⟨rs',h1,h2⟩:=(A5h hb hg.1 hg.2 hz).1 x hx;rw[h] at h1;injection h1 with h1;subst h1;have:∀ (ps:List Pt) (rs:List RP),Rel b ps rs→rs.length=ps.length:=by
  intro ps
  induction ps with
  | nil=>intro rs h; cases rs with | nil=>rfl | cons _ _=>cases h
  | cons p ps ih=>intro rs h; cases rs with | nil=>cases h | cons r rs=>simp[ih rs h.2]
 rw[this _ _ h2];exact D2b hb hx
theorem D29 (k:Nat) (b:List Int) (hb:Byt b) (rs:List RP) (hok:∀ r,r ∈ rs→r.ok) (hrl:rs.length<2 ^ 31) (hl:b.length<2 ^ 31) (id:Int) (H:A2) :
  R (T k) F.A6h [tabRV b rs,.int .i64 id] H=.ok (.tuple #[.int .i64 ((A0k b rs id).getD 0),.bool (A0k b rs id).isSome]) H:=by
 rw[G3w];obtain⟨B,hB⟩:∃ B:Blk,B=⟨[lv B7 b,lv K3 rs],1,false⟩:=⟨_,rfl⟩
 have hx0:Ext H (H.push B):=(Ext.refl H).push _
 obtain ⟨x,e',H1,hr,hx,hq⟩:=K5 (body:=D56 k (R (T k))) rs.length
  (fun j e H'=>e=[(1,.int .i64 id),(2,.pointer (some ⟨H.n,0,none⟩)),(6,.int .i64 j)]∧Ext (H.push B) H'∧A0k b rs id=A0k b (rs.drop j) id)
  (fun x e H'=>Ext H H'∧((x=.ret∧∃ n,e=[(4,.int .i64 n),(5,.bool true)]∧A0k b rs id=some n)∨(x=.exit 0∧(∃ a c,e=[(1,.int .i64 id),(2,.pointer (some ⟨H.n,0,none⟩)),(6,a),(12,c)])∧A0k b rs id=none)))
  (e0:=[(1,.int .i64 id),(2,.pointer (some ⟨H.n,0,none⟩)),(6,.int .i64 0)]) (H0:=H.push B) ⟨rfl,Ext.refl _,rfl⟩ (by omega)
  (fun j e H' hj ⟨he,hx,hg⟩=>by
   subst he;have hlt:(j:Int)<rs.length:=by omega
   obtain⟨r,hr⟩:∃ r,rs[j]?=some r:=⟨_,List.getElem?_eq_getElem hj⟩
   have hrok:=hok r (List.mem_of_getElem? hr);obtain⟨o1,o2,o3,o4,o5,o6,o7,o8,o9,o10⟩:=hrok;have i1:=fun H'=>S0 A8v rs .i64 j r hr H';have hget:H'.get H.n=some ⟨[lv B7 b,lv K3 rs],1,false⟩:=hx.get (by rw[ζd _ _ _ rfl,hB]);have hne:¬ H.n=H'.n:=by have:=A2.get_lt hget; omega
   have hx2:Ext H' (H'.push ⟨K3 r,1,false⟩):=(Ext.refl H').push _;have hdrop:rs.drop j=r :: rs.drop (j+1):=by
    obtain⟨h1,h2⟩:=List.getElem?_eq_some_iff.1 hr;rw[List.drop_eq_getElem_cons h1,h2]
   rw[hdrop] at hg;unfold A0k at hg;rw[List.find?_cons] at hg;by_cases h1:r.first≤id
   ·by_cases h2:id≤r.last
    ·rw[decide_eq_true (show r.first≤id∧id≤r.last from ⟨h1,h2⟩)] at hg;dsimp only at hg;have hm0:0≤(id - r.first)*r.step:=Int.mul_nonneg (by omega) o7;have hm1:(id - r.first)*r.step≤65540*4:=Int.mul_le_mul (by omega) (by omega) (by omega) (by omega);have hu:=fun H'=>P0 k (H:=H') (Sl.lv H' 1 b) hb (r.pos+(id - r.first)*r.step) r.size (by omega) (by omega);refine .inr ⟨.ret,_,H'.push ⟨K3 r,1,false⟩,?_,by simp,hx0.trans (hx.trans hx2),.inl ⟨rfl,gU b (r.pos+(id - r.first)*r.step) r.size,rfl,hg⟩⟩;rw[D1a];unfold gU;simp -implicitDefEqProofs(disch:=omega) [hlt,i1,hget,hne,h1,h2,hu]
    ·rw[decide_eq_false (fun h=>h2 h.2)] at hg;refine .inl ⟨_,H'.push ⟨K3 r,1,false⟩,?_,rfl,hx.trans hx2,hg⟩;rw[D1a];simp -implicitDefEqProofs(disch:=omega) [hlt,i1,hget,hne,h1,h2]
   ·rw[decide_eq_false (fun h=>h1 h.1)] at hg;refine .inl ⟨_,H'.push ⟨K3 r,1,false⟩,?_,rfl,hx.trans hx2,hg⟩;rw[D1a];simp -implicitDefEqProofs(disch:=omega) [hlt,i1,hget,hne,h1])
  (fun e H' ⟨he,hx,hg⟩=>by
   subst he;have hget:H'.get H.n=some ⟨[lv B7 b,lv K3 rs],1,false⟩:=hx.get (by rw[ζd _ _ _ rfl,hB]);refine⟨.exit 0,_,H',?_,by simp,hx0.trans hx,.inr ⟨rfl,⟨.int .i64 rs.length,.bool false,rfl⟩,by rw[hg,List.drop_length]; rfl⟩⟩;rw[D1a];simp -implicitDefEqProofs [hget])
 rw[hB] at hr;rcases hq with⟨rfl,n,rfl,hg⟩ | ⟨rfl,⟨a,c,rfl⟩,hg⟩
 ·rw[hg];refine D8 ⟨H1,?_,hx⟩ (D3.tupleL (.cons (.int _ _) (.cons (.bool _) .nil))).alive;simp -implicitDefEqProofs [A6h,hr,G19]
 ·rw[hg];refine D8 ⟨H1,?_,hx⟩ (D3.tupleL (.cons (.int _ _) (.cons (.bool _) .nil))).alive;simp -implicitDefEqProofs [A6h,hr,G0q]
end Go.Sw
end
section
set_option maxRecDepth 100000
namespace Go.Sw
noncomputable section
variable (k:Nat) (call:A8)
def D1h:Env→A2→Res (D0 × Env):=M4 (C k) call F.ζq [1,1,1,1,1,1,1,0,1,0,0]
def E22:G0 Value:=D7 0 (E4 (B3 (C k) call F.ζq [1,1,1,1,1,1,1,1]) (G2 A0 (G3 A0 F.ζq)))
def D1i:Env→A2→Res (D0 × Env):=M4 (C k) call F.ζq [1,1,1,1,1,1,1,0,1,0,0,1,0,0,1,0,0]
def E23:G0 (D0 × Env):=D7 2 (D7 1 (E4 (B3 (C k) call F.ζq [1,1,1,1,1,1,1,0,1,0,0,1,1]) (M2 (Q2 (C k) F.ζq [1,1,1,1,1,1,1,0,1,0,0]))))
def E2m(a4 a8 a10 a11 a12 a13 a14:Value)(h:A2):Res (D0 × Env) :=
 E4 (B3 (C k) call F.ζq [1,1,1,1,1,1,1,0,1,0,0,1,0,0,1,0,0,1,1]) (M2 (Q2 (C k) F.ζq [1,1,1,1,1,1,1,0,1,0,0,1,0,0,1,0,0])) .normal [(4,a4),(8,a8),(10,a10),(11,a11),(12,a12),(13,a13),(14,a14)] h
def E2n(a4 a8 a10 a11 a12 a13 a14 a106:Value)(h:A2):Res (D0 × Env) :=
 E4 (B3 (C k) call F.ζq [1,1,1,1,1,1,1,0,1,0,0,1,0,0,1,0,0,1,1]) (M2 (Q2 (C k) F.ζq [1,1,1,1,1,1,1,0,1,0,0,1,0,0,1,0,0])) .normal [(4,a4),(8,a8),(10,a10),(11,a11),(12,a12),(13,a13),(14,a14),(106,a106)] h
def ζq(a0 a1:Value)(h:A2):Res Value :=
 (D1 A0 87 h).bind fun v0 h0=>(call F.ζ2 [a0,(.int .i64 0),(.int .i64 2)] h0).bind fun v1 h1=>(A5 A0 .neq 3 v1 (.int .i64 0) h1).bind fun v2 h2=>
 condV (some v2) (
 (E0 A0 87 [] h2).bind fun v3 h3=>(B4 A0 87 v0 v3 h3).bind fun _v4 h4=>(A3 A0 87 v0 h4).bind fun v5 h5=>
 .ok (.tuple #[v5,(.bool false)]) h5)
 (
 (call F.ζ2 [a0,(.int .i64 4),(.int .i64 4)] h2).bind fun v6 h6=>(call F.A92 [a0,v6] h6).bind fun v7 h7=>(B5 v7 0 h7).bind fun v8 h8=>(B5 v7 1 h8).bind fun v9 h9=>(call F.ζ2 [a0,(.int .i64 8),(.int .i64 4)] h9).bind fun va ha=>(call F.A92 [a0,va] ha).bind fun vb hb=>(B5 vb 0 hb).bind fun vc hc=>(B5 vb 1 hc).bind fun vd hd=>(unR .not v9 hd).bind fun ve he=>(wV ve false (Res.ok vd he) he).bind fun vf hf=>(wV ve false (unR .not vf hf) hf).bind fun vg hg=>(condV (some ve) (Res.ok (.bool true) hg) (Res.ok vg hg)).bind fun vh hh=>
 condV (some vh) (
 (E0 A0 87 [] hh).bind fun vi hi=>(B4 A0 87 v0 vi hi).bind fun _vj hj=>(A3 A0 87 v0 hj).bind fun vk hk=>
 .ok (.tuple #[vk,(.bool false)]) hk)
 (
 (call F.ζt [v8,a1,(.int .i64 2)] hh).bind fun vl hl=>(B5 vl 0 hl).bind fun vm hm=>(B5 vl 1 hm).bind fun vn hn=>(D1 A0 42 hn).bind fun vo ho=>(B4 A0 42 vo vm ho).bind fun _vp hp=>(A3 A0 42 vo hp).bind fun vq hq=>(E0 A0 87 [(0,(.bool true)),(1,vq),(2,vc)] hq).bind fun vr hr=>(D1 A0 87 hr).bind fun vs hs=>(B4 A0 87 vs vr hs).bind fun _vt ht=>(loopN (D1h k call) B8 [(4,v0),(8,vc),(10,vo),(11,vn),(12,vs),(13,(.int .i64 0))] ht).bind fun r61 hu=>
 E22 k call r61.1 r61.2 hu))
theorem G3d(k:Nat)(a0 a1:Value)(h:A2):R (T k) F.ζq [a0,a1] h=nrm .fz h (ζq k (R (T k)) a0 a1 h) :=G9
theorem E19(a4 a8 a10 a11 a12 a13:Value)(h:A2):D1h k call [(4,a4),(8,a8),(10,a10),(11,a11),(12,a12),(13,a13)] h =
 (A1 A0 42 a10 1 h).bind fun v0 h0=>(A3 A0 40 v0 h0).bind fun v1 h1=>(A6 A0 .len [40] [v1] h1).bind fun v2 h2=>(A5 A0 .lss 3 a13 v2 h2).bind fun v3 h3=>(wV v3 true (Res.ok a11 h3) h3).bind fun v4 h4=>(condV (some v3) (Res.ok v4 h4) (Res.ok (.bool false) h4)).bind fun v5 h5=>
 condV (some v5) (
 (A1 A0 42 a10 1 h5).bind fun v6 h6=>(A3 A0 40 v6 h6).bind fun v7 h7=>(A9 A0 40 v7 a13 h7).bind fun v8 h8=>(A1 A0 186 v8 0 h8).bind fun v9 h9=>(A3 A0 3 v9 h9).bind fun va ha=>(loopN (D1i k call) B8 [(4,a4),(8,a8),(10,a10),(11,a11),(12,a12),(13,a13),(14,va)] ha).bind fun r85 hb=>
 E23 k call r85.1 r85.2 hb)
 (
 .ok ((.exit 0),[(4,a4),(8,a8),(10,a10),(11,a11),(12,a12),(13,a13),(59,v5)]) h5) :=
 (E2 _ _).trans (by kernel_rfl)
theorem D4c(a4 a8 a10 a11 a12 a13 a14:Value)(h:A2):D1i k call [(4,a4),(8,a8),(10,a10),(11,a11),(12,a12),(13,a13),(14,a14)] h =
 (A1 A0 42 a10 1 h).bind fun v0 h0=>(A3 A0 40 v0 h0).bind fun v1 h1=>(A9 A0 40 v1 a13 h1).bind fun v2 h2=>(A1 A0 186 v2 1 h2).bind fun v3 h3=>(A3 A0 3 v3 h3).bind fun v4 h4=>(A5 A0 .leq 3 a14 v4 h4).bind fun v5 h5=>(wV v5 true (Res.ok a11 h5) h5).bind fun v6 h6=>(condV (some v5) (Res.ok v6 h6) (Res.ok (.bool false) h6)).bind fun v7 h7=>
 condV (some v7) (
 (A3 A0 42 a10 h7).bind fun v8 h8=>(call F.A6h [v8,a14] h8).bind fun v9 h9=>(B5 v9 0 h9).bind fun va ha=>(B5 v9 1 ha).bind fun vb hb=>(call F.ζ2 [a8,va,(.int .i64 4)] hb).bind fun vc hc=>(A5 A0 .geq 3 vc (.int .i64 0) hc).bind fun vd hd=>(wV vd true (Res.ok a8 hd) hd).bind fun ve he=>(wV vd true (A6 A0 .len [22] [ve] he) he).bind fun vf hf=>(wV vd true (Res.ok va hf) hf).bind fun vg hg=>(wV vd true (A5 A0 .add 3 vg (.int .i64 4) hg) hg).bind fun vh hh=>(wV vd true (Res.ok vc hh) hh).bind fun vi hi=>(wV vd true (call F.ζn [vf,vh,vi,(.int .i64 4)] hi) hi).bind fun vj hj=>(condV (some vd) (Res.ok vj hj) (Res.ok (.bool false) hj)).bind fun vk hk=>(A1 A0 42 a10 1 hk).bind fun vl hl=>(A3 A0 40 vl hl).bind fun vm hm=>(A9 A0 40 vm a13 hm).bind fun vn hn=>(A1 A0 186 vn 4 hn).bind fun vo ho=>(A3 A0 3 vo ho).bind fun vp hp=>(A5 A0 .eql 3 vp (.int .i64 0) hp).bind fun vq hq=>
 condV (some vq) (
 (A1 A0 42 a10 1 hq).bind fun vr hr=>(A3 A0 40 vr hr).bind fun vs hs=>(A9 A0 40 vs a13 hs).bind fun vt ht=>(A1 A0 186 vt 1 ht).bind fun vu hu=>(A3 A0 3 vu hu).bind fun vv hv=>
 E2m k call a4 a8 a10 vk a12 a13 vv hv)
 (
 E2n k call a4 a8 a10 vk a12 a13 a14 vq hq))
 (
 .ok ((.exit 2),[(4,a4),(8,a8),(10,a10),(11,a11),(12,a12),(13,a13),(14,a14),(78,v7)]) h7) :=
 (E2 _ _).trans (by kernel_rfl)
theorem G11(a4 a8 a10 a11 a12 a13 a14:Value)(h:A2):E2m k call a4 a8 a10 a11 a12 a13 a14 h =
 (A5 A0 .add 3 a14 (.int .i64 1) h).bind fun v0 h0=>
 .ok (.normal,[(4,a4),(8,a8),(10,a10),(11,a11),(12,a12),(13,a13),(14,v0)]) h0:=by kernel_rfl
theorem G12(a4 a8 a10 a11 a12 a13 a14 a106:Value)(h:A2):E2n k call a4 a8 a10 a11 a12 a13 a14 a106 h =
 (A5 A0 .add 3 a14 (.int .i64 1) h).bind fun v0 h0=>
 .ok (.normal,[(4,a4),(8,a8),(10,a10),(11,a11),(12,a12),(13,a13),(14,v0)]) h0:=by kernel_rfl
theorem G0h(a4 a8 a10 a11 a12 a13 a59:Value)(h:A2):E22 k call (.exit 0) [(4,a4),(8,a8),(10,a10),(11,a11),(12,a12),(13,a13),(59,a59)] h =
 (A3 A0 87 a12 h).bind fun v0 h0=>(B4 A0 87 a4 v0 h0).bind fun _v1 h1=>(A3 A0 87 a4 h1).bind fun v2 h2=>
 .ok (.tuple #[v2,a11]) h2:=by kernel_rfl
theorem G0i(a4 a8 a10 a11 a12 a13 a14 a78:Value)(h:A2):E23 k call (.exit 2) [(4,a4),(8,a8),(10,a10),(11,a11),(12,a12),(13,a13),(14,a14),(78,a78)] h =
 (A5 A0 .add 3 a13 (.int .i64 1) h).bind fun v0 h0=>
 .ok (.normal,[(4,a4),(8,a8),(10,a10),(11,a11),(12,a12),(13,v0)]) h0:=by kernel_rfl
def A6z(k:Nat)(call:A8)(a0 a1 a2:Value)(h:A2):Res Value :=
 (K9 a0 h).bind fun v0 h0=>(A5 A0 .lss 3 a2 (.int .i64 0) h0).bind fun v1 h1=>(wV v1 false (Res.ok a2 h1) h1).bind fun v2 h2=>(wV v1 false (A3 A0 87 v0 h2) h2).bind fun v3 h3=>(wV v1 false (Res.ok a1 h3) h3).bind fun v4 h4=>(wV v1 false (call F.B32 [v3,v4] h4) h4).bind fun v5 h5=>(wV v1 false (A5 A0 .geq 3 v2 v5 h5) h5).bind fun v6 h6=>(condV (some v1) (Res.ok (.bool true) h6) (Res.ok v6 h6)).bind fun v7 h7=>
 condV (some v7) (
 .ok (.tuple #[(.int .i64 0),(.int .i64 0),(.bool false)]) h7)
 (
 (A1 A0 87 v0 1 h7).bind fun v8 h8=>(A3 A0 42 v8 h8).bind fun v9 h9=>(call F.A6h [v9,a1] h9).bind fun va ha=>(B5 va 0 ha).bind fun vb hb=>(B5 va 1 hb).bind fun vc hc=>(A1 A0 87 v0 2 hc).bindN fun vd hd=>(A3 A0 22 vd hd).bindN fun ve he=>(A5 A0 .add 3 vb (.int .i64 4) he).bindN fun vf hf=>(A5 A0 .mul 3 (.int .i64 4) a2 hf).bindN fun vg hg=>(A5 A0 .add 3 vf vg hg).bindN fun vh hh=>(call F.ζ2 [ve,vh,(.int .i64 2)] hh).bindT (fun p39 hi=>(A1 A0 87 v0 2 hh).bindN fun vi hj=>(A3 A0 22 vi hj).bindN fun vj hk=>(A5 A0 .add 3 vb (.int .i64 6) hk).bindN fun vk hl=>(A5 A0 .mul 3 (.int .i64 4) a2 hl).bindN fun vl hm=>(A5 A0 .add 3 vk vl hm).bindN fun vm hn=>E6 ((A4 (A3 A0 22 vi hc) vj && true) && true) (.panic p39 hi)) fun vn ho=>(call F.B0d [vn] ho).bindT (fun p53 hp=>(A1 A0 87 v0 2 ho).bindN fun vo hq=>(A3 A0 22 vo hq).bindN fun vp hr=>(A5 A0 .add 3 vb (.int .i64 6) hr).bindN fun vq hs=>(A5 A0 .mul 3 (.int .i64 4) a2 hs).bindN fun vr ht=>(A5 A0 .add 3 vq vr ht).bindN fun vs hu=>E6 ((A4 (A3 A0 22 vo hc) vp && (A4 (A3 A0 22 vo ho) vp && true)) && true) (.panic p53 hp)) fun vt hv=>(A1 A0 87 v0 2 hv).bindN fun vu hw=>(A3 A0 22 vu hw).bindN fun vv hx=>(A5 A0 .add 3 vb (.int .i64 6) hx).bindN fun vw hy=>(A5 A0 .mul 3 (.int .i64 4) a2 hy).bindN fun vx hz=>(A5 A0 .add 3 vw vx hz).bindN fun vy h10=>(call F.ζ2 [vv,vy,(.int .i64 2)] h10).bindT (fun p77 h11=>E6 ((A4 (A3 A0 22 vu hc) vv && (A4 (A3 A0 22 vu ho) vv && true)) && true) (.panic p77 h11)) fun vz h12=>(call F.B0d [vz] h12).bindT (fun p81 h13=>E6 ((A4 (A3 A0 22 vu hc) vv && (A4 (A3 A0 22 vu ho) vv && true)) && true) (.panic p81 h13)) fun v10 h14=>
 E6 ((A4 (A3 A0 22 vu hc) vv && (A4 (A3 A0 22 vu ho) vv && true)) && true) (
 .ok (.tuple #[vt,v10,(.bool true)]) h14))
theorem G40(k:Nat)(a0 a1 a2:Value)(h:A2):R (T k) F.A6z [a0,a1,a2] h=nrm .gc h (A6z k (R (T k)) a0 a1 a2 h) :=G9
def B32(k:Nat)(call:A8)(a0 a1:Value)(h:A2):Res Value :=
 (K9 a0 h).bind fun v0 h0=>(A1 A0 87 v0 0 h0).bind fun v1 h1=>(A3 A0 4 v1 h1).bind fun v2 h2=>(unR .not v2 h2).bind fun v3 h3=>
 condV (some v3) (
 .ok (.int .i64 0) h3)
 (
 (A1 A0 87 v0 1 h3).bind fun v4 h4=>(A3 A0 42 v4 h4).bind fun v5 h5=>(call F.A6h [v5,a1] h5).bind fun v6 h6=>(B5 v6 0 h6).bind fun v7 h7=>(B5 v6 1 h7).bind fun v8 h8=>(unR .not v8 h8).bind fun v9 h9=>
 condV (some v9) (
 .ok (.int .i64 0) h9)
 (
 (A1 A0 87 v0 2 h9).bind fun va ha=>(A3 A0 22 va ha).bind fun vb hb=>(call F.ζ2 [vb,v7,(.int .i64 4)] hb).bind fun vc hc=>
 .ok vc hc))
theorem G1x(k:Nat)(a0 a1:Value)(h:A2):R (T k) F.B32 [a0,a1] h=nrm .gc h (B32 k (R (T k)) a0 a1 h) :=G9
end
end Go.Sw
end
