/-
  Functions' forms, and what is proved of them, part 12.
-/
import Derived.Test.YtanfippcmdialaaGreatSwCfg
import Derived.Test.YtanfippcmdialaaGreatSwW10
import Derived.Test.YtanfippcmdialaaGreatSwW5
import Derived.Test.YtanfippcmdialaaGreatSwW4
import Derived.Test.YtanfippcmdialaaGreatSwW3
import Derived.Test.YtanfippcmdialaaGreatSwW8
import Derived.Test.YtanfippcmdialaaGreatSwW9
import Derived.Test.YtanfippcmdialaaGreatSwW11
set_option linter.unusedSimpArgs false
set_option linter.unusedVariables false
set_option linter.unusedSectionVars false
section
set_option maxRecDepth 100000
namespace Go.Sw
noncomputable section
variable (k:Nat) (call:A8)
def B0n(k:Nat)(call:A8)(a0 a1:Value)(h:A2):Res Value :=
 (K9 a1 h).bind fun v0 h0=>(D1 A0 75 h0).bind fun v1 h1=>(A3 A0 3 v0 h1).bind fun v2 h2=>(A5 A0 .lss 3 v2 (.int .i64 1) h2).bind fun v3 h3=>(wV v3 false (A3 A0 3 v0 h3) h3).bind fun v4 h4=>(wV v3 false (A5 A0 .gtr 3 v4 (.int .i64 65535) h4) h4).bind fun v5 h5=>(condV (some v3) (Res.ok (.bool true) h5) (Res.ok v5 h5)).bind fun v6 h6=>
 condV (some v6) (
 (B4 A0 75 v1 (.pointer none) h6).bind fun _v7 h7=>(A3 A0 75 v1 h7).bind fun v8 h8=>
 .ok (.tuple #[v8,(.int .i64 1)]) h8)
 (
 (call F.A11 [a0] h6).bind fun v9 h9=>(call F.B34 [v9] h9).bind fun va ha=>(call F.A11 [va] ha).bind fun vb hb=>(D1 A0 113 hb).bind fun vc hc=>(B4 A0 113 vc vb hc).bind fun _vd hd=>(call F.A46 [(.func (.func F.B0g) #[] #[vc,v0,v1])] hd).bind fun ve he=>(unR .not ve he).bind fun vf hf=>
 condV (some vf) (
 (B4 A0 75 v1 (.pointer none) hf).bind fun _vg hg=>(A3 A0 75 v1 hg).bind fun vh hh=>
 .ok (.tuple #[vh,(.int .i64 2)]) hh)
 (
 (A3 A0 75 v1 hf).bind fun vi hi=>(B4 A0 75 v1 vi hi).bind fun _vj hj=>(A3 A0 75 v1 hj).bind fun vk hk=>
 .ok (.tuple #[vk,(.int .i64 0)]) hk))
theorem G6n(k:Nat)(a0 a1:Value)(h:A2):R (T k) F.B0n [a0,a1] h=nrm .fz h (B0n k (R (T k)) a0 a1 h) :=G9
def B4y(k:Nat)(call:A8)(a0 a1 a2 a3:Value)(h:A2):Res Value :=
 (K9 a0 h).bind fun v0 h0=>(K9 a1 h0).bind fun v1 h1=>(K9 a2 h1).bind fun v2 h2=>(K9 a3 h2).bind fun v3 h3=>(D1 A0 3 h3).bind fun v4 h4=>(B4 A0 3 v4 (.int .i64 (-1)) h4).bind fun _v5 h5=>(A3 A0 75 v0 h5).bindN fun v6 h6=>(G8 v6 h6).bindN fun v7 h7=>(A1 A0 191 v7 0 h7).bindN fun v8 h8=>(A3 A0 159 v8 h8).bindN fun v9 h9=>(A3 A0 52 v1 h9).bindN fun va ha=>(call F.B38 [(.func (.func F.ζb) #[] #[v1,v4,v0,v3,v2])] ha).bindT (fun p25 hb=>.panic p25 hb) fun vb hc=>(call F.A8u [v9,va,vb] hc).bindT (fun p29 hd=>E6 ((A4 (A3 A0 75 v0 hc) v6 && true) && ((A4 (A3 A0 159 v8 hc) v9 && true) && ((A4 (A3 A0 52 v1 hc) va && true) && true))) (.panic p29 hd)) fun vc he=>(B5 vc 0 he).bindN fun vd hf=>(B5 vc 1 hf).bindN fun ve hg=>
 E6 ((A4 (A3 A0 75 v0 hc) v6 && true) && ((A4 (A3 A0 159 v8 hc) v9 && true) && ((A4 (A3 A0 52 v1 hc) va && true) && true))) (
 .ok ve hg)
theorem G3j(k:Nat)(a0 a1 a2 a3:Value)(h:A2):R (T k) F.B4y [a0,a1,a2,a3] h=nrm .no h (B4y k (R (T k)) a0 a1 a2 a3 h) :=G9
def B0g(k:Nat)(call:A8)(a0 a1 a2:Value)(h:A2):Res Value :=
 (A3 A0 113 a0 h).bind fun v0 h0=>(A3 A0 3 a1 h0).bind fun v1 h1=>(call F.A4w [v0,v1] h1).bind fun v2 h2=>(B4 A0 75 a2 v2 h2).bind fun _v3 h3=>
 .ok (.tuple #[]) h3
theorem G47(k:Nat)(a0 a1 a2:Value)(h:A2):R (T k) F.B0g [a0,a1,a2] h=nrm .no h (B0g k (R (T k)) a0 a1 a2 h) :=G9
def B8o:Env→A2→Res (D0 × Env):=M4 (C k) call F.A4w [1,1,1,1,1,1,1,0,1,0,0]
def E39:G0 Value:=D7 0 (E4 (B3 (C k) call F.A4w [1,1,1,1,1,1,1,1]) (G2 A0 (G3 A0 F.A4w)))
def E3h(a5 a7 a51 a52 a53:Value)(h:A2):Res (D0 × Env) :=
 E4 (B3 (C k) call F.A4w [1,1,1,1,1,1,1,0,1,0,0,1,1,1]) (M2 (Q2 (C k) F.A4w [1,1,1,1,1,1,1,0,1,0,0])) .normal [(5,a5),(7,a7),(51,a51),(52,a52),(53,a53)] h
def E3i(a5 a7 a9 a51 a52 a53 a59:Value)(h:A2):Res (D0 × Env) :=
 E4 (B3 (C k) call F.A4w [1,1,1,1,1,1,1,0,1,0,0,1,1,1]) (M2 (Q2 (C k) F.A4w [1,1,1,1,1,1,1,0,1,0,0])) .normal [(5,a5),(7,a7),(9,a9),(51,a51),(52,a52),(53,a53),(59,a59)] h
def A4w(a0 a1:Value)(h:A2):Res Value :=
 (K9 a0 h).bind fun v0 h0=>(A3 A0 113 v0 h0).bind fun v1 h1=>(call F.A66 [v1,a1,(.int .i64 1)] h1).bind fun v2 h2=>(E0 A0 191 [(0,v2)] h2).bind fun v3 h3=>(K9 v3 h3).bind fun v4 h4=>(A3 A0 113 v0 h4).bind fun v5 h5=>(call F.ζv [v5,(.int .i64 16)] h5).bind fun v6 h6=>(A5 A0 .shr 3 v6 (.int .u64 30) h6).bind fun v7 h7=>(G8 v4 h7).bind fun v8 h8=>(A1 A0 191 v8 1 h8).bind fun v9 h9=>(B4 A0 3 v9 v7 h9).bind fun _va ha=>(G8 v4 ha).bind fun vb hb=>(A1 A0 191 vb 1 hb).bind fun vc hc=>(A3 A0 3 vc hc).bind fun vd hd=>(A5 A0 .neq 3 vd (.int .i64 1) hd).bind fun ve he=>(wV ve true (Res.ok v4 he) he).bind fun vf hf=>(wV ve true (G8 vf hf) hf).bind fun vg hg=>(wV ve true (A1 A0 191 vg 1 hg) hg).bind fun vh hh=>(wV ve true (A3 A0 3 vh hh) hh).bind fun vi hi=>(wV ve true (A5 A0 .neq 3 vi (.int .i64 2) hi) hi).bind fun vj hj=>(condV (some ve) (Res.ok vj hj) (Res.ok (.bool false) hj)).bind fun vk hk=>
 condV (some vk) (
 .ok v4 hk)
 (
 (A3 A0 113 v0 hk).bind fun vl hl=>(A5 A0 .and 3 v6 (.int .i64 16777215) hl).bind fun vm hm=>(call F.A4v [vl,vm] hm).bind fun vn hn=>(G8 v4 hn).bind fun vo ho=>(A1 A0 191 vo 2 ho).bind fun vp hp=>(B4 A0 113 vp vn hp).bind fun _vq hq=>(G8 v4 hq).bind fun vr hr=>(A1 A0 191 vr 1 hr).bind fun vs hs=>(A3 A0 3 vs hs).bind fun vt ht=>(A5 A0 .mul 3 (.int .i64 4) vt ht).bind fun vu hu=>(G8 v4 hu).bind fun vv hv=>(A1 A0 191 vv 0 hv).bind fun vw hw=>(A3 A0 159 vw hw).bind fun vx hx=>(call F.B4r [vx] hx).bind fun vy hy=>(A6 A0 .len [24] [vy] hy).bind fun vz hz=>(loopN (B8o k call) B8 [(5,v4),(7,vu),(51,vy),(52,vz),(53,(.int .i64 0))] hz).bind fun r73 h10=>
 E39 k call r73.1 r73.2 h10)
theorem G6o(k:Nat)(a0 a1:Value)(h:A2):R (T k) F.A4w [a0,a1] h=nrm .fz h (A4w k (R (T k)) a0 a1 h) :=G9
theorem D1k(a5 a7 a51 a52 a53:Value)(h:A2):B8o k call [(5,a5),(7,a7),(51,a51),(52,a52),(53,a53)] h =
 (A5 A0 .lss 3 a53 a52 h).bind fun v0 h0=>
 condV (some v0) (
 (A9 A0 24 a51 a53 h0).bind fun v1 h1=>(A3 A0 129 v1 h1).bind fun v2 h2=>(D1 A0 129 h2).bind fun v3 h3=>(B4 A0 129 v3 v2 h3).bind fun _v4 h4=>(A1 A0 129 v3 2 h4).bind fun v5 h5=>(A3 A0 3 v5 h5).bind fun v6 h6=>(A5 A0 .neq 3 v6 (.int .i64 65535) h6).bind fun v7 h7=>
 condV (some v7) (
 (G8 a5 h7).bindN fun v8 h8=>(A1 A0 191 v8 2 h8).bindN fun v9 h9=>(A3 A0 113 v9 h9).bindN fun va ha=>(A1 A0 129 v3 2 ha).bindN fun vb hb=>(A3 A0 3 vb hb).bindN fun vc hc=>(A5 A0 .mul 3 a7 vc hc).bindN fun vd hd=>(call F.A70 [va,vd,a7] hd).bindT (fun p105 he=>.panic p105 he) fun ve hf=>
 E3h k call a5 a7 a51 a52 a53 hf)
 (
 E3i k call a5 a7 v3 a51 a52 a53 v7 h7))
 (
 .ok ((.exit 0),[(5,a5),(7,a7),(51,a51),(52,a52),(53,a53),(54,v0)]) h0) :=
 (E2 _ _).trans (by kernel_rfl)
theorem G48(a5 a7 a51 a52 a53:Value)(h:A2):E3h k call a5 a7 a51 a52 a53 h =
 (A5 A0 .add 3 a53 (.int .i64 1) h).bind fun v0 h0=>
 .ok (.normal,[(5,a5),(7,a7),(51,a51),(52,a52),(53,v0)]) h0:=by kernel_rfl
theorem G49(a5 a7 a9 a51 a52 a53 a59:Value)(h:A2):E3i k call a5 a7 a9 a51 a52 a53 a59 h =
 (A5 A0 .add 3 a53 (.int .i64 1) h).bind fun v0 h0=>
 .ok (.normal,[(5,a5),(7,a7),(51,a51),(52,a52),(53,v0)]) h0:=by kernel_rfl
theorem E2q(a5 a7 a51 a52 a53 a54:Value)(h:A2):E39 k call (.exit 0) [(5,a5),(7,a7),(51,a51),(52,a52),(53,a53),(54,a54)] h =
 .ok a5 h:=by kernel_rfl
def B8g(a0 a3 a8 a10:Value)(h:A2):Res Value :=
 E4 (B3 (C k) call F.ζb [1,1,1,1]) (G2 A0 (G3 A0 F.ζb)) .normal [(0,a0),(3,a3),(8,a8),(10,a10)] h
def D48(a0 a3 a6 a8 a10 a13 a14 a48:Value)(h:A2):Res Value :=
 E4 (B3 (C k) call F.ζb [1,1,1,1]) (G2 A0 (G3 A0 F.ζb)) .normal [(0,a0),(3,a3),(6,a6),(8,a8),(10,a10),(13,a13),(14,a14),(48,a48)] h
def D49(a0 a3 a4 a5 a6 a8 a9 a10 a11 a36:Value)(h:A2):Res Value :=
 E4 (B3 (C k) call F.ζb [1,1,1,1]) (G2 A0 (G3 A0 F.ζb)) .normal [(0,a0),(3,a3),(4,a4),(5,a5),(6,a6),(8,a8),(9,a9),(10,a10),(11,a11),(36,a36)] h
def ζb(a0 a1 a2 a3 a4 a5 a6:Value)(h:A2):Res Value :=
 (K9 a1 h).bind fun v0 h0=>(A3 A0 52 a2 h0).bind fun v1 h1=>(call F.B0h [v1,a0] h1).bind fun v2 h2=>(B5 v2 0 h2).bind fun v3 h3=>(B5 v2 1 h3).bind fun v4 h4=>(D1 A0 150 h4).bind fun v5 h5=>(B4 A0 150 v5 v3 h5).bind fun _v6 h6=>(A3 A0 52 a2 h6).bind fun v7 h7=>(A3 A0 3 a3 h7).bind fun v8 h8=>(call F.B0h [v7,v8] h8).bind fun v9 h9=>(B5 v9 0 h9).bind fun va ha=>(B5 v9 1 ha).bind fun vb hb=>(D1 A0 150 hb).bind fun vc hc=>(B4 A0 150 vc va hc).bind fun _vd hd=>(A1 A0 129 v0 2 hd).bind fun ve he=>(A3 A0 3 ve he).bind fun vf hf=>(A5 A0 .neq 3 vf (.int .i64 65535) hf).bind fun vg hg=>(wV vg true (Res.ok v4 hg) hg).bind fun vh hh=>(condV (some vg) (Res.ok vh hh) (Res.ok (.bool false) hh)).bind fun vi hi=>(wV vi true (Res.ok vb hi) hi).bind fun vj hj=>(condV (some vi) (Res.ok vj hj) (Res.ok (.bool false) hj)).bind fun vk hk=>
 condV (some vk) (
 (A3 A0 75 a4 hk).bind fun vl hl=>(A1 A0 129 v0 2 hl).bind fun vm hm=>(A3 A0 3 vm hm).bind fun vn hn=>(A3 A0 150 vc hn).bind fun vo ho=>(A3 A0 150 v5 ho).bind fun vp hp=>(A3 A0 82 a5 hp).bind fun vq hq=>(call F.ζl [vl,vn,vo,vp,vq] hq).bind fun vr hr=>(B5 vr 0 hr).bind fun vs hs=>(B5 vr 1 hs).bind fun vt ht=>(B5 vr 2 ht).bind fun vu hu=>(D1 A0 195 hu).bind fun vv hv=>(D1 A0 195 hv).bind fun vw hw=>(B4 A0 195 vv vs hw).bind fun _vx hx=>(B4 A0 195 vw vt hx).bind fun _vy hy=>
 condV (some vu) (
 (A3 A0 49 a6 hy).bind fun vz hz=>(A1 A0 195 vv 0 hz).bind fun v10 h10=>(A3 A0 3 v10 h10).bind fun v11 h11=>(A1 A0 195 vw 0 h11).bind fun v12 h12=>(A3 A0 3 v12 h12).bind fun v13 h13=>(A5 A0 .sub 3 v11 v13 h13).bind fun v14 h14=>(A1 A0 195 vv 1 h14).bind fun v15 h15=>(A3 A0 3 v15 h15).bind fun v16 h16=>(A1 A0 195 vw 1 h16).bind fun v17 h17=>(A3 A0 3 v17 h17).bind fun v18 h18=>(A5 A0 .sub 3 v16 v18 h18).bind fun v19 h19=>(call F.B2x [vz,a0,v14,v19] h19).bind fun v1a h1a=>
 B8g k call a0 a3 v0 v4 h1a)
 (
 D48 k call a0 a3 a6 v0 v4 vv vw vu hy))
 (
 D49 k call a0 a3 a4 a5 a6 v0 v5 v4 vc vk hk)
theorem G14(k:Nat)(a0 a1 a2 a3 a4 a5 a6:Value)(h:A2):R (T k) F.ζb [a0,a1,a2,a3,a4,a5,a6] h=nrm .no h (ζb k (R (T k)) a0 a1 a2 a3 a4 a5 a6 h) :=G9
theorem B8f(a0 a3 a8 a10:Value)(h:A2):B8g k call a0 a3 a8 a10 h =
 (A1 A0 129 a8 1 h).bind fun v0 h0=>(A3 A0 3 v0 h0).bind fun v1 h1=>(A5 A0 .and 3 v1 (.int .i64 32768) h1).bind fun v2 h2=>(A5 A0 .neq 3 v2 (.int .i64 0) h2).bind fun v3 h3=>(wV v3 true (Res.ok a10 h3) h3).bind fun v4 h4=>(condV (some v3) (Res.ok v4 h4) (Res.ok (.bool false) h4)).bind fun v5 h5=>
 condV (some v5) (
 (B4 A0 3 a3 a0 h5).bind fun _v6 h6=>
 .ok (.tuple #[]) h6)
 (
 .ok (.tuple #[]) h5):=by kernel_rfl
theorem E9m(a0 a3 a6 a8 a10 a13 a14 a48:Value)(h:A2):D48 k call a0 a3 a6 a8 a10 a13 a14 a48 h =
 (A1 A0 129 a8 1 h).bind fun v0 h0=>(A3 A0 3 v0 h0).bind fun v1 h1=>(A5 A0 .and 3 v1 (.int .i64 32768) h1).bind fun v2 h2=>(A5 A0 .neq 3 v2 (.int .i64 0) h2).bind fun v3 h3=>(wV v3 true (Res.ok a10 h3) h3).bind fun v4 h4=>(condV (some v3) (Res.ok v4 h4) (Res.ok (.bool false) h4)).bind fun v5 h5=>
 condV (some v5) (
 (B4 A0 3 a3 a0 h5).bind fun _v6 h6=>
 .ok (.tuple #[]) h6)
 (
 .ok (.tuple #[]) h5):=by kernel_rfl
theorem E9n(a0 a3 a4 a5 a6 a8 a9 a10 a11 a36:Value)(h:A2):D49 k call a0 a3 a4 a5 a6 a8 a9 a10 a11 a36 h =
 (A1 A0 129 a8 1 h).bind fun v0 h0=>(A3 A0 3 v0 h0).bind fun v1 h1=>(A5 A0 .and 3 v1 (.int .i64 32768) h1).bind fun v2 h2=>(A5 A0 .neq 3 v2 (.int .i64 0) h2).bind fun v3 h3=>(wV v3 true (Res.ok a10 h3) h3).bind fun v4 h4=>(condV (some v3) (Res.ok v4 h4) (Res.ok (.bool false) h4)).bind fun v5 h5=>
 condV (some v5) (
 (B4 A0 3 a3 a0 h5).bind fun _v6 h6=>
 .ok (.tuple #[]) h6)
 (
 .ok (.tuple #[]) h5):=by kernel_rfl
def D4d(a10 a11 a12:Value)(h:A2):Res Value :=
 E4 (B3 (C k) call F.ζl [1,1,1]) (G2 A0 (G3 A0 F.ζl)) .normal [(10,a10),(11,a11),(12,a12)] h
def E1a(a1 a4 a8 a10 a11 a12 a13 a35:Value)(h:A2):Res Value :=
 E4 (B3 (C k) call F.ζl [1,1,1]) (G2 A0 (G3 A0 F.ζl)) .normal [(1,a1),(4,a4),(8,a8),(10,a10),(11,a11),(12,a12),(13,a13),(35,a35)] h
def E1b(a1 a10 a11 a12 a13 a48:Value)(h:A2):Res Value :=
 E4 (B3 (C k) call F.ζl [1,1,1]) (G2 A0 (G3 A0 F.ζl)) .normal [(1,a1),(10,a10),(11,a11),(12,a12),(13,a13),(48,a48)] h
def ζl(a0 a1 a2 a3 a4:Value)(h:A2):Res Value :=
 (K9 a2 h).bind fun v0 h0=>(K9 a3 h0).bind fun v1 h1=>(D1 A0 195 h1).bind fun v2 h2=>(D1 A0 195 h2).bind fun v3 h3=>(G8 a0 h3).bind fun v4 h4=>(A1 A0 191 v4 2 h4).bind fun v5 h5=>(A3 A0 113 v5 h5).bind fun v6 h6=>(D1 A0 113 h6).bind fun v7 h7=>(B4 A0 113 v7 v6 h7).bind fun _v8 h8=>(G8 a0 h8).bind fun v9 h9=>(A1 A0 191 v9 1 h9).bind fun va ha=>(A3 A0 3 va ha).bind fun vb hb=>(A5 A0 .eql 3 vb (.int .i64 1) hb).bind fun vc hc=>
 condV (some vc) (
 (A1 A0 150 v0 0 hc).bindN fun vd hd=>(A3 A0 3 vd hd).bindN fun ve he=>(A3 A0 113 v7 he).bindN fun vf hf=>(A5 A0 .mul 3 (.int .i64 4) a1 hf).bindN fun vg hg=>(call F.ζc [vf,vg] hg).bindT (fun p37 hh=>.panic p37 hh) fun vh hi=>(call F.A93 [a4,ve,vh] hi).bindT (fun p41 hj=>E6 ((A4 (A3 A0 3 vd hi) ve && true) && true) (.panic p41 hj)) fun vi hk=>(B5 vi 0 hk).bindN fun vj hl=>(B5 vi 1 hl).bindN fun vk hm=>(B4 A0 195 v2 vj hm).bindN fun _vl hn=>
 E6 ((A4 (A3 A0 3 vd hi) ve && true) && true) (
 condV (some vk) (
 (A1 A0 150 v1 0 hn).bindN fun vm ho=>(A3 A0 3 vm ho).bindN fun vn hp=>(A3 A0 113 v7 hp).bindN fun vo hq=>(A5 A0 .mul 3 (.int .i64 4) a1 hq).bindN fun vp hr=>(A5 A0 .add 3 vp (.int .i64 2) hr).bindN fun vq hs=>(call F.ζc [vo,vq] hs).bindT (fun p61 ht=>.panic p61 ht) fun vr hu=>(call F.A93 [a4,vn,vr] hu).bindT (fun p65 hv=>E6 ((A4 (A3 A0 3 vm hu) vn && true) && true) (.panic p65 hv)) fun vs hw=>(B5 vs 0 hw).bindN fun vt hx=>(B5 vs 1 hx).bindN fun vu hy=>(B4 A0 195 v3 vt hy).bindN fun _vv hz=>
 E6 ((A4 (A3 A0 3 vm hu) vn && true) && true) (
 D4d k call v2 v3 vu hz))
 (
 E1a k call a1 a4 v1 v2 v3 vk v7 vk hn)))
 (
 (A5 A0 .eql 3 vb (.int .i64 2) hc).bind fun vw h10=>
 condV (some vw) (
 (A3 A0 113 v7 h10).bindN fun vx h11=>(A5 A0 .mul 3 (.int .i64 8) a1 h11).bindN fun vy h12=>(call F.A64 [vx,vy] h12).bindT (fun p81 h13=>(A3 A0 113 v7 h12).bindN fun vz h14=>(A5 A0 .mul 3 (.int .i64 8) a1 h14).bindN fun v10 h15=>(A5 A0 .add 3 v10 (.int .i64 2) h15).bindN fun v11 h16=>E6 ((A4 (A3 A0 113 v7 h10) vz && true) && true) (.panic p81 h13)) fun v12 h17=>(A3 A0 113 v7 h17).bindN fun v13 h18=>(A5 A0 .mul 3 (.int .i64 8) a1 h18).bindN fun v14 h19=>(A5 A0 .add 3 v14 (.int .i64 2) h19).bindN fun v15 h1a=>(call F.A64 [v13,v15] h1a).bindT (fun p97 h1b=>E6 ((A4 (A3 A0 113 v7 h10) v13 && true) && true) (.panic p97 h1b)) fun v16 h1c=>(E0 A0 195 [(0,v12),(1,v16)] h1c).bindN fun v17 h1d=>(B4 A0 195 v2 v17 h1d).bindN fun _v18 h1e=>
 E6 ((A4 (A3 A0 113 v7 h10) v13 && true) && true) (
 (A3 A0 113 v7 h1e).bindN fun v19 h1f=>(A5 A0 .mul 3 (.int .i64 8) a1 h1f).bindN fun v1a h1g=>(A5 A0 .add 3 v1a (.int .i64 4) h1g).bindN fun v1b h1h=>(call F.A64 [v19,v1b] h1h).bindT (fun p111 h1i=>(A3 A0 113 v7 h1h).bindN fun v1c h1j=>(A5 A0 .mul 3 (.int .i64 8) a1 h1j).bindN fun v1d h1k=>(A5 A0 .add 3 v1d (.int .i64 6) h1k).bindN fun v1e h1l=>E6 ((A4 (A3 A0 113 v7 h1e) v1c && true) && true) (.panic p111 h1i)) fun v1f h1m=>(A3 A0 113 v7 h1m).bindN fun v1g h1n=>(A5 A0 .mul 3 (.int .i64 8) a1 h1n).bindN fun v1h h1o=>(A5 A0 .add 3 v1h (.int .i64 6) h1o).bindN fun v1i h1p=>(call F.A64 [v1g,v1i] h1p).bindT (fun p127 h1q=>E6 ((A4 (A3 A0 113 v7 h1e) v1g && true) && true) (.panic p127 h1q)) fun v1j h1r=>(E0 A0 195 [(0,v1f),(1,v1j)] h1r).bindN fun v1k h1s=>(B4 A0 195 v3 v1k h1s).bindN fun _v1l h1t=>
 E6 ((A4 (A3 A0 113 v7 h1e) v1g && true) && true) (
 D4d k call v2 v3 (.bool true) h1t)))
 (
 E1b k call a1 v2 v3 (.bool false) v7 vw h10))
theorem G1c(k:Nat)(a0 a1 a2 a3 a4:Value)(h:A2):R (T k) F.ζl [a0,a1,a2,a3,a4] h=nrm .gc h (ζl k (R (T k)) a0 a1 a2 a3 a4 h) :=G9
theorem D44(a10 a11 a12:Value)(h:A2):D4d k call a10 a11 a12 h =
 (A3 A0 195 a10 h).bindN fun v0 h0=>(A3 A0 195 a11 h0).bindN fun v1 h1=>(B4 A0 195 a10 v0 h1).bindN fun _v2 h2=>(B4 A0 195 a11 v1 h2).bindN fun _v3 h3=>
 E6 ((A4 (A3 A0 195 a11 h2) v1 && true) && true) (
 (A3 A0 195 a10 h3).bind fun v4 h4=>(A3 A0 195 a11 h4).bind fun v5 h5=>
 .ok (.tuple #[v4,v5,a12]) h5):=by kernel_rfl
theorem E9s(a1 a4 a8 a10 a11 a12 a13 a35:Value)(h:A2):E1a k call a1 a4 a8 a10 a11 a12 a13 a35 h =
 (A3 A0 195 a10 h).bindN fun v0 h0=>(A3 A0 195 a11 h0).bindN fun v1 h1=>(B4 A0 195 a10 v0 h1).bindN fun _v2 h2=>(B4 A0 195 a11 v1 h2).bindN fun _v3 h3=>
 E6 ((A4 (A3 A0 195 a11 h2) v1 && true) && true) (
 (A3 A0 195 a10 h3).bind fun v4 h4=>(A3 A0 195 a11 h4).bind fun v5 h5=>
 .ok (.tuple #[v4,v5,a12]) h5):=by kernel_rfl
theorem E9t(a1 a10 a11 a12 a13 a48:Value)(h:A2):E1b k call a1 a10 a11 a12 a13 a48 h =
 (A3 A0 195 a10 h).bindN fun v0 h0=>(A3 A0 195 a11 h0).bindN fun v1 h1=>(B4 A0 195 a10 v0 h1).bindN fun _v2 h2=>(B4 A0 195 a11 v1 h2).bindN fun _v3 h3=>
 E6 ((A4 (A3 A0 195 a11 h2) v1 && true) && true) (
 (A3 A0 195 a10 h3).bind fun v4 h4=>(A3 A0 195 a11 h4).bind fun v5 h5=>
 .ok (.tuple #[v4,v5,a12]) h5):=by kernel_rfl
end
end Go.Sw
end
section
namespace Go.Sw
open Go.RowKit
abbrev B63(t:A0r):List Value:=[W0 t.m,.int .i64 t.kind,lv B7 t.acts]
abbrev Y5(t:A0r):Value:=boxV (B63 t).toArray
theorem D3.bind(t:A0r):D3 (Y5 t):=.boxV (.cons (D3.mach t.m) (.cons (.int _ _) (.cons (D3.B _) .nil)))
theorem D9z(P:Program)(t:TypeId)(H:A2){a:Int}(h0:0≤a)(h1:a<4294967296):A5 P .shr t (.int .i64 a) (.int .u64 30) H=.ok (.int .i64 (a / 1073741824)) H:=by
 unfold A5;simp[A0n,A43,IntKind.signed,IntKind.bits];exact Int.fdiv_eq_ediv_of_nonneg _ (by decide)
theorem G6m (k:Nat) {vs:List Int} (hb:Byt vs) (hl:vs.length<2 ^ 31) {p:Nat} {kd:Int} (hkd:kd=1∨kd=2) {es:List En} (hes:∀ e,e ∈ es→0≤e.a∧e.a<65536) (hel:es.length<2 ^ 40) {m c:Value} {H:A2} (hp:H.get p=some ⟨[m,c,lv B7 vs],1,false⟩) :
  (∃ z H',loopN (B8o k (R (T k))) B8 [(5,B6 p),(7,.int .i64 (4*kd)),(51,lv E7 es),(52,.int .i64 es.length),(53,.int .i64 0)] H=.ok (.exit 0,[(5,B6 p),(7,.int .i64 (4*kd)),(51,lv E7 es),(52,.int .i64 es.length),(53,z),(54,.bool false)]) H'∧Ext H H'∧es.all (N8 kd vs)=true) ∨
  (∃ H',loopN (B8o k (R (T k))) B8 [(5,B6 p),(7,.int .i64 (4*kd)),(51,lv E7 es),(52,.int .i64 es.length),(53,.int .i64 0)] H=.panic K7 H'∧Ext H H'∧es.all (N8 kd vs)=false):=by
 rcases A5j (body:=B8o k (R (T k))) es.length
  (fun j e' H'=>e'=[(5,B6 p),(7,.int .i64 (4*kd)),(51,lv E7 es),(52,.int .i64 es.length),(53,.int .i64 j)]∧Ext H H'∧(es.take j).all (N8 kd vs)=true)
  (fun xx e' H'=>xx=.exit 0∧(∃ z,e'=[(5,B6 p),(7,.int .i64 (4*kd)),(51,lv E7 es),(52,.int .i64 es.length),(53,z),(54,.bool false)])∧Ext H H'∧es.all (N8 kd vs)=true)
  (fun v H'=>v=K7∧Ext H H'∧es.all (N8 kd vs)=false)
  (fun j e' H' hj ⟨he',hx,hall⟩=>by
   subst he';have hjl:(j:Int)<es.length:=by omega
   obtain⟨en,hen⟩:∃ en,es[j]?=some en:=⟨_,List.getElem?_eq_getElem hj⟩
   have hmem:=List.mem_of_getElem? hen;have i1:=fun H'=>S0 B28 es .i64 j en hen H';have hx2:Ext H (H'.push ⟨E7 en,1,false⟩):=hx.push _;have hea:=hes en hmem;have hp2:=hx2.get hp;have hq:(H'.push ⟨E7 en,1,false⟩).get H'.n=some ⟨E7 en,1,false⟩:=ζd _ _ _ rfl;have hne:¬ p=H'.n:=by have:=A2.get_lt (hx.get hp); omega
   have hp1:=hx.get hp;by_cases c1:en.a=65535
   ·have c1':(en.a != 65535)=false:=by rw[c1]; rfl
    refine .inl ⟨_,_,?_,rfl,hx2,?_⟩
    ·rw[D1k];simp -implicitDefEqProofs(disch:=omega) [hjl,i1,c1',G49]
    ·rw[A29 hen,List.all_append,hall];simp[N8,c1]
   ·have c1':(en.a != 65535)=true:=by rw[bne_iff_ne]; exact c1
    have hcut:=fun H'=>D2p k vs (4*kd*en.a) (4*kd) (by omega) H';have hE:N8 kd vs en=(E1 vs (4*kd*en.a) (4*kd)).isSome:=by unfold N8; rw[decide_eq_false c1]; rfl
    have w1:IntKind.i64.wrap (4*kd*en.a)=4*kd*en.a:=by
     rcases hkd with rfl | rfl <;> exact wrap_i64 (by omega) (by omega)
    cases hpc:E1 vs (4*kd*en.a) (4*kd) with
    | none=>
     rw[hpc] at hcut hE;refine .inr (.inr ⟨K7,_,?_,rfl,hx2,?_⟩)
     ·rw[D1k];simp -implicitDefEqProofs(disch:=omega) [hjl,i1,c1',hne,hp1,w1,hcut,orF]
     ·rw[Bool.eq_false_iff];intro h;have:=List.all_eq_true.1 h en hmem;rw[hE] at this;cases this
    | some r=>
     rw[hpc] at hcut hE;refine .inl ⟨_,_,?_,rfl,hx2,?_⟩
     ·rw[D1k];simp -implicitDefEqProofs(disch:=omega) [hjl,i1,c1',hne,hp1,w1,hcut,orF,G48]
     ·rw[A29 hen,List.all_append,hall];simp[hE])
  (fun e' H' ⟨he',hx,hall⟩=>by
   subst he';rw[List.take_length] at hall;refine .inl ⟨.exit 0,_,H',?_,by simp,rfl,⟨.int .i64 es.length,rfl⟩,hx,hall⟩;rw[D1k];simp -implicitDefEqProofs) B8 0 [(5,B6 p),(7,.int .i64 (4*kd)),(51,lv E7 es),(52,.int .i64 es.length),(53,.int .i64 0)] H (Nat.zero_le _) (by unfold B8; omega) ⟨rfl,Ext.refl _,rfl⟩ with⟨xx,e',H1,hr,rfl,⟨z,rfl⟩,hx,hE⟩ | ⟨v,H1,hr,rfl,hx,hE⟩
 ·exact .inl ⟨z,H1,hr,hx,hE⟩
 ·exact .inr ⟨H1,hr,hx,hE⟩
theorem G5z (k:Nat) (hk:k<1000000) (b:List Int) (hb:Byt b) (g:Int) (hg:1≤g∧g≤65535) (hl:b.length<2 ^ 31) (H:A2):R (T k) F.A4w [vwB b,.int .i64 g] H=orF (W7 b g) Y5 H:=by
 rw[G6o];have hx:Ext H (H.push ⟨[lv B7 b],1,false⟩):=(Ext.refl H).push _;have hvb:veq (vwB b) (vwB b)=true:=U7 (l:=[lv B7 b]) fun u hu=>by simp at hu; subst hu; exact A5z b
 refine A3p ?_ fun _ _=>(D3.bind _).alive;unfold W7;simp -implicitDefEqProofs(disch:=omega) [A4w];refine Cp.callT (G5p k (Sl.lv _ 1 b) hb g 1 hg.1 hg.2 (.inr (.inl rfl)) hl) (fun _=>⟨_,by simp -implicitDefEqProofs(disch:=omega) [hvb],hx⟩) fun m hm=>?_;have hok:=A5k hb hg.1 hg.2 (by omega) hm;simp -implicitDefEqProofs(disch:=omega) [hvb];have hx1:=hx.push ⟨[W0 m,.int .i64 0,.slice none 0 0],1,false⟩;refine Cp.callT (A0z k (Sl.lv _ 1 b) hb 16 (by omega)) (fun _=>⟨_,by simp -implicitDefEqProofs(disch:=omega) [hvb],hx1⟩) fun w hw=>?_;have hwb:=W5 hb hw;have sh:=fun H=>D9z A0 3 H hwb.1 hwb.2;have an:=fun H=>D7k A0 3 H hwb.1 hwb.2;have hx2:=fun kd=>hx.push ⟨[W0 m,.int .i64 kd,.slice none 0 0],1,false⟩;generalize hkd:w / 1073741824=kd at sh ⊢;by_cases hc:kd=1∨kd=2;rotate_left
 ·rw[if_neg hc];have c1:(kd != 1)=true:=by rw[bne_iff_ne]; omega
  have c2:(kd != 2)=true:=by rw[bne_iff_ne]; omega
  simp -implicitDefEqProofs(disch:=omega) [sh,c1,c2];refine .ok (hx2 kd) ?_;exact⟨_,A9p (by omega) (ζd _ _ _ (by simp)) (A1k (v:=W0 m) (u:=W0 m) (L1:=[]) rfl (A1k (v:=.int .i64 kd) (u:=.int .i64 kd) (L1:=[]) rfl (X1 (v:=.slice none 0 0) (u:=lv B7 []) (L:=[]) rfl)))⟩
 ·rw [if_pos hc];have hrest:=fun H'=>A9i k b (w % 16777216) (by omega) (by omega) H';have d:(kd=1∧(kd != 1)=false)∨(kd=2∧(kd != 1)=true∧(kd != 2)=false):=by
   rcases hc with rfl | rfl
   ·exact .inl ⟨rfl,rfl⟩
   ·exact .inr ⟨rfl,rfl,rfl⟩
  cases hr:L5 b (w % 16777216) with
  | none=>
   rw[hr] at hrest;rcases d with⟨rfl,d1⟩ | ⟨rfl,d1,d2⟩
   ·simp -implicitDefEqProofs(disch:=omega) [sh,an,hvb,hrest,orF];exact⟨_,rfl,hx2 1⟩
   ·simp -implicitDefEqProofs(disch:=omega) [sh,an,hvb,hrest,orF];exact⟨_,rfl,hx2 2⟩
  | some sb=>
   rw[hr] at hrest;have lsb:=A73 hr;have hent:=fun H'=>G6f k hk m hok.elen H';have hes:∀ e,e ∈ m.ents→0≤e.a∧e.a<65536:=fun e he=>by have:=hok.ent e he; omega
   have hx3:Ext H ((H.push ⟨[lv B7 b],1,false⟩).push ⟨[W0 m,.int .i64 kd,lv B7 sb],1,false⟩):=hx.push _;have hpg:((H.push ⟨[lv B7 b],1,false⟩).push ⟨[W0 m,.int .i64 kd,lv B7 sb],1,false⟩).get (H.n+1)=some ⟨[W0 m,.int .i64 kd,lv B7 sb],1,false⟩:=ζd _ _ _ (by simp);have e2:=G6m k (hb.rest hr) (by omega) hc hes (by have:=hok.elen; omega) hpg;simp only[Option.bind_some]
   have fin:∀ {R0:Res Value},((∃ H2,R0=.ok (B6 (H.n+1)) H2∧Ext _ H2∧m.ents.all (N8 kd sb)=true)∨(∃ H2,R0=.panic K7 H2∧Ext ((H.push ⟨[lv B7 b],1,false⟩).push ⟨[W0 m,.int .i64 kd,lv B7 sb],1,false⟩) H2∧m.ents.all (N8 kd sb)=false)) →
     Cp K7 (Ext H) R0 (if ∀ x,x ∈ m.ents→N8 kd sb x=true then some ⟨m,kd,sb⟩ else none) fun b v H'=>∃ L,fzV H.n H' N9 v=some (Y5 b,L):=fun {R0} h=>by
    rcases h with⟨H2,rfl,hx4,hall⟩ | ⟨H2,rfl,hx4,hall⟩
    ·rw[if_pos (List.all_eq_true.1 hall)];refine .ok (hx3.trans hx4) ?_;exact⟨_,A9p (by omega) (hx4.get hpg) (A1k (v:=W0 m) (u:=W0 m) (L1:=[]) rfl (A1k (v:=.int .i64 kd) (u:=.int .i64 kd) (L1:=[]) rfl (X1 (v:=lv B7 sb) (u:=lv B7 sb) (L:=[]) rfl)))⟩
    ·rw[if_neg (fun hc=>by rw[List.all_eq_true.2 hc] at hall; cases hall)];exact⟨H2,rfl,hx3.trans hx4⟩
   refine fin ?_
   rcases d with⟨rfl,d1⟩ | ⟨rfl,d1,d2⟩ <;>
    rcases e2 with⟨z,H2,e2,hx4,hall⟩ | ⟨H2,e2,hx4,hall⟩
   ·refine .inl ⟨H2,?_,hx4,hall⟩;simp at e2;simp -implicitDefEqProofs(disch:=omega) [sh,an,hvb,hrest,orF,hent,e2,E2q]
   ·refine .inr ⟨H2,?_,hx4,hall⟩;simp at e2;simp -implicitDefEqProofs(disch:=omega) [sh,an,hvb,hrest,orF,hent,e2]
   ·refine .inl ⟨H2,?_,hx4,hall⟩;simp at e2;simp -implicitDefEqProofs(disch:=omega) [sh,an,hvb,hrest,orF,hent,e2,E2q]
   ·refine .inr ⟨H2,?_,hx4,hall⟩;simp at e2;simp -implicitDefEqProofs(disch:=omega) [sh,an,hvb,hrest,orF,hent,e2]
def bindP(o:Option A0r):Value:=match o with | some t=>Y5 t | none=>.pointer none
theorem G7v(o:Option A0r):D3 (bindP o):=by
 cases o with
 | none=>exact .nilPtr
 | some t=>exact D3.bind t
theorem G60 (k:Nat) {H:A2} (b:List Int) (hb:Byt b) (g:Int) (hg:1≤g∧g≤65535) (hl:b.length<2 ^ 31) (p2 p3 p4:Nat) (old:Value)
  (h2:H.get p2=some ⟨[lv B7 b],1,false⟩) (h3:H.get p3=some ⟨[.int .i64 g],1,false⟩) (h4:H.get p4=some ⟨[old],1,false⟩) (ht:∀ H',R (T k) F.A4w [vwB b,.int .i64 g] H'=orF (W7 b g) Y5 H') :
  R (T k) F.B0g [B6 p2,B6 p3,B6 p4] H=match W7 b g with
   | some t=>.ok (.tuple #[]) (H.set p4 (some ⟨[Y5 t],1,false⟩))
   | none=>.panic K7 H:=by
 rw[G47];have ht:=ht H;cases h:W7 b g with
 | none=>
  rw[h] at ht;refine A0p ⟨H,?_,Ext.refl H⟩ D3.fail.alive;simp -implicitDefEqProofs(disch:=omega) [B0g,h2,h3,ht]
 | some x=>
  rw[h] at ht;simp -implicitDefEqProofs(disch:=omega) [B0g,h2,h3,h4,ht]
def B0v(b:List Int)(g:Int):Option A0r:=if 1≤g∧g≤65535 then W7 b g else none
def bindN(b:List Int)(g:Int):Int:=if 1≤g∧g≤65535 then (if (W7 b g).isSome then 0 else 2) else 1
theorem G5y (k:Nat) {H:A2} {v:Value} {b:List Int} (hv:Sl H 1 v B7 b) (hb:Byt b) (g:Int) (hl:b.length≤2 ^ 30) (ht:(1≤g∧g≤65535)→∀ H',R (T k) F.A4w [vwB b,.int .i64 g] H'=orF (W7 b g) Y5 H') :
  R (T k) F.B0n [v,.int .i64 g] H=.ok (.tuple #[bindP (B0v b g),.int .i64 (bindN b g)]) H:=by
 rw [G6n];have hx2:=(Ext.refl H).push ⟨[.int .i64 g],1,false⟩;have al:∀ o n,L6 H (.tuple #[bindP o,.int .i64 n]):=fun o n=>(D3.tupleL (l:=[bindP o,.int .i64 n]) (.cons (G7v o) (.cons (.int _ _) .nil))).alive;have fz:∀ H' o n,fzV H.n H' N9 (.tuple #[bindP o,.int .i64 n])=some (.tuple #[bindP o,.int .i64 n],[]):=fun H' o n=>by
  cases o <;> rfl
 by_cases hgg:1≤g∧g≤65535
 ·have c1:¬ g<1:=by omega
  have c2:¬ g>65535:=by omega
  have hx3:=hx2.push ⟨[.pointer none],1,false⟩;have o3:=B2c k (hv.up hx3);have by3:=E5j k (hv.up hx3) hl;have o4:=fun H=>D2i k b H;have hin:=G60 k (H:=((H.push ⟨[.int .i64 g],1,false⟩).push ⟨[.pointer none],1,false⟩).push ⟨[lv B7 b],1,false⟩) b hb g hgg (by omega) (H.n+2) H.n (H.n+1) (.pointer none) (by simp) (by simp) (by simp) (ht hgg);cases hlk:W7 b g with
  | none=>
   rw[hlk] at hin;have ht:=B5x k F.B0g #[B6 (H.n+2),B6 H.n,B6 (H.n+1)] hin;refine G7 (H':=((H.push ⟨[.int .i64 g],1,false⟩).push ⟨[.pointer none],1,false⟩).push ⟨[lv B7 b],1,false⟩) (v:=.tuple #[bindP none,.int .i64 2]) ?_ (by unfold B0v bindN; rw[if_pos hgg,if_pos hgg,hlk]; exact fz _ _ _) (hx3.push _) (al _ _);simp -implicitDefEqProofs(disch:=omega) [B0n,c1,c2,o3,by3,o4,ht,bindP]
  | some x=>
   rw[hlk] at hin;have ht:=B5y k F.B0g #[B6 (H.n+2),B6 H.n,B6 (H.n+1)] hin;refine G7 (H':=((H.push ⟨[.int .i64 g],1,false⟩).push ⟨[Y5 x],1,false⟩).push ⟨[lv B7 b],1,false⟩) (v:=.tuple #[bindP (some x),.int .i64 0]) ?_ (by unfold B0v bindN; rw[if_pos hgg,if_pos hgg,hlk]; exact fz _ _ _) ((hx2.push _).push _) (al _ _);simp at ht;simp -implicitDefEqProofs(disch:=omega) [B0n,c1,c2,o3,by3,o4,ht,bindP]
 ·refine G7 (H':=(H.push ⟨[.int .i64 g],1,false⟩).push ⟨[.pointer none],1,false⟩) (v:=.tuple #[bindP none,.int .i64 1]) ?_ (by unfold B0v bindN; rw[if_neg hgg,if_neg hgg]; exact fz _ _ _) (hx2.push _) (al _ _);by_cases c1:g<1
  ·simp -implicitDefEqProofs(disch:=omega) [B0n,c1,bindP]
  ·have c2:g>65535:=by omega
   simp -implicitDefEqProofs(disch:=omega) [B0n,c1,c2,bindP]
def ptV(p:Int × Int):Value:=.agg #[.int .i64 p.1,.int .i64 p.2]
theorem D3.pt(p:Int × Int):D3 (ptV p):=D3.aggL (l:=[.int .i64 p.1,.int .i64 p.2]) (.cons (.int _ _) (.cons (.int _ _) .nil))
def B0p(k:Nat)(v:Value)(pg:Int→Int→Option (Int × Int))(H:A2):Prop:=∀ id i H',Ext H H'→R (T k) F.A93 [v,.int .i64 id,.int .i64 i] H'=.ok (.tuple #[ptV ((pg id i).getD (0,0)),.bool (pg id i).isSome]) H'
def B5q(pg:Int→Int→Option (Int × Int)):Prop:=∀ id i p,pg id i=some p → -32768≤p.1∧p.1<32768 ∧ -32768≤p.2∧p.2<32768
set_option maxHeartbeats 1000000 in
theorem G8o (k:Nat) (t:A0r) (ht:t.ok) (a:Int) (ha:0≤a∧a<65536) (hfit:t.kind=1∨t.kind=2→4*t.kind*a+4*t.kind≤t.acts.length) (mk own:Gl) {H:A2} {pv:Value} {pg:Int→Int→Option (Int × Int)} (hank:B0p k pv pg H) (hpg:B5q pg) :
  ∃ P Q:Int × Int,R (T k) F.ζl [Y5 t,.int .i64 a,A4t (some mk),A4t (some own),pv] H=.ok (.tuple #[ptV P,ptV Q,.bool (A6v t pg a mk.id own.id).isSome]) H ∧
   (∀ r,A6v t pg a mk.id own.id=some r→r=(P,Q))∧(-32768≤P.1∧P.1<32768 ∧ -32768≤P.2∧P.2<32768)∧(-32768≤Q.1∧Q.1<32768 ∧ -32768≤Q.2∧Q.2<32768):=by
 have hb:=ht.byt;have hl:=ht.len;have hU:∀ i:Int,0≤i→i+2≤(t.acts.length:Int)→uS t.acts i 2=some (gU t.acts i 2):=fun i h0 h1=>by
  have:∃ x,uS t.acts i 2=some x:=by
   unfold uS E1;rw[if_pos ⟨by omega,by omega,by omega,by omega⟩];exact⟨_,rfl⟩
  obtain⟨x,hx⟩:=this;rw[hx,L8 hx]
 have fl:∀ p q b,D3 (.tuple #[ptV p,ptV q,.bool b]):=fun p q b=>D3.tupleL (l:=[ptV p,ptV q,.bool b]) (.cons (D3.pt p) (.cons (D3.pt q) (.cons (.bool _) .nil)));have hx1:=((((Ext.refl H).push ⟨[.int .i64 mk.id,.int .i64 mk.cl],1,false⟩).push ⟨[.int .i64 own.id,.int .i64 own.cl],1,false⟩))
 have hx2:=fun (p q:Int × Int)=>(((hx1.push ⟨[.int .i64 p.1,.int .i64 p.2],1,false⟩).push ⟨[.int .i64 q.1,.int .i64 q.2],1,false⟩).push ⟨[lv B7 t.acts],1,false⟩)
 have vq:∀ x y:Int,veq (.agg #[.int .i64 x,.int .i64 y]) (.agg #[.int .i64 x,.int .i64 y])=true:=fun x y=>U7 (l:=[.int .i64 x,.int .i64 y]) fun u hu=>by simp at hu; rcases hu with rfl | rfl <;> simp
 have vw:veq (vwB t.acts) (vwB t.acts)=true:=U7 (l:=[lv B7 t.acts]) fun u hu=>by simp at hu; subst hu; exact A5z t.acts
 rw[G1c];unfold A6v;by_cases d1:t.kind=1
 ·have hf:=hfit (.inl d1);rw[d1] at hf;rw[if_pos d1];have e1:(t.kind == 1)=true:=by rw[beq_iff_eq]; exact d1
  have u1:=hU (4*a) (by omega) (by omega);have u2:=hU (4*a+2) (by omega) (by omega);have r1:=fun H'=>S5 k (Sl.lv H' 1 t.acts) hb (4*a) (by omega);have r2:=fun H'=>S5 k (Sl.lv H' 1 t.acts) hb (4*a+2) (by omega);rw[u1] at r1;rw[u2] at r2;have g1:=hank mk.id (gU t.acts (4*a) 2) _ (hx2 (0,0) (0,0));have w1:IntKind.i64.wrap (4*a)=4*a:=wrap_i64 (by omega) (by omega);have w2:IntKind.i64.wrap (4*a+2)=4*a+2:=wrap_i64 (by omega) (by omega);cases hp:pg mk.id (gU t.acts (4*a) 2) with
  | none=>
   rw[hp] at g1;refine⟨(0,0),(0,0),?_,fun r hr=>(by cases hr),by decide,by decide⟩;refine D8 ⟨_,?_,hx2 (0,0) (0,0)⟩ (fl _ _ _).alive;unfold ptV at g1;simp only[Option.getD_none,Option.isSome_none] at g1;simp -implicitDefEqProofs(disch:=omega) [ζl,A4t,e1,d1,r1,orF,w1,g1,vq,vw,E9s,ptV]
  | some p=>
   have pb:=hpg _ _ _ hp;rw[hp] at g1;have g2:=hank own.id (gU t.acts (4*a+2) 2) _ (hx2 p (0,0));unfold ptV at g1 g2;simp only[Option.getD_some,Option.isSome_some] at g1;cases hq:pg own.id (gU t.acts (4*a+2) 2) with
   | none=>
    rw[hq] at g2;simp only[Option.getD_none,Option.isSome_none] at g2;refine⟨p,(0,0),?_,fun r hr=>(by simp at hr),pb,by decide⟩;refine D8 ⟨_,?_,hx2 p (0,0)⟩ (fl _ _ _).alive;simp -implicitDefEqProofs(disch:=omega) [ζl,A4t,e1,d1,r1,r2,orF,w1,w2,g1,g2,vq,vw,D44,ptV]
   | some q=>
    have qb:=hpg _ _ _ hq;rw[hq] at g2;simp only[Option.getD_some,Option.isSome_some] at g2;refine⟨p,q,?_,fun r hr=>(by simpa using hr.symm),pb,qb⟩;refine D8 ⟨_,?_,hx2 p q⟩ (fl _ _ _).alive;simp -implicitDefEqProofs(disch:=omega) [ζl,A4t,e1,d1,r1,r2,orF,w1,w2,g1,g2,vq,vw,D44,ptV]
 rw[if_neg d1];have e1:(t.kind == 1)=false:=by rw[beq_eq_false_iff_ne]; exact d1
 by_cases d2:t.kind=2
 ·have hf:=hfit (.inr d2);rw[d2] at hf;rw[if_pos d2];have e2:(t.kind == 2)=true:=by rw[beq_iff_eq]; exact d2
  have r1:=fun H' i=>B3k k (Sl.lv H' 1 t.acts) hb i (by omega);have q1:=fun H'=>(r1 H' (8*a)).trans (by rw[hU _ (by omega) (by omega)]);have q2:=fun H'=>(r1 H' (8*a+2)).trans (by rw[hU _ (by omega) (by omega)]);have q3:=fun H'=>(r1 H' (8*a+4)).trans (by rw[hU _ (by omega) (by omega)]);have q4:=fun H'=>(r1 H' (8*a+6)).trans (by rw[hU _ (by omega) (by omega)]);have sb:∀ i,-32768≤s16 (gU t.acts i 2)∧s16 (gU t.acts i 2)<32768:=fun i=>by
   have:=X7 hb i;unfold s16;split <;> omega
  have w1:IntKind.i64.wrap (8*a)=8*a:=wrap_i64 (by omega) (by omega);have s1:=sb (8*a); have s2:=sb (8*a+2); have s3:=sb (8*a+4); have s4:=sb (8*a+6);refine⟨(s16 (gU t.acts (8*a) 2),s16 (gU t.acts (8*a+2) 2)),(s16 (gU t.acts (8*a+4) 2),s16 (gU t.acts (8*a+6) 2)),?_,fun r hr=>(by simpa using hr.symm),⟨s1.1,s1.2,s2.1,s2.2⟩,⟨s3.1,s3.2,s4.1,s4.2⟩⟩;refine D8 ⟨_,?_,hx2 (s16 (gU t.acts (8*a) 2),s16 (gU t.acts (8*a+2) 2)) (s16 (gU t.acts (8*a+4) 2),s16 (gU t.acts (8*a+6) 2))⟩ (fl _ _ _).alive;simp -implicitDefEqProofs(disch:=omega) [ζl,A4t,e1,e2,q1,q2,q3,q4,orF,w1,vq,vw,D44,ptV]
 ·rw[if_neg d2];have e2:(t.kind == 2)=false:=by rw[beq_eq_false_iff_ne]; exact d2
  refine⟨(0,0),(0,0),?_,fun r hr=>(by cases hr),by decide,by decide⟩;refine D8 ⟨_,?_,hx2 (0,0) (0,0)⟩ (fl _ _ _).alive;simp -implicitDefEqProofs(disch:=omega) [ζl,A4t,e1,e2,vq,vw,E9t,ptV]
theorem D2.cut1{H0 H:A2}{L:List It}(h:D2 H0 H L)(i:Nat){o:Option Nat}{s:Value}{b:List Int}(hi:L[i]?=some (D6 o 1 s B7 b))(a n:Nat)(hn:0<n)(hfit:a+n≤b.length)(k1 k2:IntKind) :
  ∃ c,o=some c∧s=.slice (some ⟨c,0,none⟩) b.length b.length∧slS 1 s (some (.int k1 (a:Nat))) (some (.int k2 ((a+n:Nat):Int))) none H=.ok (.slice (some ⟨c,a,none⟩) n (b.length - a)) H:=by
 obtain⟨c,rfl,rfl,hc⟩:=(h.row i hi).full (fun e=>by subst e; simp at hfit; omega);refine⟨c,rfl,rfl,?_⟩;unfold slS;dsimp only[E5];rw[if_pos (Int.natCast_nonneg _),if_pos (Int.natCast_nonneg _)];simp only[Int.toNat_natCast];rw[if_pos ⟨Nat.le_refl _,hfit,by omega,by simp⟩];have:A3v H c 1 none=true:=by unfold A3v; rw[hc]; simp
 rw[if_pos this,Nat.mul_one,Nat.zero_add,Nat.add_sub_cancel_left]
theorem D2.copy1 {H0 H:A2} {L:List It} (h:D2 H0 H L) (i j:Nat) {c:Nat} {o2:Option Nat} {s s2:Value} {b r:List Int} (hi:L[i]?=some (D6 (some c) 1 s B7 b)) (hj:L[j]?=some (D6 o2 1 s2 B7 r)) (a n cap:Nat) (hr:r.length=n) (hn:0<n) (hfit:a+n≤b.length) :
  ∃ H',cpR 1 (.slice (some ⟨c,a,none⟩) n cap) s2 H=.ok (.int .i64 n) H'∧D2 H0 H' (L.set i (D6 (some c) 1 s B7 (b.take a++(r++b.drop (a+n))))):=by
 obtain⟨c',e1,e2,hc⟩:=(h.row i hi).full (fun e=>by subst e; simp at hfit; omega);injection e1 with e1;subst e1;have hown2:=(h.row j hj).own0;have hl2:=hown2.lenV;have hf2:=hown2.first E9;have hrl:(rows B7 r).length=n:=by rw[ζk E9,hr,Nat.mul_one]
 have hbl:(rows B7 b).length=b.length:=by rw[ζk E9,Nat.mul_one]
 have hsp:K4 (rows B7 b) a (rows B7 r)=rows B7 (b.take a++(r++b.drop (a+n))):=by
  unfold K4;have t1:=B2a E9 b a;rw[Nat.mul_one] at t1;have t2:(rows B7 b).drop (a+n)=rows B7 (b.drop (a+n)):=by
   have e:rows B7 b=rows B7 (b.take (a+n))++rows B7 (b.drop (a+n)):=by rw[← A97,List.take_append_drop]
   have hl:(rows B7 (b.take (a+n))).length=a+n:=by rw[ζk E9,Nat.mul_one,List.length_take]; omega
   rw[e,List.drop_append_of_le_length (by omega),List.drop_of_length_le (by omega),List.nil_append]
  rw[t1,hrl,t2,A97,A97]
 refine⟨_,?_,h.setRow i hi (b.take a++(r++b.drop (a+n))) (by simp; omega)⟩;unfold cpR;dsimp only;rw[hl2];dsimp only;rw[hr,Nat.min_self];rw[hr] at hf2;rw[hf2];dsimp only;rw[if_neg (by intro e; rw[List.isEmpty_iff] at e; rw[e] at hrl; simp at hrl; omega)];unfold Q8;rw[hc];dsimp only;rw[if_pos (by rw[hrl,hbl]; simp; omega)];simp only[Res.bind];rw[hsp,show min (n:Int) n=n by omega]
end Go.Sw
end
section
namespace Go.Sw
open Go.RowKit
variable {σ:Type}
theorem A8j (m:Q7) (hm:m.ok) (ln:σ→List Gl) (f:σ→Int→En→σ × Int × Int) (P:σ→Prop) (hf:∀ s i e,P s→0≤i→e ∈ m.ents→P (f s i e).1) (most:Int) :
  ∀ (n:Nat) (x:σ × Drv),P x.1→0≤x.2.pl→0≤x.2.st→x.2.st<m.rows.length→P (A42 m ln f most n x).2.2
 | 0,x,h,_,_,_=>h
 | n + 1,x,h,hp,h0,h1=>by
  have hmem:=A7w hm (ln x.1) x.2 ⟨h0,h1⟩;have hent:=hm.ent _ hmem;have hP:P (U6 m ln f x).1.1:=by unfold U6; split <;> exact hf _ _ _ h hp hmem
  have hst:0≤(U6 m ln f x).1.2.st∧(U6 m ln f x).1.2.st<m.rows.length:=by unfold U6; split <;> exact⟨hent.1,hent.2.1⟩
  have hpl:=B1r m ln f x;unfold A42;split
  ·split
   ·exact hP
   ·split
    ·exact hP
    ·exact A8j m hm ln f P hf most n _ hP hpl hst.1 hst.2
  ·exact h
end Go.Sw
end
section
namespace Go.Sw
open Go.RowKit
theorem E3c(p:A0s)(w:Int)(rm rm':List Int)(h:rm.length=rm'.length):(K6 p w rm).length=(K6 p w rm').length:=by
 unfold K6;simp[h]
theorem G8u(p:A0s)(w:Int)(n:Nat):∃ hd tl:List Int,hd.length=16∧∀ rm:List Int,rm.length=n→K6 p w rm=hd++(rm++tl):=by
 refine⟨D4 (A2e p:Int) 4++(D4 (16+n:Int) 4++(D4 (16+n+(ofS p.cls).length:Int) 4++D4 (16+n+(ofS p.cls).length+(rowsL (A2e p) p.rows).length:Int) 4)),ofS p.cls++(rowsL (A2e p) p.rows++A2c w p.ents),by simp,fun rm h=>?_⟩;unfold K6;rw[h];simp only[List.append_assoc]
theorem B1u(l:List Int):Byt (Y0 l):=Byt.flat fun r hr=>by
 obtain⟨x,_,rfl⟩:=List.mem_map.1 hr;exact ζy _ _
def A1f(p:A0s)(w:Int)(hi:Int)(l:List Int):List Int:=K6 p w (D4 (hi+(K6 p w (List.replicate 4 0)).length:Int) 4)++Y0 l
theorem B91(p:A0s)(w n:Int):(K6 p w (D4 n 4)).length=(K6 p w (List.replicate 4 0)).length:=E3c p w _ _ (by simp)
theorem J0q{p:A0s}(hp:p.ok)(w hi:Int)(l:List Int):Byt (A1f p w hi l):=(G68 hp w (ζy _ _)).app (B1u l)
theorem J0r{p:A0s}(hp:p.ok)(w hi:Int){l:List Int}(h1:p.cls.length≤1000)(h2:p.rows.length≤1000)(h3:p.ents.length≤1000)(h4:l.length≤1000):(A1f p w hi l).length≤102000:=by
 have:=E3p hp w (rm:=List.replicate 4 0) (by simp) h1 h2 h3;unfold A1f;rw[List.length_append,B91,X3];omega
end Go.Sw
end
section
set_option maxRecDepth 100000
namespace Go.Sw
noncomputable section
variable (k:Nat) (call:A8)

end
end Go.Sw
end
section
namespace Go.Sw
open Go.RowKit
theorem G4u(p:A0s)(w:Int)(rm r x:List Int)(h:rm.length=r.length):((K6 p w rm)++x).take 16++(r++((K6 p w rm)++x).drop (16+r.length))=K6 p w r++x:=by
 obtain⟨hd,tl,h16,hs⟩:=G8u p w r.length;rw[hs rm h,hs r rfl];rw[← h16,show hd++(rm++tl)++x=hd++(rm++(tl++x)) by simp,List.take_left,← h];rw[show hd++(rm++(tl++x))=(hd++rm)++(tl++x) by simp,show hd.length+rm.length=(hd++rm).length by simp,List.drop_left];simp
theorem G99(s:List Int){j:Nat}{x:Int}(h:s[j]?=some x):Y0 (s.take (j+1))=Y0 (s.take j)++D4 x 2:=by rw[A29 h,D79]
theorem B2r(x:Int):IntKind.u16.wrap x=m16 x:=by
 unfold IntKind.wrap m16;simp[IntKind.signed,IntKind.bits]
theorem B2g(x:Int):0≤m16 x∧m16 x<65536:=by unfold m16; omega
abbrev A6p(n:Int):List Value:=[.int .i16 n]
theorem G9z(n:Int):(A6p n).length=1:=rfl
structure B3l where
 p:A0s
 vals:List Int
def B3l.ok(x:B3l):Prop:=x.p.ok
def B5u(x:B3l)(n:Nat):Prop:=x.p.cls.length≤40∧x.p.rows.length≤20∧x.p.ents.length≤40∧x.vals.length≤100∧n≤60
instance (x:B3l) (n:Nat):Decidable (B5u x n):=by unfold B5u; exact inferInstance
end Go.Sw
end
section
namespace Go.Sw
open Go.RowKit
variable {σ:Type}
end Go.Sw
end
section
namespace Go.Sw
open Go.RowKit
structure B3j where
 m:A0s
 subs:List (List Int)
def B3j.ok(p:B3j):Prop:=(p.m.ok∧p.subs.length<2 ^ 63)∧∀ s,s ∈ p.subs→∀ n,n ∈ s→0≤n∧n<65536
def B5n(p:B3j)(n:Nat):Prop:=(∀ s,s ∈ p.subs→s.length≤60)∧p.m.cls.length≤40∧p.m.rows.length≤20∧p.m.ents.length≤40∧p.subs.length≤20∧n≤60
instance (p:B3j) (n:Nat):Decidable (B5n p n):=by unfold B5n; infer_instance
theorem B84(r:A13)(kd:Int)(vs:List Int):veq (.agg (Y8 r kd vs).toArray) (.agg (Y8 r kd vs).toArray)=true:=U7 (l:=Y8 r kd vs) fun v hv=>by
 simp at hv;rcases hv with rfl | rfl | rfl | rfl | rfl | rfl | rfl | rfl | rfl | rfl | rfl <;> first | exact A5z _ | exact B2o _ | simp
theorem B83(of:List Int)(rs:List RP)(d:List Int):veq (A8x of rs d) (A8x of rs d)=true:=U7 (l:=A5u true of rs d) fun v hv=>by
 simp at hv;rcases hv with rfl | rfl | rfl | rfl <;> first | exact A5z _ | exact B2o _ | simp
theorem G64(k:Nat)(r:A13)(kd:Int)(vs:List Int)(hb:Byt vs)(hl:vs.length<2 ^ 31)(a i:Int)(ha:0≤a∧a<65536)(hi:0≤i∧i<4)(H:A2) :
  R (T k) F.ζa [.agg (Y8 r kd vs).toArray,.int .i64 a,.int .i64 i] H=.ok (.int .i64 (s16 (gU vs (8*a+2*i) 2))) H:=by
 rw[G1e];refine D8 ⟨_,?_,(Ext.refl H).push ⟨Y8 r kd vs,1,false⟩⟩ (.int _ _);have hU:∀ H',R (T k) F.ζ2 [lv B7 vs,.int .i64 (8*a+2*i),.int .i64 2] H'=.ok (.int .i64 (gU vs (8*a+2*i) 2)) H':=fun H'=>P0 k (H:=H') (Sl.lv H' 1 vs) hb _ 2 (by omega) (by omega);have g1:=X7 hb (8*a+2*i);have hs:=fun H'=>D6q k (gU vs (8*a+2*i) 2) (by omega) (by omega) H';simp -implicitDefEqProofs(disch:=omega) [ζa,hU,hs]
theorem G63{α:Type}{l:List α}{i:Nat}{f g:α→α}(h:∀ x,l[i]?=some x→f x=g x):l.modify i f=l.modify i g:=by
 apply List.ext_getElem?;intro n;rw[List.getElem?_modify,List.getElem?_modify];by_cases hn:i=n
 ·subst hn;simp only[if_true];cases hx:l[i]? with
  | none=>rfl
  | some x=>simp[h x hx]
 ·simp[hn]
theorem G8k{l:List Pl}(h:∀ q,q ∈ l→q.ok)(i x y:Int):A00 l i (fun p=>⟨N6 p.adv 0,N6 p.x x,N6 p.y y⟩)=A0l l i x y:=by
 unfold A0l A00;split
 ·refine G63 fun p hp=>?_;rw[D2x (h p (List.mem_of_getElem? hp)).1]
 ·rfl
set_option maxHeartbeats 4000000 in
theorem J0y (k:Nat) {b:List Int} (hb:Byt b) (hbl:b.length<2 ^ 31) {g:Int} (hg:1≤g∧g≤65535) (t:A0r) (ht:t.ok) (h:Z5 b g 1=some t.m) (gl:List Gl) (hgl:gl.length<2 ^ 24) (l:List Pl) (hl:l.length≤2 ^ 20) (hok:∀ q,q ∈ l→q.ok)
  {of:List Int} {rs:List RP} {d:List Int} {pg:Int→Int→Option (Int × Int)} (hpg:B5q pg) (hP:∀ id i H',R (T k) F.A6z [A8x of rs d,.int .i64 id,.int .i64 i] H'=.ok (.tuple #[.int .i64 ((pg id i).getD (0,0)).1,.int .i64 ((pg id i).getD (0,0)).2,.bool (pg id i).isSome]) H') (H:A2) :
  R (T k) F.ζ0 [.agg (Y8 (A0o b g 1 t.m) t.kind t.acts).toArray,lv V5 gl,lv U0 l,A8x of rs d] H=.ok (.tuple #[lv U0 (A41 t pg gl l).1,.int .i64 (A41 t pg gl l).2]) H:=by
 rw[G41];obtain⟨N,hN⟩:∃ N,N=2*gl.length+128:=⟨_,rfl⟩
 have hpure:=A7u t.m (fun _:List Pl × Int=>gl) (fun s i e=>(A2z t pg gl s i e,i,i+1)) (N:Int) N (l,-1) ⟨0,0,0,0,N,false,0⟩ rfl rfl (Int.le_refl _) rfl (by dsimp only; omega) (by dsimp only; omega);have hrun:A41 t pg gl l=((A16 t.m (fun _:List Pl × Int=>gl) (fun s i e=>(A2z t pg gl s i e,i,i+1)) N ((l,-1),⟨0,0,0,0,N,false,0⟩)).1.1,(A16 t.m (fun _:List Pl × Int=>gl) (fun s i e=>(A2z t pg gl s i e,i,i+1)) N ((l,-1),⟨0,0,0,0,N,false,0⟩)).2.code):=by
  unfold A41 A4m;rw[show (2*(gl.length:Int)+128)=(N:Int) by omega,← hN];have:A42 t.m (fun _:List Pl × Int=>gl) (fun s i e=>(A2z t pg gl s i e,i,i+1)) (N:Int) N ((l,-1),⟨0,0,0,0⟩)=_:=hpure;rw[this]
 rw[hrun];clear hrun hpure;have hnext:=fun y hy hp l hl H'=>B5p k hb hg (.inr (.inl rfl)) hbl ht.m h y hy hp l hl H';have hbegin:=fun H'=>G9e k gl.length (by omega) (by omega) H';rw[show (2*(gl.length:Int)+128)=(N:Int) by omega] at hbegin;generalize A0o b g 1 t.m=rm at hnext ⊢;have v25:=B84 rm t.kind t.acts;have v24:=B83 of rs d;have st:=(((D2.nil H).push ⟨Y8 rm t.kind t.acts,1,false⟩).push ⟨A5u true of rs d,1,false⟩).push ⟨A61 ⟨0,0,0,0,N,false,0⟩,1,false⟩;simp only[List.nil_append,List.cons_append,A02] at st
 obtain ⟨xx,e',H1,hr1,rfl,⟨mk',rfl⟩,g1⟩:=B6h (body:=B4v k (R (T k))) t.m ht.m (fun _:List Pl × Int=>gl) (fun s i e=>(A2z t pg gl s i e,i,i+1)) N (by omega) (by omega)
  (fun x e H'=>e=[(1,lv V5 gl),(2,lv U0 x.1.1),(4,B6 H.n),(7,B6 (H.n+1)),(10,B6 (H.n+1+1)),(11,.int .i64 x.1.2)]∧D2 H H' [D9 H.n ⟨Y8 rm t.kind t.acts,1,false⟩,D9 (H.n+1) ⟨A5u true of rs d,1,false⟩,D9 (H.n+1+1) ⟨A61 x.2,1,false⟩])
  (fun s=>s.1.length≤2 ^ 20∧(∀ q,q ∈ s.1→q.ok) ∧ -1≤s.2∧s.2<(gl.length:Int))
  (fun x xx e H'=>xx=.exit 0∧(∃ mk,e=[(1,lv V5 gl),(2,lv U0 x.1.1),(4,B6 H.n),(7,B6 (H.n+1)),(10,B6 (H.n+1+1)),(11,mk),(26,.bool false)])∧D2 H H' [D9 H.n ⟨Y8 rm t.kind t.acts,1,false⟩,D9 (H.n+1) ⟨A5u true of rs d,1,false⟩,D9 (H.n+1+1) ⟨A61 x.2,1,false⟩])
  (fun x e H' ⟨he,g⟩ _ hov=>by
   subst he;have b2:=g.get 2 rfl;refine⟨.exit 0,_,H',?_,by simp,rfl,⟨.int .i64 x.1.2,rfl⟩,g⟩;rw[B09];simp -implicitDefEqProofs(disch:=omega) [b2,hov])
  (fun s y en e H' ⟨he,g⟩ hI hov n1 n2 n3 n4 n5 n6 hmem hen=>by
   subst he;obtain⟨lj,mk⟩:=s;obtain⟨k1,kk2,k3,k4⟩:=hI;dsimp only at k1 kk2 k3 k4 g hen ⊢;have i1:=E4n t pg gl lj y.pl mk en;have i2:=E5n t pg gl kk2 y.pl mk en;have hent:=ht.m.ent _ hmem;have hne:=hnext y hov n1 gl (by omega);have hee:Z9 (X2 t.m y.st (A27 t.m gl y.pl).1)=B6k (A1i t.m gl (A6s y)):=rfl;rw[hee,← hen] at hne;generalize (X2 t.m y.st (A27 t.m gl y.pl).1).isSome=zz at hne;have b0:=g.get 0 rfl;have b1:=g.get 1 rfl;have b2:=g.get 2 rfl;have hgo:=fun H'=>D2q k y en (gl.length:Int) y.pl (y.pl+1) (by omega) ⟨hent.2.2.1,hent.2.2.2.1⟩ H';have hst:0≤en.a∧en.a<65536:=by have:=hent; omega
   obtain⟨z,hz⟩:∃ z,z=goS y en (gl.length:Int) y.pl (y.pl+1):=⟨_,rfl⟩
   rw[← hz] at hgo ⊢;have hnn:¬ H.n+1+1=H'.n:=by have:=A2.get_lt b2; omega
   have hnm:¬ H.n=H'.n:=by have:=A2.get_lt b0; omega
   have hno:¬ H.n+1=H'.n:=by have:=A2.get_lt b1; omega
   have hxp:Ext H' (H'.push ⟨E7 en,1,false⟩):=(Ext.refl H').push _;have hov':(!y.over)=true:=by rw[hov]; rfl
   have c0:=hxp.get b0;have c1:=hxp.get b1;have c2:=hxp.get b2;have c3:(H'.push ⟨E7 en,1,false⟩).get H'.n=some ⟨E7 en,1,false⟩:=by simp
   have gg:=(g.rest hxp).setBlk 2 rfl ⟨A61 z,1,false⟩;simp only[List.set_cons_zero,List.set_cons_succ] at gg;have hAt:(atG gl y.pl).isSome=decide (y.pl<(gl.length:Int)):=by
    unfold atG;by_cases hh:y.pl<(gl.length:Int)
    ·rw[if_pos ⟨n1,hh⟩,decide_eq_true hh,List.getElem?_eq_getElem (by omega)];rfl
    ·rw[if_neg (fun q=>hh q.2),decide_eq_false hh];rfl
   obtain⟨mk2,hmk2⟩:∃ mk2,mk2=if en.flags≥32768∧y.pl<(gl.length:Int) then y.pl else mk:=⟨_,rfl⟩
   have hdo:A2z t pg gl (lj,mk) y.pl en=(Q9 t pg gl lj y.pl mk en,mk2):=by
    unfold A2z;dsimp only;rw[hmk2,hAt];simp only[decide_eq_true_eq]
   rw [hdo];have hmb:-1≤mk2∧mk2<(gl.length:Int):=by
    rw[hmk2];split
    ·rename_i hc; omega
    ·omega
   have hI2:(Q9 t pg gl lj y.pl mk en).length≤2 ^ 20∧(∀ q,q ∈ Q9 t pg gl lj y.pl mk en→q.ok) ∧ -1≤mk2∧mk2<(gl.length:Int):=⟨by omega,i2,hmb⟩
   obtain⟨hr,hhr⟩:∃ hr,hr=decide (y.pl<(gl.length:Int)):=⟨_,rfl⟩
   have tail:∀ pv:Value,B8k k (R (T k)) (lv V5 gl) pv (B6 H.n) (B6 (H.n+1)) (B6 (H.n+1+1)) (.int .i64 mk) (B6 H'.n) (.bool hr) (H'.push ⟨E7 en,1,false⟩)=.ok (.normal,[(1,lv V5 gl),(2,pv),(4,B6 H.n),(7,B6 (H.n+1)),(10,B6 (H.n+1+1)),(11,.int .i64 mk2)]) ((H'.push ⟨E7 en,1,false⟩).set (H.n+1+1) (some ⟨A61 z,1,false⟩)) ∧
     ∀ a119,B8l k (R (T k)) (lv V5 gl) pv (B6 H.n) (B6 (H.n+1)) (B6 (H.n+1+1)) (.int .i64 mk) (B6 H'.n) (.bool hr) a119 (H'.push ⟨E7 en,1,false⟩)=.ok (.normal,[(1,lv V5 gl),(2,pv),(4,B6 H.n),(7,B6 (H.n+1)),(10,B6 (H.n+1+1)),(11,.int .i64 mk2)]) ((H'.push ⟨E7 en,1,false⟩).set (H.n+1+1) (some ⟨A61 z,1,false⟩)):=by
    intro pv;generalize H'.push ⟨E7 en,1,false⟩=H2 at c2 c3;by_cases d1:en.flags≥32768
    ·by_cases d2:y.pl<(gl.length:Int)
     ·rw[if_pos ⟨d1,d2⟩] at hmk2;rw[decide_eq_true d2] at hhr;subst hhr hmk2;refine⟨?_,fun a119=>?_⟩
      ·rw[D4g];simp -implicitDefEqProofs(disch:=omega) [c2,c3,d1,E1r,hgo]
      ·rw[D4h];simp -implicitDefEqProofs(disch:=omega) [c2,c3,d1,E1r,hgo]
     ·rw[if_neg (fun q=>d2 q.2)] at hmk2;rw[decide_eq_false d2] at hhr;subst hhr hmk2;refine⟨?_,fun a119=>?_⟩
      ·rw[D4g];simp -implicitDefEqProofs(disch:=omega) [c2,c3,d1,D1b,hgo]
      ·rw[D4h];simp -implicitDefEqProofs(disch:=omega) [c2,c3,d1,D1b,hgo]
    ·rw[if_neg (fun q=>d1 q.1)] at hmk2;subst hmk2;refine⟨?_,fun a119=>?_⟩
     ·rw[D4g];simp -implicitDefEqProofs(disch:=omega) [c2,c3,d1,D1b,hgo]
     ·rw[D4h];simp -implicitDefEqProofs(disch:=omega) [c2,c3,d1,D1b,hgo]
   -- nothing is moved
   have still:(Q9 t pg gl lj y.pl mk en=lj)→(B4v k (R (T k)) [(1,lv V5 gl),(2,lv U0 lj),(4,B6 H.n),(7,B6 (H.n+1)),(10,B6 (H.n+1+1)),(11,.int .i64 mk)] H'=.ok (.normal,[(1,lv V5 gl),(2,lv U0 lj),(4,B6 H.n),(7,B6 (H.n+1)),(10,B6 (H.n+1+1)),(11,.int .i64 mk2)]) ((H'.push ⟨E7 en,1,false⟩).set (H.n+1+1) (some ⟨A61 z,1,false⟩))) →
     ∃ e'' H'',B4v k (R (T k)) [(1,lv V5 gl),(2,lv U0 lj),(4,B6 H.n),(7,B6 (H.n+1)),(10,B6 (H.n+1+1)),(11,.int .i64 mk)] H'=.ok (.normal,e'') H''∧(e''=[(1,lv V5 gl),(2,lv U0 (Q9 t pg gl lj y.pl mk en)),(4,B6 H.n),(7,B6 (H.n+1)),(10,B6 (H.n+1+1)),(11,.int .i64 mk2)]∧D2 H H'' [D9 H.n ⟨Y8 rm t.kind t.acts,1,false⟩,D9 (H.n+1) ⟨A5u true of rs d,1,false⟩,D9 (H.n+1+1) ⟨A61 z,1,false⟩]):=fun h1 h2=>⟨_,_,h2,by rw[h1],gg⟩
   have goal:∃ e'' H'',B4v k (R (T k)) [(1,lv V5 gl),(2,lv U0 lj),(4,B6 H.n),(7,B6 (H.n+1)),(10,B6 (H.n+1+1)),(11,.int .i64 mk)] H'=.ok (.normal,e'') H''∧(e''=[(1,lv V5 gl),(2,lv U0 (Q9 t pg gl lj y.pl mk en)),(4,B6 H.n),(7,B6 (H.n+1)),(10,B6 (H.n+1+1)),(11,.int .i64 mk2)]∧D2 H H'' [D9 H.n ⟨Y8 rm t.kind t.acts,1,false⟩,D9 (H.n+1) ⟨A5u true of rs d,1,false⟩,D9 (H.n+1+1) ⟨A61 z,1,false⟩]):=by
    obtain⟨t4,t5⟩:=tail (lv U0 lj);by_cases a1:en.a=65535
    ·have a1':(en.a != 65535)=false:=by rw[bne_eq_false_iff_eq]; exact a1
     refine still (by unfold Q9; rw[if_pos a1]) ?_;rw[B09];simp -implicitDefEqProofs(disch:=omega) [b0,b2,hnn,hnm,hno,hov',hne,← hhr,a1',B8h,t5]
    have a1':(en.a != 65535)=true:=by rw[bne_iff_ne]; exact a1
    by_cases a2:y.pl<(gl.length:Int)
    rotate_left
    ·have hnA:atG gl y.pl=none:=by unfold atG; rw[if_neg (fun q=>a2 q.2)]
     rw[decide_eq_false a2] at hhr;refine still (by unfold Q9; rw[if_neg a1,hnA]) ?_;rw[B09];subst hhr;simp -implicitDefEqProofs(disch:=omega) [b0,b2,hnn,hnm,hno,hov',hne,a2,a1',B8h,t5]
    rw[decide_eq_true a2] at hhr;subst hhr;by_cases a3:mk≥0;rotate_left
    ·have hnA:atG gl mk=none:=by unfold atG; rw[if_neg (fun q=>a3 q.1)]
     refine still (by unfold Q9; rw[if_neg a1,hnA]; split <;> first | rfl | (rename_i h1; cases h1)) ?_;rw[B09];simp -implicitDefEqProofs(disch:=omega) [b0,b2,hnn,hnm,hno,hov',hne,a2,a3,a1',B8h,t5]
    obtain⟨gO,hgO⟩:∃ gO,gl[y.pl.toNat]?=some gO:=⟨_,List.getElem?_eq_getElem (by omega)⟩
    obtain⟨gM,hgM⟩:∃ gM,gl[mk.toNat]?=some gM:=⟨_,List.getElem?_eq_getElem (by omega)⟩
    have hAO:atG gl y.pl=some gO:=by unfold atG; rw[if_pos ⟨n1,a2⟩,hgO]
    have hAM:atG gl mk=some gM:=by unfold atG; rw[if_pos ⟨a3,k4⟩,hgM]
    have ixO:=fun H'=>A34 W8 gl .i64 y.pl gO n1 hgO H';have ixM:=fun H'=>A34 W8 gl .i64 mk gM a3 hgM H';have hbp:Q9 t pg gl lj y.pl mk en=match A6v t pg en.a gM.id gO.id with
      | some r=>A0l lj y.pl (r.1.1 - r.2.1) (r.1.2 - r.2.2)
      | none=>lj:=by
     unfold Q9;rw[if_neg a1,hAO,hAM];rfl
    have hmo:=fun x y' H'=>G7b k lj y.pl 0 x y' k1 kk2 H';simp only[G8k kk2] at hmo;by_cases e1:t.kind=1
    ·have e1':(t.kind == 1)=true:=by rw[e1]; rfl
     have e2':(t.kind == 2)=false:=by rw[e1]; rfl
     have hU:=fun j H'=>P0 k (H:=H') (Sl.lv H' 1 t.acts) ht.byt j 2 (by have:=ht.len; omega) (by omega);have u1:∀ H',R (T k) F.ζ2 [lv B7 t.acts,.int .i64 (4*en.a),.int .i64 2] H'=.ok (.int .i64 (gU t.acts (4*en.a) 2)) H':=fun H'=>hU _ H';have u2:∀ H',R (T k) F.ζ2 [lv B7 t.acts,.int .i64 (4*en.a+2),.int .i64 2] H'=.ok (.int .i64 (gU t.acts (4*en.a+2) 2)) H':=fun H'=>hU _ H';have p1:=hP gM.id (gU t.acts (4*en.a) 2);have p2:=hP gO.id (gU t.acts (4*en.a+2) 2);have hpt:A6v t pg en.a gM.id gO.id=(pg gM.id (gU t.acts (4*en.a) 2)).bind fun p=>(pg gO.id (gU t.acts (4*en.a+2) 2)).map fun q=>(p,q):=by unfold A6v; rw[if_pos e1]
     rw[hpt] at hbp;generalize gU t.acts (4*en.a) 2=w1 at u1 p1 hbp;generalize gU t.acts (4*en.a+2) 2=w2 at u2 p2 hbp;cases hq1:pg gM.id w1 with
     | none=>
      rw[hq1] at p1 hbp;simp only[Option.getD_none,Option.isSome_none] at p1;refine still hbp ?_;rw[B09];simp -implicitDefEqProofs(disch:=omega) [b0,b1,b2,hnn,hnm,hno,hov',hne,a2,a3,a1',e1',e2',u1,u2,p1,p2,ixO,ixM,v24,E1q,t5]
     | some q1=>
      have hb1:=hpg _ _ _ hq1;rw[hq1] at p1 hbp;simp only[Option.getD_some,Option.isSome_some,Option.bind_some] at p1 hbp;cases hq2:pg gO.id w2 with
      | none=>
       rw[hq2] at p2 hbp;simp only[Option.getD_none,Option.isSome_none] at p2;refine still hbp ?_;rw[B09];simp -implicitDefEqProofs(disch:=omega) [b0,b1,b2,hnn,hnm,hno,hov',hne,a2,a3,a1',e1',e2',u1,u2,p1,p2,ixO,ixM,v24,E1q,t5]
      | some q2=>
       have hb2:=hpg _ _ _ hq2;rw[hq2] at p2 hbp;simp only[Option.getD_some,Option.isSome_some,Option.map_some] at p2 hbp;obtain⟨t4',t5'⟩:=tail (lv U0 (A0l lj y.pl (q1.1 - q2.1) (q1.2 - q2.2)));rw[hbp];refine⟨_,_,?_,rfl,gg⟩;rw[B09];simp -implicitDefEqProofs(disch:=omega) [b0,b1,b2,hnn,hnm,hno,hov',hne,a2,a3,a1',e1',e2',u1,u2,p1,p2,ixO,ixM,v24,hmo,G1b,t5']
    have e1':(t.kind == 1)=false:=by rw[beq_eq_false_iff_ne]; exact e1
    by_cases e2:t.kind=2
    ·have e2':(t.kind == 2)=true:=by rw[e2]; rfl
     have hnu:=fun i hi H'=>G64 k rm t.kind t.acts ht.byt ht.len en.a i hst hi H';have n0:∀ H',R (T k) F.ζa [.agg (Y8 rm t.kind t.acts).toArray,.int .i64 en.a,.int .i64 0] H'=.ok (.int .i64 (s16 (gU t.acts (8*en.a) 2))) H':=fun H'=>by have:=hnu 0 (by omega) H'; rw[show 8*en.a+2*0=8*en.a by omega] at this; exact this
     have n1':∀ H',R (T k) F.ζa [.agg (Y8 rm t.kind t.acts).toArray,.int .i64 en.a,.int .i64 1] H'=.ok (.int .i64 (s16 (gU t.acts (8*en.a+2) 2))) H':=fun H'=>hnu 1 (by omega) H';have n2':∀ H',R (T k) F.ζa [.agg (Y8 rm t.kind t.acts).toArray,.int .i64 en.a,.int .i64 2] H'=.ok (.int .i64 (s16 (gU t.acts (8*en.a+4) 2))) H':=fun H'=>hnu 2 (by omega) H';have n3':∀ H',R (T k) F.ζa [.agg (Y8 rm t.kind t.acts).toArray,.int .i64 en.a,.int .i64 3] H'=.ok (.int .i64 (s16 (gU t.acts (8*en.a+6) 2))) H':=fun H'=>hnu 3 (by omega) H';have hpt:A6v t pg en.a gM.id gO.id=some ((s16 (gU t.acts (8*en.a) 2),s16 (gU t.acts (8*en.a+2) 2)),(s16 (gU t.acts (8*en.a+4) 2),s16 (gU t.acts (8*en.a+6) 2))):=by unfold A6v; rw[if_neg e1,if_pos e2]
     have sb:∀ j,-32768≤s16 (gU t.acts j 2)∧s16 (gU t.acts j 2)<65536:=fun j=>by have:=X7 ht.byt j; unfold s16; split <;> omega
     have sb0:=sb (8*en.a);have sb1:=sb (8*en.a+2);have sb2:=sb (8*en.a+4);have sb3:=sb (8*en.a+6);rw[hpt] at hbp;dsimp only at hbp;generalize s16 (gU t.acts (8*en.a) 2)=x0 at n0 hbp sb0;generalize s16 (gU t.acts (8*en.a+2) 2)=x1 at n1' hbp sb1;generalize s16 (gU t.acts (8*en.a+4) 2)=x2 at n2' hbp sb2;generalize s16 (gU t.acts (8*en.a+6) 2)=x3 at n3' hbp sb3;obtain⟨t4',t5'⟩:=tail (lv U0 (A0l lj y.pl (x0 - x2) (x1 - x3)));rw[hbp];refine⟨_,_,?_,rfl,gg⟩;rw[B09];simp -implicitDefEqProofs(disch:=omega) [b0,b2,hnn,hnm,hno,hov',hne,a2,a3,a1',e1',e2',n0,n1',n2',n3',hmo,v25,B8h,t4']
    ·have e2':(t.kind == 2)=false:=by rw[beq_eq_false_iff_ne]; exact e2
     have hpt:A6v t pg en.a gM.id gO.id=none:=by unfold A6v; rw[if_neg e1,if_neg e2]
     rw[hpt] at hbp;refine still hbp ?_;rw[B09];simp -implicitDefEqProofs(disch:=omega) [b0,b2,hnn,hnm,hno,hov',hne,a2,a3,a1',e1',e2',B8h,t5]
   obtain⟨e'',H'',q1,q2,q3⟩:=goal;exact⟨e'',H'',q1,⟨q2,q3⟩,hI2,by omega,by omega⟩)
  (l,-1) (H0:=((H.push ⟨Y8 rm t.kind t.acts,1,false⟩).push ⟨A5u true of rs d,1,false⟩).push ⟨A61 ⟨0,0,0,0,N,false,0⟩,1,false⟩)
  (e0:=[(1,lv V5 gl),(2,lv U0 l),(4,B6 H.n),(7,B6 (H.n+1)),(10,B6 (H.n+1+1)),(11,.int .i64 (-1))]) ⟨rfl,st⟩ ⟨hl,hok,by dsimp only; omega,by dsimp only; omega⟩
 generalize A16 t.m (fun _:List Pl × Int=>gl) (fun s i e=>(A2z t pg gl s i e,i,i+1)) N ((l,-1),⟨0,0,0,0,N,false,0⟩)=r at hr1 g1 ⊢;have b2:=g1.get 2 rfl;refine G7 (v:=.tuple #[lv U0 r.1.1,.int .i64 r.2.code]) (L:=[]) (H':=H1) ?_ rfl g1.ext (D3.tupleL (.cons (D3.lv (B96 _)) (.cons (.int _ _) .nil))).alive;simp -implicitDefEqProofs(disch:=omega) [ζ0,hbegin,hr1,G13,b2]
end Go.Sw
end
