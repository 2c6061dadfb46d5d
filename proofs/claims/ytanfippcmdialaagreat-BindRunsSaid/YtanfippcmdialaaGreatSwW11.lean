/-
  Functions' forms, and what is proved of them, part 11.
-/
import Derived.Test.YtanfippcmdialaaGreatSwCfg
import Derived.Test.YtanfippcmdialaaGreatSwW10
import Derived.Test.YtanfippcmdialaaGreatSwW6
set_option linter.unusedSimpArgs false
set_option linter.unusedVariables false
set_option linter.unusedSectionVars false
section
set_option maxRecDepth 100000
namespace Go.Sw
noncomputable section
variable (k:Nat) (call:A8)
def B8i:Env→A2→Res (D0 × Env):=M4 (C k) call F.ζu [1,1,1,1,1,1,1,1,0,1,0,0]
def E24:G0 Value:=D7 0 (E4 (B3 (C k) call F.ζu [1,1,1,1,1,1,1,1,1]) (G2 A0 (G3 A0 F.ζu)))
def ζu(a0 a1:Value)(h:A2):Res Value :=
 (D1 A0 79 h).bind fun v0 h0=>(call F.ζ8 [a0,a1,(.int .i64 1)] h0).bind fun v1 h1=>(B5 v1 0 h1).bind fun v2 h2=>(B5 v1 1 h2).bind fun v3 h3=>(D1 A0 44 h3).bind fun v4 h4=>(B4 A0 44 v4 v2 h4).bind fun _v5 h5=>(call F.ζ2 [a0,(.int .i64 16),(.int .i64 4)] h5).bind fun v6 h6=>(unR .not v3 h6).bind fun v7 h7=>(wV v7 false (Res.ok v6 h7) h7).bind fun v8 h8=>(wV v7 false (A5 A0 .lss 3 v8 (.int .i64 0) h8) h8).bind fun v9 h9=>(condV (some v7) (Res.ok (.bool true) h9) (Res.ok v9 h9)).bind fun va ha=>
 condV (some va) (
 (E0 A0 79 [] ha).bind fun vb hb=>(B4 A0 79 v0 vb hb).bind fun _vc hc=>(A3 A0 79 v0 hc).bind fun vd hd=>
 .ok (.tuple #[vd,(.bool false)]) hd)
 (
 (A3 A0 44 v4 ha).bind fun ve he=>(A5 A0 .quo 3 v6 (.int .i64 1073741824) he).bind fun vf hf=>(E0 A0 79 [(0,ve),(1,vf)] hf).bind fun vg hg=>(D1 A0 79 hg).bind fun vh hh=>(B4 A0 79 vh vg hh).bind fun _vi hi=>(A1 A0 79 vh 1 hi).bind fun vj hj=>(A3 A0 3 vj hj).bind fun vk hk=>(A5 A0 .neq 3 vk (.int .i64 1) hk).bind fun vl hl=>(wV vl true (A1 A0 79 vh 1 hl) hl).bind fun vm hm=>(wV vl true (A3 A0 3 vm hm) hm).bind fun vn hn=>(wV vl true (A5 A0 .neq 3 vn (.int .i64 2) hn) hn).bind fun vo ho=>(condV (some vl) (Res.ok vo ho) (Res.ok (.bool false) ho)).bind fun vp hp=>
 condV (some vp) (
 (A3 A0 79 vh hp).bind fun vq hq=>(B4 A0 79 v0 vq hq).bind fun _vr hr=>(A3 A0 79 v0 hr).bind fun vs hs=>
 .ok (.tuple #[vs,(.bool true)]) hs)
 (
 (A5 A0 .rem 3 v6 (.int .i64 16777216) hp).bind fun vt ht=>(call F.A92 [a0,vt] ht).bind fun vu hu=>(B5 vu 0 hu).bind fun vv hv=>(B5 vu 1 hv).bind fun vw hw=>(A1 A0 79 vh 2 hw).bind fun vx hx=>(B4 A0 22 vx vv hx).bind fun _vy hy=>(loopN (B8i k call) B8 [(4,v0),(6,v4),(9,vh),(10,vv),(11,vw),(12,(.int .i64 0))] hy).bind fun r71 hz=>
 E24 k call r71.1 r71.2 hz))
theorem G3e(k:Nat)(a0 a1:Value)(b0 b1:Value)(h:A2)(L:List Nat)(hf:V0 (fzV 0 h N9) [a0,a1]=some ([b0,b1],L)):R (T k) F.ζu [a0,a1] h=nrm .fz (S7 h L) (ζu k (R (T k)) b0 b1 (S7 h L)) :=
 (B9f (t:=T k) (A1g k) (by kernel_rfl) (by kernel_rfl) hf (by kernel_rfl)).trans (by kernel_rfl)
theorem D19(a4 a6 a9 a10 a11 a12:Value)(h:A2):B8i k call [(4,a4),(6,a6),(9,a9),(10,a10),(11,a11),(12,a12)] h =
 (A1 A0 44 a6 5 h).bind fun v0 h0=>(A3 A0 3 v0 h0).bind fun v1 h1=>(A5 A0 .lss 3 a12 v1 h1).bind fun v2 h2=>(wV v2 true (Res.ok a11 h2) h2).bind fun v3 h3=>(condV (some v2) (Res.ok v3 h3) (Res.ok (.bool false) h3)).bind fun v4 h4=>
 condV (some v4) (
 (A3 A0 44 a6 h4).bind fun v5 h5=>(call F.ζi [v5,a12] h5).bind fun v6 h6=>(A31 A0 129 v6 2 h6).bind fun v7 h7=>(A5 A0 .eql 3 v7 (.int .i64 65535) h7).bind fun v8 h8=>(wV v8 false (Res.ok a10 h8) h8).bind fun v9 h9=>(wV v8 false (A6 A0 .len [22] [v9] h9) h9).bind fun va ha=>(wV v8 false (A1 A0 79 a9 1 ha) ha).bind fun vb hb=>(wV v8 false (A3 A0 3 vb hb) hb).bind fun vc hc=>(wV v8 false (A5 A0 .mul 3 (.int .i64 4) vc hc) hc).bind fun vd hd=>(wV v8 false (Res.ok v7 hd) hd).bind fun ve he=>(wV v8 false (A5 A0 .mul 3 vd ve he) he).bind fun vf hf=>(wV v8 false (A1 A0 79 a9 1 hf) hf).bind fun vg hg=>(wV v8 false (A3 A0 3 vg hg) hg).bind fun vh hh=>(wV v8 false (A5 A0 .mul 3 (.int .i64 4) vh hh) hh).bind fun vi hi=>(wV v8 false (call F.A8r [va,vf,vi] hi) hi).bind fun vj hj=>(condV (some v8) (Res.ok (.bool true) hj) (Res.ok vj hj)).bind fun vk hk=>(A5 A0 .add 3 a12 (.int .i64 1) hk).bind fun vl hl=>
 .ok (.normal,[(4,a4),(6,a6),(9,a9),(10,a10),(11,vk),(12,vl)]) hl)
 (
 .ok ((.exit 0),[(4,a4),(6,a6),(9,a9),(10,a10),(11,a11),(12,a12),(57,v4)]) h4) :=
 (E2 _ _).trans (by kernel_rfl)
theorem E0y(a4 a6 a9 a10 a11 a12 a57:Value)(h:A2):E24 k call (.exit 0) [(4,a4),(6,a6),(9,a9),(10,a10),(11,a11),(12,a12),(57,a57)] h =
 (A3 A0 79 a9 h).bind fun v0 h0=>(B4 A0 79 a4 v0 h0).bind fun _v1 h1=>(A3 A0 79 a4 h1).bind fun v2 h2=>
 .ok (.tuple #[v2,a11]) h2:=by kernel_rfl
def B4v:Env→A2→Res (D0 × Env):=M4 (C k) call F.ζ0 [1,1,1,0,0,0]
def D54:G0 Value:=D7 0 (E4 (B3 (C k) call F.ζ0 [1,1,1,1]) (G2 A0 (G3 A0 F.ζ0)))
def D59(a1 a2 a4 a7 a10 a11 a12 a14:Value)(h:A2):Res (D0 × Env) :=
 E4 (B3 (C k) call F.ζ0 [1,1,1,0,0,0,1,0,1,1,1]) (D7 1 (M2 (Q2 (C k) F.ζ0 [1,1,1,0,0,0]))) .normal [(1,a1),(2,a2),(4,a4),(7,a7),(10,a10),(11,a11),(12,a12),(14,a14)] h
def D5a(a1 a2 a4 a7 a10 a11 a12 a14 a15 a16 a18 a19 a94:Value)(h:A2):Res (D0 × Env) :=
 E4 (B3 (C k) call F.ζ0 [1,1,1,0,0,0,1,0,1,1,1]) (D7 1 (M2 (Q2 (C k) F.ζ0 [1,1,1,0,0,0]))) .normal [(1,a1),(2,a2),(4,a4),(7,a7),(10,a10),(11,a11),(12,a12),(14,a14),(15,a15),(16,a16),(18,a18),(19,a19),(94,a94)] h
def D5b(a1 a2 a4 a7 a10 a11 a12 a14 a54:Value)(h:A2):Res (D0 × Env) :=
 E4 (B3 (C k) call F.ζ0 [1,1,1,0,0,0,1,0,1,1,1]) (D7 1 (M2 (Q2 (C k) F.ζ0 [1,1,1,0,0,0]))) .normal [(1,a1),(2,a2),(4,a4),(7,a7),(10,a10),(11,a11),(12,a12),(14,a14),(54,a54)] h
def B8k(a1 a2 a4 a7 a10 a11 a12 a14:Value)(h:A2):Res (D0 × Env) :=
 E4 (B3 (C k) call F.ζ0 [1,1,1,0,0,0,1,0,1,1,1,1]) (D7 1 (M2 (Q2 (C k) F.ζ0 [1,1,1,0,0,0]))) .normal [(1,a1),(2,a2),(4,a4),(7,a7),(10,a10),(11,a11),(12,a12),(14,a14)] h
def B8l(a1 a2 a4 a7 a10 a11 a12 a14 a119:Value)(h:A2):Res (D0 × Env) :=
 E4 (B3 (C k) call F.ζ0 [1,1,1,0,0,0,1,0,1,1,1,1]) (D7 1 (M2 (Q2 (C k) F.ζ0 [1,1,1,0,0,0]))) .normal [(1,a1),(2,a2),(4,a4),(7,a7),(10,a10),(11,a11),(12,a12),(14,a14),(119,a119)] h
def D5c(a1 a2 a4 a7 a10 a11 a12:Value)(h:A2):Res (D0 × Env) :=
 E4 (B3 (C k) call F.ζ0 [1,1,1,0,0,0,1,0,1,1,1,1,1]) (D7 1 (M2 (Q2 (C k) F.ζ0 [1,1,1,0,0,0]))) .normal [(1,a1),(2,a2),(4,a4),(7,a7),(10,a10),(11,a11),(12,a12)] h
def D5d(a1 a2 a4 a7 a10 a11 a12 a147:Value)(h:A2):Res (D0 × Env) :=
 E4 (B3 (C k) call F.ζ0 [1,1,1,0,0,0,1,0,1,1,1,1,1]) (D7 1 (M2 (Q2 (C k) F.ζ0 [1,1,1,0,0,0]))) .normal [(1,a1),(2,a2),(4,a4),(7,a7),(10,a10),(11,a11),(12,a12),(147,a147)] h
def ζ0(a0 a1 a2 a3:Value)(h:A2):Res Value :=
 (K9 a0 h).bind fun v0 h0=>(K9 a3 h0).bind fun v1 h1=>(A6 A0 .len [61] [a1] h1).bind fun v2 h2=>(call F.B4x [v2] h2).bind fun v3 h3=>(D1 A0 171 h3).bind fun v4 h4=>(B4 A0 171 v4 v3 h4).bind fun _v5 h5=>(loopN (B4v k call) B8 [(1,a1),(2,a2),(4,v0),(7,v1),(10,v4),(11,(.int .i64 (-1)))] h5).bind fun r13 h6=>
 D54 k call r13.1 r13.2 h6
theorem G23{β:Type}(f:Env→A2→G0 β→Res β)(K:G0 β)(e:Env)(h:A2):E4 f K .normal e h=f e h K:=rfl
theorem G25{β:Type}(f:Env→A2→G0 β→Res β)(K:G0 β)(i:Nat)(e:Env)(h:A2):E4 f K (.exit i) e h=K (.exit i) e h:=rfl
theorem G24{β:Type}(f:Env→A2→G0 β→Res β)(K:G0 β)(e:Env)(h:A2):E4 f K .ret e h=K .ret e h:=rfl
theorem G1y{β:Type}(j:Nat)(K:G0 β)(e:Env)(h:A2):D7 j K .normal e h=K .normal e h:=rfl
theorem G20{β:Type}(j:Nat)(K:G0 β)(i:Nat)(e:Env)(h:A2):D7 j K (.exit i) e h=bif i == j then K .normal e h else K (.exit i) e h:=rfl
theorem G1z{β:Type}(j:Nat)(K:G0 β)(e:Env)(h:A2):D7 j K .ret e h=K .ret e h:=rfl
theorem G22(ks:List Nat)(i:Nat)(e:Env)(h:A2):M2 ks (.exit i) e h=.ok (.exit i,e) h:=rfl
theorem G21(ks:List Nat)(e:Env)(h:A2):M2 ks .ret e h=.ok (.ret,e) h:=rfl
theorem G26{β:Type}(e:Env)(h:A2)(K:G0 β):B3 (C k) call F.ζ0 [1,1,1,0,0,0] e h K=B3 (C k) call F.ζ0 [1,1,1,0,0,0,0] e h (E4 (B3 (C k) call F.ζ0 [1,1,1,0,0,0,1]) K):=by kernel_rfl
theorem G27{β:Type}(e:Env)(h:A2)(K:G0 β):B3 (C k) call F.ζ0 [1,1,1,0,0,0,0] e h K=B3 (C k) call F.ζ0 [1,1,1,0,0,0,0,0] e h (E4 (B3 (C k) call F.ζ0 [1,1,1,0,0,0,0,1]) K):=by kernel_rfl
theorem G28{β:Type}(a1 a2 a4 a7 a10 a11:Value)(h:A2)(K:G0 β):B3 (C k) call F.ζ0 [1,1,1,0,0,0,0,0] [(1,a1),(2,a2),(4,a4),(7,a7),(10,a10),(11,a11)] h K =
 (  (A1 A0 171 a10 5 h).bind fun v0 h0=>(A3 A0 4 v0 h0).bind fun v1 h1=>(unR .not v1 h1).bind fun v2 h2=>
 K .normal [(1,a1),(2,a2),(4,a4),(7,a7),(10,a10),(11,a11),(26,v2)] h2):=by kernel_rfl
theorem G29{β:Type}(a1 a2 a4 a7 a10 a11 v0:Value)(h0:A2)(K:G0 β):B3 (C k) call F.ζ0 [1,1,1,0,0,0,0,1] [(1,a1),(2,a2),(4,a4),(7,a7),(10,a10),(11,a11),(26,v0)] h0 K =
 (condV (some v0) (B3 (C k) call F.ζ0 [1,1,1,0,0,0,0,1,0] [(1,a1),(2,a2),(4,a4),(7,a7),(10,a10),(11,a11),(26,v0)] h0 K) (B3 (C k) call F.ζ0 [1,1,1,0,0,0,0,1,1] [(1,a1),(2,a2),(4,a4),(7,a7),(10,a10),(11,a11),(26,v0)] h0 K)):=by kernel_rfl
theorem G2a{β:Type}(e:Env)(h:A2)(K:G0 β):B3 (C k) call F.ζ0 [1,1,1,0,0,0,0,1,0] e h K=K .normal e h:=by kernel_rfl
theorem G2b{β:Type}(e:Env)(h:A2)(K:G0 β):B3 (C k) call F.ζ0 [1,1,1,0,0,0,1] e h K=B3 (C k) call F.ζ0 [1,1,1,0,0,0,1,0] e h (D7 1 K):=by kernel_rfl
theorem G2c{β:Type}(e:Env)(h:A2)(K:G0 β):B3 (C k) call F.ζ0 [1,1,1,0,0,0,1,0] e h K=B3 (C k) call F.ζ0 [1,1,1,0,0,0,1,0,0] e h (E4 (B3 (C k) call F.ζ0 [1,1,1,0,0,0,1,0,1]) K):=by kernel_rfl
theorem G2d{β:Type}(a1 a2 a4 a7 a10 a11 v0:Value)(h0:A2)(K:G0 β):B3 (C k) call F.ζ0 [1,1,1,0,0,0,1,0,0] [(1,a1),(2,a2),(4,a4),(7,a7),(10,a10),(11,a11),(26,v0)] h0 K =
 (    (A1 A0 79 a4 0 h0).bind fun v1 h1=>(A3 A0 44 v1 h1).bind fun v2 h2=>(A3 A0 171 a10 h2).bind fun v3 h3=>(call F.A6x [v2,v3,a1] h3).bind fun v4 h4=>(B5 v4 0 h4).bind fun v5 h5=>(B5 v4 1 h5).bind fun v6 h6=>(D1 A0 129 h6).bind fun v7 h7=>(B4 A0 129 v7 v5 h7).bind fun _v8 h8=>
 K .normal [(1,a1),(2,a2),(4,a4),(7,a7),(10,a10),(11,a11),(12,v7)] h8):=by kernel_rfl
theorem G2e{β:Type}(e:Env)(h:A2)(K:G0 β):B3 (C k) call F.ζ0 [1,1,1,0,0,0,1,0,1] e h K=B3 (C k) call F.ζ0 [1,1,1,0,0,0,1,0,1,0] e h (E4 (B3 (C k) call F.ζ0 [1,1,1,0,0,0,1,0,1,1]) K):=by kernel_rfl
theorem G2f{β:Type}(a1 a2 a4 a7 a10 a11 v0:Value)(h0:A2)(K:G0 β):B3 (C k) call F.ζ0 [1,1,1,0,0,0,1,0,1,0] [(1,a1),(2,a2),(4,a4),(7,a7),(10,a10),(11,a11),(12,v0)] h0 K =
 (    (A1 A0 171 a10 1 h0).bind fun v1 h1=>(A3 A0 3 v1 h1).bind fun v2 h2=>(A6 A0 .len [61] [a1] h2).bind fun v3 h3=>(A5 A0 .lss 3 v2 v3 h3).bind fun v4 h4=>
 K .normal [(1,a1),(2,a2),(4,a4),(7,a7),(10,a10),(11,a11),(12,v0),(14,v4)] h4):=by kernel_rfl
theorem G2g{β:Type}(e:Env)(h:A2)(K:G0 β):B3 (C k) call F.ζ0 [1,1,1,0,0,0,1,0,1,1] e h K=B3 (C k) call F.ζ0 [1,1,1,0,0,0,1,0,1,1,0] e h (E4 (B3 (C k) call F.ζ0 [1,1,1,0,0,0,1,0,1,1,1]) K):=by kernel_rfl
theorem G2h{β:Type}(e:Env)(h:A2)(K:G0 β):B3 (C k) call F.ζ0 [1,1,1,0,0,0,1,0,1,1,0] e h K=B3 (C k) call F.ζ0 [1,1,1,0,0,0,1,0,1,1,0,0] e h (E4 (B3 (C k) call F.ζ0 [1,1,1,0,0,0,1,0,1,1,0,1]) K):=by kernel_rfl
theorem G2i{β:Type}(a1 a2 a4 a7 a10 a11 v0 v1:Value)(h0:A2)(K:G0 β):B3 (C k) call F.ζ0 [1,1,1,0,0,0,1,0,1,1,0,0] [(1,a1),(2,a2),(4,a4),(7,a7),(10,a10),(11,a11),(12,v0),(14,v1)] h0 K =
 (    (A1 A0 129 v0 2 h0).bind fun v2 h1=>(A3 A0 3 v2 h1).bind fun v3 h2=>(A5 A0 .neq 3 v3 (.int .i64 65535) h2).bind fun v4 h3=>(wV v4 true (Res.ok v1 h3) h3).bind fun v5 h4=>(condV (some v4) (Res.ok v5 h4) (Res.ok (.bool false) h4)).bind fun v6 h5=>(wV v6 true (Res.ok a11 h5) h5).bind fun v7 h6=>(wV v6 true (A5 A0 .geq 3 v7 (.int .i64 0) h6) h6).bind fun v8 h7=>(condV (some v6) (Res.ok v8 h7) (Res.ok (.bool false) h7)).bind fun v9 h8=>(wV v9 true (A1 A0 79 a4 1 h8) h8).bind fun va h9=>(wV v9 true (A3 A0 3 va h9) h9).bind fun vb ha=>(wV v9 true (A5 A0 .eql 3 vb (.int .i64 1) ha) ha).bind fun vc hb=>(condV (some v9) (Res.ok vc hb) (Res.ok (.bool false) hb)).bind fun vd hc=>
 K .normal [(1,a1),(2,a2),(4,a4),(7,a7),(10,a10),(11,a11),(12,v0),(14,v1),(54,vd)] hc):=by kernel_rfl
theorem G2j{β:Type}(a1 a2 a4 a7 a10 a11 v0 v1 v2:Value)(h0:A2)(K:G0 β):B3 (C k) call F.ζ0 [1,1,1,0,0,0,1,0,1,1,0,1] [(1,a1),(2,a2),(4,a4),(7,a7),(10,a10),(11,a11),(12,v0),(14,v1),(54,v2)] h0 K =
 (condV (some v2) (B3 (C k) call F.ζ0 [1,1,1,0,0,0,1,0,1,1,0,1,0] [(1,a1),(2,a2),(4,a4),(7,a7),(10,a10),(11,a11),(12,v0),(14,v1),(54,v2)] h0 K) (B3 (C k) call F.ζ0 [1,1,1,0,0,0,1,0,1,1,0,1,1] [(1,a1),(2,a2),(4,a4),(7,a7),(10,a10),(11,a11),(12,v0),(14,v1),(54,v2)] h0 K)):=by kernel_rfl
theorem G2k{β:Type}(e:Env)(h:A2)(K:G0 β):B3 (C k) call F.ζ0 [1,1,1,0,0,0,1,0,1,1,0,1,0] e h K=B3 (C k) call F.ζ0 [1,1,1,0,0,0,1,0,1,1,0,1,0,0] e h (E4 (B3 (C k) call F.ζ0 [1,1,1,0,0,0,1,0,1,1,0,1,0,1]) K):=by kernel_rfl
theorem G2l{β:Type}(a1 a2 a4 a7 a10 a11 v0 v1 v2:Value)(h0:A2)(K:G0 β):B3 (C k) call F.ζ0 [1,1,1,0,0,0,1,0,1,1,0,1,0,0] [(1,a1),(2,a2),(4,a4),(7,a7),(10,a10),(11,a11),(12,v0),(14,v1),(54,v2)] h0 K =
 (      (A3 A0 87 a7 h0).bindN fun v3 h1=>(A9 A0 61 a1 a11 h1).bindN fun v4 h2=>(A1 A0 150 v4 0 h2).bindN fun v5 h3=>(A3 A0 3 v5 h3).bindN fun v6 h4=>(A1 A0 79 a4 2 h4).bindN fun v7 h5=>(A3 A0 22 v7 h5).bindN fun v8 h6=>(A1 A0 129 v0 2 h6).bindN fun v9 h7=>(A3 A0 3 v9 h7).bindN fun va h8=>(A5 A0 .mul 3 (.int .i64 4) va h8).bindN fun vb h9=>(call F.ζ2 [v8,vb,(.int .i64 2)] h9).bindT (fun p89 ha=>.panic p89 ha) fun vc hb=>(call F.A6z [v3,v6,vc] hb).bindT (fun p93 hc=>E6 ((A4 (A3 A0 87 a7 hb) v3 && true) && ((A4 (A3 A0 3 v5 hb) v6 && true) && true)) (.panic p93 hc)) fun vd hd=>(B5 vd 0 hd).bindN fun ve he=>(B5 vd 1 he).bindN fun vf hf=>(B5 vd 2 hf).bindN fun vg hg=>
 E6 ((A4 (A3 A0 87 a7 hb) v3 && true) && ((A4 (A3 A0 3 v5 hb) v6 && true) && true)) (
 K .normal [(1,a1),(2,a2),(4,a4),(7,a7),(10,a10),(11,a11),(12,v0),(14,v1),(15,ve),(16,vf),(17,vg)] hg)):=by kernel_rfl
theorem G2m{β:Type}(e:Env)(h:A2)(K:G0 β):B3 (C k) call F.ζ0 [1,1,1,0,0,0,1,0,1,1,0,1,0,1] e h K=B3 (C k) call F.ζ0 [1,1,1,0,0,0,1,0,1,1,0,1,0,1,0] e h (E4 (B3 (C k) call F.ζ0 [1,1,1,0,0,0,1,0,1,1,0,1,0,1,1]) K):=by kernel_rfl
theorem G2n{β:Type}(a1 a2 a4 a7 a10 a11 v0 v1 v2 v3 v4:Value)(h0:A2)(K:G0 β):B3 (C k) call F.ζ0 [1,1,1,0,0,0,1,0,1,1,0,1,0,1,0] [(1,a1),(2,a2),(4,a4),(7,a7),(10,a10),(11,a11),(12,v0),(14,v1),(15,v2),(16,v3),(17,v4)] h0 K =
 (      (A3 A0 87 a7 h0).bindN fun v5 h1=>(A1 A0 171 a10 1 h1).bindN fun v6 h2=>(A3 A0 3 v6 h2).bindN fun v7 h3=>(A9 A0 61 a1 v7 h3).bindN fun v8 h4=>(A1 A0 150 v8 0 h4).bindN fun v9 h5=>(A3 A0 3 v9 h5).bindN fun va h6=>(A1 A0 79 a4 2 h6).bindN fun vb h7=>(A3 A0 22 vb h7).bindN fun vc h8=>(A1 A0 129 v0 2 h8).bindN fun vd h9=>(A3 A0 3 vd h9).bindN fun ve ha=>(A5 A0 .mul 3 (.int .i64 4) ve ha).bindN fun vf hb=>(A5 A0 .add 3 vf (.int .i64 2) hb).bindN fun vg hc=>(call F.ζ2 [vc,vg,(.int .i64 2)] hc).bindT (fun p127 hd=>.panic p127 hd) fun vh he=>(call F.A6z [v5,va,vh] he).bindT (fun p131 hf=>E6 ((A4 (A3 A0 87 a7 he) v5 && true) && ((A4 (A3 A0 3 v6 he) v7 && true) && ((A4 (A3 A0 3 v9 he) va && true) && true))) (.panic p131 hf)) fun vi hg=>(B5 vi 0 hg).bindN fun vj hh=>(B5 vi 1 hh).bindN fun vk hi=>(B5 vi 2 hi).bindN fun vl hj=>
 E6 ((A4 (A3 A0 87 a7 he) v5 && true) && ((A4 (A3 A0 3 v6 he) v7 && true) && ((A4 (A3 A0 3 v9 he) va && true) && true))) (
 K .normal [(1,a1),(2,a2),(4,a4),(7,a7),(10,a10),(11,a11),(12,v0),(14,v1),(15,v2),(16,v3),(17,v4),(18,vj),(19,vk),(20,vl)] hj)):=by kernel_rfl
theorem G2o{β:Type}(e:Env)(h:A2)(K:G0 β):B3 (C k) call F.ζ0 [1,1,1,0,0,0,1,0,1,1,0,1,0,1,1] e h K=B3 (C k) call F.ζ0 [1,1,1,0,0,0,1,0,1,1,0,1,0,1,1,0] e h (E4 (B3 (C k) call F.ζ0 [1,1,1,0,0,0,1,0,1,1,0,1,0,1,1,1]) K):=by kernel_rfl
theorem G2p{β:Type}(a1 a2 a4 a7 a10 a11 v0 v1 v2 v3 v4 v5 v6 v7:Value)(h0:A2)(K:G0 β):B3 (C k) call F.ζ0 [1,1,1,0,0,0,1,0,1,1,0,1,0,1,1,0] [(1,a1),(2,a2),(4,a4),(7,a7),(10,a10),(11,a11),(12,v0),(14,v1),(15,v2),(16,v3),(17,v4),(18,v5),(19,v6),(20,v7)] h0 K =
 (      (wV v4 true (Res.ok v7 h0) h0).bind fun v8 h1=>(condV (some v4) (Res.ok v8 h1) (Res.ok (.bool false) h1)).bind fun v9 h2=>
 K .normal [(1,a1),(2,a2),(4,a4),(7,a7),(10,a10),(11,a11),(12,v0),(14,v1),(15,v2),(16,v3),(18,v5),(19,v6),(94,v9)] h2):=by kernel_rfl
theorem G2q{β:Type}(a1 a2 a4 a7 a10 a11 v0 v1 v2 v3 v4 v5 v6:Value)(h0:A2)(K:G0 β):B3 (C k) call F.ζ0 [1,1,1,0,0,0,1,0,1,1,0,1,0,1,1,1] [(1,a1),(2,a2),(4,a4),(7,a7),(10,a10),(11,a11),(12,v0),(14,v1),(15,v2),(16,v3),(18,v4),(19,v5),(94,v6)] h0 K =
 (condV (some v6) (B3 (C k) call F.ζ0 [1,1,1,0,0,0,1,0,1,1,0,1,0,1,1,1,0] [(1,a1),(2,a2),(4,a4),(7,a7),(10,a10),(11,a11),(12,v0),(14,v1),(15,v2),(16,v3),(18,v4),(19,v5),(94,v6)] h0 K) (B3 (C k) call F.ζ0 [1,1,1,0,0,0,1,0,1,1,0,1,0,1,1,1,1] [(1,a1),(2,a2),(4,a4),(7,a7),(10,a10),(11,a11),(12,v0),(14,v1),(15,v2),(16,v3),(18,v4),(19,v5),(94,v6)] h0 K)):=by kernel_rfl
theorem G2r{β:Type}(a1 a2 a4 a7 a10 a11 v0 v1 v2 v3 v4 v5 v6:Value)(h0:A2)(K:G0 β):B3 (C k) call F.ζ0 [1,1,1,0,0,0,1,0,1,1,0,1,0,1,1,1,0] [(1,a1),(2,a2),(4,a4),(7,a7),(10,a10),(11,a11),(12,v0),(14,v1),(15,v2),(16,v3),(18,v4),(19,v5),(94,v6)] h0 K =
 (        (A1 A0 171 a10 1 h0).bind fun v7 h1=>(A3 A0 3 v7 h1).bind fun v8 h2=>(A5 A0 .sub 3 v2 v4 h2).bind fun v9 h3=>(A5 A0 .sub 3 v3 v5 h3).bind fun va h4=>(call F.ζp [a2,v8,(.int .i64 0),v9,va] h4).bind fun vb h5=>
 K .normal [(1,a1),(2,vb),(4,a4),(7,a7),(10,a10),(11,a11),(12,v0),(14,v1)] h5):=by kernel_rfl
theorem G2s{β:Type}(e:Env)(h:A2)(K:G0 β):B3 (C k) call F.ζ0 [1,1,1,0,0,0,1,0,1,1,0,1,0,1,1,1,1] e h K=K .normal e h:=by kernel_rfl
theorem G2t{β:Type}(e:Env)(h:A2)(K:G0 β):B3 (C k) call F.ζ0 [1,1,1,0,0,0,1,0,1,1,0,1,1] e h K=K .normal e h:=by kernel_rfl
theorem G2u{β:Type}(e:Env)(h:A2)(K:G0 β):B3 (C k) call F.ζ0 [1,1,1,0,0,0,0,1,1] e h K=K (.exit 0) e h:=by kernel_rfl
theorem G3f(a0 a1 a2 a3:Value)(h:A2):bodyK (C k) call F.ζ0 [a0,a1,a2,a3] h=ζ0 k call a0 a1 a2 a3 h:=by kernel_rfl
theorem G41(k:Nat)(a0 a1 a2 a3:Value)(h:A2):R (T k) F.ζ0 [a0,a1,a2,a3] h=nrm .fz h (ζ0 k (R (T k)) a0 a1 a2 a3 h) :=
 (B5s (t:=T k) (A1g k) (by kernel_rfl) (by kernel_rfl) _ _).trans (congrArg (nrm .fz h) (G3f k (R (T k)) a0 a1 a2 a3 h))
theorem B09(a1 a2 a4 a7 a10 a11:Value)(h:A2):B4v k call [(1,a1),(2,a2),(4,a4),(7,a7),(10,a10),(11,a11)] h =
 (A1 A0 171 a10 5 h).bind fun v0 h0=>(A3 A0 4 v0 h0).bind fun v1 h1=>(unR .not v1 h1).bind fun v2 h2=>
 condV (some v2) (
 (A1 A0 79 a4 0 h2).bind fun v3 h3=>(A3 A0 44 v3 h3).bind fun v4 h4=>(A3 A0 171 a10 h4).bind fun v5 h5=>(call F.A6x [v4,v5,a1] h5).bind fun v6 h6=>(B5 v6 0 h6).bind fun v7 h7=>(B5 v6 1 h7).bind fun v8 h8=>(D1 A0 129 h8).bind fun v9 h9=>(B4 A0 129 v9 v7 h9).bind fun _va ha=>(A1 A0 171 a10 1 ha).bind fun vb hb=>(A3 A0 3 vb hb).bind fun vc hc=>(A6 A0 .len [61] [a1] hc).bind fun vd hd=>(A5 A0 .lss 3 vc vd hd).bind fun ve he=>(A1 A0 129 v9 2 he).bind fun vf hf=>(A3 A0 3 vf hf).bind fun vg hg=>(A5 A0 .neq 3 vg (.int .i64 65535) hg).bind fun vh hh=>(wV vh true (Res.ok ve hh) hh).bind fun vi hi=>(condV (some vh) (Res.ok vi hi) (Res.ok (.bool false) hi)).bind fun vj hj=>(wV vj true (Res.ok a11 hj) hj).bind fun vk hk=>(wV vj true (A5 A0 .geq 3 vk (.int .i64 0) hk) hk).bind fun vl hl=>(condV (some vj) (Res.ok vl hl) (Res.ok (.bool false) hl)).bind fun vm hm=>(wV vm true (A1 A0 79 a4 1 hm) hm).bind fun vn hn=>(wV vm true (A3 A0 3 vn hn) hn).bind fun vo ho=>(wV vm true (A5 A0 .eql 3 vo (.int .i64 1) ho) ho).bind fun vp hp=>(condV (some vm) (Res.ok vp hp) (Res.ok (.bool false) hp)).bind fun vq hq=>
 condV (some vq) (
 (A3 A0 87 a7 hq).bindN fun vr hr=>(A9 A0 61 a1 a11 hr).bindN fun vs hs=>(A1 A0 150 vs 0 hs).bindN fun vt ht=>(A3 A0 3 vt ht).bindN fun vu hu=>(A1 A0 79 a4 2 hu).bindN fun vv hv=>(A3 A0 22 vv hv).bindN fun vw hw=>(A1 A0 129 v9 2 hw).bindN fun vx hx=>(A3 A0 3 vx hx).bindN fun vy hy=>(A5 A0 .mul 3 (.int .i64 4) vy hy).bindN fun vz hz=>(call F.ζ2 [vw,vz,(.int .i64 2)] hz).bindT (fun p89 h10=>.panic p89 h10) fun v10 h11=>(call F.A6z [vr,vu,v10] h11).bindT (fun p93 h12=>E6 ((A4 (A3 A0 87 a7 h11) vr && true) && ((A4 (A3 A0 3 vt h11) vu && true) && true)) (.panic p93 h12)) fun v11 h13=>(B5 v11 0 h13).bindN fun v12 h14=>(B5 v11 1 h14).bindN fun v13 h15=>(B5 v11 2 h15).bindN fun v14 h16=>
 E6 ((A4 (A3 A0 87 a7 h11) vr && true) && ((A4 (A3 A0 3 vt h11) vu && true) && true)) (
 (A3 A0 87 a7 h16).bindN fun v15 h17=>(A1 A0 171 a10 1 h17).bindN fun v16 h18=>(A3 A0 3 v16 h18).bindN fun v17 h19=>(A9 A0 61 a1 v17 h19).bindN fun v18 h1a=>(A1 A0 150 v18 0 h1a).bindN fun v19 h1b=>(A3 A0 3 v19 h1b).bindN fun v1a h1c=>(A1 A0 79 a4 2 h1c).bindN fun v1b h1d=>(A3 A0 22 v1b h1d).bindN fun v1c h1e=>(A1 A0 129 v9 2 h1e).bindN fun v1d h1f=>(A3 A0 3 v1d h1f).bindN fun v1e h1g=>(A5 A0 .mul 3 (.int .i64 4) v1e h1g).bindN fun v1f h1h=>(A5 A0 .add 3 v1f (.int .i64 2) h1h).bindN fun v1g h1i=>(call F.ζ2 [v1c,v1g,(.int .i64 2)] h1i).bindT (fun p127 h1j=>.panic p127 h1j) fun v1h h1k=>(call F.A6z [v15,v1a,v1h] h1k).bindT (fun p131 h1l=>E6 ((A4 (A3 A0 87 a7 h1k) v15 && true) && ((A4 (A3 A0 3 v16 h1k) v17 && true) && ((A4 (A3 A0 3 v19 h1k) v1a && true) && true))) (.panic p131 h1l)) fun v1i h1m=>(B5 v1i 0 h1m).bindN fun v1j h1n=>(B5 v1i 1 h1n).bindN fun v1k h1o=>(B5 v1i 2 h1o).bindN fun v1l h1p=>
 E6 ((A4 (A3 A0 87 a7 h1k) v15 && true) && ((A4 (A3 A0 3 v16 h1k) v17 && true) && ((A4 (A3 A0 3 v19 h1k) v1a && true) && true))) (
 (wV v14 true (Res.ok v1l h1p) h1p).bind fun v1m h1q=>(condV (some v14) (Res.ok v1m h1q) (Res.ok (.bool false) h1q)).bind fun v1n h1r=>
 condV (some v1n) (
 (A1 A0 171 a10 1 h1r).bind fun v1o h1s=>(A3 A0 3 v1o h1s).bind fun v1p h1t=>(A5 A0 .sub 3 v12 v1j h1t).bind fun v1q h1u=>(A5 A0 .sub 3 v13 v1k h1u).bind fun v1r h1v=>(call F.ζp [a2,v1p,(.int .i64 0),v1q,v1r] h1v).bind fun v1s h1w=>
 D59 k call a1 v1s a4 a7 a10 a11 v9 ve h1w)
 (
 D5a k call a1 a2 a4 a7 a10 a11 v9 ve v12 v13 v1j v1k v1n h1r))))
 (
 D5b k call a1 a2 a4 a7 a10 a11 v9 ve vq hq))
 (
 .ok ((.exit 0),[(1,a1),(2,a2),(4,a4),(7,a7),(10,a10),(11,a11),(26,v2)]) h2) :=
 (E2 _ _).trans (by simp only[D5b,D5a,D59,D54,G26,G27,G28,G29,G2a,G2b,G2c,G2d,G2e,G2f,G2g,G2h,G2i,G2j,G2k,G2l,G2m,G2n,G2o,G2p,G2q,G2r,G2s,G2t,G2u,ζ0,G23,G25,G24,G1y,G20,G1z,G22,G21,Nat.reduceBEq,cond_true,cond_false])
theorem G1b(a1 a2 a4 a7 a10 a11 a12 a14:Value)(h:A2):D59 k call a1 a2 a4 a7 a10 a11 a12 a14 h =
 (A1 A0 129 a12 2 h).bind fun v0 h0=>(A3 A0 3 v0 h0).bind fun v1 h1=>(A5 A0 .neq 3 v1 (.int .i64 65535) h1).bind fun v2 h2=>(wV v2 true (Res.ok a14 h2) h2).bind fun v3 h3=>(condV (some v2) (Res.ok v3 h3) (Res.ok (.bool false) h3)).bind fun v4 h4=>(wV v4 true (Res.ok a11 h4) h4).bind fun v5 h5=>(wV v4 true (A5 A0 .geq 3 v5 (.int .i64 0) h5) h5).bind fun v6 h6=>(condV (some v4) (Res.ok v6 h6) (Res.ok (.bool false) h6)).bind fun v7 h7=>(wV v7 true (A1 A0 79 a4 1 h7) h7).bind fun v8 h8=>(wV v7 true (A3 A0 3 v8 h8) h8).bind fun v9 h9=>(wV v7 true (A5 A0 .eql 3 v9 (.int .i64 2) h9) h9).bind fun va ha=>(condV (some v7) (Res.ok va ha) (Res.ok (.bool false) ha)).bind fun vb hb=>
 condV (some vb) (
 (A1 A0 171 a10 1 hb).bindN fun vc hc=>(A3 A0 3 vc hc).bindN fun vd hd=>(A3 A0 79 a4 hd).bindN fun ve he=>(A1 A0 129 a12 2 he).bindN fun vf hf=>(A3 A0 3 vf hf).bindN fun vg hg=>(call F.ζa [ve,vg,(.int .i64 0)] hg).bindT (fun p189 hh=>(A3 A0 79 a4 hg).bindN fun vh hi=>(A1 A0 129 a12 2 hi).bindN fun vi hj=>(A3 A0 3 vi hj).bindN fun vj hk=>(A3 A0 79 a4 hk).bindN fun vk hl=>(A1 A0 129 a12 2 hl).bindN fun vl hm=>(A3 A0 3 vl hm).bindN fun vm hn=>(A3 A0 79 a4 hn).bindN fun vn ho=>(A1 A0 129 a12 2 ho).bindN fun vo hp=>(A3 A0 3 vo hp).bindN fun vp hq=>E6 ((A4 (A3 A0 79 a4 hb) vh && true) && ((A4 (A3 A0 3 vi hb) vj && true) && ((A4 (A3 A0 79 a4 hb) vk && true) && ((A4 (A3 A0 3 vl hb) vm && true) && ((A4 (A3 A0 79 a4 hb) vn && true) && ((A4 (A3 A0 3 vo hb) vp && true) && true)))))) (.panic p189 hh)) fun vq hr=>(A3 A0 79 a4 hr).bindN fun vr hs=>(A1 A0 129 a12 2 hs).bindN fun vs ht=>(A3 A0 3 vs ht).bindN fun vt hu=>(call F.ζa [vr,vt,(.int .i64 2)] hu).bindT (fun p217 hv=>(A3 A0 79 a4 hu).bindN fun vu hw=>(A1 A0 129 a12 2 hw).bindN fun vv hx=>(A3 A0 3 vv hx).bindN fun vw hy=>(A3 A0 79 a4 hy).bindN fun vx hz=>(A1 A0 129 a12 2 hz).bindN fun vy h10=>(A3 A0 3 vy h10).bindN fun vz h11=>E6 ((A4 (A3 A0 3 vc hr) vd && true) && ((A4 (A3 A0 79 a4 hb) vr && true) && ((A4 (A3 A0 3 vs hb) vt && true) && ((A4 (A3 A0 79 a4 hb) vu && (A4 (A3 A0 79 a4 hr) vu && true)) && ((A4 (A3 A0 3 vv hb) vw && (A4 (A3 A0 3 vv hr) vw && true)) && ((A4 (A3 A0 79 a4 hb) vx && (A4 (A3 A0 79 a4 hr) vx && true)) && ((A4 (A3 A0 3 vy hb) vz && (A4 (A3 A0 3 vy hr) vz && true)) && true))))))) (.panic p217 hv)) fun v10 h12=>(A5 A0 .sub 3 vq v10 h12).bindN fun v11 h13=>(A3 A0 79 a4 h13).bindN fun v12 h14=>(A1 A0 129 a12 2 h14).bindN fun v13 h15=>(A3 A0 3 v13 h15).bindN fun v14 h16=>(call F.ζa [v12,v14,(.int .i64 1)] h16).bindT (fun p241 h17=>(A3 A0 79 a4 h16).bindN fun v15 h18=>(A1 A0 129 a12 2 h18).bindN fun v16 h19=>(A3 A0 3 v16 h19).bindN fun v17 h1a=>E6 ((A4 (A3 A0 3 vc hr) vd && (A4 (A3 A0 3 vc h12) vd && true)) && ((A4 (A3 A0 79 a4 hb) vr && true) && ((A4 (A3 A0 3 vs hb) vt && true) && ((A4 (A3 A0 79 a4 hb) v12 && (A4 (A3 A0 79 a4 hr) v12 && true)) && ((A4 (A3 A0 3 v13 hb) v14 && (A4 (A3 A0 3 v13 hr) v14 && true)) && ((A4 (A3 A0 79 a4 hb) v15 && (A4 (A3 A0 79 a4 hr) v15 && (A4 (A3 A0 79 a4 h12) v15 && true))) && ((A4 (A3 A0 3 v16 hb) v17 && (A4 (A3 A0 3 v16 hr) v17 && (A4 (A3 A0 3 v16 h12) v17 && true))) && true))))))) (.panic p241 h17)) fun v18 h1b=>(A3 A0 79 a4 h1b).bindN fun v19 h1c=>(A1 A0 129 a12 2 h1c).bindN fun v1a h1d=>(A3 A0 3 v1a h1d).bindN fun v1b h1e=>(call F.ζa [v19,v1b,(.int .i64 3)] h1e).bindT (fun p257 h1f=>E6 ((A4 (A3 A0 3 vc hr) vd && (A4 (A3 A0 3 vc h12) vd && (A4 (A3 A0 3 vc h1b) vd && true))) && ((A4 (A3 A0 79 a4 hb) vr && true) && ((A4 (A3 A0 3 vs hb) vt && true) && ((A4 (A3 A0 79 a4 hb) v12 && (A4 (A3 A0 79 a4 hr) v12 && true)) && ((A4 (A3 A0 3 v13 hb) v14 && (A4 (A3 A0 3 v13 hr) v14 && true)) && ((A4 (A3 A0 79 a4 hb) v19 && (A4 (A3 A0 79 a4 hr) v19 && (A4 (A3 A0 79 a4 h12) v19 && true))) && ((A4 (A3 A0 3 v1a hb) v1b && (A4 (A3 A0 3 v1a hr) v1b && (A4 (A3 A0 3 v1a h12) v1b && true))) && true))))))) (.panic p257 h1f)) fun v1c h1g=>(A5 A0 .sub 3 v18 v1c h1g).bindN fun v1d h1h=>(call F.ζp [a2,vd,(.int .i64 0),v11,v1d] h1h).bindT (fun p263 h1i=>E6 ((A4 (A3 A0 3 vc hr) vd && (A4 (A3 A0 3 vc h12) vd && (A4 (A3 A0 3 vc h1b) vd && (A4 (A3 A0 3 vc h1g) vd && true)))) && ((A4 (A3 A0 79 a4 hb) vr && true) && ((A4 (A3 A0 3 vs hb) vt && true) && ((A4 (A3 A0 79 a4 hb) v12 && (A4 (A3 A0 79 a4 hr) v12 && true)) && ((A4 (A3 A0 3 v13 hb) v14 && (A4 (A3 A0 3 v13 hr) v14 && true)) && ((A4 (A3 A0 79 a4 hb) v19 && (A4 (A3 A0 79 a4 hr) v19 && (A4 (A3 A0 79 a4 h12) v19 && true))) && ((A4 (A3 A0 3 v1a hb) v1b && (A4 (A3 A0 3 v1a hr) v1b && (A4 (A3 A0 3 v1a h12) v1b && true))) && true))))))) (.panic p263 h1i)) fun v1e h1j=>
 E6 ((A4 (A3 A0 3 vc hr) vd && (A4 (A3 A0 3 vc h12) vd && (A4 (A3 A0 3 vc h1b) vd && (A4 (A3 A0 3 vc h1g) vd && true)))) && ((A4 (A3 A0 79 a4 hb) vr && true) && ((A4 (A3 A0 3 vs hb) vt && true) && ((A4 (A3 A0 79 a4 hb) v12 && (A4 (A3 A0 79 a4 hr) v12 && true)) && ((A4 (A3 A0 3 v13 hb) v14 && (A4 (A3 A0 3 v13 hr) v14 && true)) && ((A4 (A3 A0 79 a4 hb) v19 && (A4 (A3 A0 79 a4 hr) v19 && (A4 (A3 A0 79 a4 h12) v19 && true))) && ((A4 (A3 A0 3 v1a hb) v1b && (A4 (A3 A0 3 v1a hr) v1b && (A4 (A3 A0 3 v1a h12) v1b && true))) && true))))))) (
 B8k k call a1 v1e a4 a7 a10 a11 a12 a14 h1j))
 (
 B8l k call a1 a2 a4 a7 a10 a11 a12 a14 vb hb):=by kernel_rfl
theorem E1q(a1 a2 a4 a7 a10 a11 a12 a14 a15 a16 a18 a19 a94:Value)(h:A2):D5a k call a1 a2 a4 a7 a10 a11 a12 a14 a15 a16 a18 a19 a94 h =
 (A1 A0 129 a12 2 h).bind fun v0 h0=>(A3 A0 3 v0 h0).bind fun v1 h1=>(A5 A0 .neq 3 v1 (.int .i64 65535) h1).bind fun v2 h2=>(wV v2 true (Res.ok a14 h2) h2).bind fun v3 h3=>(condV (some v2) (Res.ok v3 h3) (Res.ok (.bool false) h3)).bind fun v4 h4=>(wV v4 true (Res.ok a11 h4) h4).bind fun v5 h5=>(wV v4 true (A5 A0 .geq 3 v5 (.int .i64 0) h5) h5).bind fun v6 h6=>(condV (some v4) (Res.ok v6 h6) (Res.ok (.bool false) h6)).bind fun v7 h7=>(wV v7 true (A1 A0 79 a4 1 h7) h7).bind fun v8 h8=>(wV v7 true (A3 A0 3 v8 h8) h8).bind fun v9 h9=>(wV v7 true (A5 A0 .eql 3 v9 (.int .i64 2) h9) h9).bind fun va ha=>(condV (some v7) (Res.ok va ha) (Res.ok (.bool false) ha)).bind fun vb hb=>
 condV (some vb) (
 (A1 A0 171 a10 1 hb).bindN fun vc hc=>(A3 A0 3 vc hc).bindN fun vd hd=>(A3 A0 79 a4 hd).bindN fun ve he=>(A1 A0 129 a12 2 he).bindN fun vf hf=>(A3 A0 3 vf hf).bindN fun vg hg=>(call F.ζa [ve,vg,(.int .i64 0)] hg).bindT (fun p301 hh=>(A3 A0 79 a4 hg).bindN fun vh hi=>(A1 A0 129 a12 2 hi).bindN fun vi hj=>(A3 A0 3 vi hj).bindN fun vj hk=>(A3 A0 79 a4 hk).bindN fun vk hl=>(A1 A0 129 a12 2 hl).bindN fun vl hm=>(A3 A0 3 vl hm).bindN fun vm hn=>(A3 A0 79 a4 hn).bindN fun vn ho=>(A1 A0 129 a12 2 ho).bindN fun vo hp=>(A3 A0 3 vo hp).bindN fun vp hq=>E6 ((A4 (A3 A0 79 a4 hb) vh && true) && ((A4 (A3 A0 3 vi hb) vj && true) && ((A4 (A3 A0 79 a4 hb) vk && true) && ((A4 (A3 A0 3 vl hb) vm && true) && ((A4 (A3 A0 79 a4 hb) vn && true) && ((A4 (A3 A0 3 vo hb) vp && true) && true)))))) (.panic p301 hh)) fun vq hr=>(A3 A0 79 a4 hr).bindN fun vr hs=>(A1 A0 129 a12 2 hs).bindN fun vs ht=>(A3 A0 3 vs ht).bindN fun vt hu=>(call F.ζa [vr,vt,(.int .i64 2)] hu).bindT (fun p329 hv=>(A3 A0 79 a4 hu).bindN fun vu hw=>(A1 A0 129 a12 2 hw).bindN fun vv hx=>(A3 A0 3 vv hx).bindN fun vw hy=>(A3 A0 79 a4 hy).bindN fun vx hz=>(A1 A0 129 a12 2 hz).bindN fun vy h10=>(A3 A0 3 vy h10).bindN fun vz h11=>E6 ((A4 (A3 A0 3 vc hr) vd && true) && ((A4 (A3 A0 79 a4 hb) vr && true) && ((A4 (A3 A0 3 vs hb) vt && true) && ((A4 (A3 A0 79 a4 hb) vu && (A4 (A3 A0 79 a4 hr) vu && true)) && ((A4 (A3 A0 3 vv hb) vw && (A4 (A3 A0 3 vv hr) vw && true)) && ((A4 (A3 A0 79 a4 hb) vx && (A4 (A3 A0 79 a4 hr) vx && true)) && ((A4 (A3 A0 3 vy hb) vz && (A4 (A3 A0 3 vy hr) vz && true)) && true))))))) (.panic p329 hv)) fun v10 h12=>(A5 A0 .sub 3 vq v10 h12).bindN fun v11 h13=>(A3 A0 79 a4 h13).bindN fun v12 h14=>(A1 A0 129 a12 2 h14).bindN fun v13 h15=>(A3 A0 3 v13 h15).bindN fun v14 h16=>(call F.ζa [v12,v14,(.int .i64 1)] h16).bindT (fun p353 h17=>(A3 A0 79 a4 h16).bindN fun v15 h18=>(A1 A0 129 a12 2 h18).bindN fun v16 h19=>(A3 A0 3 v16 h19).bindN fun v17 h1a=>E6 ((A4 (A3 A0 3 vc hr) vd && (A4 (A3 A0 3 vc h12) vd && true)) && ((A4 (A3 A0 79 a4 hb) vr && true) && ((A4 (A3 A0 3 vs hb) vt && true) && ((A4 (A3 A0 79 a4 hb) v12 && (A4 (A3 A0 79 a4 hr) v12 && true)) && ((A4 (A3 A0 3 v13 hb) v14 && (A4 (A3 A0 3 v13 hr) v14 && true)) && ((A4 (A3 A0 79 a4 hb) v15 && (A4 (A3 A0 79 a4 hr) v15 && (A4 (A3 A0 79 a4 h12) v15 && true))) && ((A4 (A3 A0 3 v16 hb) v17 && (A4 (A3 A0 3 v16 hr) v17 && (A4 (A3 A0 3 v16 h12) v17 && true))) && true))))))) (.panic p353 h17)) fun v18 h1b=>(A3 A0 79 a4 h1b).bindN fun v19 h1c=>(A1 A0 129 a12 2 h1c).bindN fun v1a h1d=>(A3 A0 3 v1a h1d).bindN fun v1b h1e=>(call F.ζa [v19,v1b,(.int .i64 3)] h1e).bindT (fun p369 h1f=>E6 ((A4 (A3 A0 3 vc hr) vd && (A4 (A3 A0 3 vc h12) vd && (A4 (A3 A0 3 vc h1b) vd && true))) && ((A4 (A3 A0 79 a4 hb) vr && true) && ((A4 (A3 A0 3 vs hb) vt && true) && ((A4 (A3 A0 79 a4 hb) v12 && (A4 (A3 A0 79 a4 hr) v12 && true)) && ((A4 (A3 A0 3 v13 hb) v14 && (A4 (A3 A0 3 v13 hr) v14 && true)) && ((A4 (A3 A0 79 a4 hb) v19 && (A4 (A3 A0 79 a4 hr) v19 && (A4 (A3 A0 79 a4 h12) v19 && true))) && ((A4 (A3 A0 3 v1a hb) v1b && (A4 (A3 A0 3 v1a hr) v1b && (A4 (A3 A0 3 v1a h12) v1b && true))) && true))))))) (.panic p369 h1f)) fun v1c h1g=>(A5 A0 .sub 3 v18 v1c h1g).bindN fun v1d h1h=>(call F.ζp [a2,vd,(.int .i64 0),v11,v1d] h1h).bindT (fun p375 h1i=>E6 ((A4 (A3 A0 3 vc hr) vd && (A4 (A3 A0 3 vc h12) vd && (A4 (A3 A0 3 vc h1b) vd && (A4 (A3 A0 3 vc h1g) vd && true)))) && ((A4 (A3 A0 79 a4 hb) vr && true) && ((A4 (A3 A0 3 vs hb) vt && true) && ((A4 (A3 A0 79 a4 hb) v12 && (A4 (A3 A0 79 a4 hr) v12 && true)) && ((A4 (A3 A0 3 v13 hb) v14 && (A4 (A3 A0 3 v13 hr) v14 && true)) && ((A4 (A3 A0 79 a4 hb) v19 && (A4 (A3 A0 79 a4 hr) v19 && (A4 (A3 A0 79 a4 h12) v19 && true))) && ((A4 (A3 A0 3 v1a hb) v1b && (A4 (A3 A0 3 v1a hr) v1b && (A4 (A3 A0 3 v1a h12) v1b && true))) && true))))))) (.panic p375 h1i)) fun v1e h1j=>
 E6 ((A4 (A3 A0 3 vc hr) vd && (A4 (A3 A0 3 vc h12) vd && (A4 (A3 A0 3 vc h1b) vd && (A4 (A3 A0 3 vc h1g) vd && true)))) && ((A4 (A3 A0 79 a4 hb) vr && true) && ((A4 (A3 A0 3 vs hb) vt && true) && ((A4 (A3 A0 79 a4 hb) v12 && (A4 (A3 A0 79 a4 hr) v12 && true)) && ((A4 (A3 A0 3 v13 hb) v14 && (A4 (A3 A0 3 v13 hr) v14 && true)) && ((A4 (A3 A0 79 a4 hb) v19 && (A4 (A3 A0 79 a4 hr) v19 && (A4 (A3 A0 79 a4 h12) v19 && true))) && ((A4 (A3 A0 3 v1a hb) v1b && (A4 (A3 A0 3 v1a hr) v1b && (A4 (A3 A0 3 v1a h12) v1b && true))) && true))))))) (
 B8k k call a1 v1e a4 a7 a10 a11 a12 a14 h1j))
 (
 B8l k call a1 a2 a4 a7 a10 a11 a12 a14 vb hb):=by kernel_rfl
theorem B8h(a1 a2 a4 a7 a10 a11 a12 a14 a54:Value)(h:A2):D5b k call a1 a2 a4 a7 a10 a11 a12 a14 a54 h =
 (A1 A0 129 a12 2 h).bind fun v0 h0=>(A3 A0 3 v0 h0).bind fun v1 h1=>(A5 A0 .neq 3 v1 (.int .i64 65535) h1).bind fun v2 h2=>(wV v2 true (Res.ok a14 h2) h2).bind fun v3 h3=>(condV (some v2) (Res.ok v3 h3) (Res.ok (.bool false) h3)).bind fun v4 h4=>(wV v4 true (Res.ok a11 h4) h4).bind fun v5 h5=>(wV v4 true (A5 A0 .geq 3 v5 (.int .i64 0) h5) h5).bind fun v6 h6=>(condV (some v4) (Res.ok v6 h6) (Res.ok (.bool false) h6)).bind fun v7 h7=>(wV v7 true (A1 A0 79 a4 1 h7) h7).bind fun v8 h8=>(wV v7 true (A3 A0 3 v8 h8) h8).bind fun v9 h9=>(wV v7 true (A5 A0 .eql 3 v9 (.int .i64 2) h9) h9).bind fun va ha=>(condV (some v7) (Res.ok va ha) (Res.ok (.bool false) ha)).bind fun vb hb=>
 condV (some vb) (
 (A1 A0 171 a10 1 hb).bindN fun vc hc=>(A3 A0 3 vc hc).bindN fun vd hd=>(A3 A0 79 a4 hd).bindN fun ve he=>(A1 A0 129 a12 2 he).bindN fun vf hf=>(A3 A0 3 vf hf).bindN fun vg hg=>(call F.ζa [ve,vg,(.int .i64 0)] hg).bindT (fun p413 hh=>(A3 A0 79 a4 hg).bindN fun vh hi=>(A1 A0 129 a12 2 hi).bindN fun vi hj=>(A3 A0 3 vi hj).bindN fun vj hk=>(A3 A0 79 a4 hk).bindN fun vk hl=>(A1 A0 129 a12 2 hl).bindN fun vl hm=>(A3 A0 3 vl hm).bindN fun vm hn=>(A3 A0 79 a4 hn).bindN fun vn ho=>(A1 A0 129 a12 2 ho).bindN fun vo hp=>(A3 A0 3 vo hp).bindN fun vp hq=>E6 ((A4 (A3 A0 79 a4 hb) vh && true) && ((A4 (A3 A0 3 vi hb) vj && true) && ((A4 (A3 A0 79 a4 hb) vk && true) && ((A4 (A3 A0 3 vl hb) vm && true) && ((A4 (A3 A0 79 a4 hb) vn && true) && ((A4 (A3 A0 3 vo hb) vp && true) && true)))))) (.panic p413 hh)) fun vq hr=>(A3 A0 79 a4 hr).bindN fun vr hs=>(A1 A0 129 a12 2 hs).bindN fun vs ht=>(A3 A0 3 vs ht).bindN fun vt hu=>(call F.ζa [vr,vt,(.int .i64 2)] hu).bindT (fun p441 hv=>(A3 A0 79 a4 hu).bindN fun vu hw=>(A1 A0 129 a12 2 hw).bindN fun vv hx=>(A3 A0 3 vv hx).bindN fun vw hy=>(A3 A0 79 a4 hy).bindN fun vx hz=>(A1 A0 129 a12 2 hz).bindN fun vy h10=>(A3 A0 3 vy h10).bindN fun vz h11=>E6 ((A4 (A3 A0 3 vc hr) vd && true) && ((A4 (A3 A0 79 a4 hb) vr && true) && ((A4 (A3 A0 3 vs hb) vt && true) && ((A4 (A3 A0 79 a4 hb) vu && (A4 (A3 A0 79 a4 hr) vu && true)) && ((A4 (A3 A0 3 vv hb) vw && (A4 (A3 A0 3 vv hr) vw && true)) && ((A4 (A3 A0 79 a4 hb) vx && (A4 (A3 A0 79 a4 hr) vx && true)) && ((A4 (A3 A0 3 vy hb) vz && (A4 (A3 A0 3 vy hr) vz && true)) && true))))))) (.panic p441 hv)) fun v10 h12=>(A5 A0 .sub 3 vq v10 h12).bindN fun v11 h13=>(A3 A0 79 a4 h13).bindN fun v12 h14=>(A1 A0 129 a12 2 h14).bindN fun v13 h15=>(A3 A0 3 v13 h15).bindN fun v14 h16=>(call F.ζa [v12,v14,(.int .i64 1)] h16).bindT (fun p465 h17=>(A3 A0 79 a4 h16).bindN fun v15 h18=>(A1 A0 129 a12 2 h18).bindN fun v16 h19=>(A3 A0 3 v16 h19).bindN fun v17 h1a=>E6 ((A4 (A3 A0 3 vc hr) vd && (A4 (A3 A0 3 vc h12) vd && true)) && ((A4 (A3 A0 79 a4 hb) vr && true) && ((A4 (A3 A0 3 vs hb) vt && true) && ((A4 (A3 A0 79 a4 hb) v12 && (A4 (A3 A0 79 a4 hr) v12 && true)) && ((A4 (A3 A0 3 v13 hb) v14 && (A4 (A3 A0 3 v13 hr) v14 && true)) && ((A4 (A3 A0 79 a4 hb) v15 && (A4 (A3 A0 79 a4 hr) v15 && (A4 (A3 A0 79 a4 h12) v15 && true))) && ((A4 (A3 A0 3 v16 hb) v17 && (A4 (A3 A0 3 v16 hr) v17 && (A4 (A3 A0 3 v16 h12) v17 && true))) && true))))))) (.panic p465 h17)) fun v18 h1b=>(A3 A0 79 a4 h1b).bindN fun v19 h1c=>(A1 A0 129 a12 2 h1c).bindN fun v1a h1d=>(A3 A0 3 v1a h1d).bindN fun v1b h1e=>(call F.ζa [v19,v1b,(.int .i64 3)] h1e).bindT (fun p481 h1f=>E6 ((A4 (A3 A0 3 vc hr) vd && (A4 (A3 A0 3 vc h12) vd && (A4 (A3 A0 3 vc h1b) vd && true))) && ((A4 (A3 A0 79 a4 hb) vr && true) && ((A4 (A3 A0 3 vs hb) vt && true) && ((A4 (A3 A0 79 a4 hb) v12 && (A4 (A3 A0 79 a4 hr) v12 && true)) && ((A4 (A3 A0 3 v13 hb) v14 && (A4 (A3 A0 3 v13 hr) v14 && true)) && ((A4 (A3 A0 79 a4 hb) v19 && (A4 (A3 A0 79 a4 hr) v19 && (A4 (A3 A0 79 a4 h12) v19 && true))) && ((A4 (A3 A0 3 v1a hb) v1b && (A4 (A3 A0 3 v1a hr) v1b && (A4 (A3 A0 3 v1a h12) v1b && true))) && true))))))) (.panic p481 h1f)) fun v1c h1g=>(A5 A0 .sub 3 v18 v1c h1g).bindN fun v1d h1h=>(call F.ζp [a2,vd,(.int .i64 0),v11,v1d] h1h).bindT (fun p487 h1i=>E6 ((A4 (A3 A0 3 vc hr) vd && (A4 (A3 A0 3 vc h12) vd && (A4 (A3 A0 3 vc h1b) vd && (A4 (A3 A0 3 vc h1g) vd && true)))) && ((A4 (A3 A0 79 a4 hb) vr && true) && ((A4 (A3 A0 3 vs hb) vt && true) && ((A4 (A3 A0 79 a4 hb) v12 && (A4 (A3 A0 79 a4 hr) v12 && true)) && ((A4 (A3 A0 3 v13 hb) v14 && (A4 (A3 A0 3 v13 hr) v14 && true)) && ((A4 (A3 A0 79 a4 hb) v19 && (A4 (A3 A0 79 a4 hr) v19 && (A4 (A3 A0 79 a4 h12) v19 && true))) && ((A4 (A3 A0 3 v1a hb) v1b && (A4 (A3 A0 3 v1a hr) v1b && (A4 (A3 A0 3 v1a h12) v1b && true))) && true))))))) (.panic p487 h1i)) fun v1e h1j=>
 E6 ((A4 (A3 A0 3 vc hr) vd && (A4 (A3 A0 3 vc h12) vd && (A4 (A3 A0 3 vc h1b) vd && (A4 (A3 A0 3 vc h1g) vd && true)))) && ((A4 (A3 A0 79 a4 hb) vr && true) && ((A4 (A3 A0 3 vs hb) vt && true) && ((A4 (A3 A0 79 a4 hb) v12 && (A4 (A3 A0 79 a4 hr) v12 && true)) && ((A4 (A3 A0 3 v13 hb) v14 && (A4 (A3 A0 3 v13 hr) v14 && true)) && ((A4 (A3 A0 79 a4 hb) v19 && (A4 (A3 A0 79 a4 hr) v19 && (A4 (A3 A0 79 a4 h12) v19 && true))) && ((A4 (A3 A0 3 v1a hb) v1b && (A4 (A3 A0 3 v1a hr) v1b && (A4 (A3 A0 3 v1a h12) v1b && true))) && true))))))) (
 B8k k call a1 v1e a4 a7 a10 a11 a12 a14 h1j))
 (
 B8l k call a1 a2 a4 a7 a10 a11 a12 a14 vb hb):=by kernel_rfl
theorem D4g(a1 a2 a4 a7 a10 a11 a12 a14:Value)(h:A2):B8k k call a1 a2 a4 a7 a10 a11 a12 a14 h =
 (A1 A0 129 a12 1 h).bind fun v0 h0=>(A3 A0 3 v0 h0).bind fun v1 h1=>(A5 A0 .geq 3 v1 (.int .i64 32768) h1).bind fun v2 h2=>(wV v2 true (Res.ok a14 h2) h2).bind fun v3 h3=>(condV (some v2) (Res.ok v3 h3) (Res.ok (.bool false) h3)).bind fun v4 h4=>
 condV (some v4) (
 (A1 A0 171 a10 1 h4).bind fun v5 h5=>(A3 A0 3 v5 h5).bind fun v6 h6=>
 D5c k call a1 a2 a4 a7 a10 v6 a12 h6)
 (
 D5d k call a1 a2 a4 a7 a10 a11 a12 v4 h4):=by kernel_rfl
theorem D4h(a1 a2 a4 a7 a10 a11 a12 a14 a119:Value)(h:A2):B8l k call a1 a2 a4 a7 a10 a11 a12 a14 a119 h =
 (A1 A0 129 a12 1 h).bind fun v0 h0=>(A3 A0 3 v0 h0).bind fun v1 h1=>(A5 A0 .geq 3 v1 (.int .i64 32768) h1).bind fun v2 h2=>(wV v2 true (Res.ok a14 h2) h2).bind fun v3 h3=>(condV (some v2) (Res.ok v3 h3) (Res.ok (.bool false) h3)).bind fun v4 h4=>
 condV (some v4) (
 (A1 A0 171 a10 1 h4).bind fun v5 h5=>(A3 A0 3 v5 h5).bind fun v6 h6=>
 D5c k call a1 a2 a4 a7 a10 v6 a12 h6)
 (
 D5d k call a1 a2 a4 a7 a10 a11 a12 v4 h4):=by kernel_rfl
theorem E1r(a1 a2 a4 a7 a10 a11 a12:Value)(h:A2):D5c k call a1 a2 a4 a7 a10 a11 a12 h =
 (A3 A0 171 a10 h).bind fun v0 h0=>(A3 A0 129 a12 h0).bind fun v1 h1=>(A6 A0 .len [61] [a1] h1).bind fun v2 h2=>(A1 A0 171 a10 1 h2).bind fun v3 h3=>(A3 A0 3 v3 h3).bind fun v4 h4=>(A1 A0 171 a10 1 h4).bind fun v5 h5=>(A3 A0 3 v5 h5).bind fun v6 h6=>(A5 A0 .add 3 v6 (.int .i64 1) h6).bind fun v7 h7=>(call F.ζf [v0,v1,v2,v4,v7] h7).bind fun v8 h8=>(B4 A0 171 a10 v8 h8).bind fun _v9 h9=>
 .ok (.normal,[(1,a1),(2,a2),(4,a4),(7,a7),(10,a10),(11,a11)]) h9:=by kernel_rfl
theorem D1b(a1 a2 a4 a7 a10 a11 a12 a147:Value)(h:A2):D5d k call a1 a2 a4 a7 a10 a11 a12 a147 h =
 (A3 A0 171 a10 h).bind fun v0 h0=>(A3 A0 129 a12 h0).bind fun v1 h1=>(A6 A0 .len [61] [a1] h1).bind fun v2 h2=>(A1 A0 171 a10 1 h2).bind fun v3 h3=>(A3 A0 3 v3 h3).bind fun v4 h4=>(A1 A0 171 a10 1 h4).bind fun v5 h5=>(A3 A0 3 v5 h5).bind fun v6 h6=>(A5 A0 .add 3 v6 (.int .i64 1) h6).bind fun v7 h7=>(call F.ζf [v0,v1,v2,v4,v7] h7).bind fun v8 h8=>(B4 A0 171 a10 v8 h8).bind fun _v9 h9=>
 .ok (.normal,[(1,a1),(2,a2),(4,a4),(7,a7),(10,a10),(11,a11)]) h9:=by kernel_rfl
theorem G13(a1 a2 a4 a7 a10 a11 a26:Value)(h:A2):D54 k call (.exit 0) [(1,a1),(2,a2),(4,a4),(7,a7),(10,a10),(11,a11),(26,a26)] h =
 (A1 A0 171 a10 6 h).bindN fun v0 h0=>(A3 A0 3 v0 h0).bindN fun v1 h1=>
 .ok (.tuple #[a2,v1]) h1:=by kernel_rfl
def ζa(k:Nat)(call:A8)(a0 a1 a2:Value)(h:A2):Res Value :=
 (K9 a0 h).bind fun v0 h0=>(A1 A0 79 v0 2 h0).bind fun v1 h1=>(A3 A0 22 v1 h1).bind fun v2 h2=>(A5 A0 .mul 3 (.int .i64 8) a1 h2).bind fun v3 h3=>(A5 A0 .mul 3 (.int .i64 2) a2 h3).bind fun v4 h4=>(A5 A0 .add 3 v3 v4 h4).bind fun v5 h5=>(call F.ζ2 [v2,v5,(.int .i64 2)] h5).bind fun v6 h6=>(call F.B0d [v6] h6).bind fun v7 h7=>
 .ok v7 h7
theorem G1e(k:Nat)(a0 a1 a2:Value)(h:A2):R (T k) F.ζa [a0,a1,a2] h=nrm .gc h (ζa k (R (T k)) a0 a1 a2 h) :=G9
end
end Go.Sw
end
section
namespace Go.Sw
open Go.RowKit
theorem B8x(k:Nat)(b:List Int)(g:Int)(H:A2):R (T k) F.ζu [lv B7 b,.int .i64 g] H=nrm .fz H (ζu k (R (T k)) (lv B7 b) (.int .i64 g) H) :=
 G3e k _ _ _ _ H [] rfl
abbrev Y8(r:A13)(kd:Int)(vs:List Int):List Value:=[lv B7 r.b,.int .i64 r.cl,.int .i64 r.rowsAt,.int .i64 r.entsAt,.int .i64 r.states,.int .i64 r.n,.int .i64 r.words,lv B7 r.tb,lv K3 r.parts,.int .i64 kd,lv B7 vs]
abbrev B8d:List Value:=[.slice none 0 0,.int .i64 0,.int .i64 0,.int .i64 0,.int .i64 0,.int .i64 0,.int .i64 0,.slice none 0 0,.slice none 0 0,.int .i64 0,.slice none 0 0]
abbrev D3k(r:A13)(kd:Int):List Value:=[lv B7 r.b,.int .i64 r.cl,.int .i64 r.rowsAt,.int .i64 r.entsAt,.int .i64 r.states,.int .i64 r.n,.int .i64 r.words,lv B7 r.tb,lv K3 r.parts,.int .i64 kd,.slice none 0 0]
theorem D3l (k:Nat) {vs:List Int} (hl:vs.length<2 ^ 31) {r:A13} {kd:Int} (hkd:kd=1∨kd=2) {es:List En} (hes:∀ e,e ∈ es→0≤e.a∧e.a<65536) (hel:es.length<65537) (hn:r.n=es.length) (hent:∀ (i:Nat) (e:En),es[i]?=some e→∀ H',R (T k) F.ζi [rmV r,.int .i64 i] H'=.ok (.agg (E7 e).toArray) H')
  {p4 p6 p9:Nat} {H0 H:A2} {z:Blk} (st:D2 H0 H [D9 p4 z,D9 p6 ⟨rmC r,1,false⟩,D9 p9 ⟨Y8 r kd vs,1,false⟩]) :
  ∃ a b,loopN (B8i k (R (T k))) B8 [(4,B6 p4),(6,B6 p6),(9,B6 p9),(10,lv B7 vs),(11,.bool true),(12,.int .i64 0)] H=.ok (.exit 0,[(4,B6 p4),(6,B6 p6),(9,B6 p9),(10,lv B7 vs),(11,.bool (es.all (N8 kd vs))),(12,a),(57,b)]) H:=by
 obtain⟨rb,rc,ra,re,rs,rn,rw,rt,rp⟩:=r;dsimp only at hn;subst hn;have hin:=fun i n H'=>D77 k (vs.length:Int) i n (by omega) (by omega) H';have g6:=st.get 1 rfl;have g9:=st.get 2 rfl;have hvr:veq (rmV ⟨rb,rc,ra,re,rs,(es.length:Int),rw,rt,rp⟩) (rmV ⟨rb,rc,ra,re,rs,(es.length:Int),rw,rt,rp⟩)=true:=B2q _
 obtain ⟨xx,e',H1,hr1,rfl,rfl,a,b,rfl⟩:=K5 (body:=B8i k (R (T k))) (es.length)
  (fun j e' H'=>H'=H∧e'=[(4,B6 p4),(6,B6 p6),(9,B6 p9),(10,lv B7 vs),(11,.bool ((es.take j).all (N8 kd vs))),(12,.int .i64 j)])
  (fun xx e' H'=>xx=.exit 0∧H'=H∧∃ a b,e'=[(4,B6 p4),(6,B6 p6),(9,B6 p9),(10,lv B7 vs),(11,.bool (es.all (N8 kd vs))),(12,a),(57,b)])
  (e0:=[(4,B6 p4),(6,B6 p6),(9,B6 p9),(10,lv B7 vs),(11,.bool true),(12,.int .i64 0)]) (H0:=H) ⟨rfl,rfl⟩ (by omega)
  (fun j e' H' hj ⟨hH,he'⟩=>by
   subst he' hH;have hjl:(j:Int)<es.length:=by omega
   obtain⟨en,hen⟩:∃ en,es[j]?=some en:=⟨_,List.getElem?_eq_getElem hj⟩
   have hmem:=List.mem_of_getElem? hen;have hE:=hent j en hen;have hb:=hes en hmem;cases hall:(es.take j).all (N8 kd vs) with
   | false=>
    have hf:es.all (N8 kd vs)=false:=by
     rw[Bool.eq_false_iff];intro h;have h2:(es.take j).all (N8 kd vs)=true:=List.all_eq_true.2 fun x hx=>List.all_eq_true.1 h x (List.mem_of_mem_take hx);rw[hall] at h2;cases h2
    refine .inr ⟨.exit 0,_,_,?_,by simp,rfl,rfl,.int .i64 j,.bool false,by rw[hf]⟩;rw[D19];simp -implicitDefEqProofs(disch:=omega) [g6,hjl]
   | true=>
    have hnx:(es.take (j+1)).all (N8 kd vs)=N8 kd vs en:=by
     rw[A29 hen,List.all_append,hall];simp
    have hw1:IntKind.i64.wrap (4*kd)=4*kd:=wrap_i64 (by omega) (by omega);have hw2:IntKind.i64.wrap (4*kd*en.a)=4*kd*en.a:=by rcases hkd with rfl | rfl <;> exact wrap_i64 (by omega) (by omega)
    have hO:N8 kd vs en=(decide (en.a=65535) || inS vs.length (4*kd*en.a) (4*kd)):=by unfold N8; rw[B98]
    refine .inl ⟨_,_,?_,rfl,by rw[hnx]⟩;rw[D19,hO];by_cases c1:en.a=65535
    ·have c1':(en.a == 65535)=true:=by rw[c1]; rfl
     simp -implicitDefEqProofs(disch:=omega) [g6,g9,hjl,hvr,hE,c1',c1]
    ·have c1':(en.a == 65535)=false:=by rw[beq_eq_false_iff_ne]; exact c1
     simp -implicitDefEqProofs(disch:=omega) [g6,g9,hjl,hvr,hE,c1',c1,hw1,hw2,hin])
  (fun e' H' ⟨hH,he'⟩=>by
   subst he' hH;rw[List.take_length];refine⟨.exit 0,_,_,?_,by simp,rfl,rfl,.int .i64 es.length,.bool false,rfl⟩;rw[D19];simp -implicitDefEqProofs [g6])
 exact⟨a,b,hr1⟩
theorem A7y(r:A13)(kd:Int)(vs:List Int)(x:Bool):D3 (.tuple #[.agg (Y8 r kd vs).toArray,.bool x]) :=
 .tupleL (l:=[.agg (Y8 r kd vs).toArray,.bool x]) (.cons (.aggL (l:=Y8 r kd vs) (.cons (D3.B _) (.cons (.int _ _) (.cons (.int _ _) (.cons (.int _ _) (.cons (.int _ _) (.cons (.int _ _) (.cons (.int _ _) (.cons (D3.B _) (.cons (D3.RPs _) (.cons (.int _ _) (.cons (D3.B _) .nil)))))))))))) (.cons (.bool _) .nil))
set_option maxRecDepth 10000 in
theorem G5o (k:Nat) (b:List Int) (hb:Byt b) (g:Int) (hg:1≤g∧g≤65535) (hl:b.length<2 ^ 31) (H:A2) :
  ∃ (r:A13) (kd:Int) (vs:List Int),R (T k) F.ζu [lv B7 b,.int .i64 g] H=.ok (.tuple #[.agg (Y8 r kd vs).toArray,.bool (W7 b g).isSome]) H∧∀ t,W7 b g=some t→r=A0o b g 1 t.m∧kd=t.kind∧vs=t.acts:=by
 have u16:=fun H'=>P0 k (H:=H') (Sl.lv H' 1 b) hb 16 4 (by omega) (by omega);have hrm:=fun H'=>G69 k b hb g 1 hg (.inr (.inl rfl)) hl H';unfold V8 at hrm;have fz0:∀ H',fzV H.n H' N9 (.tuple #[.agg B8d.toArray,.bool false])=some (.tuple #[.agg (Y8 rmZ 0 []).toArray,.bool false],[]):=fun H'=>rfl;have g0:=fun (r:A13)=>((D2.nil H).push ⟨B8d,1,false⟩).push ⟨rmC r,1,false⟩;simp only[List.nil_append,List.cons_append,A02] at g0;have n2:H.n+1+1=H.n+2:=rfl;cases hm:Z5 b g 1 with
 | none=>
  rw[hm] at hrm;simp only[Option.map_none,rmO,Option.getD_none,Option.isSome_none] at hrm;have hS:W7 b g=none:=by unfold W7; rw[hm]; rfl
  rw[hS];refine⟨rmZ,0,[],?_,fun t h=>by cases h⟩;rw[B8x];refine G7 (H':=(H.push ⟨B8d,1,false⟩).push ⟨rmC rmZ,1,false⟩) ?_ (fz0 _) (g0 rmZ).ext (A7y _ _ _ _).alive;simp -implicitDefEqProofs(disch:=omega) [ζu,hrm,u16]
 | some m=>
  have hok:=A5k hb hg.1 hg.2 (by omega) hm;have hent:=fun (i:Nat) (e:En) (he:m.ents[i]?=some e) (hi:i≤65536) H'=>E4r k hb (.inr (.inl rfl)) hl hm (i:=(i:Int)) (by omega) (by omega) (e:=e) (by simpa using he) H';rw[hm] at hrm;simp only[Option.map_some,rmO,Option.getD_some,Option.isSome_some] at hrm;have hn:(A0o b g 1 m).n=m.ents.length:=rfl;cases hu:uS b 16 4 with
  | none=>
   have hS:W7 b g=none:=by unfold W7; rw[hm,hu]; rfl
   rw[hS];rw[hu] at u16;simp only[Option.getD_none] at u16;refine⟨rmZ,0,[],?_,fun t h=>by cases h⟩;rw[B8x];generalize A0o b g 1 m=r at hrm;refine G7 (H':=(H.push ⟨B8d,1,false⟩).push ⟨rmC r,1,false⟩) ?_ (fz0 _) (g0 r).ext (A7y _ _ _ _).alive;simp -implicitDefEqProofs(disch:=omega) [ζu,hrm,u16]
  | some w=>
   have hwb:=W5 hb hu;rw[hu] at u16;simp only[Option.getD_some] at u16;have hw0:¬ w<0:=by omega
   have hq:=fun H=>A49 A0 3 H .i64 w 1073741824 (by decide);rw[Int.tdiv_eq_ediv_of_nonneg hwb.1,wrap_i64 (by omega) (by omega)] at hq;have hrem:=fun H=>A58 A0 3 H .i64 w 16777216 (by decide);rw[Int.tmod_eq_emod_of_nonneg hwb.1] at hrem;have hfr:=fun H'=>D69 k b (w % 16777216) H';have hS:W7 b g=if w / 1073741824=1∨w / 1073741824=2 then (L5 b (w % 16777216)).bind fun a=>if m.ents.all (N8 (w / 1073741824) a) then some ⟨m,w / 1073741824,a⟩ else none else some ⟨m,w / 1073741824,[]⟩:=by unfold W7; rw[hm,hu]; rfl
   have hkb:0≤w / 1073741824∧w / 1073741824<4:=by omega
   generalize w / 1073741824=kd at hq hS hkb;have hvr:=B2q (A0o b g 1 m);by_cases hc:kd=1∨kd=2;rotate_left
   ·rw[if_neg hc] at hS;rw[hS];have c1:(kd != 1)=true:=by rw[bne_iff_ne]; omega
    have c2:(kd != 2)=true:=by rw[bne_iff_ne]; omega
    refine⟨A0o b g 1 m,kd,[],?_,fun t h=>by injection h with h; subst h; exact⟨rfl,rfl,rfl⟩⟩;rw[B8x];generalize A0o b g 1 m=r at hrm hvr;refine G7 (H':=((H.push ⟨D3k r kd,1,false⟩).push ⟨rmC r,1,false⟩).push ⟨D3k r kd,1,false⟩) (v:=.tuple #[.agg (D3k r kd).toArray,.bool true]) (L:=[]) ?_ rfl ((((Ext.refl H).push _).push _).push _) (A7y _ _ _ _).alive;simp -implicitDefEqProofs(disch:=omega) [ζu,hrm,u16,hw0,hq,c1,c2,hvr]
   rw [if_pos hc] at hS;have d:(kd=1∧(kd != 1)=false)∨(kd=2∧(kd != 1)=true∧(kd != 2)=false):=by
    rcases hc with rfl | rfl
    ·exact .inl ⟨rfl,rfl⟩
    ·exact .inr ⟨rfl,rfl,rfl⟩
   cases hr:L5 b (w % 16777216) with
   | none=>
    rw[hr] at hS hfr;simp only[Option.getD_none,Option.isSome_none] at hfr;have hS:W7 b g=none:=hS;rw[hS];refine⟨A0o b g 1 m,kd,[],?_,fun t h=>by cases h⟩;rw[B8x];generalize A0o b g 1 m=r at hrm hvr;have st:=((((D2.nil H).push ⟨Y8 r kd [],1,false⟩).push ⟨rmC r,1,false⟩).push ⟨Y8 r kd [],1,false⟩)
    have hlp:∀ H' v:A2,H'.get (H.n+1)=some ⟨rmC r,1,false⟩→∃ a b',loopN (B8i k (R (T k))) B8 [(4,B6 H.n),(6,B6 (H.n+1)),(9,B6 (H.n+2)),(10,lv B7 []),(11,.bool false),(12,.int .i64 0)] H'=.ok (.exit 0,[(4,B6 H.n),(6,B6 (H.n+1)),(9,B6 (H.n+2)),(10,lv B7 []),(11,.bool false),(12,a),(57,b')]) H':=fun H' _ hg6=>by
     refine⟨.int .i64 0,.bool false,?_⟩;unfold B8;rw[show (2:Nat) ^ 64=(2 ^ 64 - 1)+1 from rfl,loopN,D19];by_cases c:0<r.n
     ·simp -implicitDefEqProofs [hg6,c]
     ·simp -implicitDefEqProofs [hg6,c]
    obtain⟨a,b',hlp⟩:=hlp (((H.push ⟨B8d,1,false⟩).push ⟨rmC r,1,false⟩).push ⟨Y8 r kd [],1,false⟩) H (by simp);refine G7 (H':=((H.push ⟨Y8 r kd [],1,false⟩).push ⟨rmC r,1,false⟩).push ⟨Y8 r kd [],1,false⟩) (v:=.tuple #[.agg (Y8 r kd []).toArray,.bool false]) (L:=[]) ?_ rfl ((((Ext.refl H).push _).push _).push _) (A7y _ _ _ _).alive
    rcases d with⟨rfl,d1⟩ | ⟨rfl,d1,d2⟩ <;>
     simp -implicitDefEqProofs(disch:=omega) [ζu,hrm,u16,hw0,hq,hrem,hfr,hvr,n2,hlp,E0y]
   | some vs=>
    rw[hr] at hS hfr;simp only[Option.getD_some,Option.isSome_some] at hfr;have hS:W7 b g=if m.ents.all (N8 kd vs) then some ⟨m,kd,vs⟩ else none:=hS
    have hvl:vs.length<2 ^ 31:=by have:=A73 hr; omega
    have hes:∀ e,e ∈ m.ents→0≤e.a∧e.a<65536:=fun e he=>by have:=hok.ent e he; omega
    have helen:=hok.elen;have st:=(g0 (A0o b g 1 m)).push ⟨Y8 (A0o b g 1 m) kd vs,1,false⟩;simp only[List.nil_append,List.cons_append,A02] at st;obtain⟨a,b',e1⟩:=D3l k hvl hc hes (by omega) hn (fun i e he H'=>hent i e he (by have:=(List.getElem?_eq_some_iff.1 he).1; omega) H') (p4:=H.n) (p6:=H.n+1) (p9:=H.n+2) st;have hsome:(W7 b g).isSome=m.ents.all (N8 kd vs):=by rw[hS]; cases m.ents.all (N8 kd vs) <;> rfl
    rw [hsome];refine⟨A0o b g 1 m,kd,vs,?_,fun t h=>by
     rw[hS] at h;split at h
     ·injection h with h; subst h; exact⟨rfl,rfl,rfl⟩
     ·cases h⟩
    rw[B8x];generalize A0o b g 1 m=r at hrm hvr e1 st;generalize m.ents.all (N8 kd vs)=ok at e1;refine G7 (H':=((H.push ⟨Y8 r kd vs,1,false⟩).push ⟨rmC r,1,false⟩).push ⟨Y8 r kd vs,1,false⟩) (v:=.tuple #[.agg (Y8 r kd vs).toArray,.bool ok]) (L:=[]) ?_ rfl ((((Ext.refl H).push _).push _).push _) (A7y _ _ _ _).alive
    rcases d with⟨rfl,d1⟩ | ⟨rfl,d1,d2⟩ <;>
     simp -implicitDefEqProofs(disch:=omega) [ζu,hrm,u16,hw0,hq,hrem,hfr,hvr,n2,e1,E0y]
end Go.Sw
end
