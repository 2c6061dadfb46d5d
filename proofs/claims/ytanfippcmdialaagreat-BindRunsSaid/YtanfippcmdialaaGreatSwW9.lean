/-
  Functions' forms, and what is proved of them, part 9.
-/
import Derived.Test.YtanfippcmdialaaGreatSwW5
import Derived.Test.YtanfippcmdialaaGreatSwW7
import Derived.Test.YtanfippcmdialaaGreatSwCfg
import Derived.Test.YtanfippcmdialaaGreatSwW1
import Derived.Test.YtanfippcmdialaaGreatSwLib8
import Derived.Test.YtanfippcmdialaaGreatSwW8
set_option linter.unusedSimpArgs false
set_option linter.unusedVariables false
set_option linter.unusedSectionVars false
section
namespace Go.Sw
open Go.RowKit
theorem A4f{b rv:List Int}{j:Int}:L5 b j=some rv↔(0≤j∧j≤b.length)∧rv=b.drop j.toNat:=by
 unfold L5;split
 ·rename_i h;exact⟨fun e=>by injection e with e; exact⟨h,e.symm⟩,fun e=>by rw[e.2]⟩
 ·rename_i h;exact⟨fun e=>(by cases e),fun e=>absurd e.1 h⟩
theorem D1n{b rv:List Int}{j:Int}(h:L5 b j=some rv):(rv.length:Int)=b.length - j:=by
 obtain⟨h1,rfl⟩:=A4f.1 h;simp;omega
theorem B4h{b rv:List Int}{j:Int}(h:L5 b j=some rv){x:Int}(hx:0≤x)(z:Int):uS rv x z=uS b (j+x) z:=by
 have hl:=D1n h;obtain⟨h1,rfl⟩:=A4f.1 h;unfold uS E1;by_cases hc:0≤z∧x≤b.length - j∧z≤b.length - j - x
 ·rw[if_pos (by omega),if_pos (by omega),List.drop_drop,show j.toNat+x.toNat=(j+x).toNat by omega]
 ·rw[if_neg (by omega),if_neg (by omega)]
def A24(b:List Int)(i step:Int)(n:Nat):Int:=P6 ((List.range n).map fun j=>gU b (i+(j:Nat)*step) 2)
theorem A8g{rv:List Int}{n:Int}(hn:0<n){k:Nat}:(A3g rv n k).isSome=true↔2*n*(k+1)≤rv.length:=by
 unfold A3g;rw[B8r (by omega),B29 (by omega)];have h0:0≤2*n*(k:Int):=Int.mul_nonneg (by omega) (by omega);have h1:2*n*((k:Int)+1)=2*n*k+2*n:=by rw[Int.mul_add]; omega
 constructor
 ·rintro ⟨_,_,_,h⟩; omega
 ·intro h; exact⟨h0,by omega,by omega,by omega⟩
theorem B7j{b rv:List Int}{j:Int}(h:L5 b j=some rv){n:Int}{k:Nat}{r:List Int}(hn:0<n)(hr:A3g rv n k=some r):r=(List.range n.toNat).map fun i=>gU b (j+(n*k+(i:Nat))*2) 2:=by
 have hs:=(A8g (rv:=rv) (k:=k) hn).1 (by rw[hr]; rfl);have hr':=hr;unfold A3g X0 at hr';obtain⟨q,hq,hqr⟩:=Option.map_eq_some_iff.1 hr';have hlen:r.length=n.toNat:=by rw[← hqr]; simp
 have hk0:0≤n*(k:Int):=Int.mul_nonneg (by omega) (by omega);apply List.ext_getElem?;intro i;by_cases hi:i<n.toNat
 ·rw[D72 (by omega) hr i (by omega),List.getElem?_map,List.getElem?_range hi,B4h h (by rw[Int.mul_assoc]; omega)];have e:j+(2*n*(k:Int)+(i:Int)*2)=j+(n*k+(i:Nat))*2:=by rw[Int.mul_assoc,Int.add_mul]; omega
  rw[e];have hlen:=D1n h;have hj:=(A4f.1 h).1;have h1:2*n*((k:Int)+1)=2*(n*k)+2*n:=by rw[Int.mul_add,Int.mul_assoc]; omega
  obtain⟨x,hx⟩:∃ x,uS b (j+(n*k+(i:Nat))*2) 2=some x:=A8l (by unfold inS; exact decide_eq_true (by rw[Int.add_mul]; omega));rw[hx,Option.map_some,L8 hx]
 ·rw[List.getElem?_eq_none (by omega),List.getElem?_eq_none (by simp; omega)]
theorem E3q {b rv:List Int} {j:Int} (h:L5 b j=some rv) {n:Int} (hn:0<n):∀ {s:Nat} {rs:List (List Int)},U2 rv n s=some rs→rs.flatten=(List.range (s*n.toNat)).map fun (i:Nat)=>gU b (j+(i:Int)*2) 2
 | 0,rs,hr=>by injection hr with hr; subst hr; simp
 | s+1,rs,hr=>by
  unfold U2 at hr;rw[B5d] at hr;obtain⟨rs',h1,hr⟩:=Option.bind_eq_some_iff.1 hr;obtain⟨r,h2,rfl⟩:=Option.map_eq_some_iff.1 hr;rw[List.flatten_append,E3q h hn h1,Nat.succ_mul,List.range_add,List.map_append];congr 1;simp only[List.flatten_cons,List.flatten_nil,List.append_nil,B7j h hn h2,List.map_map];apply List.map_congr_left;intro i _;simp only[Function.comp];congr 2;have:((s*n.toNat+i:Nat):Int)=n*s+i:=by
   obtain⟨m,rfl⟩:=Int.eq_ofNat_of_zero_le (Int.le_of_lt hn);simp[Int.mul_comm]
  rw[this]
theorem G8w{b rv:List Int}{j:Int}(h:L5 b j=some rv){n:Int}(hn:0<n){s:Nat}{rs:List (List Int)}(hr:U2 rv n s=some rs):A24 b j 2 (s*n.toNat)=L9 rs:=by
 unfold A24 L9;rw[E3q h hn hr]
theorem G8x {b rv:List Int} {j:Int} (h:L5 b j=some rv) {n:Int} (hn:0<n) {s:Nat} (hs:0<s):(U2 rv n s).isSome=U9 b.length j s (2*n):=by
 have hl:=D1n h;have hj:=(A4f.1 h).1;rw[Bool.eq_iff_iff,B29 (by omega)];have e:(s:Int)*(2*n)=2*n*s:=Int.mul_comm _ _;constructor
 ·intro hsome;obtain⟨rs,hrs⟩:=Option.isSome_iff_exists.1 hsome;obtain⟨y,hy,_⟩:=A5n hrs (i:=s - 1) (by omega);have:=(A8g (rv:=rv) (k:=s - 1) hn).1 (by rw[hy]; rfl);rw[show (((s - 1:Nat):Int)+1)=s by omega] at this;exact⟨hj.1,by omega,hj.2,by omega⟩
 ·rintro ⟨_,_,_,h4⟩;obtain⟨r,hr⟩:=D5r (f:=A3g rv n) (n:=s) fun i hi=>by
   rw[A8g hn];have:2*n*((i:Int)+1)≤2*n*s:=Int.mul_le_mul_of_nonneg_left (by omega) (by omega);omega
  exact Option.isSome_iff_exists.2 ⟨r,hr⟩
theorem B16{ev:List Int}{w:Int}(hw:0≤w){k:Nat}:(A3d ev w k).isSome=true↔(4+2*w)*(k+1)≤ev.length:=by
 unfold A3d;rw[Option.isSome_map,B98];unfold inS;rw[decide_eq_true_eq];have h0:0≤(4+2*w)*(k:Int):=Int.mul_nonneg (by omega) (by omega);have h1:(4+2*w)*((k:Int)+1)=(4+2*w)*k+(4+2*w):=by rw[Int.mul_add]; omega
 omega
theorem G89 {b ev:List Int} {q:Int} (h:L5 b q=some ev) {w:Int} (hw:0≤w) (s:Nat):(Y6 ev w s).isSome=U9 b.length q s (4+2*w):=by
 have hl:=D1n h;have hj:=(A4f.1 h).1;rw[Bool.eq_iff_iff,B29 (by omega)];have e:(s:Int)*(4+2*w)=(4+2*w)*s:=Int.mul_comm _ _;constructor
 ·intro hsome;obtain⟨rs,hrs⟩:=Option.isSome_iff_exists.1 hsome;refine⟨hj.1,by omega,hj.2,?_⟩;by_cases h0:s=0
  ·subst h0; simp; omega
  ·obtain⟨y,hy,_⟩:=A5n hrs (i:=s - 1) (by omega);have:=(B16 (ev:=ev) (k:=s - 1) hw).1 (by rw[hy]; rfl);rw[show (((s - 1:Nat):Int)+1)=s by omega] at this;omega
 ·rintro ⟨_,_,_,h4⟩;obtain⟨r,hr⟩:=D5r (f:=A3d ev w) (n:=s) fun i hi=>by
   rw[B16 hw];have:(4+2*w)*((i:Int)+1)≤(4+2*w)*s:=Int.mul_le_mul_of_nonneg_left (by omega) (by omega);omega
  exact Option.isSome_iff_exists.2 ⟨r,hr⟩
theorem B6o{b ev:List Int}{q:Int}(h:L5 b q=some ev){w:Int}(hw:0≤w∧w≤2){k:Nat}{e:En}(he:A3d ev w k=some e) :
  e=⟨gU b (q+(k:Int)*(4+2*w)) 2,gU b (q+(k:Int)*(4+2*w)+2) 2,if 0<w then gU b (q+(k:Int)*(4+2*w)+4) 2 else 0,if 1<w then gU b (q+(k:Int)*(4+2*w)+6) 2 else 0⟩:=by
 unfold A3d at he;obtain⟨r,hr,rfl⟩:=Option.map_eq_some_iff.1 he;have h0:0≤(4+2*w)*(k:Int):=Int.mul_nonneg (by omega) (by omega);have sub:∀ x,0≤x→x+2≤4+2*w→gU r x 2=gU b (q+(k:Int)*(4+2*w)+x) 2:=fun x hx hx2=>by
  unfold gU;rw[B2n hr hx (by omega) hx2,B4h h (by omega),Int.mul_comm (k:Int),Int.add_assoc]
 have s0:=sub 0 (by omega) (by omega);rw[Int.add_zero] at s0;unfold B17;rw[s0,sub 2 (by omega) (by omega)];congr 1
 ·by_cases h1:0<w
  ·rw[if_pos h1,if_pos h1,sub 4 (by omega) (by omega)]
  ·rw[if_neg h1,if_neg h1]
 ·by_cases h1:1<w
  ·rw[if_pos h1,if_pos h1,sub 6 (by omega) (by omega)]
  ·rw[if_neg h1,if_neg h1]
theorem G88{b ev:List Int}{q:Int}(h:L5 b q=some ev){w:Int}(hw:0≤w∧w≤2){s:Nat}{es:List En}(hr:Y6 ev w s=some es):A24 b q (4+2*w) s=P6 (es.map En.next):=by
 unfold A24;congr 1;apply List.ext_getElem?;intro i;have hl:=U5 hr;rw[List.length_range] at hl;by_cases hi:i<s
 ·obtain⟨y,h1,h2⟩:=A5n hr hi;rw[List.getElem?_map,List.getElem?_map,List.getElem?_range hi,h2,Option.map_some,Option.map_some,B6o h hw h1]
 ·rw[List.getElem?_eq_none (by simp; omega),List.getElem?_eq_none (by simp; omega)]
theorem G8l{rv:List Int}{n:Int}{s t:Nat}(hst:s≤t){rs rt:List (List Int)}(h1:U2 rv n s=some rs)(h2:U2 rv n t=some rt):L9 rs≤L9 rt:=by
 have h3:=D66 hst h2;have h4:M6 (A3g rv n) (List.range s)=some rs:=h1;rw[h4] at h3;injection h3 with h3;rw[h3];have:=List.take_append_drop s rt;conv=>rhs; rw[← this]
 unfold L9;rw[List.flatten_append,B56];omega
structure A13 where
 b:List Int
 cl:Int
 rowsAt:Int
 entsAt:Int
 states:Int
 n:Int
 words:Int
 tb:List Int
 parts:List RP
def A0o(b:List Int)(g w:Int)(m:Q7):A13 :=
 ⟨b,m.classes,gU b 8 4,gU b 12 4,m.rows.length,m.ents.length,w,b.drop (gU b 4 4).toNat,(V9 (b.drop (gU b 4 4).toNat) g 2).getD []⟩
def V8(b:List Int)(g w:Int):Option A13:=(Z5 b g w).map (A0o b g w)
theorem D64{b:List Int}{g w:Int}{m:Q7}(h:Z5 b g w=some m):∃ i j q tb rv ev x,uS b 0 4=some m.classes∧4≤m.classes∧m.classes≤65535∧uS b 4 4=some i∧L5 b i=some tb∧A17 tb g 2=some m.tab ∧
  uS b 8 4=some j∧L5 b j=some rv∧uS b 12 4=some q∧L5 b q=some ev∧X6 rv ev m.classes w 2=some x∧m.rows=x.1∧m.ents=x.2:=by
 unfold Z5 at h;obtain⟨n,h0,h⟩:=Option.bind_eq_some_iff.1 h;split at h;rotate_left
 ·cases h
 rename_i hn;obtain⟨i,h1,h⟩:=Option.bind_eq_some_iff.1 h;obtain⟨tb,h2,h⟩:=Option.bind_eq_some_iff.1 h;obtain⟨tab,h3,h⟩:=Option.bind_eq_some_iff.1 h;obtain⟨j,h4,h⟩:=Option.bind_eq_some_iff.1 h;obtain⟨rv,h5,h⟩:=Option.bind_eq_some_iff.1 h;obtain⟨k,h6,h⟩:=Option.bind_eq_some_iff.1 h;obtain⟨ev,h7,h⟩:=Option.bind_eq_some_iff.1 h;obtain⟨x,h8,rfl⟩:=Option.map_eq_some_iff.1 h;exact⟨i,j,k,tb,rv,ev,x,h0,hn.1,hn.2,h1,h2,h3,h4,h5,h6,h7,h8,rfl,rfl⟩
theorem B80 (l:List Int) (pre rest:List Int) (i:Nat) (x:Int) (hx:l[i]?=some x) (hb:0≤x∧x<65536) (p:Int) (hp:p=pre.length+2*i):uS (pre++(Y0 l++rest)) p 2=some x:=by
 obtain ⟨hi,hg⟩:=List.getElem?_eq_some_iff.1 hx;have e:Y0 l=Y0 (l.take i)++(D4 x 2++Y0 (l.drop (i+1))):=by
  have:l=l.take i++([x]++l.drop (i+1)):=by
   rw[← hg,List.singleton_append,← List.drop_eq_getElem_cons hi,List.take_append_drop]
  conv=>lhs; rw[this]
  simp[Y0]
 rw[e,← List.append_assoc];have h:=A6r (pre++Y0 (l.take i)) (Y0 (l.drop (i+1))++rest) (n:=x) (k:=2) p 2 (by rw[List.length_append,X3,List.length_take]; omega) rfl hb.1 (by simpa using hb.2);simpa[List.append_assoc] using h
def K6(p:A0s)(w:Int)(rm:List Int):List Int :=
 D4 (A2e p:Int) 4++(D4 (16+rm.length:Int) 4++(D4 (16+rm.length+(ofS p.cls).length:Int) 4++(D4 (16+rm.length+(ofS p.cls).length+(rowsL (A2e p) p.rows).length:Int) 4++(rm++(ofS p.cls++(rowsL (A2e p) p.rows++A2c w p.ents))))))
theorem G4t(p:A0s)(w:Int)(room:Nat):A1n p w room=K6 p w (List.replicate room 0):=by
 unfold A1n K6;simp[List.append_assoc]
def A9f(cls:List Int):Int × List Pt:=(8,if cls=[] then [] else [⟨0,(cls.length:Int) - 1,cls⟩])
theorem J19(l:List Int)(pre rest:List Int)(hb:∀ x,x ∈ l→0≤x∧x<65536)(i:Int)(hi:i=pre.length):X0 (pre++(Y0 l++rest)) i l.length 2=some l:=by
 have hs:(X0 (pre++(Y0 l++rest)) i l.length 2).isSome=true:=by
  rw[B8r (by omega),B29 (by omega)];simp[X3];omega
 obtain ⟨vs,hv⟩:=Option.isSome_iff_exists.1 hs;rw[hv];congr 1;have hlen:vs.length=l.length:=by
  unfold X0 at hv;obtain⟨r,_,rfl⟩:=Option.map_eq_some_iff.1 hv;simp
 apply List.ext_getElem?;intro j;by_cases hj:j<l.length
 ·obtain⟨x,hx⟩:∃ x,l[j]?=some x:=⟨_,List.getElem?_eq_getElem hj⟩
  rw[D72 (by omega) hv j (by omega),hx];exact B80 l pre rest j x hx (hb x (List.mem_of_getElem? hx)) _ (by omega)
 ·rw[List.getElem?_eq_none (by omega),List.getElem?_eq_none (by omega)]
theorem B6z(cls:List Int)(hb:∀ x,x ∈ cls→0≤x∧x<65536)(hl:cls.length≤65535)(rest:List Int)(g:Int):A17 (ofS cls++rest) g 2=some (A9f cls):=by
 have h0:uS (ofS cls++rest) 0 2=some 8:=by
  have:=A6r [] (D4 0 2++(D4 cls.length 2++(Y0 cls++rest))) (n:=8) (k:=2) 0 2 rfl rfl (by omega) (by decide);simpa[ofS,List.append_assoc] using this
 have h2:uS (ofS cls++rest) 2 2=some 0:=by
  have:=A6r (D4 8 2) (D4 cls.length 2++(Y0 cls++rest)) (n:=0) (k:=2) 2 2 (by simp) rfl (by omega) (by decide);simpa[ofS,List.append_assoc] using this
 have h4:uS (ofS cls++rest) (2+2) 2=some (cls.length:Int):=by
  have:=A6r (D4 8 2++D4 0 2) (Y0 cls++rest) (n:=cls.length) (k:=2) (2+2) 2 (by simp) rfl (by omega) (by simp; omega);simpa[ofS,List.append_assoc] using this
 have h6:X0 (ofS cls++rest) (2+4) cls.length 2=some cls:=by
  have:=J19 cls (D4 8 2++D4 0 2++D4 cls.length 2) rest hb (2+4) (by simp);simpa[ofS,List.append_assoc] using this
 unfold A17 A04;rw[h0,Option.bind_some];simp only[show ¬ ((8:Int)=0) by decide,show ¬ ((8:Int)=2) by decide,show ¬ ((8:Int)=4) by decide,show ¬ ((8:Int)=6) by decide,if_false,if_true];unfold A44;rw[h2,Option.bind_some,h4,Option.bind_some,if_pos (by omega),h6,Option.map_some,Option.bind_some];unfold A9f;by_cases hc:cls=[]
 ·subst hc; rfl
 ·rw[if_neg hc,if_neg (show ¬ ((cls.length:Int)=0) by have:=List.length_pos_iff.2 hc; omega)];simp[P9]
end Go.Sw
end
section
set_option maxRecDepth 100000
namespace Go.Sw
noncomputable section
variable (k:Nat) (call:A8)
def B4u:Env→A2→Res (D0 × Env):=M4 (C k) call F.ζ8 [1,1,1,1,1,1,1,0,0,0]
def D4s:G0 Value:=D7 0 (E4 (B3 (C k) call F.ζ8 [1,1,1,1,1,1,1,1]) (G2 A0 (G3 A0 F.ζ8)))
def E2e(a0 a6 a8 a11 a12 a13:Value)(h:A2):Res (D0 × Env) :=
 E4 (B3 (C k) call F.ζ8 [1,1,1,1,1,1,1,0,0,0,1,0,1,1,1]) (D7 1 (M2 (Q2 (C k) F.ζ8 [1,1,1,1,1,1,1,0,0,0]))) .normal [(0,a0),(6,a6),(8,a8),(11,a11),(12,a12),(13,a13)] h
def E2f(a0 a6 a8 a11 a12 a13 a93:Value)(h:A2):Res (D0 × Env) :=
 E4 (B3 (C k) call F.ζ8 [1,1,1,1,1,1,1,0,0,0,1,0,1,1,1]) (D7 1 (M2 (Q2 (C k) F.ζ8 [1,1,1,1,1,1,1,0,0,0]))) .normal [(0,a0),(6,a6),(8,a8),(11,a11),(12,a12),(13,a13),(93,a93)] h
def D50(a0 a6 a8 a11 a12 a13:Value)(h:A2):Res (D0 × Env) :=
 E4 (B3 (C k) call F.ζ8 [1,1,1,1,1,1,1,0,0,0,1,0,1,1,1,1]) (D7 1 (M2 (Q2 (C k) F.ζ8 [1,1,1,1,1,1,1,0,0,0]))) .normal [(0,a0),(6,a6),(8,a8),(11,a11),(12,a12),(13,a13)] h
def D51(a0 a6 a8 a11 a12 a13 a115:Value)(h:A2):Res (D0 × Env) :=
 E4 (B3 (C k) call F.ζ8 [1,1,1,1,1,1,1,0,0,0,1,0,1,1,1,1]) (D7 1 (M2 (Q2 (C k) F.ζ8 [1,1,1,1,1,1,1,0,0,0]))) .normal [(0,a0),(6,a6),(8,a8),(11,a11),(12,a12),(13,a13),(115,a115)] h
def ζ8(a0 a1 a2:Value)(h:A2):Res Value :=
 (D1 A0 44 h).bind fun v0 h0=>(call F.ζ2 [a0,(.int .i64 0),(.int .i64 4)] h0).bind fun v1 h1=>(call F.ζ2 [a0,(.int .i64 8),(.int .i64 4)] h1).bind fun v2 h2=>(call F.ζ2 [a0,(.int .i64 12),(.int .i64 4)] h2).bind fun v3 h3=>(E0 A0 44 [(0,a0),(1,v1),(2,v2),(3,v3),(4,(.int .i64 2)),(6,a2)] h3).bind fun v4 h4=>(D1 A0 44 h4).bind fun v5 h5=>(B4 A0 44 v5 v4 h5).bind fun _v6 h6=>(call F.ζ2 [a0,(.int .i64 4),(.int .i64 4)] h6).bind fun v7 h7=>(A1 A0 44 v5 1 h7).bind fun v8 h8=>(A3 A0 3 v8 h8).bind fun v9 h9=>(A5 A0 .lss 3 v9 (.int .i64 4) h9).bind fun va ha=>(wV va false (A1 A0 44 v5 1 ha) ha).bind fun vb hb=>(wV va false (A3 A0 3 vb hb) hb).bind fun vc hc=>(wV va false (A5 A0 .gtr 3 vc (.int .i64 65535) hc) hc).bind fun vd hd=>(condV (some va) (Res.ok (.bool true) hd) (Res.ok vd hd)).bind fun ve he=>(wV ve false (A1 A0 44 v5 2 he) he).bind fun vf hf=>(wV ve false (A3 A0 3 vf hf) hf).bind fun vg hg=>(wV ve false (A5 A0 .lss 3 vg (.int .i64 0) hg) hg).bind fun vh hh=>(condV (some ve) (Res.ok (.bool true) hh) (Res.ok vh hh)).bind fun vi hi=>(wV vi false (A1 A0 44 v5 3 hi) hi).bind fun vj hj=>(wV vi false (A3 A0 3 vj hj) hj).bind fun vk hk=>(wV vi false (A5 A0 .lss 3 vk (.int .i64 0) hk) hk).bind fun vl hl=>(condV (some vi) (Res.ok (.bool true) hl) (Res.ok vl hl)).bind fun vm hm=>(wV vm false (A1 A0 44 v5 2 hm) hm).bind fun vn hn=>(wV vm false (A3 A0 3 vn hn) hn).bind fun vo ho=>(wV vm false (Res.ok a0 ho) ho).bind fun vp hp=>(wV vm false (A6 A0 .len [22] [vp] hp) hp).bind fun vq hq=>(wV vm false (A5 A0 .gtr 3 vo vq hq) hq).bind fun vr hr=>(condV (some vm) (Res.ok (.bool true) hr) (Res.ok vr hr)).bind fun vs hs=>(wV vs false (A1 A0 44 v5 3 hs) hs).bind fun vt ht=>(wV vs false (A3 A0 3 vt ht) ht).bind fun vu hu=>(wV vs false (Res.ok a0 hu) hu).bind fun vv hv=>(wV vs false (A6 A0 .len [22] [vv] hv) hv).bind fun vw hw=>(wV vs false (A5 A0 .gtr 3 vu vw hw) hw).bind fun vx hx=>(condV (some vs) (Res.ok (.bool true) hx) (Res.ok vx hx)).bind fun vy hy=>(wV vy false (Res.ok v7 hy) hy).bind fun vz hz=>(wV vy false (A5 A0 .lss 3 vz (.int .i64 0) hz) hz).bind fun v10 h10=>(condV (some vy) (Res.ok (.bool true) h10) (Res.ok v10 h10)).bind fun v11 h11=>(wV v11 false (Res.ok v7 h11) h11).bind fun v12 h12=>(wV v11 false (Res.ok a0 h12) h12).bind fun v13 h13=>(wV v11 false (A6 A0 .len [22] [v13] h13) h13).bind fun v14 h14=>(wV v11 false (A5 A0 .gtr 3 v12 v14 h14) h14).bind fun v15 h15=>(condV (some v11) (Res.ok (.bool true) h15) (Res.ok v15 h15)).bind fun v16 h16=>
 condV (some v16) (
 (E0 A0 44 [] h16).bind fun v17 h17=>(B4 A0 44 v0 v17 h17).bind fun _v18 h18=>(A3 A0 44 v0 h18).bind fun v19 h19=>
 .ok (.tuple #[v19,(.bool false)]) h19)
 (
 (A06 A0 22 a0 (some v7) none none h16).bind fun v1a h1a=>(call F.ζt [v1a,a1,(.int .i64 2)] h1a).bind fun v1b h1b=>(B5 v1b 0 h1b).bind fun v1c h1c=>(B5 v1b 1 h1c).bind fun v1d h1d=>(D1 A0 42 h1d).bind fun v1e h1e=>(B4 A0 42 v1e v1c h1e).bind fun _v1f h1f=>(A3 A0 42 v1e h1f).bind fun v1g h1g=>(A1 A0 44 v5 7 h1g).bind fun v1h h1h=>(B4 A0 42 v1h v1g h1h).bind fun _v1i h1i=>(A5 A0 .mul 3 (.int .i64 2) a2 h1i).bind fun v1j h1j=>(A5 A0 .add 3 (.int .i64 4) v1j h1j).bind fun v1k h1k=>(loopN (B4u k call) B8 [(0,a0),(6,v0),(8,v5),(11,v1d),(12,v1k)] h1k).bind fun r115 h1l=>
 D4s k call r115.1 r115.2 h1l)
theorem G37(k:Nat)(a0 a1 a2:Value)(h:A2):R (T k) F.ζ8 [a0,a1,a2] h=nrm .fz h (ζ8 k (R (T k)) a0 a1 a2 h) :=G9
theorem B2u(a0 a6 a8 a11 a12:Value)(h:A2):B4u k call [(0,a0),(6,a6),(8,a8),(11,a11),(12,a12)] h =
 condV (some a11) (
 (A3 A0 44 a8 h).bind fun v0 h0=>(D1 A0 44 h0).bind fun v1 h1=>(B4 A0 44 v1 v0 h1).bind fun _v2 h2=>(A6 A0 .len [22] [a0] h2).bind fun v3 h3=>(A1 A0 44 a8 2 h3).bind fun v4 h4=>(A3 A0 3 v4 h4).bind fun v5 h5=>(A1 A0 44 a8 4 h5).bind fun v6 h6=>(A3 A0 3 v6 h6).bind fun v7 h7=>(A1 A0 44 a8 1 h7).bind fun v8 h8=>(A3 A0 3 v8 h8).bind fun v9 h9=>(A5 A0 .mul 3 (.int .i64 2) v9 h9).bind fun va ha=>(call F.ζn [v3,v5,v7,va] ha).bind fun vb hb=>
 condV (some vb) (
 (A1 A0 44 a8 5 hb).bindN fun vc hc=>(A3 A0 3 vc hc).bindN fun vd hd=>(A1 A0 44 a8 2 hd).bindN fun ve he=>(A3 A0 3 ve he).bindN fun vf hf=>(A1 A0 44 a8 4 hf).bindN fun vg hg=>(A3 A0 3 vg hg).bindN fun vh hh=>(A1 A0 44 a8 1 hh).bindN fun vi hi=>(A3 A0 3 vi hi).bindN fun vj hj=>(A5 A0 .mul 3 vh vj hj).bindN fun vk hk=>(call F.A8o [a0,vf,vk,(.int .i64 2)] hk).bindT (fun p161 hl=>.panic p161 hl) fun vl hm=>(A6 A0 .max [3,3] [vd,vl] hm).bindN fun vm hn=>(A1 A0 44 a8 5 hn).bindN fun vn ho=>(B4 A0 3 vn vm ho).bindN fun _vo hp=>
 E6 ((A4 (A3 A0 3 vc hm) vd && true) && true) (
 (A6 A0 .len [22] [a0] hp).bind fun vp hq=>(A1 A0 44 a8 3 hq).bind fun vq hr=>(A3 A0 3 vq hr).bind fun vr hs=>(A1 A0 44 a8 5 hs).bind fun vs ht=>(A3 A0 3 vs ht).bind fun vt hu=>(call F.ζn [vp,vr,vt,a12] hu).bind fun vu hv=>
 E2e k call a0 a6 a8 vu a12 v1 hv))
 (
 E2f k call a0 a6 a8 vb a12 v1 vb hb))
 (
 .ok ((.exit 0),[(0,a0),(6,a6),(8,a8),(12,a12),(81,a11)]) h) :=
 (E2 _ _).trans (by kernel_rfl)
theorem D18(a0 a6 a8 a11 a12 a13:Value)(h:A2):E2e k call a0 a6 a8 a11 a12 a13 h =
 condV (some a11) (
 (A1 A0 44 a8 4 h).bindN fun v0 h0=>(A3 A0 3 v0 h0).bindN fun v1 h1=>(A1 A0 44 a8 3 h1).bindN fun v2 h2=>(A3 A0 3 v2 h2).bindN fun v3 h3=>(A1 A0 44 a8 5 h3).bindN fun v4 h4=>(A3 A0 3 v4 h4).bindN fun v5 h5=>(call F.A8o [a0,v3,v5,a12] h5).bindT (fun p195 h6=>.panic p195 h6) fun v6 h7=>(A6 A0 .max [3,3] [v1,v6] h7).bindN fun v7 h8=>(A1 A0 44 a8 4 h8).bindN fun v8 h9=>(B4 A0 3 v8 v7 h9).bindN fun _v9 ha=>
 E6 ((A4 (A3 A0 3 v0 h7) v1 && true) && true) (
 D50 k call a0 a6 a8 a11 a12 a13 ha))
 (
 D51 k call a0 a6 a8 a11 a12 a13 a11 h):=by kernel_rfl
theorem G0s(a0 a6 a8 a11 a12 a13 a93:Value)(h:A2):E2f k call a0 a6 a8 a11 a12 a13 a93 h =
 condV (some a11) (
 (A1 A0 44 a8 4 h).bindN fun v0 h0=>(A3 A0 3 v0 h0).bindN fun v1 h1=>(A1 A0 44 a8 3 h1).bindN fun v2 h2=>(A3 A0 3 v2 h2).bindN fun v3 h3=>(A1 A0 44 a8 5 h3).bindN fun v4 h4=>(A3 A0 3 v4 h4).bindN fun v5 h5=>(call F.A8o [a0,v3,v5,a12] h5).bindT (fun p217 h6=>.panic p217 h6) fun v6 h7=>(A6 A0 .max [3,3] [v1,v6] h7).bindN fun v7 h8=>(A1 A0 44 a8 4 h8).bindN fun v8 h9=>(B4 A0 3 v8 v7 h9).bindN fun _v9 ha=>
 E6 ((A4 (A3 A0 3 v0 h7) v1 && true) && true) (
 D50 k call a0 a6 a8 a11 a12 a13 ha))
 (
 D51 k call a0 a6 a8 a11 a12 a13 a11 h):=by kernel_rfl
theorem D4a(a0 a6 a8 a11 a12 a13:Value)(h:A2):D50 k call a0 a6 a8 a11 a12 a13 h =
 (wV a11 true (A1 A0 44 a8 4 h) h).bind fun v0 h0=>(wV a11 true (A3 A0 3 v0 h0) h0).bind fun v1 h1=>(wV a11 true (A1 A0 44 a13 4 h1) h1).bind fun v2 h2=>(wV a11 true (A3 A0 3 v2 h2) h2).bind fun v3 h3=>(wV a11 true (A5 A0 .eql 3 v1 v3 h3) h3).bind fun v4 h4=>(condV (some a11) (Res.ok v4 h4) (Res.ok (.bool false) h4)).bind fun v5 h5=>(wV v5 true (A1 A0 44 a8 5 h5) h5).bind fun v6 h6=>(wV v5 true (A3 A0 3 v6 h6) h6).bind fun v7 h7=>(wV v5 true (A1 A0 44 a13 5 h7) h7).bind fun v8 h8=>(wV v5 true (A3 A0 3 v8 h8) h8).bind fun v9 h9=>(wV v5 true (A5 A0 .eql 3 v7 v9 h9) h9).bind fun va ha=>(condV (some v5) (Res.ok va ha) (Res.ok (.bool false) ha)).bind fun vb hb=>
 condV (some vb) (
 (A3 A0 44 a8 hb).bind fun vc hc=>(B4 A0 44 a6 vc hc).bind fun _vd hd=>
 .ok (.ret,[(6,a6),(7,(.bool true))]) hd)
 (
 .ok (.normal,[(0,a0),(6,a6),(8,a8),(11,a11),(12,a12)]) hb):=by kernel_rfl
theorem E16(a0 a6 a8 a11 a12 a13 a115:Value)(h:A2):D51 k call a0 a6 a8 a11 a12 a13 a115 h =
 (wV a11 true (A1 A0 44 a8 4 h) h).bind fun v0 h0=>(wV a11 true (A3 A0 3 v0 h0) h0).bind fun v1 h1=>(wV a11 true (A1 A0 44 a13 4 h1) h1).bind fun v2 h2=>(wV a11 true (A3 A0 3 v2 h2) h2).bind fun v3 h3=>(wV a11 true (A5 A0 .eql 3 v1 v3 h3) h3).bind fun v4 h4=>(condV (some a11) (Res.ok v4 h4) (Res.ok (.bool false) h4)).bind fun v5 h5=>(wV v5 true (A1 A0 44 a8 5 h5) h5).bind fun v6 h6=>(wV v5 true (A3 A0 3 v6 h6) h6).bind fun v7 h7=>(wV v5 true (A1 A0 44 a13 5 h7) h7).bind fun v8 h8=>(wV v5 true (A3 A0 3 v8 h8) h8).bind fun v9 h9=>(wV v5 true (A5 A0 .eql 3 v7 v9 h9) h9).bind fun va ha=>(condV (some v5) (Res.ok va ha) (Res.ok (.bool false) ha)).bind fun vb hb=>
 condV (some vb) (
 (A3 A0 44 a8 hb).bind fun vc hc=>(B4 A0 44 a6 vc hc).bind fun _vd hd=>
 .ok (.ret,[(6,a6),(7,(.bool true))]) hd)
 (
 .ok (.normal,[(0,a0),(6,a6),(8,a8),(11,a11),(12,a12)]) hb):=by kernel_rfl
theorem E0w(a0 a6 a8 a12 a81:Value)(h:A2):D4s k call (.exit 0) [(0,a0),(6,a6),(8,a8),(12,a12),(81,a81)] h =
 (E0 A0 44 [] h).bind fun v0 h0=>(B4 A0 44 a6 v0 h0).bind fun _v1 h1=>(A3 A0 44 a6 h1).bind fun v2 h2=>
 .ok (.tuple #[v2,(.bool false)]) h2:=by kernel_rfl
theorem G0t(a6 a7:Value)(h:A2):D4s k call .ret [(6,a6),(7,a7)] h =
 (A3 A0 44 a6 h).bind fun v0 h0=>
 .ok (.tuple #[v0,a7]) h0:=by kernel_rfl
def E20(a2 a4 a5 a6:Value)(h:A2):Res Value :=
 E4 (B3 (C k) call F.ζi [1,1,1,1]) (G2 A0 (G3 A0 F.ζi)) .normal [(2,a2),(4,a4),(5,a5),(6,a6)] h
def E21(a2 a4 a5 a6 a28:Value)(h:A2):Res Value :=
 E4 (B3 (C k) call F.ζi [1,1,1,1]) (G2 A0 (G3 A0 F.ζi)) .normal [(2,a2),(4,a4),(5,a5),(6,a6),(28,a28)] h
def D4q(a4 a6:Value)(h:A2):Res Value :=
 E4 (B3 (C k) call F.ζi [1,1,1,1,1]) (G2 A0 (G3 A0 F.ζi)) .normal [(4,a4),(6,a6)] h
def D4r(a2 a4 a5 a6 a37:Value)(h:A2):Res Value :=
 E4 (B3 (C k) call F.ζi [1,1,1,1,1]) (G2 A0 (G3 A0 F.ζi)) .normal [(2,a2),(4,a4),(5,a5),(6,a6),(37,a37)] h
def ζi(a0 a1:Value)(h:A2):Res Value :=
 (K9 a0 h).bind fun v0 h0=>(D1 A0 129 h0).bind fun v1 h1=>(A1 A0 44 v0 3 h1).bind fun v2 h2=>(A3 A0 3 v2 h2).bind fun v3 h3=>(A1 A0 44 v0 6 h3).bind fun v4 h4=>(A3 A0 3 v4 h4).bind fun v5 h5=>(A5 A0 .mul 3 (.int .i64 2) v5 h5).bind fun v6 h6=>(A5 A0 .add 3 (.int .i64 4) v6 h6).bind fun v7 h7=>(A5 A0 .mul 3 a1 v7 h7).bind fun v8 h8=>(A5 A0 .add 3 v3 v8 h8).bind fun v9 h9=>(A1 A0 44 v0 0 h9).bindN fun va ha=>(A3 A0 22 va ha).bindN fun vb hb=>(call F.ζ2 [vb,v9,(.int .i64 2)] hb).bindT (fun p27 hc=>(A1 A0 44 v0 0 hb).bindN fun vc hd=>(A3 A0 22 vc hd).bindN fun vd he=>(A5 A0 .add 3 v9 (.int .i64 2) he).bindN fun ve hf=>(D1 A0 129 hf).bindN fun vf hg=>E6 ((A4 (A3 A0 22 vc h9) vd && true) && true) (.panic p27 hc)) fun vg hh=>(A1 A0 44 v0 0 hh).bindN fun vh hi=>(A3 A0 22 vh hi).bindN fun vi hj=>(A5 A0 .add 3 v9 (.int .i64 2) hj).bindN fun vj hk=>(call F.ζ2 [vi,vj,(.int .i64 2)] hk).bindT (fun p45 hl=>(D1 A0 129 hk).bindN fun vk hm=>E6 ((A4 (A3 A0 22 vh h9) vi && true) && true) (.panic p45 hl)) fun vl hn=>(E0 A0 129 [(0,vg),(1,vl)] hn).bindN fun vm ho=>(D1 A0 129 ho).bindN fun vn hp=>(B4 A0 129 vn vm hp).bindN fun _vo hq=>
 E6 ((A4 (A3 A0 22 vh h9) vi && true) && true) (
 (A1 A0 44 v0 6 hq).bind fun vp hr=>(A3 A0 3 vp hr).bind fun vq hs=>(A5 A0 .gtr 3 vq (.int .i64 0) hs).bind fun vr ht=>
 condV (some vr) (
 (A1 A0 44 v0 0 ht).bind fun vs hu=>(A3 A0 22 vs hu).bind fun vt hv=>(A5 A0 .add 3 v9 (.int .i64 4) hv).bind fun vu hw=>(call F.ζ2 [vt,vu,(.int .i64 2)] hw).bind fun vv hx=>(A1 A0 129 vn 2 hx).bind fun vw hy=>(B4 A0 3 vw vv hy).bind fun _vx hz=>
 E20 k call v0 v1 v9 vn hz)
 (
 E21 k call v0 v1 v9 vn vr ht))
theorem G1t(k:Nat)(a0 a1:Value)(h:A2):R (T k) F.ζi [a0,a1] h=nrm .gc h (ζi k (R (T k)) a0 a1 h) :=G9
theorem E0u(a2 a4 a5 a6:Value)(h:A2):E20 k call a2 a4 a5 a6 h =
 (A1 A0 44 a2 6 h).bind fun v0 h0=>(A3 A0 3 v0 h0).bind fun v1 h1=>(A5 A0 .gtr 3 v1 (.int .i64 1) h1).bind fun v2 h2=>
 condV (some v2) (
 (A1 A0 44 a2 0 h2).bind fun v3 h3=>(A3 A0 22 v3 h3).bind fun v4 h4=>(A5 A0 .add 3 a5 (.int .i64 6) h4).bind fun v5 h5=>(call F.ζ2 [v4,v5,(.int .i64 2)] h5).bind fun v6 h6=>(A1 A0 129 a6 3 h6).bind fun v7 h7=>(B4 A0 3 v7 v6 h7).bind fun _v8 h8=>
 D4q k call a4 a6 h8)
 (
 D4r k call a2 a4 a5 a6 v2 h2):=by kernel_rfl
theorem G0d(a2 a4 a5 a6 a28:Value)(h:A2):E21 k call a2 a4 a5 a6 a28 h =
 (A1 A0 44 a2 6 h).bind fun v0 h0=>(A3 A0 3 v0 h0).bind fun v1 h1=>(A5 A0 .gtr 3 v1 (.int .i64 1) h1).bind fun v2 h2=>
 condV (some v2) (
 (A1 A0 44 a2 0 h2).bind fun v3 h3=>(A3 A0 22 v3 h3).bind fun v4 h4=>(A5 A0 .add 3 a5 (.int .i64 6) h4).bind fun v5 h5=>(call F.ζ2 [v4,v5,(.int .i64 2)] h5).bind fun v6 h6=>(A1 A0 129 a6 3 h6).bind fun v7 h7=>(B4 A0 3 v7 v6 h7).bind fun _v8 h8=>
 D4q k call a4 a6 h8)
 (
 D4r k call a2 a4 a5 a6 v2 h2):=by kernel_rfl
theorem G0e(a4 a6:Value)(h:A2):D4q k call a4 a6 h =
 (A3 A0 129 a6 h).bind fun v0 h0=>(B4 A0 129 a4 v0 h0).bind fun _v1 h1=>(A3 A0 129 a4 h1).bind fun v2 h2=>
 .ok v2 h2:=by kernel_rfl
theorem E0v(a2 a4 a5 a6 a37:Value)(h:A2):D4r k call a2 a4 a5 a6 a37 h =
 (A3 A0 129 a6 h).bind fun v0 h0=>(B4 A0 129 a4 v0 h0).bind fun _v1 h1=>(A3 A0 129 a4 h1).bind fun v2 h2=>
 .ok v2 h2:=by kernel_rfl
def D4t:Env→A2→Res (D0 × Env):=M4 (C k) call F.A8o [1,1,0,1,0,0]
def E1n:G0 Value:=D7 0 (E4 (B3 (C k) call F.A8o [1,1,1]) (G2 A0 (G3 A0 F.A8o)))
def A8o(a0 a1 a2 a3:Value)(h:A2):Res Value :=
 (loopN (D4t k call) B8 [(0,a0),(1,a1),(2,a2),(3,a3),(9,(.int .i64 0)),(10,(.int .i64 0))] h).bind fun r1 h0=>
 E1n k call r1.1 r1.2 h0
theorem G1u(k:Nat)(a0 a1 a2 a3:Value)(h:A2):R (T k) F.A8o [a0,a1,a2,a3] h=nrm .gc h (A8o k (R (T k)) a0 a1 a2 a3 h) :=G9
theorem E0x(a0 a1 a2 a3 a9 a10:Value)(h:A2):D4t k call [(0,a0),(1,a1),(2,a2),(3,a3),(9,a9),(10,a10)] h =
 (A5 A0 .lss 3 a10 a2 h).bind fun v0 h0=>
 condV (some v0) (
 (A5 A0 .mul 3 a10 a3 h0).bind fun v1 h1=>(A5 A0 .add 3 a1 v1 h1).bind fun v2 h2=>(call F.ζ2 [a0,v2,(.int .i64 2)] h2).bind fun v3 h3=>(A5 A0 .add 3 v3 (.int .i64 1) h3).bind fun v4 h4=>(A6 A0 .max [3,3] [a9,v4] h4).bind fun v5 h5=>(A5 A0 .add 3 a10 (.int .i64 1) h5).bind fun v6 h6=>
 .ok (.normal,[(0,a0),(1,a1),(2,a2),(3,a3),(9,v5),(10,v6)]) h6)
 (
 .ok ((.exit 0),[(0,a0),(1,a1),(2,a2),(3,a3),(9,a9),(10,a10),(13,v0)]) h0) :=
 (E2 _ _).trans (by kernel_rfl)
theorem G05(a0 a1 a2 a3 a9 a10 a13:Value)(h:A2):E1n k call (.exit 0) [(0,a0),(1,a1),(2,a2),(3,a3),(9,a9),(10,a10),(13,a13)] h =
 .ok a9 h:=by kernel_rfl
def B0b(k:Nat)(call:A8)(a0 a1:Value)(h:A2):Res Value :=
 (K9 a0 h).bind fun v0 h0=>(A5 A0 .eql 3 a1 (.int .i64 65535) h0).bind fun v1 h1=>
 condV (some v1) (
 .ok (.int .i64 2) h1)
 (
 (A1 A0 44 v0 7 h1).bind fun v2 h2=>(A3 A0 42 v2 h2).bind fun v3 h3=>(call F.A6h [v3,a1] h3).bind fun v4 h4=>(B5 v4 0 h4).bind fun v5 h5=>(B5 v4 1 h5).bind fun v6 h6=>(unR .not v6 h6).bind fun v7 h7=>(wV v7 false (Res.ok v5 h7) h7).bind fun v8 h8=>(wV v7 false (A1 A0 44 v0 1 h8) h8).bind fun v9 h9=>(wV v7 false (A3 A0 3 v9 h9) h9).bind fun va ha=>(wV v7 false (A5 A0 .geq 3 v8 va ha) ha).bind fun vb hb=>(condV (some v7) (Res.ok (.bool true) hb) (Res.ok vb hb)).bind fun vc hc=>
 condV (some vc) (
 .ok (.int .i64 1) hc)
 (
 .ok v5 hc))
theorem G1s(k:Nat)(a0 a1:Value)(h:A2):R (T k) F.B0b [a0,a1] h=nrm .gc h (B0b k (R (T k)) a0 a1 h) :=G9
def A8p(k:Nat)(call:A8)(a0 a1 a2:Value)(h:A2):Res Value :=
 (K9 a0 h).bind fun v0 h0=>(D1 A0 129 h0).bind fun v1 h1=>(A5 A0 .lss 3 a1 (.int .i64 0) h1).bind fun v2 h2=>(wV v2 false (Res.ok a1 h2) h2).bind fun v3 h3=>(wV v2 false (A1 A0 44 v0 4 h3) h3).bind fun v4 h4=>(wV v2 false (A3 A0 3 v4 h4) h4).bind fun v5 h5=>(wV v2 false (A5 A0 .geq 3 v3 v5 h5) h5).bind fun v6 h6=>(condV (some v2) (Res.ok (.bool true) h6) (Res.ok v6 h6)).bind fun v7 h7=>(wV v7 false (Res.ok a2 h7) h7).bind fun v8 h8=>(wV v7 false (A5 A0 .lss 3 v8 (.int .i64 0) h8) h8).bind fun v9 h9=>(condV (some v7) (Res.ok (.bool true) h9) (Res.ok v9 h9)).bind fun va ha=>(wV va false (Res.ok a2 ha) ha).bind fun vb hb=>(wV va false (A1 A0 44 v0 1 hb) hb).bind fun vc hc=>(wV va false (A3 A0 3 vc hc) hc).bind fun vd hd=>(wV va false (A5 A0 .geq 3 vb vd hd) hd).bind fun ve he=>(condV (some va) (Res.ok (.bool true) he) (Res.ok ve he)).bind fun vf hf=>
 condV (some vf) (
 (E0 A0 129 [] hf).bind fun vg hg=>(B4 A0 129 v1 vg hg).bind fun _vh hh=>(A3 A0 129 v1 hh).bind fun vi hi=>
 .ok (.tuple #[vi,(.bool false)]) hi)
 (
 (A3 A0 44 v0 hf).bindN fun vj hj=>(A1 A0 44 v0 0 hj).bindN fun vk hk=>(A3 A0 22 vk hk).bindN fun vl hl=>(A1 A0 44 v0 2 hl).bindN fun vm hm=>(A3 A0 3 vm hm).bindN fun vn hn=>(A1 A0 44 v0 1 hn).bindN fun vo ho=>(A3 A0 3 vo ho).bindN fun vp hp=>(A5 A0 .mul 3 a1 vp hp).bindN fun vq hq=>(A5 A0 .add 3 vq a2 hq).bindN fun vr hr=>(A5 A0 .mul 3 (.int .i64 2) vr hr).bindN fun vs hs=>(A5 A0 .add 3 vn vs hs).bindN fun vt ht=>(call F.ζ2 [vl,vt,(.int .i64 2)] ht).bindT (fun p63 hu=>.panic p63 hu) fun vu hv=>(call F.ζi [vj,vu] hv).bindT (fun p67 hw=>E6 ((A4 (A3 A0 44 v0 hv) vj && true) && true) (.panic p67 hw)) fun vv hx=>(B4 A0 129 v1 vv hx).bindN fun _vw hy=>
 E6 ((A4 (A3 A0 44 v0 hv) vj && true) && true) (
 (A3 A0 129 v1 hy).bind fun vx hz=>
 .ok (.tuple #[vx,(.bool true)]) hz))
theorem G38(k:Nat)(a0 a1 a2:Value)(h:A2):R (T k) F.A8p [a0,a1,a2] h=nrm .gc h (A8p k (R (T k)) a0 a1 a2 h) :=G9
end
end Go.Sw
end
section
namespace Go.Sw
open Go.RowKit
theorem D2.stAll{H0 H:A2}{L:List It}(h:D2 H0 H L)(i:Nat){c:Nat}{cells:List Value}{e:Nat}(hi:L[i]?=some (D9 c ⟨cells,e,false⟩))(vs:List Value)(n:Nat)(hn:cells.length=n)(hv:vs.length=n) :
  ∃ H',stR n (.pointer (some ⟨c,0,none⟩)) (.agg vs.toArray) H=.ok undef H'∧D2 H0 H' (L.set i (D9 c ⟨vs,e,false⟩))∧H'.n=H.n:=by
 have hg:=h.get i hi;refine⟨H.set c (some ⟨vs,e,false⟩),?_,h.step i hi (by simp) (fun d _ hd=>?_) _ ?_ fun b hb=>.inl hb,by simp⟩
 ·have hd:cells.drop vs.length=[]:=by rw[List.drop_eq_nil_iff]; omega
  simp[hg,hv,hd];rw[hv] at hd;rw[if_pos (by omega),hd];simp
 ·rw[A6j];exact fun e=>hd (show d ∈ [c] by simp[e])
 ·exact B5b _ _ _ (by rw[hg]; rfl)
theorem E68 (k:Nat) (b:List Int) (hb:Byt b) (i step:Int) (n:Nat) (hi:0≤i∧i<2 ^ 32) (hs:0≤step∧step≤8) (hn:n<2 ^ 33) (hl:b.length<2 ^ 31) (H:A2) :
  R (T k) F.A8o [lv B7 b,.int .i64 i,.int .i64 n,.int .i64 step] H=.ok (.int .i64 (A24 b i step n)) H:=by
 have hU:=fun j H'=>P0 k (H:=H') (Sl.lv H' 1 b) hb j 2 (by omega) (by omega);rw[G1u]
 obtain ⟨x,e',H1,hr,rfl,rfl,a,rfl⟩:=K5 (body:=D4t k (R (T k))) n
  (fun j e H'=>H'=H∧e=[(0,lv B7 b),(1,.int .i64 i),(2,.int .i64 n),(3,.int .i64 step),(9,.int .i64 (A24 b i step j)),(10,.int .i64 j)])
  (fun x e H'=>H'=H∧x=.exit 0∧∃ a,e=[(0,lv B7 b),(1,.int .i64 i),(2,.int .i64 n),(3,.int .i64 step),(9,.int .i64 (A24 b i step n)),(10,a),(13,.bool false)])
  (e0:=[(0,lv B7 b),(1,.int .i64 i),(2,.int .i64 n),(3,.int .i64 step),(9,.int .i64 0),(10,.int .i64 0)]) (H0:=H) ⟨rfl,rfl⟩ (by omega)
  (fun j e H' hj ⟨hH,he⟩=>by
   subst he hH;have hlt:(j:Int)<n:=by omega
   have hm0:0≤(j:Int)*step:=Int.mul_nonneg (by omega) hs.1;have hm1:(j:Int)*step≤8589934592*8:=Int.mul_le_mul (by omega) (by omega) (by omega) (by omega);have hu:∀ H',R (T k) F.ζ2 [lv B7 b,.int .i64 (i+(j:Int)*step),.int .i64 2] H'=.ok (.int .i64 (gU b (i+(j:Int)*step) 2)) H':=fun H'=>hU _ H';have hg:=X7 hb (i+(j:Int)*step);have hN:A24 b i step (j+1)=(if gU b (i+(j:Int)*step) 2+1>A24 b i step j then gU b (i+(j:Int)*step) 2+1 else A24 b i step j):=by
    unfold A24;rw[List.range_succ,List.map_append,List.map_singleton,D6k];split <;> omega
   refine .inl ⟨_,H',?_,rfl,rfl⟩;rw[E0x,hN];generalize gU b (i+(j:Int)*step) 2=y at *;simp -implicitDefEqProofs(disch:=omega) [hlt,hu])
  (fun e H' ⟨hH,he⟩=>by
   subst he hH;refine⟨.exit 0,_,H',?_,by simp,rfl,rfl,.int .i64 n,rfl⟩;rw[E0x];simp -implicitDefEqProofs)
 refine D8 (A0t.of ?_) (.int _ _);simp -implicitDefEqProofs [A8o,hr,G05]
abbrev M0(b:List Int)(n j q S N w:Int)(tb:List Int)(ps:List RP):List Value :=
 [lv B7 b,.int .i64 n,.int .i64 j,.int .i64 q,.int .i64 S,.int .i64 N,.int .i64 w,lv B7 tb,lv K3 ps]
abbrev rmV(r:A13):Value:=.agg (M0 r.b r.cl r.rowsAt r.entsAt r.states r.n r.words r.tb r.parts).toArray
theorem D3.rm(r:A13):D3 (rmV r):=.aggL (.cons (D3.B _) (.cons (.int _ _) (.cons (.int _ _) (.cons (.int _ _) (.cons (.int _ _) (.cons (.int _ _) (.cons (.int _ _) (.cons (D3.B _) (.cons (D3.RPs _) .nil)))))))))
abbrev rmZ:A13:=⟨[],0,0,0,0,0,0,[],[]⟩
def rmO(o:Option A13):Value:=rmV (o.getD rmZ)
abbrev W6:List Value:=[.slice none 0 0,.int .i64 0,.int .i64 0,.int .i64 0,.int .i64 0,.int .i64 0,.int .i64 0,.slice none 0 0,.slice none 0 0]
set_option maxHeartbeats 1000000 in
theorem J0p (k:Nat) (b:List Int) (hb:Byt b) (hl:b.length<2 ^ 31) {n w j q:Int} (hn:4≤n∧n≤65535) (hw:0≤w∧w≤2) {rv ev:List Int} (hrv:L5 b j=some rv) (hev:L5 b q=some ev) (tb:List Int) (ps:List RP) {H0 H:A2} {z c:Nat}
  (g:D2 H0 H [D9 z ⟨W6,1,false⟩,D9 c ⟨M0 b n j q 2 0 w tb ps,1,false⟩]) :
  match X6 rv ev n w 2 with
  | some x=>∃ H' S N,loopN (B4u k (R (T k))) B8 [(0,lv B7 b),(6,B6 z),(8,B6 c),(11,.bool true),(12,.int .i64 (4+2*w))] H=.ok (.ret,[(6,B6 z),(7,.bool true)]) H'∧Ext H0 H'∧H'.get z=some ⟨M0 b n j q S N w tb ps,1,false⟩∧S=x.1.length∧N=x.2.length
  | none=>∃ H',loopN (B4u k (R (T k))) B8 [(0,lv B7 b),(6,B6 z),(8,B6 c),(11,.bool true),(12,.int .i64 (4+2*w))] H=.ok (.exit 0,[(0,lv B7 b),(6,B6 z),(8,B6 c),(12,.int .i64 (4+2*w)),(81,.bool false)]) H'∧Ext H0 H'∧H'.get z=some ⟨W6,1,false⟩:=by
 have hj:=(A4f.1 hrv).1;have hq:=(A4f.1 hev).1;have hbE:=hb.rest hev;have hbR:=hb.rest hrv;obtain⟨n,rfl⟩:=Int.eq_ofNat_of_zero_le (show 0≤n by omega);have hRows:=fun i n z H'=>B58 k b.length i n z (by omega) (by omega) H'
 obtain ⟨x,e',H1,hr,hQ⟩:=A5i (body:=B4u k (R (T k)))
  (fun m e H'=>∃ (S N:Nat) (fl:Bool),e=[(0,lv B7 b),(6,B6 z),(8,B6 c),(11,.bool fl),(12,.int .i64 (4+2*w))]∧2≤S∧S≤65536∧N≤65536∧D2 H0 H' [D9 z ⟨W6,1,false⟩,D9 c ⟨M0 b n j q S N w tb ps,1,false⟩] ∧
   (fl=true→m=(65537 - S)*65538+(65537 - N)+1∧X6 rv ev n w 2=X6 rv ev n w S∧∀ rs,U2 rv n S=some rs→(N:Int)≤L9 rs)∧(fl=false→m=0∧X6 rv ev n w 2=none))
  (fun x e H'=>(∃ (y:List (List Int) × List En) (S N:Int),X6 rv ev n w 2=some y∧x=.ret∧e=[(6,B6 z),(7,.bool true)]∧Ext H0 H'∧H'.get z=some ⟨M0 b n j q S N w tb ps,1,false⟩∧S=y.1.length∧N=y.2.length) ∨
   (X6 rv ev n w 2=none∧x=.exit 0∧e=[(0,lv B7 b),(6,B6 z),(8,B6 c),(12,.int .i64 (4+2*w)),(81,.bool false)]∧Ext H0 H'∧H'.get z=some ⟨W6,1,false⟩))
  ((65537 - 2)*65538+65537+1) (e0:=[(0,lv B7 b),(6,B6 z),(8,B6 c),(11,.bool true),(12,.int .i64 (4+2*w))]) (H0:=H) ⟨2,0,true,rfl,by omega,by omega,by omega,g,fun _=>⟨rfl,rfl,fun rs _=>B8t rs⟩,fun h=>by cases h⟩ (by omega)
  (fun m e H' ⟨S,N,fl,he,hS2,hS6,hN6,g,ht,hf⟩=>by
   subst he;cases fl with
   | false=>
    obtain⟨hm,hc⟩:=hf rfl;refine .inr ⟨.exit 0,_,H',?_,by simp,.inr ⟨hc,rfl,rfl,g.ext,g.get 0 rfl⟩⟩;rw[B2u];simp -implicitDefEqProofs
   | true =>
    obtain⟨hm,hc,hNle⟩:=ht rfl;clear hf ht;have hcA:=E5p (rv:=rv) hbE (n:=(n:Int)) (w:=w) hS6;have hM:=g.get 1 rfl;have hcn:¬ c=H'.n:=by have:=A2.get_lt hM; omega
    have e0:stR 9 (.pointer (some ⟨H'.n,0,none⟩)) (.agg (M0 b n j q S N w tb ps).toArray) (H'.push ⟨W6,1,false⟩)=.ok undef (H'.push ⟨M0 b n j q S N w tb ps,1,false⟩):=by simp
    have g1:=g.push ⟨M0 b n j q S N w tb ps,1,false⟩;obtain⟨P,hP⟩:∃ P,P=H'.push ⟨M0 b n j q S N w tb ps,1,false⟩:=⟨_,rfl⟩
    rw[← hP] at g1 e0;simp only[List.cons_append,List.nil_append] at g1;have hMP:=g1.get 1 rfl;have hWP:=g1.get 2 rfl;have hre:=G8x hrv (show (0:Int)<n by omega) (s:=S) (by omega);have hR1:=fun H'=>hRows j S (2*n) H';cases hrt:U2 rv n S with
    | none=>
     rw[hrt] at hre;simp at hre;rw[hre] at hR1;rw[hrt] at hcA;refine .inl ⟨0,_,P,?_,by omega,S,N,false,rfl,hS2,hS6,hN6,g1.take 2,(fun h=>by cases h),fun _=>⟨rfl,by rw[hc,hcA]; rfl⟩⟩;rw[B2u];simp -implicitDefEqProofs(disch:=omega) [-Q3,hM,e0,hMP,hR1,G0s,E16]
    | some rs=>
     rw[hrt] at hre;simp at hre;rw[hre] at hR1;rw[hrt,Option.bind_some] at hcA;have hrl:rs.length=S:=by have:=U5 hrt; simpa using this
     have hneed:=G8w hrv (show (0:Int)<n by omega) hrt;have hNle:=hNle rs hrt;have hn6:=D6a hbR hrt;have hn0:=B8t rs;have hSn:(S:Int)*(n:Int)=((S*n:Nat):Int):=by simp
     have hSnb:S*n≤65536*65535:=Nat.mul_le_mul (by omega) (by omega);rw[Int.toNat_natCast] at hneed;have hnr:=fun H'=>E68 k b hb j 2 (S*n) (by omega) (by omega) (by omega) hl H';rw[hneed,← hSn] at hnr;obtain⟨N',hN'⟩:∃ N':Nat,(N':Int)=L9 rs:=⟨(L9 rs).toNat,by omega⟩
     have hmx:(if L9 rs>N then L9 rs else (N:Int))=(N':Int):=by rw[hN']; split <;> omega
     obtain⟨P2,e2,g2,_⟩:=g1.stCell 1 rfl 5 (v:=.int .i64 N') rfl rfl (by simp);simp only[List.set_cons_zero,List.set_cons_succ] at g2;have hMP2:=g2.get 1 rfl;have hWP2:=g2.get 2 rfl;have hR2:=fun H'=>hRows q N' (4+2*w) H';have hee:=G89 hev hw.1 N';have hb1:(S:Int)*(n:Int)≤65536*65535:=by omega
     have hb0:0≤(S:Int)*(n:Int):=by omega
     rw[show (L9 rs).toNat=N' by omega] at hcA;cases het:Y6 ev w N' with
     | none=>
      rw[het] at hee;simp at hee;rw[hee] at hR2;rw[het] at hcA;refine .inl ⟨0,_,P2,?_,by omega,S,N',false,rfl,hS2,hS6,by omega,g2.take 2,(fun h=>by cases h),fun _=>⟨rfl,by rw[hc,hcA]; rfl⟩⟩;rw[B2u];simp -implicitDefEqProofs(disch:=omega) [-Q3,hM,e0,hMP,hR1,hnr,hmx,e2,hMP2,hR2,D18,E16]
     | some es=>
      rw[het] at hee;simp at hee;rw[hee] at hR2;rw[het,Option.bind_some] at hcA;have hel:es.length=N':=by have:=U5 het; simpa using this
      have hE:=A2o hbE het;have hneed2:=G88 hev hw het;have hnr2:=fun H'=>E68 k b hb q (4+2*w) N' (by omega) (by omega) (by omega) hl H';rw[hneed2] at hnr2;obtain⟨S',hS'⟩:∃ S':Nat,(S':Int)=max (S:Int) (P8 es):=⟨(max (S:Int) (P8 es)).toNat,by omega⟩
      have hEe:P8 es=max 2 (P6 (es.map En.next)):=rfl;have hmx2:(if P6 (es.map En.next)>S then P6 (es.map En.next) else (S:Int))=(S':Int):=by rw[hS',hEe]; split <;> omega
      have hL6:P6 (es.map En.next)≤65536:=by omega
      obtain⟨P3,e3,g3,_⟩:=g2.stCell 1 rfl 4 (v:=.int .i64 S') rfl rfl (by simp);simp only[List.set_cons_zero,List.set_cons_succ] at g3;have hMP3:=g3.get 1 rfl;have hWP3:=g3.get 2 rfl;by_cases hsame:S'=S∧N'=N
      ·obtain⟨rfl,rfl⟩:=hsame;rw[if_pos (by omega)] at hcA;obtain⟨P4,e4,g4,_⟩:=g3.stAll 0 rfl (M0 b n j q S' N' w tb ps) 9 rfl rfl;simp only[List.set_cons_zero,List.set_cons_succ] at g4;refine .inr ⟨.ret,_,P4,?_,by simp,.inl ⟨_,S',N',by rw[hc,hcA],rfl,rfl,g4.ext,g4.get 0 rfl,by rw[hrl],by rw[hel]⟩⟩;rw[B2u];simp -implicitDefEqProofs(disch:=omega) [-Q3,hM,e0,hMP,hR1,hnr,hmx,e2,hMP2,hR2,D18,hnr2,hmx2,e3,hMP3,hWP3,D4a,e4]
      ·refine .inl ⟨(65537 - S')*65538+(65537 - N')+1,_,P3,?_,?_,S',N',true,rfl,by omega,by omega,by omega,g3.take 2,fun _=>⟨rfl,?_,?_⟩,fun h=>by cases h⟩
       ·by_cases hs1:S'=S
        ·have hs2:((N':Int) == (N:Int))=false:=by simp; omega
         subst hs1;rw[B2u];simp -implicitDefEqProofs(disch:=omega) [-Q3,hM,e0,hMP,hR1,hnr,hmx,e2,hMP2,hR2,D18,hnr2,hmx2,e3,hMP3,hWP3,D4a,hs2]
        ·have hs2:((S':Int) == (S:Int))=false:=by simp; omega
         rw[B2u];simp -implicitDefEqProofs(disch:=omega) [-Q3,hM,e0,hMP,hR1,hnr,hmx,e2,hMP2,hR2,D18,hnr2,hmx2,e3,hMP3,hWP3,D4a,hs2]
       ·omega
       ·rw[hc];by_cases hcl:(P8 es).toNat≤S
        ·rw[show S'=S by omega]
        ·rw[hcA,if_neg hcl,show S'=(P8 es).toNat by omega]
       ·intro rt hrt2;have:=G8l (s:=S) (t:=S') (by omega) hrt hrt2;omega)
 rcases hQ with⟨y,S,N,h1,rfl,rfl,h2,h3,h4⟩ | ⟨h1,rfl,rfl,h2,h3⟩
 ·rw[h1]; exact⟨H1,S,N,hr,h2,h3,h4⟩
 ·rw[h1]; exact⟨H1,hr,h2,h3⟩
theorem A78{b:List Int}(hb:Byt b)(i:Int):-1≤gU b i 4∧gU b i 4<4294967296:=by
 unfold gU;cases h:uS b i 4 with
 | none=>simp
 | some x=>have:=W5 hb h; simp; omega
theorem B3x{b:List Int}{i:Int}(h:¬ gU b i 4<0):uS b i 4=some (gU b i 4):=by
 unfold gU at h ⊢;cases hu:uS b i 4 with
 | none=>rw[hu] at h; simp at h
 | some x=>rfl
set_option maxHeartbeats 1000000 in
theorem G69 (k:Nat) (b:List Int) (hb:Byt b) (g w:Int) (hg:1≤g∧g≤65535) (hw:w=0∨w=1∨w=2) (hl:b.length<2 ^ 31) (H:A2) :
  R (T k) F.ζ8 [lv B7 b,.int .i64 g,.int .i64 w] H=.ok (.tuple #[rmO (V8 b g w),.bool (V8 b g w).isSome]) H:=by
 rw[G37];have hU:=fun j H'=>P0 k (H:=H') (Sl.lv H' 1 b) hb j 4 (by omega) (by omega);have u0:∀ H',R (T k) F.ζ2 [lv B7 b,.int .i64 0,.int .i64 4] H'=.ok (.int .i64 (gU b 0 4)) H':=fun H'=>hU _ H';have u4:∀ H',R (T k) F.ζ2 [lv B7 b,.int .i64 4,.int .i64 4] H'=.ok (.int .i64 (gU b 4 4)) H':=fun H'=>hU _ H';have u8:∀ H',R (T k) F.ζ2 [lv B7 b,.int .i64 8,.int .i64 4] H'=.ok (.int .i64 (gU b 8 4)) H':=fun H'=>hU _ H';have u12:∀ H',R (T k) F.ζ2 [lv B7 b,.int .i64 12,.int .i64 4] H'=.ok (.int .i64 (gU b 12 4)) H':=fun H'=>hU _ H';have b0:=A78 hb 0;have b4:=A78 hb 4;have b8:=A78 hb 8;have b12:=A78 hb 12;have fl:∀ o:Option A13,D3 (.tuple #[rmO o,.bool o.isSome]):=fun o=>.tupleL (.cons (D3.rm _) (.cons (.bool _) .nil));obtain⟨n,hn⟩:∃ n,gU b 0 4=n:=⟨_,rfl⟩
 obtain⟨i,hi⟩:∃ i,gU b 4 4=i:=⟨_,rfl⟩
 obtain⟨j,hj⟩:∃ j,gU b 8 4=j:=⟨_,rfl⟩
 obtain⟨q,hq⟩:∃ q,gU b 12 4=q:=⟨_,rfl⟩
 rw[hn] at u0 b0;rw[hi] at u4 b4;rw[hj] at u8 b8;rw[hq] at u12 b12;obtain⟨M1,hM1⟩:∃ M1:Blk,M1=⟨[lv B7 b,.int .i64 n,.int .i64 j,.int .i64 q,.int .i64 2,.int .i64 0,.int .i64 w,.slice none 0 0,.slice none 0 0],1,false⟩:=⟨_,rfl⟩
 have hx2:Ext H ((H.push ⟨W6,1,false⟩).push M1):=((Ext.refl H).push _).push _
 -- one thing is not as it should be
 have no:Z5 b g w=none→ζ8 k (R (T k)) (lv B7 b) (.int .i64 g) (.int .i64 w) H=.ok (.tuple #[.agg W6.toArray,.bool false]) ((H.push ⟨W6,1,false⟩).push M1)→nrm .fz H (ζ8 k (R (T k)) (lv B7 b) (.int .i64 g) (.int .i64 w) H)=.ok (.tuple #[rmO (V8 b g w),.bool (V8 b g w).isSome]) H:=fun h1 h2=>by
  have:V8 b g w=none:=by unfold V8; rw[h1]; rfl
  rw[this];exact G7 (L:=[]) h2 rfl hx2 (fl none).alive
 have n0:∀ m,Z5 b g w=some m→(4≤n∧n≤65535)∧0≤i∧i≤b.length∧0≤j∧j≤b.length∧0≤q∧q≤b.length:=fun m hm=>by
  obtain⟨i',j',q',tb,rv,ev,x,h0,h1,h2,h3,h4,h5,h6,h7,h8,h9,_⟩:=D64 hm;have e0:=L8 h0;have e3:=L8 h3;have e6:=L8 h6;have e8:=L8 h8;rw[hn] at e0;rw[hi] at e3;rw[hj] at e6;rw[hq] at e8;have r4:=(A4f.1 h4).1;have r7:=(A4f.1 h7).1;have r9:=(A4f.1 h9).1;omega
 have nn:¬ ((4≤n∧n≤65535)∧0≤i∧i≤b.length∧0≤j∧j≤b.length∧0≤q∧q≤b.length)→Z5 b g w=none:=fun h=>by
  cases hm:Z5 b g w with
  | none=>rfl
  | some m=>exact absurd (n0 m hm) h
 by_cases c1:n<4
 ·refine no (nn (by omega)) ?_;rw[hM1];simp -implicitDefEqProofs(disch:=omega) [ζ8,u0,u4,u8,u12,c1]
 by_cases c2:n>65535
 ·refine no (nn (by omega)) ?_;rw[hM1];simp -implicitDefEqProofs(disch:=omega) [ζ8,u0,u4,u8,u12,c1,c2]
 by_cases c3:j<0
 ·refine no (nn (by omega)) ?_;rw[hM1];simp -implicitDefEqProofs(disch:=omega) [ζ8,u0,u4,u8,u12,c1,c2,c3]
 by_cases c4:q<0
 ·refine no (nn (by omega)) ?_;rw[hM1];simp -implicitDefEqProofs(disch:=omega) [ζ8,u0,u4,u8,u12,c1,c2,c3,c4]
 by_cases c5:j>b.length
 ·refine no (nn (by omega)) ?_;rw[hM1];simp -implicitDefEqProofs(disch:=omega) [ζ8,u0,u4,u8,u12,c1,c2,c3,c4,c5]
 by_cases c6:q>b.length
 ·refine no (nn (by omega)) ?_;rw[hM1];simp -implicitDefEqProofs(disch:=omega) [ζ8,u0,u4,u8,u12,c1,c2,c3,c4,c5,c6]
 by_cases c7:i<0
 ·refine no (nn (by omega)) ?_;rw[hM1];simp -implicitDefEqProofs(disch:=omega) [ζ8,u0,u4,u8,u12,c1,c2,c3,c4,c5,c6,c7]
 by_cases c8:i>b.length
 ·refine no (nn (by omega)) ?_;rw[hM1];simp -implicitDefEqProofs(disch:=omega) [ζ8,u0,u4,u8,u12,c1,c2,c3,c4,c5,c6,c7,c8]
 clear no nn n0;have hU0:=B3x (b:=b) (i:=0) (by omega);have hU4:=B3x (b:=b) (i:=4) (by omega);have hU8:=B3x (b:=b) (i:=8) (by omega);have hU12:=B3x (b:=b) (i:=12) (by omega);rw[hn] at hU0;rw[hi] at hU4;rw[hj] at hU8;rw[hq] at hU12;obtain⟨tb,htb⟩:∃ tb,tb=b.drop i.toNat:=⟨_,rfl⟩
 have r4:L5 b i=some tb:=A4f.2 ⟨by omega,htb⟩;have r8:L5 b j=some (b.drop j.toNat):=A4f.2 ⟨by omega,rfl⟩;have r12:L5 b q=some (b.drop q.toNat):=A4f.2 ⟨by omega,rfl⟩;have hsl:=fun H'=>B04 E9 b (some (.int .i64 i)) none none i.toNat b.length b.length (by unfold E5; dsimp only; rw[if_pos (by omega)]) rfl rfl (fun h=>by cases h) (by omega) (Nat.le_refl _) (Nat.le_refl _) H';rw[List.take_length,← htb] at hsl;have htbb:Byt tb:=hb.rest r4;have htbl:tb.length<2 ^ 31:=by rw[htb]; simp; omega
 have hrd:=fun H'=>E52 k tb htbb g 2 hg (.inl rfl) htbl H';have hlr:=A5h htbb hg.1 hg.2 (.inl rfl:(2:Int)=2∨(2:Int)=4);have hmach:Z5 b g w=(A17 tb g 2).bind fun tab=>(X6 (b.drop j.toNat) (b.drop q.toNat) n w 2).map fun x=>⟨n,tab,x.1,x.2⟩:=by
  unfold Z5;rw[hU0,Option.bind_some,if_pos (by omega),hU4,Option.bind_some,r4,Option.bind_some];congr 1;funext tab;rw[hU8,Option.bind_some,r8,Option.bind_some,hU12,Option.bind_some,r12,Option.bind_some]
 cases hlk:A17 tb g 2 with
 | none=>
  have hm:V8 b g w=none:=by unfold V8; rw[hmach,hlk]; rfl
  rw[hm];have hrr:=hlr.2 hlk;rw[hrr] at hrd;simp only[A9g,Option.isSome_none] at hrd
  obtain ⟨x,e',H1,hr,rfl,rfl,rfl⟩:=A5i (body:=B4u k (R (T k)))
   (fun m e H'=>H'=(((H.push ⟨W6,1,false⟩).push ⟨M0 b n j q 2 0 w [] [],1,false⟩).push ⟨[lv B7 [],lv K3 []],1,false⟩)∧e=[(0,lv B7 b),(6,B6 H.n),(8,B6 (H.n+1)),(11,.bool false),(12,.int .i64 (4+2*w))])
   (fun x e H'=>H'=(((H.push ⟨W6,1,false⟩).push ⟨M0 b n j q 2 0 w [] [],1,false⟩).push ⟨[lv B7 [],lv K3 []],1,false⟩)∧x=.exit 0∧e=[(0,lv B7 b),(6,B6 H.n),(8,B6 (H.n+1)),(12,.int .i64 (4+2*w)),(81,.bool false)])
   0 (e0:=[(0,lv B7 b),(6,B6 H.n),(8,B6 (H.n+1)),(11,.bool false),(12,.int .i64 (4+2*w))]) (H0:=(((H.push ⟨W6,1,false⟩).push ⟨M0 b n j q 2 0 w [] [],1,false⟩).push ⟨[lv B7 [],lv K3 []],1,false⟩)) ⟨rfl,rfl⟩ (by omega)
   (fun m e H' ⟨hH,he⟩=>by
    subst hH he;refine .inr ⟨.exit 0,_,_,?_,by simp,rfl,rfl,rfl⟩;rw[B2u];simp -implicitDefEqProofs)
  refine G7 (L:=[]) (v:=.tuple #[.agg W6.toArray,.bool false]) (H':=((H.push ⟨W6,1,false⟩).push ⟨M0 b n j q 2 0 w [] [],1,false⟩).push ⟨[lv B7 [],lv K3 []],1,false⟩) ?_ rfl ((((Ext.refl H).push _).push _).push _) (fl none).alive;simp -implicitDefEqProofs(disch:=omega) [ζ8,u0,u4,u8,u12,c1,c2,c3,c4,c5,c6,c7,c8,hsl,hrd,hr,E0w]
 | some tab=>
  obtain⟨ps,hps,hrel⟩:=hlr.1 tab hlk;rw[hps] at hrd;simp only[A9g,Option.isSome_some] at hrd;have st:=((D2.nil H).push ⟨W6,1,false⟩).push ⟨M0 b n j q 2 0 w tb ps,1,false⟩;have st:=st.rest ((Ext.refl _).push ⟨[lv B7 tb,lv K3 ps],1,false⟩);have hlp:=J0p k b hb hl (n:=n) (w:=w) (by omega) (by omega) r8 r12 tb ps (by simpa using st);cases hcl:X6 (b.drop j.toNat) (b.drop q.toNat) n w 2 with
  | none=>
   have hm:V8 b g w=none:=by unfold V8; rw[hmach,hlk,Option.bind_some,hcl]; rfl
   rw[hm];rw[hcl] at hlp;obtain⟨H2,hr,hx,hz⟩:=hlp;have hgs:(H2.set H.n (some ⟨W6,1,false⟩)).get H.n=some ⟨W6,1,false⟩:=B5b _ _ _ (by rw[hz]; rfl);have hx3:Ext H (H2.set H.n (some ⟨W6,1,false⟩)):=⟨by simpa using hx.1,fun d hd hs=>by rw[A6j _ _ _ _ (by omega)]; exact hx.2 d hd hs⟩
   refine G7 (L:=[]) (v:=.tuple #[.agg W6.toArray,.bool false]) (H':=H2.set H.n (some ⟨W6,1,false⟩)) ?_ rfl hx3 (fl none).alive;simp -implicitDefEqProofs(disch:=omega) [ζ8,u0,u4,u8,u12,c1,c2,c3,c4,c5,c6,c7,c8,hsl,hrd,hr,E0w,hz,hgs]
  | some x=>
   have hm:V8 b g w=some (A0o b g w ⟨n,tab,x.1,x.2⟩):=by unfold V8; rw[hmach,hlk,Option.bind_some,hcl]; rfl
   rw [hm];rw[hcl] at hlp;obtain⟨H2,S,N,hr,hx,hz,rfl,rfl⟩:=hlp;have hrm:rmO (some (A0o b g w ⟨n,tab,x.1,x.2⟩))=.agg (M0 b n j q x.1.length x.2.length w tb ps).toArray:=by
    unfold rmO A0o;rw[hj,hq,hi,← htb,hps];rfl
   have fl2:=fl (some (A0o b g w ⟨n,tab,x.1,x.2⟩));rw[hrm] at fl2 ⊢;refine G7 (L:=[]) (v:=.tuple #[.agg (M0 b n j q x.1.length x.2.length w tb ps).toArray,.bool true]) (H':=H2) ?_ rfl hx fl2.alive;simp -implicitDefEqProofs(disch:=omega) [ζ8,u0,u4,u8,u12,c1,c2,c3,c4,c5,c6,c7,c8,hsl,hrd,hr,G0t,hz]
theorem B41{b:List Int}(hb:Byt b){g w:Int}(hw:0≤w∧w≤2){m:Q7}(h:Z5 b g w=some m) :
  (0≤gU b 8 4∧gU b 8 4≤b.length)∧(0≤gU b 12 4∧gU b 12 4≤b.length) ∧
  (∀ (i:Nat) e,m.ents[i]?=some e→e=⟨gU b (gU b 12 4+(i:Int)*(4+2*w)) 2,gU b (gU b 12 4+(i:Int)*(4+2*w)+2) 2,if 0<w then gU b (gU b 12 4+(i:Int)*(4+2*w)+4) 2 else 0,if 1<w then gU b (gU b 12 4+(i:Int)*(4+2*w)+6) 2 else 0⟩) ∧
  ∀ (s c:Nat) r x,m.rows[s]?=some r→r[c]?=some x→x=gU b (gU b 8 4+(m.classes*s+(c:Nat))*2) 2:=by
 obtain⟨i,j,q,tb,rv,ev,x,h0,h1,h2,h3,h4,h5,h6,h7,h8,h9,h10,h11,h12⟩:=D64 h;have e6:=L8 h6;have e8:=L8 h8;rw[e6,e8];obtain⟨c1,c2,c3,c4,c5,c6,c7,_⟩:=D6x (hb.rest h7) (hb.rest h9) (by omega) hw _ _ x (by omega) (by omega) h10;refine⟨(A4f.1 h7).1,(A4f.1 h9).1,fun i e he=>?_,fun s c r x' hr hx=>?_⟩
 ·rw[h12] at he;obtain⟨y,g1,g2⟩:=A5n c7 (List.getElem?_eq_some_iff.1 he).1;rw[he] at g2;injection g2 with g2;subst g2;exact B6o h9 hw g1
 ·rw[h11] at hr;obtain⟨y,g1,g2⟩:=A5n c6 (List.getElem?_eq_some_iff.1 hr).1;rw[hr] at g2;injection g2 with g2;subst g2;have hra:=B7j h7 (by omega) g1;have hlt:=(List.getElem?_eq_some_iff.1 hx).1;rw[hra] at hx hlt;simp at hlt;rw[List.getElem?_map,List.getElem?_range (by omega)] at hx;injection hx with hx;exact hx.symm
theorem E4r(k:Nat){b:List Int}(hb:Byt b){g w:Int}(hw:w=0∨w=1∨w=2)(hl:b.length<2 ^ 31){m:Q7}(h:Z5 b g w=some m){i:Int}(hi0:0≤i)(hi6:i≤65536){e:En}(he:m.ents[i.toNat]?=some e)(H:A2) :
  R (T k) F.ζi [rmV (A0o b g w m),.int .i64 i] H=.ok (.agg (E7 e).toArray) H:=by
 obtain⟨_,hq,hat,_⟩:=B41 hb (by omega) h;have he:=hat _ _ he;clear hat;obtain⟨i,rfl⟩:=Int.eq_ofNat_of_zero_le hi0;rw[Int.toNat_natCast] at he;obtain⟨p,hp⟩:∃ p,p=gU b 12 4+(i:Int)*(4+2*w):=⟨_,rfl⟩
 have hm0:0≤(i:Int)*(4+2*w):=Int.mul_nonneg (by omega) (by omega);have hm1:(i:Int)*(4+2*w)≤65536*8:=Int.mul_le_mul (by omega) (by omega) (by omega) (by omega);have hU:=fun j H'=>P0 k (H:=H') (Sl.lv H' 1 b) hb j 2 (by omega) (by omega);have hu:∀ j H',R (T k) F.ζ2 [lv B7 b,.int .i64 j,.int .i64 2] H'=.ok (.int .i64 (gU b j 2)) H':=fun j H'=>hU j H';rw[G1t];rw[← hp] at he;have hx:Ext H (((H.push ⟨M0 b m.classes (gU b 8 4) (gU b 12 4) m.rows.length m.ents.length w (b.drop (gU b 4 4).toNat) ((V9 (b.drop (gU b 4 4).toNat) g 2).getD []),1,false⟩).push ⟨E7 e,1,false⟩).push ⟨E7 e,1,false⟩):=(((Ext.refl H).push _).push _).push _;refine D8 ⟨_,?_,hx⟩ (D3.ofEn e).alive;subst he;unfold A0o;rcases hw with rfl | rfl | rfl
 ·simp -implicitDefEqProofs at hm0 hm1 hp;simp -implicitDefEqProofs(disch:=omega) [ζi,← hp,hu,G0d,E0v]
 ·simp -implicitDefEqProofs at hm0 hm1 hp;simp -implicitDefEqProofs(disch:=omega) [ζi,← hp,hu,E0u,E0v]
 ·simp -implicitDefEqProofs at hm0 hm1 hp;simp -implicitDefEqProofs(disch:=omega) [ζi,← hp,hu,E0u,G0e]
theorem G80 (k:Nat) {b:List Int} (hb:Byt b) {g w:Int} (hg:1≤g∧g≤65535) (hl:b.length<2 ^ 31) {m:Q7} (hm:m.ok) (h:Z5 b g w=some m) (id:Int) (H:A2) :
  R (T k) F.B0b [rmV (A0o b g w m),.int .i64 id] H=.ok (.int .i64 (A1t m id)) H:=by
 obtain ⟨i,j,q,tb,rv,ev,x,h0,h1,h2,h3,h4,h5,_⟩:=D64 h;have e3:=L8 h3;obtain⟨hi,htb⟩:=A4f.1 h4;have htbb:Byt tb:=hb.rest h4;have htbl:=A73 h4;obtain⟨ps,hps,hrel⟩:=(A5h htbb hg.1 hg.2 (.inl rfl:(2:Int)=2∨(2:Int)=4)).1 _ h5;have hget:=fun H'=>D29 k tb htbb ps (E53 htbb hg (.inl rfl) hps) (E4a htbb hg (.inl rfl) h5 hps) (by omega) id H';rw[← A9r (id:=id) hrel hm.pts hm.rise] at hget;have hrm:rmV (A0o b g w m)=.agg (M0 b m.classes (gU b 8 4) (gU b 12 4) m.rows.length m.ents.length w tb ps).toArray:=by
  unfold A0o;rw[e3,← htb,hps];rfl
 rw[hrm,G1s];refine D8 ⟨_,?_,(Ext.refl H).push ⟨M0 b m.classes (gU b 8 4) (gU b 12 4) m.rows.length m.ents.length w tb ps,1,false⟩⟩ (.int _ _);unfold A1t;by_cases h:id=65535
 ·subst h;simp -implicitDefEqProofs(disch:=omega) [B0b]
 ·have h':(id == 65535)=false:=by simpa using h
  rw[if_neg h];cases hg:A28 m.tab.2 id with
  | none=>
   rw[hg] at hget;simp -implicitDefEqProofs(disch:=omega) [B0b,h',hget]
  | some x=>
   rw[hg] at hget;dsimp only;by_cases hx:x<m.classes
   ·have hx':¬ x≥m.classes:=by omega
    simp -implicitDefEqProofs(disch:=omega) [B0b,h',hget,hx,hx']
   ·have hx':x≥m.classes:=by omega
    simp -implicitDefEqProofs(disch:=omega) [B0b,h',hget,hx,hx']
end Go.Sw
end
section
namespace Go.Sw
theorem D9x{r:List Da}{cs:List Value}(h:M5 [.int .i64] r cs):∃ n:Int,cs=N3 n∧(Lit.int .i64 n).wf=true:=by
 obtain⟨d,v,ds,vs,rfl,h1,h2⟩:=h.head;obtain rfl:=h2.done;obtain⟨n,rfl,w⟩:=h1.intv;exact⟨n,rfl,w⟩
theorem B89{n:Int}(h:(Lit.int .u8 n).wf=true):0≤n∧n<256:=by
 simp[Lit.wf,IntKind.min,IntKind.max,IntKind.signed,IntKind.bits] at h;omega
theorem D2m{r:List Da}{cs:List Value}(h:M5 [.int .u8] r cs):∃ n:Int,cs=B7 n∧(0≤n∧n<256):=by
 obtain⟨d,v,ds,vs,rfl,h1,h2⟩:=h.head;obtain rfl:=h2.done;obtain⟨n,rfl,w⟩:=h1.intv;exact⟨n,rfl,B89 w⟩
end Go.Sw
end
section
namespace Go.Sw
open Go.RowKit
theorem B2o(l:List RP):veq (lv K3 l) (lv K3 l)=true:=A45 fun p _ v hv=>by
 simp[K3] at hv;rcases hv with rfl | rfl | rfl | rfl | rfl <;> simp
theorem B2q(r:A13):veq (rmV r) (rmV r)=true:=U7 fun v hv=>by
 simp[M0] at hv;rcases hv with rfl | rfl | rfl | rfl | rfl | rfl | rfl | rfl | rfl
 ·simp
 ·simp
 ·simp
 ·simp
 ·simp
 ·simp
 ·simp
 ·simp
 ·exact B2o _
theorem J13(k:Nat){b:List Int}(hb:Byt b){g w:Int}(hw:w=0∨w=1∨w=2)(hl:b.length<2 ^ 31){m:Q7}(hm:m.ok)(h:Z5 b g w=some m)(s c:Int)(H:A2) :
  R (T k) F.A8p [rmV (A0o b g w m),.int .i64 s,.int .i64 c] H=.ok (.tuple #[Z9 (X2 m s c),.bool (X2 m s c).isSome]) H:=by
 rw[G38];have fl:D3 (.tuple #[Z9 (X2 m s c),.bool (X2 m s c).isSome]):=.tupleL (.cons (D6f _) (.cons (.bool _) .nil));have no:¬ (0≤s∧s<m.rows.length∧0≤c∧c<m.classes)→X2 m s c=none:=fun h=>by unfold X2; rw[if_neg h]
 have hx1:Ext H (H.push ⟨M0 b m.classes (gU b 8 4) (gU b 12 4) m.rows.length m.ents.length w (b.drop (gU b 4 4).toNat) ((V9 (b.drop (gU b 4 4).toNat) g 2).getD []),1,false⟩):=(Ext.refl H).push _;have hx:=hx1.push ⟨[.int .i64 0,.int .i64 0,.int .i64 0,.int .i64 0],1,false⟩;obtain⟨r,hr⟩:∃ r,r=A0o b g w m:=⟨_,rfl⟩
 have hent:=fun i h0 h6 e he H=>E4r k hb (g:=g) hw hl h (i:=i) h0 h6 (e:=e) he H;rw[← hr] at hent ⊢;have r1:r.states=m.rows.length:=by rw[hr]; rfl
 have r2:r.cl=m.classes:=by rw[hr]; rfl
 have r3:r.rowsAt=gU b 8 4:=by rw[hr]; rfl
 have r4:r.b=b:=by rw[hr]; rfl
 have hx1:Ext H (H.push ⟨M0 r.b r.cl r.rowsAt r.entsAt r.states r.n r.words r.tb r.parts,1,false⟩):=(Ext.refl H).push _;have hx:=hx1.push ⟨[.int .i64 0,.int .i64 0,.int .i64 0,.int .i64 0],1,false⟩;have hcl:=hm.cl;by_cases h1:s<0
 ·rw[no (by omega)] at fl ⊢;refine D8 ⟨_,?_,hx⟩ fl.alive;simp -implicitDefEqProofs(disch:=omega) [A8p,h1,Z9]
 by_cases h2:s≥m.rows.length
 ·rw[no (by omega)] at fl ⊢;refine D8 ⟨_,?_,hx⟩ fl.alive;simp -implicitDefEqProofs(disch:=omega) [A8p,h1,h2,r1,Z9]
 by_cases h3:c<0
 ·rw[no (by omega)] at fl ⊢;refine D8 ⟨_,?_,hx⟩ fl.alive;simp -implicitDefEqProofs(disch:=omega) [A8p,h1,h2,h3,r1,Z9]
 by_cases h4:c≥m.classes
 ·rw[no (by omega)] at fl ⊢;refine D8 ⟨_,?_,hx⟩ fl.alive;simp -implicitDefEqProofs(disch:=omega) [A8p,h1,h2,h3,h4,r1,r2,Z9]
 obtain⟨row,x,e,hrow,hxx,hx0,he,hs⟩:=D6s hm (s:=s) (c:=c) (by omega);rw[hs] at fl ⊢;obtain⟨hj,_,_,hat⟩:=B41 hb (by omega) h;have hpos:=hat s.toNat c.toNat row x hrow hxx;have hxm:=(hm.row row (List.mem_of_getElem? hrow)).2 x (List.mem_of_getElem? hxx);have hel:=hm.elen;have htwo:=hm.two;obtain⟨s,rfl⟩:=Int.eq_ofNat_of_zero_le (show 0≤s by omega);obtain⟨c,rfl⟩:=Int.eq_ofNat_of_zero_le (show 0≤c by omega);simp only[Int.toNat_natCast] at hpos;have hm0:0≤(s:Int)*m.classes:=Int.mul_nonneg (by omega) (by omega);have hm1:(s:Int)*m.classes≤65536*65535:=Int.mul_le_mul (by omega) (by omega) (by omega) (by omega);have hpe:gU b 8 4+(m.classes*(s:Int)+(c:Nat))*2=gU b 8 4+2*((s:Int)*m.classes+(c:Int)):=by rw[Int.mul_comm m.classes]; omega
 rw [hpe] at hpos;have hU:=fun j H'=>P0 k (H:=H') (Sl.lv H' 1 b) hb j 2 (by omega) (by omega);have hu:∀ H',R (T k) F.ζ2 [lv B7 b,.int .i64 (gU b 8 4+2*((s:Int)*m.classes+(c:Int))),.int .i64 2] H'=.ok (.int .i64 x) H':=fun H'=>by
  rw[hU]; unfold gU at hpos; rw[hpos]; rfl
 have he':=hent x hx0 (by omega) e he;have hq:=B2q r;refine D8 ⟨(H.push ⟨M0 r.b r.cl r.rowsAt r.entsAt r.states r.n r.words r.tb r.parts,1,false⟩).push ⟨E7 e,1,false⟩,?_,hx1.push _⟩ fl.alive;simp only[rmV,M0,r1,r2,r3,r4] at he' hq ⊢;simp -implicitDefEqProofs(disch:=omega) at he' hq ⊢;simp -implicitDefEqProofs(disch:=omega) [A8p,h1,h2,h3,h4,hu,he',hq,Z9]
theorem G68 {p:A0s} (hp:p.ok) (w:Int) {rm:List Int} (hrm:Byt rm):Byt (K6 p w rm):=by
 have tw:∀ l,Byt (Y0 l):=fun l=>Byt.flat fun r hr=>by obtain⟨c,_,rfl⟩:=List.mem_map.1 hr; exact ζy _ _
 unfold K6;refine (ζy _ _).app ((ζy _ _).app ((ζy _ _).app ((ζy _ _).app (hrm.app (Byt.app ?_ (Byt.app ?_ ?_))))))
 ·unfold ofS;exact (((ζy _ _).app (ζy _ _)).app (ζy _ _)).app (tw _)
 ·exact Byt.flat fun r hr=>by obtain⟨c,_,rfl⟩:=List.mem_map.1 hr; exact tw _
 ·refine Byt.flat fun r hr=>?_;obtain⟨e,_,rfl⟩:=List.mem_map.1 hr;unfold B15;refine (((ζy _ _).app (ζy _ _)).app ?_).app ?_
  ·split
   ·exact ζy _ _
   ·exact Byt.nil
  ·split
   ·exact ζy _ _
   ·exact Byt.nil
theorem E3p{p:A0s}(hp:p.ok)(w:Int){rm:List Int}(hrm:rm.length≤1000)(h1:p.cls.length≤1000)(h2:p.rows.length≤1000)(h3:p.ents.length≤1000):(K6 p w rm).length≤100000:=by
 have hN:=B1l p hp.2.2;have hofl:(ofS p.cls).length=6+p.cls.length*2:=by unfold ofS; simp[X3]; omega
 have hrl:(rowsL (A2e p) p.rows).length≤1000*22:=by rw[D78]; exact Nat.mul_le_mul h2 (by omega)
 have hel:=D28 w p.ents;unfold K6;simp;omega
theorem D3o{r:List Da}{cs:List Value}(h:M5 [.int .i64,.int .i64,.int .i64,.int .i64] r cs):∃ p:En,cs=E7 p∧True:=by
 obtain⟨_,v1,_,_,rfl,h1,h⟩:=h.head;obtain⟨_,v2,_,_,rfl,h2,h⟩:=h.head;obtain⟨_,v3,_,_,rfl,h3,h⟩:=h.head;obtain⟨_,v4,_,_,rfl,h4,h⟩:=h.head;obtain rfl:=h.done;obtain⟨a,rfl,_⟩:=h1.intv;obtain⟨b,rfl,_⟩:=h2.intv;obtain⟨c,rfl,_⟩:=h3.intv;obtain⟨d,rfl,_⟩:=h4.intv;exact⟨⟨a,b,c,d⟩,rfl,trivial⟩
theorem D3n{r:List Da}{cs:List Value}(h:M5 [.slice [.int .u8]] r cs):∃ b:List Int,cs=B13 b∧Byt b:=by
 obtain⟨_,v1,_,_,rfl,h1,h⟩:=h.head;obtain rfl:=h.done;obtain⟨b,rfl,hb⟩:=Lay.list (enc:=B7) (ok:=fun n=>0≤n∧n<256) (fun r cs h=>D2m h) h1;exact⟨b,rfl,hb⟩
end Go.Sw
end
section
namespace Go.Sw
open Go.RowKit
variable {σ:Type}
def D7d(k:Nat)(m:Q7)(H0:A2)(W:σ→List It)(Inv:σ→Prop)(a:Value)(g:σ→Int→En→σ):Prop :=
 ∀ s i e H X,Inv s→D2 H0 H (W s++X)→0≤i→i<2 ^ 50→e ∈ m.ents →
  ∃ v H',callV (R (T k)) a [.int .i64 i,B6k e] H=.ok v H'∧D2 H0 H' (W (g s i e)++X)∧Inv (g s i e)
theorem B7h(k:Nat){m:Q7}{H0:A2}{W:σ→List It}{Inv:σ→Prop}{a:Value}{g:σ→Int→En→σ}(h:D7d k m H0 W Inv a g)(p:Nat) :
  B5m k m H0 (fun s=>W s++[D9 p ⟨[a],1,false⟩]) Inv (.func (.func F.B0c) #[] #[B6 p]) (fun s i e=>(g s i e,i,i+1)):=by
 intro s i e H X hI st h0 h1 he;have st2:=st.push ⟨E7 e,1,false⟩;have hp:=st2.memBlk (c:=p) (k:=⟨[a],1,false⟩) (by simp);have hpn:¬ p=H.n:=by have:=A2.get_lt (st.memBlk (c:=p) (k:=⟨[a],1,false⟩) (by simp)); omega
 obtain ⟨v,H',e1,st3,hI2⟩:=h s i e (H.push ⟨E7 e,1,false⟩) ([D9 p ⟨[a],1,false⟩]++X++[D9 H.n ⟨E7 e,1,false⟩]) hI (by simpa[List.append_assoc] using st2) h0 h1 he;have st4:D2 H0 H' (W (g s i e)++[D9 p ⟨[a],1,false⟩]++X):=by
  have:W (g s i e)++([D9 p ⟨[a],1,false⟩]++X++[D9 H.n ⟨E7 e,1,false⟩])=(W (g s i e)++[D9 p ⟨[a],1,false⟩]++X)++[D9 H.n ⟨E7 e,1,false⟩]:=by simp
  rw[this] at st3;exact st3.ζk1
 refine⟨H',?_,st4,hI2,by dsimp only; omega,by dsimp only; omega⟩;simp only[callV,List.nil_append,List.cons_append];rw[G2v,A0y];simp -implicitDefEqProofs(disch:=omega) [B0c,hp,hpn,e1]
end Go.Sw
end
section
set_option maxRecDepth 100000
namespace Go.Sw
noncomputable section
variable (k:Nat) (call:A8)

end
end Go.Sw
end
section
namespace Go.Sw
open Go.RowKit
end Go.Sw
end
