/-
  Functions' forms, and what is proved of them, part 5.
-/
import Derived.Test.YtanfippcmdialaaGreatSwW4
import Derived.Test.YtanfippcmdialaaGreatSwCfg
import Derived.Test.YtanfippcmdialaaGreatSwW3
set_option linter.unusedSimpArgs false
set_option linter.unusedVariables false
set_option linter.unusedSectionVars false
section
namespace Go.Sw
open Go.RowKit
abbrev W0(m:Q7):Value:=boxV #[.int .i64 m.classes,W4 m.tab,lv A0u m.rows,lv E7 m.ents]
theorem D3.rowsL(l:List (List Int)):D3 (Go.Sw.lv A0u l):=.lv fun p _=>.cons (D3.I _) .nil
theorem D3.mach(m:Q7):D3 (W0 m):=.boxV (l:=[.int .i64 m.classes,W4 m.tab,Go.Sw.lv A0u m.rows,Go.Sw.lv E7 m.ents]) (.cons (.int _ _) (.cons (D3.tab _) (.cons (D3.rowsL _) (.cons (D3.Ens _) .nil))))
theorem J0w(l:List (List Int × Value)):rows (fun x:List Int × Value=>A0u x.1) l=rows A0u (l.map Prod.fst):=by
 induction l with
 | nil=>rfl
 | cons x l ih=>rw[List.map_cons,A6l,A6l,ih]
theorem MS.freeze{H0 H:A2}{X:List It}{c:Nat}{n:Int}{t:Int × List Pt}{rs:List (List Int)}{es:List En}(h:MS H0 H X c n (W4 t) rs es):∃ L,fzV H0.n H N9 (B6 c)=some (W0 ⟨n,t,rs,es⟩,L):=by
 obtain ⟨l,s1,o1,s2,o2,bs,h1,g,h3⟩:=h;have hc:=(g.lt 0 rfl c (by simp[D9])).1;obtain⟨L1,f1⟩:=(g.own 1 rfl).freezeG (enc':=fun x:List Int × Value=>A0u x.1) A7v 5 fun x hx=>by
  obtain⟨o,ho⟩:=h3 x hx;obtain⟨L,hL⟩:=(g.memOwn (o:=o) (m:=1) (s:=x.2) (enc:=N3) (l:=x.1) (by simp[ho])).freeze N0 (B90 _) 4;exact⟨_,X1 hL⟩
 obtain ⟨L2,f2⟩:=(g.own 2 rfl).freeze B28 (E3z _) 5;have e1:lv (fun x:List Int × Value=>A0u x.1) l=lv A0u rs:=by
  unfold lv;rw[J0w,h1,← h1,List.length_map]
 rw[e1] at f1;exact⟨_,A9p hc (g.get 0 rfl) (A1k (v:=.int .i64 n) (u:=.int .i64 n) (L1:=[]) rfl (A1k (v:=W4 t) (u:=W4 t) (L1:=[]) rfl (A1k f1 (X1 f2))))⟩
theorem A8e{H:A2}{v:Value}{b r:List Int}(hv:Sl H 1 v B7 b){i:Int}(hl:b.length<2 ^ 62)(hi:i≤9223372036854775807)(h:L5 b i=some r):Sl H 1 (X9 1 v i.toNat (A1r b i).toNat) B7 r :=
 A6k hv (by rw[D5w b i hl hi]; exact h)
theorem A73{b r:List Int}{i:Int}(h:L5 b i=some r):r.length≤b.length:=by
 unfold L5 at h;split at h
 ·injection h with h;subst h;simp
 ·cases h
theorem G5p(k:Nat){H:A2}{v:Value}{b:List Int}(hv:Sl H 1 v B7 b)(hb:Byt b)(g w:Int)(hg1:1≤g)(hg2:g≤65535)(hw:w=0∨w=1∨w=2)(hl:b.length<2 ^ 31) :
  R (T k) F.A66 [.agg #[v],.int .i64 g,.int .i64 w] H=orF (Z5 b g w) W0 H:=by
 rw[G6d];have hx:Ext H (H.push ⟨[v],1,false⟩):=(Ext.refl H).push _;have hq:=A4l hv;have hqa:veq (.agg #[v]) (.agg #[v])=true:=U7 (l:=[v]) fun u hu=>by simp at hu; subst hu; exact hq
 refine A3p ?_ fun _ _=>(D3.mach _).alive;simp -implicitDefEqProofs [A66];unfold Z5;refine Cp.call (A0z k (hv.up hx) hb 0 (by omega)) hx fun n hn=>?_;have hn:=W5 hb hn;by_cases h4:4≤n;rotate_left
 ·have h4':¬ n≥4:=by omega
  rw[if_neg (fun h=>h4 h.1)];simp -implicitDefEqProofs(disch:=omega) [h4'];exact .throw hx
 have h4':n≥4:=h4;by_cases h5:n≤65535;rotate_left
 ·rw[if_neg (fun h=>h5 h.2)];simp -implicitDefEqProofs(disch:=omega) [h4',h5];exact .throw hx
 rw[if_pos ⟨h4,h5⟩];simp -implicitDefEqProofs(disch:=omega) [h4',h5];refine Cp.callT (A0z k (hv.up hx) hb 4 (by omega)) (fun _=>⟨_,rfl,hx⟩) fun i hi=>?_;have hi:=W5 hb hi;refine Cp.callT (A4z k (hv.up hx) i (by omega) (by omega)) (fun _=>⟨_,by simp -implicitDefEqProofs(disch:=omega) [hqa],hx⟩) fun tb htb=>?_;refine Cp.callT (E3m k (A8e (hv.up hx) (by omega) (by omega) htb) (hb.rest htb) g 2 hg1 hg2 (.inl rfl) (by have:=A73 htb; omega)) (fun _=>⟨_,by simp -implicitDefEqProofs(disch:=omega) [hqa],hx⟩) fun tab htab=>?_;have hx2:Ext H ((H.push ⟨[v],1,false⟩).push ⟨[.int .i64 n,W4 tab,.slice none 0 0,.slice none 0 0],1,false⟩):=hx.push _;simp -implicitDefEqProofs(disch:=omega) [hqa];refine Cp.callT (A0z k (hv.up hx2) hb 8 (by omega)) (fun _=>⟨_,by simp -implicitDefEqProofs(disch:=omega) [hqa],hx2⟩) fun j hj=>?_;have hj:=W5 hb hj;refine Cp.callT (A4z k (hv.up hx2) j (by omega) (by omega)) (fun _=>⟨_,by simp -implicitDefEqProofs(disch:=omega) [hqa],hx2⟩) fun rv hrv=>?_;simp -implicitDefEqProofs(disch:=omega) [hqa];refine Cp.callT (A0z k (hv.up hx2) hb 12 (by omega)) (fun _=>⟨_,by simp -implicitDefEqProofs(disch:=omega) [hqa],hx2⟩) fun q hq=>?_;have hq:=W5 hb hq;refine Cp.callT (A4z k (hv.up hx2) q (by omega) (by omega)) (fun _=>⟨_,by simp -implicitDefEqProofs(disch:=omega) [hqa],hx2⟩) fun ev hev=>?_;have sR:=A8e hv (by omega) (by omega) hrv;have sE:=A8e hv (by omega) (by omega) hev;have lR:=A73 hrv;have lE:=A73 hev;generalize X9 1 v j.toNat (A1r b j).toNat=vR at sR;generalize X9 1 v q.toNat (A1r b q).toNat=vE at sE;have qR:=A4l sR;have qE:=A4l sE;have qaR:veq (.agg #[vR]) (.agg #[vR])=true:=U7 (l:=[vR]) fun u hu=>by simp at hu; subst hu; exact qR
 have qaE:veq (.agg #[vE]) (.agg #[vE])=true:=U7 (l:=[vE]) fun u hu=>by simp at hu; subst hu; exact qE
 have stR:=sR.storable;have stE:=sE.storable;have ceR:=sR.cells;have ceE:=sE.cells;have hms:MS H (((H.push ⟨[v],1,false⟩).push ⟨[.int .i64 n,W4 tab,.slice none 0 0,.slice none 0 0],1,false⟩).push ⟨[B6 (H.n+1),vR,vE,.int .i64 w],1,false⟩) [D9 (H.n+2) ⟨[B6 (H.n+1),vR,vE,.int .i64 w],1,false⟩] (H.n+1) n (W4 tab) [] []:=by
  have g:=((D2.nil H).rest hx).push ⟨[.int .i64 n,W4 tab,.slice none 0 0,.slice none 0 0],1,false⟩;have g:=g.more_row (Ext.refl _) (N2.nil A9m _ 1) (fun b hb=>by cases hb);have g:=g.more_row (Ext.refl _) (N2.nil E7 _ 4) (fun b hb=>by cases hb);have g:=g.push ⟨[B6 (H.n+1),vR,vE,.int .i64 w],1,false⟩;exact⟨[],_,none,_,none,[],rfl,by simpa using g,fun x hx=>by cases hx⟩
 simp -implicitDefEqProofs(disch:=omega) [hqa,qaR,qaE,stR,stE,ceR,ceE];refine Cp.bindM (B5z k (X:=[D9 (H.n+2) ⟨[B6 (H.n+1),vR,vE,.int .i64 w],1,false⟩]) (by omega) hw sR sE (hb.rest hrv) (hb.rest hev) (by omega) (by omega) (by simp) hms) ?_;rintro ⟨rs,es⟩ ⟨x,e⟩ H' _ hx' ⟨⟨a,b,he⟩,hm⟩;injection he with e1 e2;subst e1 e2;simp only[G2z];exact .ok hx' hm.freeze
theorem G9f (k:Nat) (m:Q7) (hm:m.ok) (id:Int) (H:A2):R (T k) F.B0a [W0 m,.int .i64 id] H=.ok (.int .i64 (A1t m id)) H:=by
 rw[G0j];refine D8 (A0t.of ?_) (.int _ _);have hget:=fun H=>A9h k m.tab hm.pts hm.rise id hm.plen H;unfold A1t;by_cases h:id=65535
 ·subst h;simp -implicitDefEqProofs(disch:=omega) [B0a]
 ·have h':(id == 65535)=false:=by simpa using h
  rw[if_neg h];cases hg:A28 m.tab.2 id with
  | none=>
   rw[hg] at hget;simp -implicitDefEqProofs(disch:=omega) [B0a,h',hget]
  | some x=>
   rw[hg] at hget;dsimp only;by_cases hx:x<m.classes
   ·simp -implicitDefEqProofs(disch:=omega) [B0a,h',hget,hx]
   ·simp -implicitDefEqProofs(disch:=omega) [B0a,h',hget,hx]
def Z9(o:Option En):Value:=.agg (E7 (o.getD ⟨0,0,0,0⟩)).toArray
theorem D6f(o:Option En):D3 (Z9 o):=D3.ofEn _
theorem D6s{m:Q7}(hm:m.ok){s c:Int}(h:0≤s∧s<m.rows.length∧0≤c∧c<m.classes) :
  ∃ r x e,m.rows[s.toNat]?=some r∧r[c.toNat]?=some x∧0≤x∧m.ents[x.toNat]?=some e∧X2 m s c=some e:=by
 obtain⟨r,hr⟩:∃ r,m.rows[s.toNat]?=some r:=⟨_,List.getElem?_eq_getElem (by omega)⟩
 have hrm:=hm.row r (List.mem_of_getElem? hr);obtain⟨x,hx⟩:∃ x,r[c.toNat]?=some x:=⟨_,List.getElem?_eq_getElem (by omega)⟩
 have hxm:=hrm.2 x (List.mem_of_getElem? hx);obtain⟨e,he⟩:∃ e,m.ents[x.toNat]?=some e:=⟨_,List.getElem?_eq_getElem (by omega)⟩
 refine⟨r,x,e,hr,hx,hxm.1,he,?_⟩;unfold X2;rw[if_pos h,hr,Option.bind_some,hx,Option.bind_some,he]
theorem B5w(k:Nat)(m:Q7)(hm:m.ok)(s c:Int)(H:A2):R (T k) F.A90 [W0 m,.int .i64 s,.int .i64 c] H=.ok (.tuple #[Z9 (X2 m s c),.bool (X2 m s c).isSome]) H:=by
 rw[G17];have fl:D3 (.tuple #[Z9 (X2 m s c),.bool (X2 m s c).isSome]):=.tupleL (.cons (D6f _) (.cons (.bool _) .nil));have no:¬ (0≤s∧s<m.rows.length∧0≤c∧c<m.classes)→X2 m s c=none:=fun h=>by unfold X2; rw[if_neg h]
 have hx:Ext H (H.push ⟨[.int .i64 0,.int .i64 0,.int .i64 0,.int .i64 0],1,false⟩):=(Ext.refl H).push _;by_cases h1:s<0
 ·rw[no (by omega)] at fl ⊢;refine D8 ⟨_,?_,hx⟩ fl.alive;simp -implicitDefEqProofs(disch:=omega) [A90,h1,Z9]
 by_cases h2:s≥m.rows.length
 ·rw[no (by omega)] at fl ⊢;refine D8 ⟨_,?_,hx⟩ fl.alive;simp -implicitDefEqProofs(disch:=omega) [A90,h1,h2,Z9]
 by_cases h3:c<0
 ·rw[no (by omega)] at fl ⊢;refine D8 ⟨_,?_,hx⟩ fl.alive;simp -implicitDefEqProofs(disch:=omega) [A90,h1,h2,h3,Z9]
 by_cases h4:c≥m.classes
 ·rw[no (by omega)] at fl ⊢;refine D8 ⟨_,?_,hx⟩ fl.alive;simp -implicitDefEqProofs(disch:=omega) [A90,h1,h2,h3,h4,Z9]
 obtain⟨r,x,e,hr,hxx,hx0,he,hs⟩:=D6s hm (s:=s) (c:=c) (by omega);rw[hs] at fl ⊢;have i1:=fun H'=>A34 G86 m.rows .i64 s r (by omega) hr H';have i2:=fun H'=>A34 N0 r .i64 c x (by omega) hxx H';have i3:=fun H'=>A34 B28 m.ents .i64 x e hx0 he H';refine D8 ⟨H.push ⟨E7 e,1,false⟩,?_,(Ext.refl H).push _⟩ fl.alive;simp -implicitDefEqProofs(disch:=omega) [A90,h1,h2,h3,h4,i1,i2,i3,Z9]
theorem G6f(k:Nat)(hk:k<1000000)(m:Q7)(hl:m.ents.length≤65536)(H:A2):R (T k) F.B4r [W0 m] H=.ok (lv E7 m.ents) H:=by
 have ho:own k=.fz:=by unfold own; rw[show Nat.blt k 1000000=true from Nat.ble_eq_true_of_le hk]; rfl
 rw[E9v,ho];have g:=(D2.nil H).more_row (Ext.refl _) (N2.bare E7 _ 4) (fun b hb=>by cases hb);obtain⟨s,o,H1,e1,g⟩:=g.append (bytes:=32) 0 B28 rfl (b:=lv E7 m.ents) (l2:=m.ents) rfl (A3r B28 m.ents H) (by simp; omega) (by decide);simp only[List.nil_append,List.set_cons_zero] at g;obtain⟨L,hf⟩:=(g.own 0 rfl).freeze B28 (E3z _) 6;refine G7 (v:=s) (H':=H1) ?_ hf g.ext (D3.Ens _).alive;simp -implicitDefEqProofs(disch:=omega) [B4r,e1]
end Go.Sw
end
section
set_option maxRecDepth 100000
namespace Go.Sw
noncomputable section
variable (k:Nat) (call:A8)
def D4l:Env→A2→Res (D0 × Env):=M4 (C k) call F.ζ3 [1,1,1,1,0,1,0,0]
def E1d:G0 Value:=D7 0 (E4 (B3 (C k) call F.ζ3 [1,1,1,1,1]) (G2 A0 (G3 A0 F.ζ3)))
def D4m:Env→A2→Res (D0 × Env):=M4 (C k) call F.ζ3 [1,1,1,1,1,1,0,1,0,0]
def E1e:G0 Value:=D7 2 (E4 (B3 (C k) call F.ζ3 [1,1,1,1,1,1,1]) (G2 A0 (G3 A0 F.ζ3)))
def D1c:Env→A2→Res (D0 × Env):=M4 (C k) call F.ζ3 [1,1,1,1,1,1,0,1,0,0,1,1,0,0,1,1,0,0]
def E1f:G0 (D0 × Env):=D7 4 (D7 3 (E4 (B3 (C k) call F.ζ3 [1,1,1,1,1,1,0,1,0,0,1,1,1]) (M2 (Q2 (C k) F.ζ3 [1,1,1,1,1,1,0,1,0,0]))))
def E1t(a1 a2 a3 a7 a8 a9 a12 a13 a15 a17 a47 a48 a49 a53 a54:Value)(h:A2):Res (D0 × Env) :=
 E4 (B3 (C k) call F.ζ3 [1,1,1,1,1,1,0,1,0,0,1,1,0,0,1,1,0,0,1,1,0,0,1,1,1]) (D7 5 (E4 (B3 (C k) call F.ζ3 [1,1,1,1,1,1,0,1,0,0,1,1,0,0,1,1,0,0,1,1,1]) (M2 (Q2 (C k) F.ζ3 [1,1,1,1,1,1,0,1,0,0,1,1,0,0,1,1,0,0])))) .normal [(1,a1),(2,a2),(3,a3),(7,a7),(8,a8),(9,a9),(12,a12),(13,a13),(15,a15),(17,a17),(47,a47),(48,a48),(49,a49),(53,a53),(54,a54)] h
def E1u(a1 a2 a3 a7 a8 a9 a12 a13 a15 a16 a17 a47 a48 a49 a53 a54 a60:Value)(h:A2):Res (D0 × Env) :=
 E4 (B3 (C k) call F.ζ3 [1,1,1,1,1,1,0,1,0,0,1,1,0,0,1,1,0,0,1,1,0,0,1,1,1]) (D7 5 (E4 (B3 (C k) call F.ζ3 [1,1,1,1,1,1,0,1,0,0,1,1,0,0,1,1,0,0,1,1,1]) (M2 (Q2 (C k) F.ζ3 [1,1,1,1,1,1,0,1,0,0,1,1,0,0,1,1,0,0])))) .normal [(1,a1),(2,a2),(3,a3),(7,a7),(8,a8),(9,a9),(12,a12),(13,a13),(15,a15),(16,a16),(17,a17),(47,a47),(48,a48),(49,a49),(53,a53),(54,a54),(60,a60)] h
def D1d:Env→A2→Res (D0 × Env):=M4 (C k) call F.ζ3 [1,1,1,1,1,1,1,0,1,0,0]
def E1g:G0 Value:=D7 6 (E4 (B3 (C k) call F.ζ3 [1,1,1,1,1,1,1,1]) (G2 A0 (G3 A0 F.ζ3)))
def E1v(a1 a2 a7 a8 a9 a12 a13 a19 a72 a73 a74:Value)(h:A2):Res (D0 × Env) :=
 E4 (B3 (C k) call F.ζ3 [1,1,1,1,1,1,1,0,1,0,0,1,1,0,0,1,1,1]) (D7 7 (E4 (B3 (C k) call F.ζ3 [1,1,1,1,1,1,1,0,1,0,0,1,1,1]) (M2 (Q2 (C k) F.ζ3 [1,1,1,1,1,1,1,0,1,0,0])))) .normal [(1,a1),(2,a2),(7,a7),(8,a8),(9,a9),(12,a12),(13,a13),(19,a19),(72,a72),(73,a73),(74,a74)] h
def E1w(a1 a2 a7 a8 a9 a12 a13 a19 a72 a73 a74 a88:Value)(h:A2):Res (D0 × Env) :=
 E4 (B3 (C k) call F.ζ3 [1,1,1,1,1,1,1,0,1,0,0,1,1,0,0,1,1,1]) (D7 7 (E4 (B3 (C k) call F.ζ3 [1,1,1,1,1,1,1,0,1,0,0,1,1,1]) (M2 (Q2 (C k) F.ζ3 [1,1,1,1,1,1,1,0,1,0,0])))) .normal [(1,a1),(2,a2),(7,a7),(8,a8),(9,a9),(12,a12),(13,a13),(19,a19),(72,a72),(73,a73),(74,a74),(88,a88)] h
def D4j(a1 a2 a7 a8 a9 a12 a13 a72 a73 a74:Value)(h:A2):Res (D0 × Env) :=
 E4 (B3 (C k) call F.ζ3 [1,1,1,1,1,1,1,0,1,0,0,1,1,1]) (M2 (Q2 (C k) F.ζ3 [1,1,1,1,1,1,1,0,1,0,0])) .normal [(1,a1),(2,a2),(7,a7),(8,a8),(9,a9),(12,a12),(13,a13),(72,a72),(73,a73),(74,a74)] h
def D4k(a1 a2 a7 a8 a9 a12 a13 a19 a72 a73 a74 a95:Value)(h:A2):Res (D0 × Env) :=
 E4 (B3 (C k) call F.ζ3 [1,1,1,1,1,1,1,0,1,0,0,1,1,1]) (M2 (Q2 (C k) F.ζ3 [1,1,1,1,1,1,1,0,1,0,0])) .normal [(1,a1),(2,a2),(7,a7),(8,a8),(9,a9),(12,a12),(13,a13),(19,a19),(72,a72),(73,a73),(74,a74),(95,a95)] h
def ζ3(a0 a1 a2:Value)(h:A2):Res Value :=
 (K9 a0 h).bind fun v0 h0=>(A1 A0 26 v0 3 h0).bind fun v1 h1=>(A3 A0 5 v1 h1).bind fun v2 h2=>(M9 A0 5 3 v2 h2).bind fun v3 h3=>(A5 A0 .rem 3 v3 (.int .i64 8) h3).bind fun v4 h4=>(A5 A0 .add 3 (.int .i64 4) v4 h4).bind fun v5 h5=>(A5 A0 .add 3 (.int .i64 16) a2 h5).bind fun v6 h6=>(call F.ζ4 [(.slice none 0 0),(.int .i64 8),(.int .i64 2)] h6).bindT (fun p17 h7=>(A1 A0 26 v0 0 h6).bindN fun v7 h8=>(A3 A0 22 v7 h8).bindN fun v8 h9=>(A6 A0 .len [22] [v8] h9).bindN fun v9 ha=>E6 ((A4 (A3 A0 22 v7 h6) v8 && true) && true) (.panic p17 h7)) fun va hb=>(call F.ζ4 [va,(.int .i64 0),(.int .i64 2)] hb).bindT (fun p27 hc=>(A1 A0 26 v0 0 hb).bindN fun vb hd=>(A3 A0 22 vb hd).bindN fun vc he=>(A6 A0 .len [22] [vc] he).bindN fun vd hf=>E6 ((A4 (A3 A0 22 vb h6) vc && (A4 (A3 A0 22 vb hb) vc && true)) && true) (.panic p27 hc)) fun ve hg=>(A1 A0 26 v0 0 hg).bindN fun vf hh=>(A3 A0 22 vf hh).bindN fun vg hi=>(A6 A0 .len [22] [vg] hi).bindN fun vh hj=>(call F.ζ4 [ve,vh,(.int .i64 2)] hj).bindT (fun p43 hk=>E6 ((A4 (A3 A0 22 vf h6) vg && (A4 (A3 A0 22 vf hb) vg && true)) && true) (.panic p43 hk)) fun vi hl=>
 E6 ((A4 (A3 A0 22 vf h6) vg && (A4 (A3 A0 22 vf hb) vg && true)) && true) (
 (A1 A0 26 v0 0 hl).bind fun vj hm=>(A3 A0 22 vj hm).bind fun vk hn=>(A6 A0 .len [22] [vk] hn).bind fun vl ho=>(loopN (D4l k call) B8 [(1,a1),(2,a2),(3,v0),(7,v5),(8,v6),(9,vi),(35,vk),(36,vl),(37,(.int .i64 0))] ho).bind fun r51 hp=>
 E1d k call r51.1 r51.2 hp)
theorem G1o(k:Nat)(a0 a1 a2:Value)(h:A2):R (T k) F.ζ3 [a0,a1,a2] h=nrm (B2h k) h (ζ3 k (R (T k)) a0 a1 a2 h) :=G9
theorem E0h(a1 a2 a3 a7 a8 a9 a35 a36 a37:Value)(h:A2):D4l k call [(1,a1),(2,a2),(3,a3),(7,a7),(8,a8),(9,a9),(35,a35),(36,a36),(37,a37)] h =
 (A5 A0 .lss 3 a37 a36 h).bind fun v0 h0=>
 condV (some v0) (
 (A9 A0 22 a35 a37 h0).bind fun v1 h1=>(A3 A0 5 v1 h1).bind fun v2 h2=>(M9 A0 5 3 v2 h2).bind fun v3 h3=>(call F.ζ4 [a9,v3,(.int .i64 2)] h3).bind fun v4 h4=>(A5 A0 .add 3 a37 (.int .i64 1) h4).bind fun v5 h5=>
 .ok (.normal,[(1,a1),(2,a2),(3,a3),(7,a7),(8,a8),(9,v4),(35,a35),(36,a36),(37,v5)]) h5)
 (
 .ok ((.exit 0),[(1,a1),(2,a2),(3,a3),(7,a7),(8,a8),(9,a9),(35,a35),(36,a36),(37,a37),(38,v0)]) h0) :=
 (E2 _ _).trans (by kernel_rfl)
theorem E9x(a1 a2 a3 a7 a8 a9 a35 a36 a37 a38:Value)(h:A2):E1d k call (.exit 0) [(1,a1),(2,a2),(3,a3),(7,a7),(8,a8),(9,a9),(35,a35),(36,a36),(37,a37),(38,a38)] h =
 (A1 A0 26 a3 1 h).bind fun v0 h0=>(A3 A0 23 v0 h0).bind fun v1 h1=>(A6 A0 .len [23] [v1] h1).bind fun v2 h2=>(loopN (D4m k call) B8 [(1,a1),(2,a2),(3,a3),(7,a7),(8,a8),(9,a9),(12,(.slice none 0 0)),(13,(.slice none 0 0)),(47,v1),(48,v2),(49,(.int .i64 0))] h2).bind fun r71 h3=>
 E1e k call r71.1 r71.2 h3:=by kernel_rfl
theorem E0i(a1 a2 a3 a7 a8 a9 a12 a13 a47 a48 a49:Value)(h:A2):D4m k call [(1,a1),(2,a2),(3,a3),(7,a7),(8,a8),(9,a9),(12,a12),(13,a13),(47,a47),(48,a48),(49,a49)] h =
 (A5 A0 .lss 3 a49 a48 h).bind fun v0 h0=>
 condV (some v0) (
 (A9 A0 23 a47 a49 h0).bind fun v1 h1=>(A3 A0 22 v1 h1).bind fun v2 h2=>(loopN (D1c k call) B8 [(1,a1),(2,a2),(3,a3),(7,a7),(8,a8),(9,a9),(12,a12),(13,a13),(15,v2),(47,a47),(48,a48),(49,a49),(53,a7),(54,(.int .i64 0))] h2).bind fun r79 h3=>
 E1f k call r79.1 r79.2 h3)
 (
 .ok ((.exit 2),[(1,a1),(2,a2),(3,a3),(7,a7),(8,a8),(9,a9),(12,a12),(13,a13),(47,a47),(48,a48),(49,a49),(50,v0)]) h0) :=
 (E2 _ _).trans (by kernel_rfl)
theorem E0j(a1 a2 a3 a7 a8 a9 a12 a13 a15 a47 a48 a49 a53 a54:Value)(h:A2):D1c k call [(1,a1),(2,a2),(3,a3),(7,a7),(8,a8),(9,a9),(12,a12),(13,a13),(15,a15),(47,a47),(48,a48),(49,a49),(53,a53),(54,a54)] h =
 (A5 A0 .lss 3 a54 a53 h).bind fun v0 h0=>
 condV (some v0) (
 (A6 A0 .len [22] [a15] h0).bind fun v1 h1=>(A5 A0 .lss 3 a54 v1 h1).bind fun v2 h2=>
 condV (some v2) (
 (A9 A0 22 a15 a54 h2).bind fun v3 h3=>(A3 A0 5 v3 h3).bind fun v4 h4=>(M9 A0 5 3 v4 h4).bind fun v5 h5=>
 E1t k call a1 a2 a3 a7 a8 a9 a12 a13 a15 v5 a47 a48 a49 a53 a54 h5)
 (
 E1u k call a1 a2 a3 a7 a8 a9 a12 a13 a15 a54 (.int .i64 0) a47 a48 a49 a53 a54 v2 h2))
 (
 .ok ((.exit 4),[(1,a1),(2,a2),(3,a3),(7,a7),(8,a8),(9,a9),(12,a12),(13,a13),(15,a15),(47,a47),(48,a48),(49,a49),(53,a53),(54,a54),(55,v0)]) h0) :=
 (E2 _ _).trans (by kernel_rfl)
theorem G08(a1 a2 a3 a7 a8 a9 a12 a13 a15 a17 a47 a48 a49 a53 a54:Value)(h:A2):E1t k call a1 a2 a3 a7 a8 a9 a12 a13 a15 a17 a47 a48 a49 a53 a54 h =
 (call F.ζ4 [a12,a17,(.int .i64 2)] h).bind fun v0 h0=>(A5 A0 .add 3 a54 (.int .i64 1) h0).bind fun v1 h1=>
 .ok (.normal,[(1,a1),(2,a2),(3,a3),(7,a7),(8,a8),(9,a9),(12,v0),(13,a13),(15,a15),(47,a47),(48,a48),(49,a49),(53,a53),(54,v1)]) h1:=by kernel_rfl
theorem G09(a1 a2 a3 a7 a8 a9 a12 a13 a15 a16 a17 a47 a48 a49 a53 a54 a60:Value)(h:A2):E1u k call a1 a2 a3 a7 a8 a9 a12 a13 a15 a16 a17 a47 a48 a49 a53 a54 a60 h =
 (call F.ζ4 [a12,a17,(.int .i64 2)] h).bind fun v0 h0=>(A5 A0 .add 3 a54 (.int .i64 1) h0).bind fun v1 h1=>
 .ok (.normal,[(1,a1),(2,a2),(3,a3),(7,a7),(8,a8),(9,a9),(12,v0),(13,a13),(15,a15),(47,a47),(48,a48),(49,a49),(53,a53),(54,v1)]) h1:=by kernel_rfl
theorem E9y(a1 a2 a3 a7 a8 a9 a12 a13 a47 a48 a49 a50:Value)(h:A2):E1e k call (.exit 2) [(1,a1),(2,a2),(3,a3),(7,a7),(8,a8),(9,a9),(12,a12),(13,a13),(47,a47),(48,a48),(49,a49),(50,a50)] h =
 (A1 A0 26 a3 2 h).bind fun v0 h0=>(A3 A0 24 v0 h0).bind fun v1 h1=>(A6 A0 .len [24] [v1] h1).bind fun v2 h2=>(loopN (D1d k call) B8 [(1,a1),(2,a2),(7,a7),(8,a8),(9,a9),(12,a12),(13,a13),(72,v1),(73,v2),(74,(.int .i64 0))] h2).bind fun r107 h3=>
 E1g k call r107.1 r107.2 h3:=by kernel_rfl
theorem D12(a1 a2 a7 a8 a9 a12 a13 a72 a73 a74:Value)(h:A2):D1d k call [(1,a1),(2,a2),(7,a7),(8,a8),(9,a9),(12,a12),(13,a13),(72,a72),(73,a73),(74,a74)] h =
 (A5 A0 .lss 3 a74 a73 h).bind fun v0 h0=>
 condV (some v0) (
 (A9 A0 24 a72 a74 h0).bind fun v1 h1=>(A3 A0 129 v1 h1).bind fun v2 h2=>(D1 A0 129 h2).bind fun v3 h3=>(B4 A0 129 v3 v2 h3).bind fun _v4 h4=>(A1 A0 129 v3 0 h4).bindN fun v5 h5=>(A3 A0 3 v5 h5).bindN fun v6 h6=>(A5 A0 .and 3 v6 (.int .i64 65535) h6).bindN fun v7 h7=>(call F.ζ4 [a13,v7,(.int .i64 2)] h7).bindT (fun p127 h8=>(A1 A0 129 v3 1 h7).bindN fun v8 h9=>(A3 A0 3 v8 h9).bindN fun v9 ha=>(A5 A0 .and 3 v9 (.int .i64 65535) ha).bindN fun va hb=>E6 ((A4 (A3 A0 3 v8 h4) v9 && true) && true) (.panic p127 h8)) fun vb hc=>(A1 A0 129 v3 1 hc).bindN fun vc hd=>(A3 A0 3 vc hd).bindN fun vd he=>(A5 A0 .and 3 vd (.int .i64 65535) he).bindN fun ve hf=>(call F.ζ4 [vb,ve,(.int .i64 2)] hf).bindT (fun p143 hg=>E6 ((A4 (A3 A0 3 vc h4) vd && true) && true) (.panic p143 hg)) fun vf hh=>
 E6 ((A4 (A3 A0 3 vc h4) vd && true) && true) (
 (A5 A0 .gtr 3 a1 (.int .i64 0) hh).bind fun vg hi=>
 condV (some vg) (
 (A1 A0 129 v3 2 hi).bind fun vh hj=>(A3 A0 3 vh hj).bind fun vi hk=>(A5 A0 .and 3 vi (.int .i64 65535) hk).bind fun vj hl=>(call F.ζ4 [vf,vj,(.int .i64 2)] hl).bind fun vk hm=>
 E1v k call a1 a2 a7 a8 a9 a12 vk v3 a72 a73 a74 hm)
 (
 E1w k call a1 a2 a7 a8 a9 a12 vf v3 a72 a73 a74 vg hi)))
 (
 .ok ((.exit 6),[(1,a1),(2,a2),(7,a7),(8,a8),(9,a9),(12,a12),(13,a13),(72,a72),(73,a73),(74,a74),(75,v0)]) h0) :=
 (E2 _ _).trans (by kernel_rfl)
theorem E0f(a1 a2 a7 a8 a9 a12 a13 a19 a72 a73 a74:Value)(h:A2):E1v k call a1 a2 a7 a8 a9 a12 a13 a19 a72 a73 a74 h =
 (A5 A0 .gtr 3 a1 (.int .i64 1) h).bind fun v0 h0=>
 condV (some v0) (
 (A1 A0 129 a19 3 h0).bind fun v1 h1=>(A3 A0 3 v1 h1).bind fun v2 h2=>(A5 A0 .and 3 v2 (.int .i64 65535) h2).bind fun v3 h3=>(call F.ζ4 [a13,v3,(.int .i64 2)] h3).bind fun v4 h4=>
 D4j k call a1 a2 a7 a8 a9 a12 v4 a72 a73 a74 h4)
 (
 D4k k call a1 a2 a7 a8 a9 a12 a13 a19 a72 a73 a74 v0 h0):=by kernel_rfl
theorem G0a(a1 a2 a7 a8 a9 a12 a13 a19 a72 a73 a74 a88:Value)(h:A2):E1w k call a1 a2 a7 a8 a9 a12 a13 a19 a72 a73 a74 a88 h =
 (A5 A0 .gtr 3 a1 (.int .i64 1) h).bind fun v0 h0=>
 condV (some v0) (
 (A1 A0 129 a19 3 h0).bind fun v1 h1=>(A3 A0 3 v1 h1).bind fun v2 h2=>(A5 A0 .and 3 v2 (.int .i64 65535) h2).bind fun v3 h3=>(call F.ζ4 [a13,v3,(.int .i64 2)] h3).bind fun v4 h4=>
 D4j k call a1 a2 a7 a8 a9 a12 v4 a72 a73 a74 h4)
 (
 D4k k call a1 a2 a7 a8 a9 a12 a13 a19 a72 a73 a74 v0 h0):=by kernel_rfl
theorem G0b(a1 a2 a7 a8 a9 a12 a13 a72 a73 a74:Value)(h:A2):D4j k call a1 a2 a7 a8 a9 a12 a13 a72 a73 a74 h =
 (A5 A0 .add 3 a74 (.int .i64 1) h).bind fun v0 h0=>
 .ok (.normal,[(1,a1),(2,a2),(7,a7),(8,a8),(9,a9),(12,a12),(13,a13),(72,a72),(73,a73),(74,v0)]) h0:=by kernel_rfl
theorem E0g(a1 a2 a7 a8 a9 a12 a13 a19 a72 a73 a74 a95:Value)(h:A2):D4k k call a1 a2 a7 a8 a9 a12 a13 a19 a72 a73 a74 a95 h =
 (A5 A0 .add 3 a74 (.int .i64 1) h).bind fun v0 h0=>
 .ok (.normal,[(1,a1),(2,a2),(7,a7),(8,a8),(9,a9),(12,a12),(13,a13),(72,a72),(73,a73),(74,v0)]) h0:=by kernel_rfl
theorem E9z(a1 a2 a3 a7 a8 a9 a12 a13 a15 a47 a48 a49 a53 a54 a55:Value)(h:A2):E1f k call (.exit 4) [(1,a1),(2,a2),(3,a3),(7,a7),(8,a8),(9,a9),(12,a12),(13,a13),(15,a15),(47,a47),(48,a48),(49,a49),(53,a53),(54,a54),(55,a55)] h =
 (A5 A0 .add 3 a49 (.int .i64 1) h).bind fun v0 h0=>
 .ok (.normal,[(1,a1),(2,a2),(3,a3),(7,a7),(8,a8),(9,a9),(12,a12),(13,a13),(47,a47),(48,a48),(49,v0)]) h0:=by kernel_rfl
theorem G00(a1 a2 a7 a8 a9 a12 a13 a72 a73 a74 a75:Value)(h:A2):E1g k call (.exit 6) [(1,a1),(2,a2),(7,a7),(8,a8),(9,a9),(12,a12),(13,a13),(72,a72),(73,a73),(74,a74),(75,a75)] h =
 (call F.ζ4 [(.slice none 0 0),a7,(.int .i64 4)] h).bind fun v0 h0=>(call F.ζ4 [v0,a8,(.int .i64 4)] h0).bind fun v1 h1=>(A6 A0 .len [22] [a9] h1).bind fun v2 h2=>(A5 A0 .add 3 a8 v2 h2).bind fun v3 h3=>(call F.ζ4 [v1,v3,(.int .i64 4)] h3).bind fun v4 h4=>(A6 A0 .len [22] [a9] h4).bind fun v5 h5=>(A5 A0 .add 3 a8 v5 h5).bind fun v6 h6=>(A6 A0 .len [22] [a12] h6).bind fun v7 h7=>(A5 A0 .add 3 v6 v7 h7).bind fun v8 h8=>(call F.ζ4 [v4,v8,(.int .i64 4)] h8).bind fun v9 h9=>(A6 A0 .append [22,3] [v9,a2] h9).bind fun va ha=>(A6 A0 .append [22,22] [va,a9] ha).bind fun vb hb=>(A6 A0 .append [22,22] [vb,a12] hb).bind fun vc hc=>(A6 A0 .append [22,22] [vc,a13] hc).bind fun vd hd=>
 .ok vd hd:=by kernel_rfl
end
end Go.Sw
end
section
namespace Go.Sw
open Go.RowKit
structure A0s where
 cls:List Int
 rows:List (List Int)
 ents:List En
 wide:Int
abbrev B13(r:List Int):List Value:=[lv B7 r]
def A2e(p:A0s):Nat:=4+(p.wide % 8).toNat
def Y0(l:List Int):List Int:=(l.map fun c=>D4 c 2).flatten
def ofS(cls:List Int):List Int:=(D4 8 2++D4 0 2++D4 cls.length 2)++Y0 cls
def A8y(n:Nat)(r:List Int):List Int:=(List.range n).map fun i=>r[i]?.getD 0
def rowsL(n:Nat)(rs:List (List Int)):List Int:=(rs.map fun r=>Y0 (A8y n r)).flatten
def m16(x:Int):Int:=x % 65536
def B15(w:Int)(e:En):List Int:=D4 (m16 e.next) 2++D4 (m16 e.flags) 2++(if 0<w then D4 (m16 e.a) 2 else [])++(if 1<w then D4 (m16 e.b) 2 else [])
def A2c(w:Int)(es:List En):List Int:=(es.map (B15 w)).flatten
def A1n(p:A0s)(w:Int)(room:Nat):List Int :=
 (((D4 (A2e p:Int) 4++D4 (16+room:Int) 4++D4 (16+room+(ofS p.cls).length:Int) 4++D4 (16+room+(ofS p.cls).length+(rowsL (A2e p) p.rows).length:Int) 4++List.replicate room 0)++ofS p.cls)++rowsL (A2e p) p.rows)++A2c w p.ents
theorem D79(l:List Int)(x:Int):Y0 (l++[x])=Y0 l++D4 x 2:=by simp[Y0]
theorem X3(l:List Int):(Y0 l).length=l.length*2:=A3o (z:=2) (fun r hr=>by obtain⟨p,_,rfl⟩:=List.mem_map.1 hr; simp) |>.trans (by simp)
theorem A8h(n:Nat)(r:List Int):(A8y n r).length=n:=by simp[A8y]
theorem G8v(n:Nat)(rs:List (List Int))(r:List Int):rowsL n (rs++[r])=rowsL n rs++Y0 (A8y n r):=by simp[rowsL]
theorem D78(n:Nat)(rs:List (List Int)):(rowsL n rs).length=rs.length*(n*2):=A3o (z:=n*2) (fun r hr=>by obtain⟨p,_,rfl⟩:=List.mem_map.1 hr; rw[X3,A8h]) |>.trans (by simp)
theorem B6n(w:Int)(e:En):(B15 w e).length≤8:=by
 unfold B15;simp only[List.length_append,B25];split <;> split <;> simp
theorem D6g(w:Int)(es:List En)(e:En):A2c w (es++[e])=A2c w es++B15 w e:=by simp[A2c]
theorem D28(w:Int):∀ es:List En,(A2c w es).length≤es.length*8
 | []=>by simp[A2c]
 | e :: es=>by
  have h1:=D28 w es;have h2:=B6n w e;unfold A2c at h1 ⊢;simp only[List.map_cons,List.flatten_cons,List.length_append,List.length_cons];omega
theorem D7j(P:Program)(t:TypeId)(H:A2)(a:Int):A5 P .and t (.int .i64 a) (.int .i64 65535) H=.ok (.int .i64 (m16 a)) H:=by
 have e:(BitVec.ofInt 64 a &&& BitVec.ofInt 64 65535).toNat=(a % 65536).toNat:=by
  rw[BitVec.toNat_and,BitVec.toNat_ofInt,BitVec.toNat_ofInt];rw[show ((65535:Int) % ((2 ^ 64:Nat):Int)).toNat=2 ^ 16 - 1 from by decide,Nat.and_two_pow_sub_one_eq_mod];omega
 have e1:A0n P .and t (.int .i64 a) (.int .i64 65535)=some (.int .i64 (IntKind.i64.wrap (BitVec.ofInt 64 a &&& BitVec.ofInt 64 65535).toNat)):=rfl;unfold A5;rw[e1,e];unfold m16;rw[show (((a % 65536).toNat:Nat):Int)=a % 65536 by omega,wrap_i64 (by omega) (by omega)];rfl
theorem D2c(a:Int):0≤m16 a∧m16 a<65536:=by unfold m16; omega
theorem B8b (k:Nat) {H0 H:A2} {o9 o12:Option Nat} {a9 a12:Value} {l9 l12:List Int} {B:It} (w room:Value) (n:Nat) (hn:n≤11) (a3 a8:Value) {vr:Value} (r:List Int) (hr:Byt r) (hv:Sl H0 1 vr B7 r) (x47 x48 x49:Value) (hl:l12.length<2 ^ 29)
  (g:D2 H0 H [D6 o9 1 a9 B7 l9,D6 o12 1 a12 B7 l12,B]) :
  ∃ s o H' z,loopN (D1c k (R (T k))) B8 [(1,w),(2,room),(3,a3),(7,.int .i64 n),(8,a8),(9,a9),(12,a12),(13,.slice none 0 0),(15,vr),(47,x47),(48,x48),(49,x49),(53,.int .i64 n),(54,.int .i64 0)] H =
   .ok (.exit 4,[(1,w),(2,room),(3,a3),(7,.int .i64 n),(8,a8),(9,a9),(12,s),(13,.slice none 0 0),(15,vr),(47,x47),(48,x48),(49,x49),(53,.int .i64 n),(54,z),(55,.bool false)]) H' ∧
   D2 H0 H' [D6 o9 1 a9 B7 l9,D6 o 1 s B7 (l12++Y0 (A8y n r)),B]:=by
 have hvl:=fun H'=>hv.len H'
 obtain ⟨x,e',H1,hr1,rfl,z,s,o,rfl,g⟩:=K5 (body:=D1c k (R (T k))) n
  (fun j e H'=>∃ s o,e=[(1,w),(2,room),(3,a3),(7,.int .i64 n),(8,a8),(9,a9),(12,s),(13,.slice none 0 0),(15,vr),(47,x47),(48,x48),(49,x49),(53,.int .i64 n),(54,.int .i64 j)]∧D2 H0 H' [D6 o9 1 a9 B7 l9,D6 o 1 s B7 (l12++Y0 ((A8y n r).take j)),B])
  (fun x e H'=>x=.exit 4∧∃ z s o,e=[(1,w),(2,room),(3,a3),(7,.int .i64 n),(8,a8),(9,a9),(12,s),(13,.slice none 0 0),(15,vr),(47,x47),(48,x48),(49,x49),(53,.int .i64 n),(54,z),(55,.bool false)]∧D2 H0 H' [D6 o9 1 a9 B7 l9,D6 o 1 s B7 (l12++Y0 (A8y n r)),B])
  (e0:=[(1,w),(2,room),(3,a3),(7,.int .i64 n),(8,a8),(9,a9),(12,a12),(13,.slice none 0 0),(15,vr),(47,x47),(48,x48),(49,x49),(53,.int .i64 n),(54,.int .i64 0)]) (H0:=H) ⟨a12,o12,rfl,by simpa[Y0] using g⟩ (by omega)
  (fun j e H' hj ⟨s,o,he,g⟩=>by
   subst he;have hlt:(j:Int)<n:=by omega
   have hq:(A8y n r)[j]?=some (r[j]?.getD 0):=by unfold A8y; rw[List.getElem?_map,List.getElem?_range hj]; rfl
   have hlen:(l12++Y0 ((A8y n r).take j)).length<2 ^ 30:=by
    rw[List.length_append,X3,List.length_take,A8h];omega
   have hb:0≤r[j]?.getD 0∧r[j]?.getD 0<256:=by
    cases h:r[j]? with
    | none=>simp
    | some y=>exact hr y (List.mem_of_getElem? h)
   obtain⟨s',o',H2,e2,g2⟩:=L7 k g 1 rfl (r[j]?.getD 0) 2 2 rfl hb.1 (by omega) (by omega) hlen;simp only[List.set_cons_zero,List.set_cons_succ] at g2;refine .inl ⟨_,H2,?_,s',o',rfl,by rw[A29 hq,D79,← List.append_assoc]; exact g2⟩;rw[E0j];cases h:r[j]? with
   | some y=>
    have hjr:(j:Int)<r.length:=by have:=(List.getElem?_eq_some_iff.1 h).1; omega
    obtain⟨pp,i1,i2⟩:=hv.ix1 E9 j y h _ rfl;have i2:=i2 H' g.ext;rw[h] at e2 hb;simp at e2 hb;simp -implicitDefEqProofs(disch:=omega) [hlt,hjr,hvl,i1,i2,G08,e2]
   | none=>
    have hjr:¬ (j:Int)<r.length:=by have:=List.getElem?_eq_none_iff.1 h; omega
    rw[h] at e2;simp at e2;simp -implicitDefEqProofs(disch:=omega) [hlt,hjr,hvl,G09,e2])
  (fun e H' ⟨s,o,he,g⟩=>by
   subst he;rw[List.take_of_length_le (by rw[A8h]; exact Nat.le_refl _)] at g;refine⟨.exit 4,_,H',?_,by simp,rfl,.int .i64 n,s,o,rfl,g⟩;rw[E0j];simp -implicitDefEqProofs)
 exact⟨s,o,H1,z,hr1,g⟩
def A0s.ok(p:A0s):Prop:=Byt p.cls∧(∀ r,r ∈ p.rows→Byt r)∧0≤p.wide∧p.wide<256
set_option maxHeartbeats 1000000 in
theorem B8c (k:Nat) {H0 H:A2} {o9 o12:Option Nat} {a9 a12:Value} {l9 l12:List Int} {B:It} (w:Int) (hw:w=0∨w=1∨w=2) (room:Value) (a7 a8:Value) (es:List En) (hl:es.length<2 ^ 20) {sE:Value} (hsE:Sl H0 4 sE E7 es)
  (g:D2 H0 H [D6 o9 1 a9 B7 l9,D6 o12 1 a12 B7 l12,B]) :
  ∃ s o H' z,loopN (D1d k (R (T k))) B8 [(1,.int .i64 w),(2,room),(7,a7),(8,a8),(9,a9),(12,a12),(13,.slice none 0 0),(72,sE),(73,.int .i64 es.length),(74,.int .i64 0)] H =
   .ok (.exit 6,[(1,.int .i64 w),(2,room),(7,a7),(8,a8),(9,a9),(12,a12),(13,s),(72,sE),(73,.int .i64 es.length),(74,z),(75,.bool false)]) H' ∧
   D2 H0 H' [D6 o9 1 a9 B7 l9,D6 o12 1 a12 B7 l12,B,D6 o 1 s B7 (A2c w es)]:=by
 have g:=g.more_row (Ext.refl _) (N2.nil B7 _ 1) (fun b hb=>by cases hb)
 obtain ⟨x,e',H1,hr1,rfl,z,s,o,rfl,g⟩:=K5 (body:=D1d k (R (T k))) es.length
  (fun j e H'=>∃ s o,e=[(1,.int .i64 w),(2,room),(7,a7),(8,a8),(9,a9),(12,a12),(13,s),(72,sE),(73,.int .i64 es.length),(74,.int .i64 j)]∧D2 H0 H' [D6 o9 1 a9 B7 l9,D6 o12 1 a12 B7 l12,B,D6 o 1 s B7 (A2c w (es.take j))])
  (fun x e H'=>x=.exit 6∧∃ z s o,e=[(1,.int .i64 w),(2,room),(7,a7),(8,a8),(9,a9),(12,a12),(13,s),(72,sE),(73,.int .i64 es.length),(74,z),(75,.bool false)]∧D2 H0 H' [D6 o9 1 a9 B7 l9,D6 o12 1 a12 B7 l12,B,D6 o 1 s B7 (A2c w es)])
  (e0:=[(1,.int .i64 w),(2,room),(7,a7),(8,a8),(9,a9),(12,a12),(13,.slice none 0 0),(72,sE),(73,.int .i64 es.length),(74,.int .i64 0)]) (H0:=H) ⟨.slice none 0 0,none,rfl,by simpa[A2c] using g⟩ (by omega)
  (fun j e H' hj ⟨s,o,he,g⟩=>by
   subst he;have hlt:(j:Int)<es.length:=by omega
   obtain⟨en,hen⟩:∃ en,es[j]?=some en:=⟨_,List.getElem?_eq_getElem hj⟩
   obtain⟨q,i1,i2⟩:=((hsE.up g.ext).rd (by decide) B28).2 j en hen;have hlen:=D28 w (es.take j);rw[List.length_take] at hlen;have g:=g.push ⟨E7 en,1,false⟩;simp only[List.cons_append,List.nil_append] at g;have b1:=D2c en.next;have b2:=D2c en.flags;have b3:=D2c en.a;have b4:=D2c en.b;have an:=fun H a=>D7j A0 3 H a;obtain⟨s1,o1,H1,e1,g1⟩:=L7 k g 3 rfl (m16 en.next) 2 2 rfl b1.1 (by omega) (by omega) (by omega);simp only[List.set_cons_zero,List.set_cons_succ] at g1;have h1:=g1.get 4 rfl;obtain⟨s2,o2,H2,e2,g2⟩:=L7 k g1 3 rfl (m16 en.flags) 2 2 rfl b2.1 (by omega) (by omega) (by simp; omega);simp only[List.set_cons_zero,List.set_cons_succ] at g2;have h2:=g2.get 4 rfl;rcases hw with rfl | rfl | rfl
   ·refine .inl ⟨_,H2,?_,s2,o2,rfl,by rw[A29 hen,D6g]; simpa[B15] using g2.take 4⟩;rw[D12];simp -implicitDefEqProofs(disch:=omega) [hlt,i1,i2,an,e1,h1,e2,h2,G0a,E0g]
   ·obtain⟨s3,o3,H3,e3,g3⟩:=L7 k g2 3 rfl (m16 en.a) 2 2 rfl b3.1 (by omega) (by omega) (by simp; omega);simp only[List.set_cons_zero,List.set_cons_succ] at g3;have h3:=g3.get 4 rfl;refine .inl ⟨_,H3,?_,s3,o3,rfl,by rw[A29 hen,D6g]; simpa[B15] using g3.take 4⟩;rw[D12];simp -implicitDefEqProofs(disch:=omega) [hlt,i1,i2,an,e1,h1,e2,h2,e3,h3,E0f,E0g]
   ·obtain⟨s3,o3,H3,e3,g3⟩:=L7 k g2 3 rfl (m16 en.a) 2 2 rfl b3.1 (by omega) (by omega) (by simp; omega);simp only[List.set_cons_zero,List.set_cons_succ] at g3;have h3:=g3.get 4 rfl;obtain⟨s4,o4,H4,e4,g4⟩:=L7 k g3 3 rfl (m16 en.b) 2 2 rfl b4.1 (by omega) (by omega) (by simp; omega);simp only[List.set_cons_zero,List.set_cons_succ] at g4;refine .inl ⟨_,H4,?_,s4,o4,rfl,by rw[A29 hen,D6g]; simpa[B15] using g4.take 4⟩;rw[D12];simp -implicitDefEqProofs(disch:=omega) [hlt,i1,i2,an,e1,h1,e2,h2,e3,h3,e4,E0f,G0b])
  (fun e H' ⟨s,o,he,g⟩=>by
   subst he;rw[List.take_length] at g;refine⟨.exit 6,_,H',?_,by simp,rfl,.int .i64 es.length,s,o,rfl,g⟩;rw[D12];simp -implicitDefEqProofs)
 exact⟨s,o,H1,z,hr1,g⟩
theorem B1l(p:A0s)(h:0≤p.wide∧p.wide<256):4+p.wide.tmod 8=(A2e p:Int)∧A2e p≤11:=by
 unfold A2e;rw[Int.tmod_eq_emod_of_nonneg h.1];omega
set_option maxHeartbeats 2000000 in
theorem G6h (k:Nat) (p:A0s) (hp:p.ok) (w:Int) (hw:w=0∨w=1∨w=2) (room:Nat) (hroom:room≤1000) (h1:p.cls.length≤1000) (h2:p.rows.length≤1000) (h3:p.ents.length≤1000) {H:A2} {vC vR sE:Value} (hC:Sl H 1 vC B7 p.cls) {rv:List (List Int × Value)} (hrv:rv.map Prod.fst=p.rows) (hrs:∀ x,x ∈ rv→Sl H 1 x.2 B7 x.1) (hR:Sl H 1 vR A9m rv) (hsE:Sl H 4 sE E7 p.ents) :
  ∃ s H',ζ3 k (R (T k)) (.agg #[vC,vR,sE,.int .u8 p.wide]) (.int .i64 w) (.int .i64 room) H=.ok s H'∧Own H H' 1 s B7 (A1n p w room)∧Ext H H':=by
 have hrvl:rv.length=p.rows.length:=by rw[← hrv]; simp
 have hN:=B1l p hp.2.2;obtain⟨n,hn⟩:∃ n,n=A2e p:=⟨_,rfl⟩
 rw[← hn] at hN;have hwd:0≤p.wide∧p.wide<256:=hp.2.2;have hrem:=fun H=>A58 A0 3 H .i64 p.wide 8 (by decide);rw[Int.tmod_eq_emod_of_nonneg hwd.1] at hrem hN;obtain⟨B,hB⟩:∃ B:Blk,B=⟨[vC,vR,sE,.int .u8 p.wide],1,false⟩:=⟨_,rfl⟩
 have g:=(D2.nil H).more_row (Ext.refl _) (N2.nil B7 _ 1) (fun b hb=>by cases hb);have g:=g.more_row (Ext.refl _) (N2.nil B7 _ 1) (fun b hb=>by cases hb);have g:=g.push B;simp only[List.cons_append,List.nil_append] at g
 -- the head of the classes
 obtain⟨s1,o1,H1,e1,g⟩:=L7 k g 0 rfl 8 2 2 rfl (by omega) (by omega) (by omega) (by simp);simp only[List.set_cons_zero,List.set_cons_succ] at g;have b1:=g.get 2 rfl;obtain⟨s2,o2,H2,e2,g⟩:=L7 k g 0 rfl 0 2 2 rfl (by omega) (by omega) (by omega) (by simp);simp only[List.set_cons_zero,List.set_cons_succ] at g;have b2:=g.get 2 rfl;obtain⟨s3,o3,H3,e3,g⟩:=L7 k g 0 rfl p.cls.length 2 2 rfl (by omega) (by omega) (by omega) (by simp);simp only[List.set_cons_zero,List.set_cons_succ,List.nil_append] at g;have b3:=g.get 2 rfl
 -- the classes
 obtain ⟨x,e',H4,hr4,rfl,z4,s4,o4,rfl,g⟩:=K5 (body:=D4l k (R (T k))) p.cls.length
  (fun j e H'=>∃ s o,e=[(1,.int .i64 w),(2,.int .i64 room),(3,B6 H.n),(7,.int .i64 n),(8,.int .i64 (16+room)),(9,s),(35,vC),(36,.int .i64 p.cls.length),(37,.int .i64 j)]∧D2 H H' [D6 o 1 s B7 ((D4 8 2++D4 0 2++D4 p.cls.length 2)++Y0 (p.cls.take j)),D6 none 1 (.slice none 0 0) B7 [],D9 H.n B])
  (fun x e H'=>x=.exit 0∧∃ z s o,e=[(1,.int .i64 w),(2,.int .i64 room),(3,B6 H.n),(7,.int .i64 n),(8,.int .i64 (16+room)),(9,s),(35,vC),(36,.int .i64 p.cls.length),(37,z),(38,.bool false)]∧D2 H H' [D6 o 1 s B7 (ofS p.cls),D6 none 1 (.slice none 0 0) B7 [],D9 H.n B])
  (e0:=[(1,.int .i64 w),(2,.int .i64 room),(3,B6 H.n),(7,.int .i64 n),(8,.int .i64 (16+room)),(9,s3),(35,vC),(36,.int .i64 p.cls.length),(37,.int .i64 0)]) (H0:=H3) ⟨s3,o3,rfl,by simpa[Y0] using g⟩ (by omega)
  (fun j e H' hj ⟨s,o,he,g⟩=>by
   subst he;have hlt:(j:Int)<p.cls.length:=by omega
   obtain⟨c,hc⟩:∃ c,p.cls[j]?=some c:=⟨_,List.getElem?_eq_getElem hj⟩
   obtain⟨pp,i1,i2⟩:=hC.ix1 E9 j c hc _ rfl;have i2:=i2 H' g.ext;have hcb:=hp.1 c (List.mem_of_getElem? hc);obtain⟨s',o',H2,e2,g2⟩:=L7 k g 0 rfl c 2 2 rfl hcb.1 (by omega) (by omega) (by simp[X3]; omega);simp only[List.set_cons_zero,List.set_cons_succ] at g2;refine .inl ⟨_,H2,?_,s',o',rfl,by rw[A29 hc,D79,← List.append_assoc]; exact g2⟩;rw[E0h];simp -implicitDefEqProofs(disch:=omega) [hlt,i1,i2,e2])
  (fun e H' ⟨s,o,he,g⟩=>by
   subst he;rw[List.take_length] at g;refine⟨.exit 0,_,H',?_,by simp,rfl,.int .i64 p.cls.length,s,o,rfl,g⟩;rw[E0h];simp -implicitDefEqProofs)
 have b4:=g.get 2 rfl;have hofl:(ofS p.cls).length=6+p.cls.length*2:=by unfold ofS; simp[X3]; omega
 -- the rows
 obtain ⟨x,e',H5,hr5,rfl,z5,s5,o5,rfl,g⟩:=K5 (body:=D4m k (R (T k))) p.rows.length
  (fun j e H'=>∃ s o,e=[(1,.int .i64 w),(2,.int .i64 room),(3,B6 H.n),(7,.int .i64 n),(8,.int .i64 (16+room)),(9,s4),(12,s),(13,.slice none 0 0),(47,vR),(48,.int .i64 p.rows.length),(49,.int .i64 j)]∧D2 H H' [D6 o4 1 s4 B7 (ofS p.cls),D6 o 1 s B7 (rowsL n (p.rows.take j)),D9 H.n B])
  (fun x e H'=>x=.exit 2∧∃ z s o,e=[(1,.int .i64 w),(2,.int .i64 room),(3,B6 H.n),(7,.int .i64 n),(8,.int .i64 (16+room)),(9,s4),(12,s),(13,.slice none 0 0),(47,vR),(48,.int .i64 p.rows.length),(49,z),(50,.bool false)]∧D2 H H' [D6 o4 1 s4 B7 (ofS p.cls),D6 o 1 s B7 (rowsL n p.rows),D9 H.n B])
  (e0:=[(1,.int .i64 w),(2,.int .i64 room),(3,B6 H.n),(7,.int .i64 n),(8,.int .i64 (16+room)),(9,s4),(12,.slice none 0 0),(13,.slice none 0 0),(47,vR),(48,.int .i64 p.rows.length),(49,.int .i64 0)]) (H0:=H4) ⟨.slice none 0 0,none,rfl,by simpa[rowsL] using g⟩ (by omega)
  (fun j e H' hj ⟨s,o,he,g⟩=>by
   subst he;have hlt:(j:Int)<p.rows.length:=by omega
   obtain⟨r,hr⟩:∃ r,p.rows[j]?=some r:=⟨_,List.getElem?_eq_getElem hj⟩
   obtain⟨x,hx⟩:∃ x,rv[j]?=some x:=⟨_,List.getElem?_eq_getElem (by omega)⟩
   have hxr:x.1=r:=by
    have h0:(rv.map Prod.fst)[j]?=some x.1:=by rw[List.getElem?_map,hx]; rfl
    rw[hrv,hr] at h0;exact (Option.some.inj h0).symm
   obtain ⟨pp,i1,i2⟩:=hR.ix1 A7v j x hx _ rfl;have i2:=i2 H' g.ext;have hxs:=hrs x (List.mem_of_getElem? hx);rw[hxr] at hxs;have hll:(rowsL n (p.rows.take j)).length<2 ^ 29:=by
    rw[D78,List.length_take];have:min j p.rows.length*(n*2)≤1000*22:=Nat.mul_le_mul (by omega) (by omega);omega
   obtain⟨s',o',H2,z',e2,g2⟩:=B8b k (.int .i64 w) (.int .i64 room) n (by omega) (B6 H.n) (.int .i64 (16+room)) r (hp.2.1 r (List.mem_of_getElem? hr)) hxs (vR) (.int .i64 p.rows.length) (.int .i64 j) hll g;refine .inl ⟨_,H2,?_,s',o',rfl,by rw[A29 hr,G8v]; exact g2⟩;rw[E0i];simp -implicitDefEqProofs(disch:=omega) [hlt,i1,i2,e2,E9z])
  (fun e H' ⟨s,o,he,g⟩=>by
   subst he;rw[List.take_length] at g;refine⟨.exit 2,_,H',?_,by simp,rfl,.int .i64 p.rows.length,s,o,rfl,g⟩;rw[E0i];simp -implicitDefEqProofs)
 have b5:=g.get 2 rfl;have hrl:(rowsL n p.rows).length≤1000*22:=by rw[D78]; exact Nat.mul_le_mul h2 (by omega)
 -- the entries
 obtain⟨s6,o6,H6,z6,hr6,g⟩:=B8c k w hw (.int .i64 room) (.int .i64 n) (.int .i64 (16+room)) p.ents (by omega) hsE g;have hel:=D28 w p.ents;have q9:∀ H',lnS s4 H'=.ok (.int .i64 (ofS p.cls).length) H':=(g.row 0 rfl).len;have q12:∀ H',lnS s5 H'=.ok (.int .i64 (rowsL n p.rows).length) H':=(g.row 1 rfl).len
 -- all together
 have g:=g.more_row (Ext.refl _) (N2.nil B7 _ 1) (fun b hb=>by cases hb);simp only[List.cons_append,List.nil_append] at g;obtain⟨t1,u1,J1,f1,g⟩:=L7 k g 4 rfl n 4 4 rfl (by omega) (by omega) (by omega) (by simp);simp only[List.set_cons_zero,List.set_cons_succ,List.nil_append] at g;obtain⟨t2,u2,J2,f2,g⟩:=L7 k g 4 rfl (16+room) 4 4 rfl (by omega) (by omega) (by omega) (by simp);simp only[List.set_cons_zero,List.set_cons_succ] at g;obtain⟨t3,u3,J3,f3,g⟩:=L7 k g 4 rfl (16+room+(ofS p.cls).length) 4 4 rfl (by omega) (by omega) (by omega) (by simp);simp only[List.set_cons_zero,List.set_cons_succ] at g;obtain⟨t4,u4,J4,f4,g⟩:=L7 k g 4 rfl (16+room+(ofS p.cls).length+(rowsL n p.rows).length) 4 4 rfl (by omega) (by omega) (by omega) (by simp);simp only[List.set_cons_zero,List.set_cons_succ] at g;obtain⟨a4,l4,c4,ht4⟩:=(g.row 4 rfl).shape;obtain⟨t5,u5,J5,f5,g⟩:=g.append (bytes:=1) 4 E9 rfl (b:=lv B7 (List.replicate room 0)) (l2:=List.replicate room 0) (by rw[lv,List.length_replicate]; rfl) (by have:=A3r E9 (List.replicate room 0) J4; exact this) (by simp; omega) (by decide);simp only[List.set_cons_zero,List.set_cons_succ] at g;have f5':azR 1 1 [.int .u8 0] t4 (.int .i64 room) J4=.ok t5 J5:=by
  rw[ht4] at f5 ⊢;rw[D30 E9 a4 l4 c4 (0:Int) _ rfl .i64 room (by omega)];exact f5
 obtain ⟨t6,u6,J6,f6,g⟩:=g.appendRow (bytes:=1) 4 0 E9 rfl rfl (by simp; omega) (by decide);simp only[List.set_cons_zero,List.set_cons_succ] at g;obtain⟨t7,u7,J7,f7,g⟩:=g.appendRow (bytes:=1) 4 1 E9 rfl rfl (by simp; omega) (by decide);simp only[List.set_cons_zero,List.set_cons_succ] at g;obtain⟨t8,u8,J8,f8,g⟩:=g.appendRow (bytes:=1) 4 3 E9 rfl rfl (by simp; omega) (by decide);simp only[List.set_cons_zero,List.set_cons_succ] at g;have hbytes:A1n p w room=D4 (n:Int) 4++D4 (16+room:Int) 4++D4 (16+room+(ofS p.cls).length:Int) 4++D4 (16+room+(ofS p.cls).length+(rowsL n p.rows).length:Int) 4++List.replicate room 0++ofS p.cls++rowsL n p.rows++A2c w p.ents:=by
  unfold A1n;rw[← hn]
 rw[hbytes];refine⟨t8,J8,?_,g.own 4 rfl,g.ext⟩;rw[hB] at e1 b1 b2 b3 b4 b5;have hlnE:=fun H'=>hsE.len H';have hlnC:=fun H'=>hC.len H';have hlnR:=fun H'=>hR.len H';rw[hrvl] at hlnR;have hvqC:veq vC vC=true:=hC.veq fun x _ u hu=>by simp at hu; subst hu; simp
 simp -implicitDefEqProofs(disch:=omega) [ζ3,hrem,hN.1,e1,b1,e2,b2,e3,b3,hr4,E9x,b4,hr5,E9y,b5,hr6,G00,f1,q9,q12,f2,f3,f4,f5',f6,f7,f8,hlnE,hlnC,hlnR,hvqC]
theorem B70(l:List (List Int)):lv B13 l=lv A9m (l.map fun s=>(s,lv B7 s)):=by
 unfold lv;rw[List.length_map];congr 2;unfold rows;rw[List.flatMap_map];rfl
theorem D3r(l:List (List Int)):(l.map fun s=>(s,lv B7 s)).map Prod.fst=l:=by rw[List.map_map]; simp[Function.comp_def]
structure A1q (H:A2) (p:A0s) (vC vR sE:Value) (rv:List (List Int × Value)):Prop where
 cls:Sl H 1 vC B7 p.cls
 fst:rv.map Prod.fst=p.rows
 each:∀ x,x ∈ rv→Sl H 1 x.2 B7 x.1
 rows:Sl H 1 vR A9m rv
 ents:Sl H 4 sE E7 p.ents
theorem A1q.up{H H':A2}{p:A0s}{vC vR sE:Value}{rv:List (List Int × Value)}(h:A1q H p vC vR sE rv)(he:Ext H H'):A1q H' p vC vR sE rv:=⟨h.cls.up he,h.fst,fun x hx=>(h.each x hx).up he,h.rows.up he,h.ents.up he⟩
theorem A1q.lv(H:A2)(p:A0s){sE:Value}(h:Sl H 4 sE E7 p.ents):A1q H p (Go.Sw.lv B7 p.cls) (Go.Sw.lv B13 p.rows) sE (p.rows.map fun s=>(s,Go.Sw.lv B7 s)) :=
 ⟨Sl.lv _ 1 _,D3r p.rows,fun x hx=>by obtain⟨s,_,rfl⟩:=List.mem_map.1 hx; exact Sl.lv _ 1 _,by rw[B70]; exact Sl.lv _ 1 _,h⟩
theorem G6i(k:Nat)(hW:B2h k=.no)(p:A0s)(hp:p.ok)(w:Int)(hw:w=0∨w=1∨w=2)(room:Nat)(hroom:room≤1000)(h1:p.cls.length≤1000)(h2:p.rows.length≤1000)(h3:p.ents.length≤1000){H0 H:A2}{L:List It}(g:D2 H0 H L){vC vR sE:Value}{rv:List (List Int × Value)}(hP:A1q H p vC vR sE rv) :
  ∃ s o H',R (T k) F.ζ3 [.agg #[vC,vR,sE,.int .u8 p.wide],.int .i64 w,.int .i64 room] H=.ok s H'∧D2 H0 H' (L++[D6 o 1 s B7 (A1n p w room)])∧Ext H H':=by
 obtain⟨s,H',e,ho,hx⟩:=G6h k p hp w hw room hroom h1 h2 h3 hP.cls hP.fst hP.each hP.rows hP.ents;obtain⟨o,g⟩:=g.more_own ho hx;exact⟨s,o,H',by rw[G1o,hW]; exact A0y e,g,hx⟩
theorem B62(P:Program)(t:TypeId)(H:A2)(k:Nat)(hk:k<62){a:Int}(h0:0≤a)(h1:a<2 ^ 62)(m:Int)(hm:m=((2 ^ k:Nat):Int) - 1):A5 P .and t (.int .i64 a) (.int .i64 m) H=.ok (.int .i64 (a % ((2 ^ k:Nat):Int))) H:=by
 obtain ⟨n,rfl⟩:=Int.eq_ofNat_of_zero_le h0;have hp:2 ^ k≤2 ^ 61:=Nat.pow_le_pow_right (by decide) (by omega);have hp0:0<2 ^ k:=Nat.two_pow_pos k;have e:(BitVec.ofInt 64 (n:Int) &&& BitVec.ofInt 64 m).toNat=n % 2 ^ k:=by
  rw[BitVec.toNat_and,BitVec.toNat_ofInt,BitVec.toNat_ofInt,hm];rw[show (((n:Int)) % ((2 ^ 64:Nat):Int)).toNat=n by omega,show ((((2 ^ k:Nat):Int) - 1) % ((2 ^ 64:Nat):Int)).toNat=2 ^ k - 1 by omega,Nat.and_two_pow_sub_one_eq_mod]
 have e1:A0n P .and t (.int .i64 (n:Int)) (.int .i64 m)=some (.int .i64 (IntKind.i64.wrap (BitVec.ofInt 64 (n:Int) &&& BitVec.ofInt 64 m).toNat)):=rfl;have hlt:n % 2 ^ k<2 ^ k:=Nat.mod_lt _ hp0;unfold A5;rw[e1,e,wrap_i64 (by omega) (by omega),Int.natCast_emod];rfl
theorem D7k(P:Program)(t:TypeId)(H:A2){a:Int}(h0:0≤a)(h1:a<4294967296):A5 P .and t (.int .i64 a) (.int .i64 16777215) H=.ok (.int .i64 (a % 16777216)) H:=B62 P t H 24 (by decide) h0 (by omega) 16777215 rfl
end Go.Sw
end
section
set_option maxRecDepth 100000
namespace Go.Sw
noncomputable section
variable (k:Nat) (call:A8)

end
end Go.Sw
end
section
namespace Go.Sw
open Go.RowKit
theorem D0r(b:List Int)(a n:Nat)(h:a+n≤b.length):X9 1 (lv B7 b) a n=lv B7 ((b.drop a).take n):=by
 have h2:=((Sl.lv A2.empty 1 b).sub E9 .i64 .i64 .i64 a n h).1 A2.empty (Ext.refl _);rw[B04 E9 b _ _ _ a (a+n) (a+n) (by simp[E5]) (by unfold E5; dsimp only; rw[if_pos (by omega),Int.toNat_natCast]) (by unfold E5; dsimp only; rw[if_pos (by omega),Int.toNat_natCast]) (fun _=>rfl) (by omega) (Nat.le_refl _) h] at h2;injection h2 with h2;rw[← h2,List.drop_take,show a+n - a=n by omega]
theorem A8a{b r:List Int}{i n:Int}(h:E1 b i n=some r):X9 1 (lv B7 b) i.toNat n.toNat=lv B7 r:=by
 obtain⟨h1,rfl⟩:=A8t.1 h;exact D0r b _ _ (by omega)
theorem D74{α:Type}{o:Option α}{f g:α→Value}(h:∀ a,o=some a→f a=g a)(H:A2):orF o f H=orF o g H:=by
 cases o with
 | none=>rfl
 | some a=>show Res.ok (f a) H=Res.ok (g a) H; rw[h a rfl]
abbrev vwB(b:List Int):Value:=.agg #[lv B7 b]
theorem D2p(k:Nat)(b:List Int)(i n:Int)(hl:b.length<2 ^ 62)(H:A2):R (T k) F.A70 [vwB b,.int .i64 i,.int .i64 n] H=orF (E1 b i n) vwB H :=
 (A4x k (Sl.lv H 1 b) i n hl).trans (D74 (fun r hr=>by rw[A8a hr]) H)
theorem A9i(k:Nat)(b:List Int)(i:Int)(hl:b.length<2 ^ 62)(hi:i≤9223372036854775807)(H:A2):R (T k) F.A4v [vwB b,.int .i64 i] H=orF (L5 b i) vwB H :=
 (A4z k (Sl.lv H 1 b) i hl hi).trans (D74 (fun r hr=>by rw[A8a (by rw[D5w b i hl hi]; exact hr)]) H)
theorem B9g(k:Nat)(b:List Int)(i n s:Int)(hl:b.length<2 ^ 62)(H:A2):R (T k) F.ζw [vwB b,.int .i64 i,.int .i64 n,.int .i64 s] H=orF (S1 b i n s) vwB H :=
 (A50 k (Sl.lv H 1 b) i n s hl).trans (D74 (fun r hr=>by rw[A8a (A71 hr)]) H)
theorem D2i(k:Nat)(b:List Int)(H:A2):R (T k) F.A11 [lv B7 b] H=.ok (vwB b) H:=B2c k (Sl.lv H 1 b)
theorem E5j(k:Nat){H:A2}{v:Value}{b:List Int}(hv:Sl H 1 v B7 b)(hl:b.length≤2 ^ 30):R (T k) F.B34 [.agg #[v]] H=.ok (lv B7 b) H:=by
 rw[G3g];have g:=(D2.nil H).push ⟨[v],1,false⟩;have g:=g.more_row (Ext.refl _) (N2.bare B7 _ 1) (fun b hb=>by cases hb);obtain⟨s,o,H1,e1,g⟩:=g.append (bytes:=1) 1 E9 rfl (b:=v) (l2:=b) (D71 hv.lenL) ((hv.up g.ext).first E9) (by simp; omega) (by decide);simp only[List.nil_append,List.cons_append,List.set_cons_zero,List.set_cons_succ] at g;obtain⟨L,hf⟩:=(g.own 1 rfl).freeze E9 (fun n _ v hv=>by simp at hv; subst hv; trivial) 6;refine G7 (v:=s) (H':=H1) ?_ hf g.ext (D3.B b).alive;simp -implicitDefEqProofs [B34,e1]
theorem D3z(l:List Pt):veq (lv V6 l) (lv V6 l)=true:=A45 fun p _ v hv=>by
 simp[V6] at hv;rcases hv with rfl | rfl | rfl <;> simp
theorem D0z(x:Int × List Pt):veq (boxV #[.int .i64 x.1,lv V6 x.2]) (boxV #[.int .i64 x.1,lv V6 x.2])=true:=A8m (l:=[.int .i64 x.1,lv V6 x.2]) fun v hv=>by
 simp at hv;rcases hv with rfl | rfl
 ·simp
 ·exact D3z _
end Go.Sw
end
section
set_option maxRecDepth 100000
namespace Go.Sw
noncomputable section
variable (k:Nat) (call:A8)
def B0m(k:Nat)(call:A8)(a0 a1:Value)(h:A2):Res Value :=
 (K9 a1 h).bind fun v0 h0=>(D1 A0 82 h0).bind fun v1 h1=>(A3 A0 3 v0 h1).bind fun v2 h2=>(A5 A0 .lss 3 v2 (.int .i64 1) h2).bind fun v3 h3=>(wV v3 false (A3 A0 3 v0 h3) h3).bind fun v4 h4=>(wV v3 false (A5 A0 .gtr 3 v4 (.int .i64 65535) h4) h4).bind fun v5 h5=>(condV (some v3) (Res.ok (.bool true) h5) (Res.ok v5 h5)).bind fun v6 h6=>
 condV (some v6) (
 (B4 A0 82 v1 (.pointer none) h6).bind fun _v7 h7=>(A3 A0 82 v1 h7).bind fun v8 h8=>
 .ok (.tuple #[v8,(.int .i64 1)]) h8)
 (
 (call F.A11 [a0] h6).bind fun v9 h9=>(call F.B34 [v9] h9).bind fun va ha=>(call F.A11 [va] ha).bind fun vb hb=>(D1 A0 113 hb).bind fun vc hc=>(B4 A0 113 vc vb hc).bind fun _vd hd=>(call F.A46 [(.func (.func F.B0f) #[] #[vc,v0,v1])] hd).bind fun ve he=>(unR .not ve he).bind fun vf hf=>
 condV (some vf) (
 (B4 A0 82 v1 (.pointer none) hf).bind fun _vg hg=>(A3 A0 82 v1 hg).bind fun vh hh=>
 .ok (.tuple #[vh,(.int .i64 2)]) hh)
 (
 (A3 A0 82 v1 hf).bind fun vi hi=>(B4 A0 82 v1 vi hi).bind fun _vj hj=>(A3 A0 82 v1 hj).bind fun vk hk=>
 .ok (.tuple #[vk,(.int .i64 0)]) hk))
theorem G6k(k:Nat)(a0 a1:Value)(h:A2):R (T k) F.B0m [a0,a1] h=nrm .fz h (B0m k (R (T k)) a0 a1 h) :=G9
def B0f(k:Nat)(call:A8)(a0 a1 a2:Value)(h:A2):Res Value :=
 (A3 A0 113 a0 h).bind fun v0 h0=>(A3 A0 3 a1 h0).bind fun v1 h1=>(call F.ζ1 [v0,v1] h1).bind fun v2 h2=>(B4 A0 82 a2 v2 h2).bind fun _v3 h3=>
 .ok (.tuple #[]) h3
theorem G46(k:Nat)(a0 a1 a2:Value)(h:A2):R (T k) F.B0f [a0,a1,a2] h=nrm .no h (B0f k (R (T k)) a0 a1 a2 h) :=G9
def G5t(k:Nat)(call:A8):Env→A2→Res D0:=D3m CI call F.ζ1 [1,1,1,1,0,1,0,0] [1,1,1,1,0,1,0,1]
def G50(k:Nat)(call:A8):G0 Value:=D7 0 (E4 (B3 CI call F.ζ1 [1,1,1,1,1]) (G2 A0 (G3 A0 F.ζ1)))
def ζ1(a0 a1:Value)(h:A2):Res Value :=
 (K9 a0 h).bind fun v0 h0=>(A3 A0 113 v0 h0).bind fun v1 h1=>(call F.ζc [v1,(.int .i64 0)] h1).bind fun v2 h2=>(A5 A0 .eql 3 v2 (.int .i64 0) h2).bind fun v3 h3=>(call F.A37 [v3] h3).bind fun v4 h4=>(A3 A0 113 v0 h4).bindN fun v5 h5=>(A3 A0 113 v0 h5).bindN fun v6 h6=>(call F.ζv [v6,(.int .i64 4)] h6).bindT (fun p17 h7=>(A3 A0 113 v0 h6).bindN fun v7 h8=>(A3 A0 113 v0 h8).bindN fun v8 h9=>(D1 A0 82 h9).bindN fun v9 ha=>E6 ((A4 (A3 A0 113 v0 h4) v7 && true) && ((A4 (A3 A0 113 v0 h4) v8 && true) && true)) (.panic p17 h7)) fun va hb=>(call F.A4v [v5,va] hb).bindT (fun p27 hc=>(A3 A0 113 v0 hb).bindN fun vb hd=>(A3 A0 113 v0 hd).bindN fun vc he=>(D1 A0 82 he).bindN fun vd hf=>E6 ((A4 (A3 A0 113 v0 hb) v5 && true) && ((A4 (A3 A0 113 v0 h4) vb && (A4 (A3 A0 113 v0 hb) vb && true)) && ((A4 (A3 A0 113 v0 h4) vc && (A4 (A3 A0 113 v0 hb) vc && true)) && true))) (.panic p27 hc)) fun ve hg=>(call F.A6i [ve,a1,(.int .i64 2)] hg).bindT (fun p37 hh=>(A3 A0 113 v0 hg).bindN fun vf hi=>(A3 A0 113 v0 hi).bindN fun vg hj=>(D1 A0 82 hj).bindN fun vh hk=>E6 ((A4 (A3 A0 113 v0 hb) v5 && true) && ((A4 (A3 A0 113 v0 h4) vf && (A4 (A3 A0 113 v0 hb) vf && (A4 (A3 A0 113 v0 hg) vf && true))) && ((A4 (A3 A0 113 v0 h4) vg && (A4 (A3 A0 113 v0 hb) vg && (A4 (A3 A0 113 v0 hg) vg && true))) && true))) (.panic p37 hh)) fun vi hl=>(A3 A0 113 v0 hl).bindN fun vj hm=>(A3 A0 113 v0 hm).bindN fun vk hn=>(call F.ζv [vk,(.int .i64 8)] hn).bindT (fun p51 ho=>(D1 A0 82 hn).bindN fun vl hp=>E6 ((A4 (A3 A0 113 v0 hb) v5 && true) && ((A4 (A3 A0 113 v0 h4) vj && (A4 (A3 A0 113 v0 hb) vj && (A4 (A3 A0 113 v0 hg) vj && true))) && ((A4 (A3 A0 113 v0 h4) vk && (A4 (A3 A0 113 v0 hb) vk && (A4 (A3 A0 113 v0 hg) vk && true))) && true))) (.panic p51 ho)) fun vm hq=>(call F.A4v [vj,vm] hq).bindT (fun p57 hr=>(D1 A0 82 hq).bindN fun vn hs=>E6 ((A4 (A3 A0 113 v0 hb) v5 && true) && ((A4 (A3 A0 113 v0 h4) vj && (A4 (A3 A0 113 v0 hb) vj && (A4 (A3 A0 113 v0 hg) vj && (A4 (A3 A0 113 v0 hq) vj && true)))) && ((A4 (A3 A0 113 v0 h4) vk && (A4 (A3 A0 113 v0 hb) vk && (A4 (A3 A0 113 v0 hg) vk && true))) && true))) (.panic p57 hr)) fun vo ht=>(E0 A0 115 [(0,vi),(1,vo)] ht).bindN fun vp hu=>(K9 vp hu).bindN fun vq hv=>(D1 A0 82 hv).bindN fun vr hw=>(B4 A0 82 vr vq hw).bindN fun _vs hx=>
 E6 ((A4 (A3 A0 113 v0 hb) v5 && true) && ((A4 (A3 A0 113 v0 h4) vj && (A4 (A3 A0 113 v0 hb) vj && (A4 (A3 A0 113 v0 hg) vj && (A4 (A3 A0 113 v0 hq) vj && true)))) && ((A4 (A3 A0 113 v0 h4) vk && (A4 (A3 A0 113 v0 hb) vk && (A4 (A3 A0 113 v0 hg) vk && true))) && true))) (
 ((.stuck:Res Value)).bind fun vt hy=>(D1 A0 235 hy).bind fun vu hz=>(B4 A0 235 vu vt hz).bind fun _vv h10=>(A3 A0 82 vr h10).bind fun vw h11=>(G8 vw h11).bind fun vx h12=>(A1 A0 115 vx 0 h12).bind fun vy h13=>(A3 A0 111 vy h13).bind fun vz h14=>(call F.B31 [vz] h14).bind fun v10 h15=>((opt (itS v10 h15) h15).bind fun l85 h16=>rangeN (G5t k call) [33,34] [(4,(.pointer none)),(5,vr),(6,vu)] l85 h16).bind fun r87 h17=>
 G50 k call r87.1 r87.2 h17)
theorem G5u{β:Type}(k:Nat)(call:A8)(a0 a1:Value)(h:A2)(K:G0 β):B3 CI call F.ζ1 [0] [(0,a0),(1,a1)] h K =
 (  (K9 a0 h).bind fun v0 h0=>
 K .normal [(1,a1),(2,v0),(4,(.pointer none))] h0):=by kernel_rfl
theorem G5v{β:Type}(k:Nat)(call:A8)(a1 v0:Value)(h0:A2)(K:G0 β):B3 CI call F.ζ1 [1,0] [(1,a1),(2,v0),(4,(.pointer none))] h0 K =
 (  (A3 A0 113 v0 h0).bind fun v1 h1=>(call F.ζc [v1,(.int .i64 0)] h1).bind fun v2 h2=>(A5 A0 .eql 3 v2 (.int .i64 0) h2).bind fun v3 h3=>(call F.A37 [v3] h3).bind fun v4 h4=>
 K .normal [(1,a1),(2,v0),(4,(.pointer none))] h4):=by kernel_rfl
theorem G5w{β:Type}(k:Nat)(call:A8)(a1 v0:Value)(h0:A2)(K:G0 β):B3 CI call F.ζ1 [1,1,0] [(1,a1),(2,v0),(4,(.pointer none))] h0 K =
 (  (A3 A0 113 v0 h0).bindN fun v1 h1=>(A3 A0 113 v0 h1).bindN fun v2 h2=>(call F.ζv [v2,(.int .i64 4)] h2).bindT (fun p17 h3=>(A3 A0 113 v0 h2).bindN fun v3 h4=>(A3 A0 113 v0 h4).bindN fun v4 h5=>(D1 A0 82 h5).bindN fun v5 h6=>E6 ((A4 (A3 A0 113 v0 h0) v3 && true) && ((A4 (A3 A0 113 v0 h0) v4 && true) && true)) (.panic p17 h3)) fun v6 h7=>(call F.A4v [v1,v6] h7).bindT (fun p27 h8=>(A3 A0 113 v0 h7).bindN fun v7 h9=>(A3 A0 113 v0 h9).bindN fun v8 ha=>(D1 A0 82 ha).bindN fun v9 hb=>E6 ((A4 (A3 A0 113 v0 h7) v1 && true) && ((A4 (A3 A0 113 v0 h0) v7 && (A4 (A3 A0 113 v0 h7) v7 && true)) && ((A4 (A3 A0 113 v0 h0) v8 && (A4 (A3 A0 113 v0 h7) v8 && true)) && true))) (.panic p27 h8)) fun va hc=>(call F.A6i [va,a1,(.int .i64 2)] hc).bindT (fun p37 hd=>(A3 A0 113 v0 hc).bindN fun vb he=>(A3 A0 113 v0 he).bindN fun vc hf=>(D1 A0 82 hf).bindN fun vd hg=>E6 ((A4 (A3 A0 113 v0 h7) v1 && true) && ((A4 (A3 A0 113 v0 h0) vb && (A4 (A3 A0 113 v0 h7) vb && (A4 (A3 A0 113 v0 hc) vb && true))) && ((A4 (A3 A0 113 v0 h0) vc && (A4 (A3 A0 113 v0 h7) vc && (A4 (A3 A0 113 v0 hc) vc && true))) && true))) (.panic p37 hd)) fun ve hh=>(A3 A0 113 v0 hh).bindN fun vf hi=>(A3 A0 113 v0 hi).bindN fun vg hj=>(call F.ζv [vg,(.int .i64 8)] hj).bindT (fun p51 hk=>(D1 A0 82 hj).bindN fun vh hl=>E6 ((A4 (A3 A0 113 v0 h7) v1 && true) && ((A4 (A3 A0 113 v0 h0) vf && (A4 (A3 A0 113 v0 h7) vf && (A4 (A3 A0 113 v0 hc) vf && true))) && ((A4 (A3 A0 113 v0 h0) vg && (A4 (A3 A0 113 v0 h7) vg && (A4 (A3 A0 113 v0 hc) vg && true))) && true))) (.panic p51 hk)) fun vi hm=>(call F.A4v [vf,vi] hm).bindT (fun p57 hn=>(D1 A0 82 hm).bindN fun vj ho=>E6 ((A4 (A3 A0 113 v0 h7) v1 && true) && ((A4 (A3 A0 113 v0 h0) vf && (A4 (A3 A0 113 v0 h7) vf && (A4 (A3 A0 113 v0 hc) vf && (A4 (A3 A0 113 v0 hm) vf && true)))) && ((A4 (A3 A0 113 v0 h0) vg && (A4 (A3 A0 113 v0 h7) vg && (A4 (A3 A0 113 v0 hc) vg && true))) && true))) (.panic p57 hn)) fun vk hp=>(E0 A0 115 [(0,ve),(1,vk)] hp).bindN fun vl hq=>(K9 vl hq).bindN fun vm hr=>(D1 A0 82 hr).bindN fun vn hs=>(B4 A0 82 vn vm hs).bindN fun _vo ht=>
 E6 ((A4 (A3 A0 113 v0 h7) v1 && true) && ((A4 (A3 A0 113 v0 h0) vf && (A4 (A3 A0 113 v0 h7) vf && (A4 (A3 A0 113 v0 hc) vf && (A4 (A3 A0 113 v0 hm) vf && true)))) && ((A4 (A3 A0 113 v0 h0) vg && (A4 (A3 A0 113 v0 h7) vg && (A4 (A3 A0 113 v0 hc) vg && true))) && true))) (
 K .normal [(4,(.pointer none)),(5,vn)] ht)):=by kernel_rfl
theorem G51{β:Type}(k:Nat)(call:A8)(v0 v1:Value)(h0:A2)(K:G0 β):B3 CI call F.ζ1 [1,1,1,1,0,0] [(4,(.pointer none)),(5,v0),(6,v1)] h0 K =
 (  (A3 A0 82 v0 h0).bind fun v2 h1=>(G8 v2 h1).bind fun v3 h2=>(A1 A0 115 v3 0 h2).bind fun v4 h3=>(A3 A0 111 v4 h3).bind fun v5 h4=>(call F.B31 [v5] h4).bind fun v6 h5=>
 K .normal [(4,(.pointer none)),(5,v0),(6,v1),(32,v6)] h5):=by kernel_rfl
theorem G52{β:Type}(k:Nat)(call:A8)(a4 a5 a6 a33 a34:Value)(h:A2)(K:G0 β):B3 CI call F.ζ1 [1,1,1,1,0,1,0,0] [(4,a4),(5,a5),(6,a6),(33,a33),(34,a34)] h K =
 (  K .normal [(5,a5),(6,a6),(8,a34)] h):=by kernel_rfl
theorem E36{β:Type}(k:Nat)(call:A8)(e:Env)(h:A2)(K:G0 β):B3 CI call F.ζ1 [1,1,1,1,0,1,0,1,0,0,1] e h K=B3 CI call F.ζ1 [1,1,1,1,0,1,0,1,0,0,1,0] e h (E4 (B3 CI call F.ζ1 [1,1,1,1,0,1,0,1,0,0,1,1]) K):=by kernel_rfl
theorem E37{β:Type}(k:Nat)(call:A8)(a5 a6 a34 v0:Value)(h0:A2)(K:G0 β):B3 CI call F.ζ1 [1,1,1,1,0,1,0,1,0,0,1,0] [(5,a5),(6,a6),(8,a34),(10,v0)] h0 K =
 (  K .normal [(5,a5),(6,a6),(8,a34),(41,v0)] h0):=by kernel_rfl
theorem E38{β:Type}(k:Nat)(call:A8)(a5 a6 a34 v0:Value)(h0:A2)(K:G0 β):B3 CI call F.ζ1 [1,1,1,1,0,1,0,1,0,0,1,1] [(5,a5),(6,a6),(8,a34),(41,v0)] h0 K =
 (condV (some v0) (B3 CI call F.ζ1 [1,1,1,1,0,1,0,1,0,0,1,1,0] [(5,a5),(6,a6),(8,a34),(41,v0)] h0 K) (B3 CI call F.ζ1 [1,1,1,1,0,1,0,1,0,0,1,1,1] [(5,a5),(6,a6),(8,a34),(41,v0)] h0 K)):=by kernel_rfl
theorem G53{β:Type}(k:Nat)(call:A8)(e:Env)(h:A2)(K:G0 β):B3 CI call F.ζ1 [1,1,1,1,0,1,0,1,0,0,1,1,0] e h K=K (.exit 1) e h:=by kernel_rfl
theorem G54{β:Type}(k:Nat)(call:A8)(e:Env)(h:A2)(K:G0 β):B3 CI call F.ζ1 [1,1,1,1,0,1,0,1,0,0,1,1,1] e h K=K .normal e h:=by kernel_rfl
theorem G55{β:Type}(k:Nat)(call:A8)(a5 a34:Value)(h0:A2)(K:G0 β):B3 CI call F.ζ1 [1,1,1,1,0,1,0,1,0,1,1] [(5,a5),(8,a34)] h0 K =
 (    (A3 A0 82 a5 h0).bindN fun v0 h1=>(G8 v0 h1).bindN fun v1 h2=>(A1 A0 115 v1 1 h2).bindN fun v2 h3=>(A3 A0 113 v2 h3).bindN fun v3 h4=>(A5 A0 .add 3 a34 (.int .i64 4) h4).bindN fun v4 h5=>(A3 A0 82 a5 h5).bindN fun v5 h6=>(G8 v5 h6).bindN fun v6 h7=>(A1 A0 115 v6 1 h7).bindN fun v7 h8=>(A3 A0 113 v7 h8).bindN fun v8 h9=>(call F.ζv [v8,a34] h9).bindT (fun p127 ha=>.panic p127 ha) fun v9 hb=>(call F.ζw [v3,v4,v9,(.int .i64 4)] hb).bindT (fun p131 hc=>E6 ((A4 (A3 A0 82 a5 hb) v0 && true) && ((A4 (A3 A0 113 v2 hb) v3 && true) && true)) (.panic p131 hc)) fun va hd=>
 E6 ((A4 (A3 A0 82 a5 hb) v0 && true) && ((A4 (A3 A0 113 v2 hb) v3 && true) && true)) (
 K .normal [] hd)):=by kernel_rfl
theorem G56{β:Type}(k:Nat)(call:A8)(e:Env)(h:A2)(K:G0 β):B3 CI call F.ζ1 [1,1,1,1,1] e h K=B3 CI call F.ζ1 [1,1,1,1,1,0] e h (E4 (B3 CI call F.ζ1 [1,1,1,1,1,1]) K):=by kernel_rfl
theorem G57{β:Type}(k:Nat)(call:A8)(a4 a5 a6:Value)(h:A2)(K:G0 β):B3 CI call F.ζ1 [1,1,1,1,1,0] [(4,a4),(5,a5),(6,a6)] h K =
 (  (A3 A0 82 a5 h).bind fun v0 h0=>
 K .normal [(4,v0)] h0):=by kernel_rfl
theorem G58{β:Type}(k:Nat)(call:A8)(e:Env)(h:A2)(K:G0 β):B3 CI call F.ζ1 [1,1,1,1,1,1] e h K=K .ret e h:=by kernel_rfl
theorem G59(v0:Value)(h0:A2):G2 A0 (G3 A0 F.ζ1) .ret [(4,v0)] h0 =
 (  .ok v0 h0):=by kernel_rfl
def A93(k:Nat)(call:A8)(a0 a1 a2:Value)(h:A2):Res Value :=
 (D1 A0 195 h).bind fun v0 h0=>(A5 A0 .lss 3 a2 (.int .i64 0) h0).bind fun v1 h1=>(wV v1 false (Res.ok a2 h1) h1).bind fun v2 h2=>(wV v1 false (Res.ok a0 h2) h2).bind fun v3 h3=>(wV v1 false (Res.ok a1 h3) h3).bind fun v4 h4=>(wV v1 false (call F.B30 [v3,v4] h4) h4).bind fun v5 h5=>(wV v1 false (A5 A0 .geq 3 v2 v5 h5) h5).bind fun v6 h6=>(condV (some v1) (Res.ok (.bool true) h6) (Res.ok v6 h6)).bind fun v7 h7=>
 condV (some v7) (
 (E0 A0 195 [] h7).bind fun v8 h8=>(B4 A0 195 v0 v8 h8).bind fun _v9 h9=>(A3 A0 195 v0 h9).bind fun va ha=>
 .ok (.tuple #[va,(.bool false)]) ha)
 (
 (G8 a0 h7).bind fun vb hb=>(A1 A0 115 vb 0 hb).bind fun vc hc=>(A3 A0 111 vc hc).bind fun vd hd=>(call F.A91 [vd,a1] hd).bind fun ve he=>(B5 ve 0 he).bind fun vf hf=>(B5 ve 1 hf).bind fun vg hg=>(G8 a0 hg).bindN fun vh hh=>(A1 A0 115 vh 1 hh).bindN fun vi hi=>(A3 A0 113 vi hi).bindN fun vj hj=>(A5 A0 .add 3 vf (.int .i64 4) hj).bindN fun vk hk=>(A5 A0 .mul 3 (.int .i64 4) a2 hk).bindN fun vl hl=>(A5 A0 .add 3 vk vl hl).bindN fun vm hm=>(call F.A64 [vj,vm] hm).bindT (fun p49 hn=>(G8 a0 hm).bindN fun vn ho=>(A1 A0 115 vn 1 ho).bindN fun vo hp=>(A3 A0 113 vo hp).bindN fun vp hq=>(A5 A0 .add 3 vf (.int .i64 6) hq).bindN fun vq hr=>(A5 A0 .mul 3 (.int .i64 4) a2 hr).bindN fun vr hs=>(A5 A0 .add 3 vq vr hs).bindN fun vs ht=>E6 ((A4 (A3 A0 113 vo hg) vp && true) && true) (.panic p49 hn)) fun vt hu=>(G8 a0 hu).bindN fun vu hv=>(A1 A0 115 vu 1 hv).bindN fun vv hw=>(A3 A0 113 vv hw).bindN fun vw hx=>(A5 A0 .add 3 vf (.int .i64 6) hx).bindN fun vx hy=>(A5 A0 .mul 3 (.int .i64 4) a2 hy).bindN fun vy hz=>(A5 A0 .add 3 vx vy hz).bindN fun vz h10=>(call F.A64 [vw,vz] h10).bindT (fun p77 h11=>E6 ((A4 (A3 A0 113 vv hg) vw && true) && true) (.panic p77 h11)) fun v10 h12=>(E0 A0 195 [(0,vt),(1,v10)] h12).bindN fun v11 h13=>(B4 A0 195 v0 v11 h13).bindN fun _v12 h14=>
 E6 ((A4 (A3 A0 113 vv hg) vw && true) && true) (
 (A3 A0 195 v0 h14).bind fun v13 h15=>
 .ok (.tuple #[v13,(.bool true)]) h15))
theorem G3i(k:Nat)(a0 a1 a2:Value)(h:A2):R (T k) F.A93 [a0,a1,a2] h=nrm .gc h (A93 k (R (T k)) a0 a1 a2 h) :=G9
def B30(k:Nat)(call:A8)(a0 a1:Value)(h:A2):Res Value :=
 (G8 a0 h).bind fun v0 h0=>(A1 A0 115 v0 0 h0).bind fun v1 h1=>(A3 A0 111 v1 h1).bind fun v2 h2=>(A5 A0 .eql 111 v2 (.pointer none) h2).bind fun v3 h3=>
 condV (some v3) (
 .ok (.int .i64 0) h3)
 (
 (G8 a0 h3).bind fun v4 h4=>(A1 A0 115 v4 0 h4).bind fun v5 h5=>(A3 A0 111 v5 h5).bind fun v6 h6=>(call F.A91 [v6,a1] h6).bind fun v7 h7=>(B5 v7 0 h7).bind fun v8 h8=>(B5 v7 1 h8).bind fun v9 h9=>(unR .not v9 h9).bind fun va ha=>
 condV (some va) (
 .ok (.int .i64 0) ha)
 (
 (G8 a0 ha).bind fun vb hb=>(A1 A0 115 vb 1 hb).bind fun vc hc=>(A3 A0 113 vc hc).bind fun vd hd=>(call F.ζv [vd,v8] hd).bind fun ve he=>
 .ok ve he))
theorem G1f(k:Nat)(a0 a1:Value)(h:A2):R (T k) F.B30 [a0,a1] h=nrm .gc h (B30 k (R (T k)) a0 a1 h) :=G9
end
end Go.Sw
end
