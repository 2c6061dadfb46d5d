/-
  Functions' forms, and what is proved of them, part 14.
-/
import Derived.Test.YtanfippcmdialaaGreatSwW6
import Derived.Test.YtanfippcmdialaaGreatSwW13
import Derived.Test.YtanfippcmdialaaGreatSwW12
import Derived.Test.YtanfippcmdialaaGreatSwW9
import Derived.Test.YtanfippcmdialaaGreatSwW11
import Derived.Test.YtanfippcmdialaaGreatSwW1
import Derived.Test.YtanfippcmdialaaGreatSwW8
import Derived.Test.YtanfippcmdialaaGreatSwW10
import Derived.Test.YtanfippcmdialaaGreatSwCfg
import Derived.Test.YtanfippcmdialaaGreatSwLib10
import Derived.RangeFuncKeeps
import Derived.RangeFuncLeaves
import Derived.Shelf.Abstract
import Derived.WalkKit
import Derived.OwnWalkIn
import Derived.TacticsInMore
import Derived.LoopNIn
import Derived.LoopIn
import Derived.Tactics
import Derived.Tactics2
import Derived.Defers
import Derived.Recover
import Derived.Laws.Pointers
import Derived.Laws.IdiomCopy
import Derived.Lib.Walk
import Derived.Lib.SliceRun
import Derived.Lib.JoinLaws
import Derived.Lib.AppendZeros
import Derived.Lib.AppendZerosOnto
import Derived.Lib.Overlaps
import Derived.Laws.Externs
import Derived.Laws.NewBlocks
import Derived.Deep.RegionLaw
import Derived.Test.YtanfippcmdialaaGreatSwW4
import Derived.Test.YtanfippcmdialaaGreatSwLib8
import Derived.Eval
set_option linter.unusedSimpArgs false
set_option linter.unusedVariables false
set_option linter.unusedSectionVars false
section
namespace Go.Sw
open Go.RowKit
def S3(ls:List (List (Int × Int))):List Int:=(List.range ls.length).map fun j=>((N1 (ls.take j)).length:Int)
theorem A99(ls:List (List (Int × Int))):(S3 ls).length=ls.length:=by simp[S3]
theorem B1j(ls:List (List (Int × Int))):ofA ls ls.length=ofS (S3 ls):=by
 unfold ofA ofS S3 A6o Y0 D0f;rw[List.map_map,List.length_map,List.length_range];rfl
theorem G9m(ls:List (List (Int × Int))){j:Nat}(hj:j<ls.length):(S3 ls)[j]?=some ((N1 (ls.take j)).length:Int):=by
 unfold S3;rw[List.getElem?_map,List.getElem?_range hj];rfl
theorem E3y(ls:List (List (Int × Int))){j:Nat}{l:List (Int × Int)}(h:ls[j]?=some l):N1 ls=N1 (ls.take j)++(glB l++N1 (ls.drop (j+1))):=by
 obtain ⟨hj,hl⟩:=List.getElem?_eq_some_iff.1 h;have:ls=ls.take j++(l :: ls.drop (j+1)):=by
  rw[← hl,← List.drop_eq_getElem_cons,List.take_append_drop]
 conv=>lhs; rw[this]
 simp[N1]
theorem G6l{ls:List (List (Int × Int))}(hn:ls.length≤30)(hl:∀ l,l ∈ ls→l.length≤30):∀ x,x ∈ S3 ls→0≤x∧x<65536:=fun x hx=>by
 unfold S3 at hx;obtain⟨j,hj,rfl⟩:=List.mem_map.1 hx;have h1:=B94 (ls.take j) fun l h=>hl l (List.mem_of_mem_take h);rw[List.length_take] at h1;omega
theorem D0j(p:Int × Int):Byt (ptB p):=(ζy _ _).app (ζy _ _)
theorem G9y(ls:List (List (Int × Int))):Byt (N1 ls):=Byt.flat fun r hr=>by
 obtain⟨l,_,rfl⟩:=List.mem_map.1 hr;exact (ζy _ _).app (Byt.flat fun r hr=>by obtain⟨p,_,rfl⟩:=List.mem_map.1 hr; exact D0j p)
theorem B6f(ls:List (List (Int × Int))){j:Nat}{l:List (Int × Int)}(h:ls[j]?=some l)(hl:l.length≤30):uS (N1 ls) ((N1 (ls.take j)).length:Int) 4=some (l.length:Int):=by
 rw[E3y ls h];unfold glB;rw[List.append_assoc];exact A6r _ _ _ _ rfl rfl (by omega) (by omega)
theorem B6g(ls:List (List (Int × Int))){j:Nat}{l:List (Int × Int)}(h:ls[j]?=some l):(N1 (ls.take j)).length+4+4*l.length≤(N1 ls).length:=by
 conv=>rhs; rw[E3y ls h]
 simp only[List.length_append,B3y];omega
theorem D6b(ls:List (List (Int × Int)))(hn:ls.length≤30):uS (A2l ls) 0 2=some 0∧uS (A2l ls) 4 4=some 12∧uS (A2l ls) 8 4=some (12+((ofS (S3 ls)).length:Int))∧(A2l ls).drop 12=ofS (S3 ls)++N1 ls∧(A2l ls).drop (12+(ofS (S3 ls)).length)=N1 ls∧(A2l ls).length=12+(ofS (S3 ls)).length+(N1 ls).length:=by
 have hol:(ofS (S3 ls)).length=6+ls.length*2:=by unfold ofS; simp[X3,A99]; omega
 have e:A2l ls=[0,0,0,0,0,0,0,12]++(D4 ((12+(ofS (S3 ls)).length:Nat):Int) 4++(ofS (S3 ls)++N1 ls)):=by unfold A2l; rw[B1j]; simp only[List.append_assoc]
 have e3:A2l ls=([0,0,0,0,0,0,0,12]++D4 ((12+(ofS (S3 ls)).length:Nat):Int) 4)++(ofS (S3 ls)++N1 ls):=by rw[e]; simp only[List.append_assoc]
 refine⟨?_,?_,?_,?_,?_,?_⟩
 ·rw[e,show ([0,0,0,0,0,0,0,12]:List Int)=[]++(D4 0 2++[0,0,0,0,0,12]) by decide,List.append_assoc,List.append_assoc];exact A6r _ _ _ _ (by simp) rfl (by omega) (by omega)
 ·rw[e,show ([0,0,0,0,0,0,0,12]:List Int)=[0,0,0,0]++(D4 12 4++[]) by decide,List.append_assoc,List.append_assoc];exact A6r _ _ _ _ (by simp) rfl (by omega) (by omega)
 ·rw[e];have:=A6r [0,0,0,0,0,0,0,12] (ofS (S3 ls)++N1 ls) (n:=((12+(ofS (S3 ls)).length:Nat):Int)) (k:=4) 8 4 (by simp) rfl (by omega) (by omega);rw[this]; simp
 ·rw[e3,List.drop_append_of_le_length (by simp)];rw[List.drop_of_length_le (by simp)];rfl
 ·rw[e3,← List.append_assoc,List.drop_append_of_le_length (by simp; omega),List.drop_of_length_le (by simp; omega)];rfl
 ·rw[e]; simp; omega
theorem A51(ls:List (List (Int × Int))):Byt (A2l ls):=by
 unfold A2l;rw[B1j];refine (((Byt.app ?_ (ζy _ _)).app ?_)).app (G9y ls)
 ·intro x hx;simp at hx;omega
 ·unfold ofS;exact (((ζy _ _).app (ζy _ _)).app (ζy _ _)).app (B1u _)
abbrev B2m(ls:List (List (Int × Int))):A1o:=⟨A9f (S3 ls),N1 ls⟩
theorem E5k (ls:List (List (Int × Int))) (hn:ls.length≤30) (hl:∀ l,l ∈ ls→l.length≤30) (g:Int):A4q (A2l ls) g=some (B2m ls):=by
 obtain ⟨p1,p2,p3,p4,p5,p6⟩:=D6b ls hn;have hb:=G6l hn hl;have hlk:=B6z (S3 ls) hb (by rw[A99]; omega) (N1 ls) g;unfold A4q;have r1:L5 (A2l ls) 12=some (ofS (S3 ls)++N1 ls):=by
  unfold L5;rw[if_pos ⟨by omega,by omega⟩];exact congrArg some p4
 have r2:L5 (A2l ls) (12+(ofS (S3 ls)).length)=some (N1 ls):=by
  unfold L5;rw[if_pos ⟨by omega,by omega⟩];rw[show (12+((ofS (S3 ls)).length:Int)).toNat=12+(ofS (S3 ls)).length by omega,p5]
 simp only[p1,p2,r1,hlk,p3,r2,Option.bind_some,if_true];rw[if_pos];rw[List.all_eq_true];intro x hx;have hok:∀ p,p ∈ (A9f (S3 ls)).2→p.ok:=by
  intro p hp;unfold A9f at hp;dsimp only at hp;split at hp
  ·cases hp
  ·rename_i hne;simp only[List.mem_singleton] at hp;subst hp;have:0<(S3 ls).length:=List.length_pos_iff.2 hne;rw[A99] at this;refine⟨by simp,by simp[A99]; omega,by simp[A99]; omega,hne,by simp[A99]; omega,fun x hx=>?_⟩;have:=hb x hx;omega
 obtain⟨p,hp,hx⟩:=List.mem_flatMap.1 hx;unfold A9f at hp;dsimp only at hp;split at hp
 ·cases hp
 ·simp only[List.mem_singleton] at hp;subst hp;unfold ptL at hx;obtain⟨j,hj,rfl⟩:=List.mem_map.1 hx;have hj:=List.mem_range.1 hj;dsimp only at hj;rw[A99] at hj;have hj:j<ls.length:=by omega
  have hnum:Pt.num ⟨0,((S3 ls).length:Int) - 1,S3 ls⟩ (0+(j:Nat))=some ((N1 (ls.take j)).length:Int):=by
   unfold Pt.num;dsimp only;rw[A99,show (min (0+(j:Int) - 0) ((ls.length:Int) - 1)).toNat=j by omega];exact G9m ls hj
  obtain⟨l,hl2⟩:∃ l,ls[j]?=some l:=⟨_,List.getElem?_eq_getElem hj⟩
  have h30:=hl l (List.mem_of_getElem? hl2);dsimp only;rw[hnum];show A6t (N1 ls) ((N1 (ls.take j)).length:Int)=true;unfold A6t;rw[B6f ls hl2 h30,Option.bind_some];have hf:=B6g ls hl2;rw[(B3g (r:=((N1 ls).drop (((N1 (ls.take j)).length:Int)+4).toNat).take ((l.length:Int)*4).toNat) (by decide)).2 ⟨⟨by omega,by omega,by omega,by omega⟩,rfl⟩];rfl
abbrev A5b(l:List (Int × Int)):List Value:=[lv A9l l]
theorem J00(l:List (Int × Int)):(A5b l).length=1:=rfl
theorem B7i(H:A2)(ls:List (List (Int × Int))):A9b H ls (lv A5b ls) (ls.map fun l=>(l,lv A9l l)):=by
 refine ⟨by rw[List.map_map]; simp[Function.comp_def],fun x hx=>by obtain⟨l,_,rfl⟩:=List.mem_map.1 hx; exact Sl.lv _ 2 _,?_⟩;have:lv A5b ls=lv D31 (ls.map fun l=>(l,lv A9l l)):=by
  unfold lv;rw[List.length_map];congr 2;unfold rows;rw[List.flatMap_map];rfl
 rw[this];exact Sl.lv _ 1 _
theorem D0s(ls:List (List (Int × Int)))(hn:ls.length≤30)(hl:∀ l,l ∈ ls→l.length≤30):(B2m ls).ok:=by
 obtain⟨p1,p2,p3,p4,p5,p6⟩:=D6b ls hn;have hdl:=B94 ls hl;have hol:(ofS (S3 ls)).length=6+ls.length*2:=by unfold ofS; simp[X3,A99]; omega
 exact B3n (A51 ls) (g:=60) (by omega) (by omega) (by omega) (E5k ls hn hl 60)
theorem B88{n:Int}(h:(Lit.int .i16 n).wf=true):-32768≤n∧n<32768:=by
 simp[Lit.wf,IntKind.min,IntKind.max,IntKind.signed,IntKind.bits] at h;omega
theorem D9w{r:List Da}{cs:List Value}(h:M5 [.int .i16,.int .i16] r cs):∃ p:Int × Int,cs=A9l p∧((-32768≤p.1∧p.1<32768)∧(-32768≤p.2∧p.2<32768)):=by
 obtain⟨d,v,ds,vs,rfl,h1,h2⟩:=h.head;obtain⟨d',v',ds',vs',rfl,g2,h3⟩:=h2.head;obtain rfl:=h3.done;obtain⟨n,rfl,w⟩:=h1.intv;obtain⟨m,rfl,w2⟩:=g2.intv;exact⟨(n,m),rfl,B88 w,B88 w2⟩
theorem D3p{r:List Da}{cs:List Value}(h:M5 [.slice [.int .i16,.int .i16]] r cs):∃ l:List (Int × Int),cs=A5b l∧∀ p,p ∈ l→((-32768≤p.1∧p.1<32768)∧(-32768≤p.2∧p.2<32768)):=by
 obtain⟨d,v,ds,vs,rfl,h1,h2⟩:=h.head;obtain rfl:=h2.done;obtain⟨l,rfl,hl⟩:=Lay.list (enc:=A9l) (ok:=fun p=>(-32768≤p.1∧p.1<32768)∧(-32768≤p.2∧p.2<32768)) (fun r cs h=>D9w h) h1;exact⟨l,rfl,hl⟩
structure A7g where
 p:A0s
 kind:Int
 acts:List Int
 pts:List (List (Int × Int))
 ids:List Int
structure A7g.ok (x:A7g):Prop where
 p:x.p.ok
 kind:0≤x.kind∧x.kind<256
 npts:x.pts.length<2 ^ 63
 pts:∀ l,l ∈ x.pts→∀ p,p ∈ l→(-32768≤p.1∧p.1<32768)∧(-32768≤p.2∧p.2<32768)
abbrev bcC(x:A7g):List Value:=[lv B7 x.p.cls,lv B13 x.p.rows,lv E7 x.p.ents,.int .u8 x.p.wide,.int .u8 x.kind,lv A6p x.acts,lv A5b x.pts,lv N3 x.ids]
abbrev bcV(x:A7g):Value:=.agg (bcC x).toArray
structure D2n (x:A7g):Prop where
 pts:∀ l,l ∈ x.pts→l.length≤20
 cls:x.p.cls.length≤40
 rows:x.p.rows.length≤20
 ents:x.p.ents.length≤40
 acts:x.acts.length≤100
 ids:x.ids.length≤60
 npts:x.pts.length≤20
theorem G7k (k:Nat) (x:A7g) (hx:x.ok) (H:A2):(D2n x∧R (T k) F.ζm [bcV x] H=.ok (.bool true) H)∨R (T k) F.ζm [bcV x] H=.ok (.bool false) H:=by
 have hx1:Ext H (H.push ⟨bcC x,1,false⟩):=(Ext.refl H).push _;have hq:(H.push ⟨bcC x,1,false⟩).get H.n=some ⟨bcC x,1,false⟩:=ζd _ _ _ rfl;have hnp:=hx.npts
 obtain ⟨xx,e',H1,hr1,rfl,hQ⟩:=K5 (body:=D4o k (R (T k))) x.pts.length
  (fun j e H'=>e=[(1,B6 H.n),(6,lv A5b x.pts),(7,.int .i64 x.pts.length),(8,.int .i64 j)]∧(∀ l,l ∈ x.pts.take j→l.length≤20)∧H'=H.push ⟨bcC x,1,false⟩)
  (fun xx e H'=>H'=H.push ⟨bcC x,1,false⟩∧((xx=.exit 0∧(∀ l,l ∈ x.pts→l.length≤20)∧∃ z,e=[(1,B6 H.n),(6,lv A5b x.pts),(7,.int .i64 x.pts.length),(8,z),(9,.bool false)])∨(xx=.ret∧e=[(2,.bool false)])))
  (e0:=[(1,B6 H.n),(6,lv A5b x.pts),(7,.int .i64 x.pts.length),(8,.int .i64 0)]) (H0:=H.push ⟨bcC x,1,false⟩) ⟨rfl,fun l h=>(by cases h),rfl⟩ (by omega)
  (fun j e H' hj ⟨he,hall,hH⟩=>by
   subst he hH;have hjl:(j:Int)<x.pts.length:=by omega
   obtain⟨l,hl⟩:∃ l,x.pts[j]?=some l:=⟨_,List.getElem?_eq_getElem hj⟩
   have i1:=fun H'=>S0 J00 x.pts .i64 j l hl H';by_cases c:l.length>20
   ·have c':(l.length:Int)>20:=by omega
    refine .inr ⟨.ret,_,_,?_,by simp,rfl,.inr ⟨rfl,rfl⟩⟩;rw[D46];simp -implicitDefEqProofs(disch:=omega) [hjl,i1,c']
   ·have c':¬ (l.length:Int)>20:=by omega
    refine .inl ⟨_,_,?_,rfl,fun y hy=>?_,rfl⟩
    ·rw[D46];simp -implicitDefEqProofs(disch:=omega) [hjl,i1,c']
    ·rw[A29 hl] at hy;rcases List.mem_append.1 hy with hy | hy
     ·exact hall y hy
     ·rw[List.mem_singleton.1 hy]; omega)
  (fun e H' ⟨he,hall,hH⟩=>by
   subst he hH;rw[List.take_length] at hall;refine⟨.exit 0,_,_,?_,by simp,rfl,.inl ⟨rfl,hall,.int .i64 x.pts.length,rfl⟩⟩;rw[D46];simp -implicitDefEqProofs)
 rw[G1q];rcases hQ with⟨rfl,hall,z,rfl⟩ | ⟨rfl,rfl⟩
 rotate_left
 ·refine .inr (D8 ⟨_,?_,hx1⟩ (.bool _));simp -implicitDefEqProofs(disch:=omega) [ζm,hr1,G0c]
 by_cases h1:x.p.cls.length≤40;rotate_left
 ·refine .inr (D8 ⟨_,?_,hx1⟩ (.bool _));have h1':¬ (x.p.cls.length:Int)≤40:=by omega
  simp -implicitDefEqProofs [ζm,hr1,B2s,hq,h1']
 have h1':(x.p.cls.length:Int)≤40:=by omega
 by_cases h2:x.p.rows.length≤20;rotate_left
 ·refine .inr (D8 ⟨_,?_,hx1⟩ (.bool _));have h2':¬ (x.p.rows.length:Int)≤20:=by omega
  simp -implicitDefEqProofs [ζm,hr1,B2s,hq,h1',h2']
 have h2':(x.p.rows.length:Int)≤20:=by omega
 by_cases h3:x.p.ents.length≤40;rotate_left
 ·refine .inr (D8 ⟨_,?_,hx1⟩ (.bool _));have h3':¬ (x.p.ents.length:Int)≤40:=by omega
  simp -implicitDefEqProofs [ζm,hr1,B2s,hq,h1',h2',h3']
 have h3':(x.p.ents.length:Int)≤40:=by omega
 by_cases h4:x.acts.length≤100;rotate_left
 ·refine .inr (D8 ⟨_,?_,hx1⟩ (.bool _));have h4':¬ (x.acts.length:Int)≤100:=by omega
  simp -implicitDefEqProofs [ζm,hr1,B2s,hq,h1',h2',h3',h4']
 have h4':(x.acts.length:Int)≤100:=by omega
 by_cases h5:x.ids.length≤60;rotate_left
 ·refine .inr (D8 ⟨_,?_,hx1⟩ (.bool _));have h5':¬ (x.ids.length:Int)≤60:=by omega
  simp -implicitDefEqProofs [ζm,hr1,B2s,hq,h1',h2',h3',h4',h5']
 have h5':(x.ids.length:Int)≤60:=by omega
 by_cases h6:x.pts.length≤20;rotate_left
 ·refine .inr (D8 ⟨_,?_,hx1⟩ (.bool _));have h6':¬ (x.pts.length:Int)≤20:=by omega
  simp -implicitDefEqProofs [ζm,hr1,B2s,hq,h1',h2',h3',h4',h5',h6']
 have h6':(x.pts.length:Int)≤20:=by omega
 refine .inl ⟨⟨hall,h1,h2,h3,h4,h5,h6⟩,D8 ⟨_,?_,hx1⟩ (.bool _)⟩;simp -implicitDefEqProofs [ζm,hr1,B2s,hq,h1',h2',h3',h4',h5',h6']
theorem G7x{b:List Int}{g:Int}{t:A0r}(h:W7 b g=some t):Z5 b g 1=some t.m:=by
 unfold W7 at h;obtain⟨m,hm,h⟩:=Option.bind_eq_some_iff.1 h;obtain⟨w,hw,h⟩:=Option.bind_eq_some_iff.1 h;split at h
 ·obtain⟨a,ha,h⟩:=Option.bind_eq_some_iff.1 h;split at h
  ·injection h with h;subst h;exact hm
  ·cases h
 ·injection h with h;subst h;exact hm
set_option maxRecDepth 10000 in
theorem J0z(t:A0r)(ht:t.m.ok)(pg:Int→Int→Option (Int × Int))(gl:List Gl)(l:List Pl):(A41 t pg gl l).1.length=l.length:=by
 unfold A41 A4m;exact A8j t.m ht (fun _:List Pl × Int=>gl) (fun s i e=>(A2z t pg gl s i e,i,i+1)) (fun s:List Pl × Int=>s.1.length=l.length) (fun s i e hs _ _=>by
  dsimp only;unfold A2z;rw[E4n];exact hs) (2*(gl.length:Int)+128) (2*gl.length+128) ((l,-1),⟨0,0,0,0⟩) rfl (Int.le_refl _) (Int.le_refl _) (by have:=ht.two; dsimp only; omega)
abbrev D7q:ASh:=.agg [.slice [.int .u8],.slice [.slice [.int .u8]],.slice [.int .i64,.int .i64,.int .i64,.int .i64],.int .u8,.int .u8,.slice [.int .i16],.slice [.slice [.int .i16,.int .i16]],.slice [.int .i64]]
theorem D0n{r:List Da}{cs:List Value}(h:M5 [.int .i16] r cs):∃ n:Int,cs=A6p n∧True:=by
 obtain⟨d,v,ds,vs,rfl,h1,h2⟩:=h.head;obtain rfl:=h2.done;obtain⟨n,rfl,w⟩:=h1.intv;exact⟨n,rfl,trivial⟩
theorem D2y{v:Value}(h:A2g D7q v):∃ x,v=bcV x∧x.ok:=by
 cases h with
 | agg ss ds vs h=>
  obtain⟨_,v1,_,_,rfl,h1,h⟩:=h.head;obtain⟨_,v2,_,_,rfl,h2,h⟩:=h.head;obtain⟨_,v3,_,_,rfl,h3,h⟩:=h.head;obtain⟨_,v4,_,_,rfl,h4,h⟩:=h.head;obtain⟨_,v5,_,_,rfl,h5,h⟩:=h.head;obtain⟨_,v6,_,_,rfl,h6,h⟩:=h.head;obtain⟨_,v7,_,_,rfl,h7,h⟩:=h.head;obtain⟨_,v8,_,_,rfl,h8,h⟩:=h.head;obtain rfl:=h.done;obtain⟨a,rfl,wa⟩:=Lay.list (enc:=B7) (ok:=fun n=>0≤n∧n<256) (fun r cs h=>D2m h) h1;obtain⟨b,rfl,wb⟩:=Lay.list (enc:=B13) (ok:=Byt) (fun r cs h=>D3n h) h2;obtain⟨c,rfl,wc⟩:=Lay.list (enc:=E7) (ok:=fun _=>True) (fun r cs h=>D3o h) h3;obtain⟨d,rfl,wd⟩:=h4.intv;obtain⟨kd,rfl,wk⟩:=h5.intv;obtain⟨f,rfl,wf⟩:=Lay.list (enc:=A6p) (ok:=fun _=>True) (fun r cs h=>D0n h) h6;obtain⟨ls,rfl,hlen,hl⟩:=Lay.listN (enc:=A5b) (ok:=fun l=>∀ p,p ∈ l→((-32768≤p.1∧p.1<32768)∧(-32768≤p.2∧p.2<32768))) (fun r cs h=>D3p h) h7;obtain⟨ids,rfl,_⟩:=Lay.list (enc:=N3) (ok:=fun _=>True) (fun r cs h=>by obtain⟨n,e,_⟩:=D9x h; exact⟨n,e,trivial⟩) h8;exact⟨⟨⟨a,b,c,d⟩,kd,f,ls,ids⟩,rfl,⟨wa,wb,B89 wd⟩,B89 wk,hlen,hl⟩
theorem B7c{s k n:Nat}(h:k=s)(hn:n≤2):B00 s k n=.no:=by
 unfold B00;subst h;have h1:Nat.beq k k=true:=Nat.beq_refl k;have h2:Nat.ble n 2=true:=Nat.ble_eq_true_of_le hn;rw[h1,h2];rfl
theorem D0h{s k n:Nat}(h:k<1000000)(hn:2<n):B00 s k n=.fz:=by
 unfold B00;have h2:Nat.ble n 2=false:=by
  cases hb:Nat.ble n 2 with
  | false=>rfl
  | true=>exact absurd (Nat.le_of_ble_eq_true hb) (by omega)
 rw[h2,Bool.and_false,cond_false];unfold own;rw[show Nat.blt k 1000000=true from Nat.ble_eq_true_of_le h];rfl
theorem G7a (k:Nat) {v:Value} {l:List Int} {H:A2} (hv:Sl H 1 v N3 l) (hl:l.length≤1000):R (T k) F.B0e [v] H=.ok (lv U0 (V7 l)) H:=by
 rw[G3z];have hln:=fun H'=>hv.len H'
 obtain ⟨x,e',H1,hr,s,v2,rfl,rfl,ho,hx⟩:=K5 (body:=D58 k (R (T k))) l.length
  (fun i e H'=>∃ s,e=[(0,v),(3,s),(4,.int .i64 i)]∧Own H H' 3 s U0 (V7 (l.take i))∧Ext H H')
  (fun x e H'=>∃ s v2,x=.exit 0∧e=[(0,v),(3,s),(4,.int .i64 l.length),(9,v2)]∧Own H H' 3 s U0 (V7 l)∧Ext H H')
  (e0:=[(0,v),(3,U8),(4,.int .i64 0)]) (H0:=H) ⟨U8,rfl,Own.bare _ _ _,Ext.refl H⟩ (by omega)
  (fun i e H' hi ⟨s,he,ho,hx⟩=>by
   subst he;obtain⟨n,hg⟩:∃ n,l[i]?=some n:=⟨l[i],List.getElem?_eq_getElem hi⟩
   obtain⟨p,i1,i2⟩:=hv.ix1 N0 i n hg _ rfl;have i2:=i2 H' hx;obtain⟨s',H2,e1,o1,x1⟩:=A52 (bytes:=12) M8 ho hx ⟨X5 n,0,0⟩ (by simp[V7]; omega) (by decide);rw[E1p];have h1:=B5g n;have h2:=B5f n;have hlt:(i:Int)<l.length:=by omega
   simp only[U0] at e1;have:V7 (l.take (i+1))=V7 (l.take i)++[⟨X5 n,0,0⟩]:=by simp[V7,List.take_add_one,hg]
   exact .inl ⟨_,H2,by simp -implicitDefEqProofs(disch:=omega) [hln,hlt,i1,i2,e1],s',rfl,by rw[this]; exact o1,x1⟩)
  (fun e H' ⟨s,he,ho,hx⟩=>by
   subst he;rw[E1p];exact⟨.exit 0,_,H',by simp[hln]; rfl,by simp,s,_,rfl,rfl,by simpa using ho,hx⟩)
 obtain⟨L,hf⟩:=ho.freeze M8 (D1v _) 6;refine G7 (v:=s) (H':=H1) ?_ hf hx (D3.alive (D3.lv (B96 _)));simp -implicitDefEqProofs [B0e,hr,G0z]
theorem J10 (k:Nat) {H0 H:A2} {L:List It} {i:Nat} {o:Option Nat} {s:Value} {b:List Int} (hi:L[i]?=some (D6 o 1 s B7 b)) (g:D2 H0 H L) (hb:b.length<2 ^ 40) (a1 a4 a6 a8 a10:Value) :
  ∃ z H',loopN (D13 k (R (T k))) B8 [(1,a1),(3,s),(4,a4),(6,a6),(8,a8),(10,a10),(82,.int .i64 b.length),(83,.int .i64 0)] H=.ok (.exit 0,[(1,a1),(3,s),(4,a4),(6,a6),(8,a8),(10,a10),(82,.int .i64 b.length),(83,z),(84,.bool false)]) H'∧∃ b',D2 H0 H' (L.set i (D6 o 1 s B7 b')):=by
 have hlt:=(List.getElem?_eq_some_iff.1 hi).1;have same:L.set i (D6 o 1 s B7 b)=L:=by
  obtain⟨hlt,hx⟩:=List.getElem?_eq_some_iff.1 hi;rw[← hx,List.set_getElem_self]
 obtain ⟨xx,e',H1,hr1,rfl,⟨z,rfl⟩,b',_,g⟩:=K5 (body:=D13 k (R (T k))) b.length
  (fun j e H'=>e=[(1,a1),(3,s),(4,a4),(6,a6),(8,a8),(10,a10),(82,.int .i64 b.length),(83,.int .i64 j)]∧∃ b':List Int,b'.length=b.length∧D2 H0 H' (L.set i (D6 o 1 s B7 b')))
  (fun xx e H'=>xx=.exit 0∧(∃ z,e=[(1,a1),(3,s),(4,a4),(6,a6),(8,a8),(10,a10),(82,.int .i64 b.length),(83,z),(84,.bool false)])∧∃ b':List Int,b'.length=b.length∧D2 H0 H' (L.set i (D6 o 1 s B7 b')))
  (e0:=[(1,a1),(3,s),(4,a4),(6,a6),(8,a8),(10,a10),(82,.int .i64 b.length),(83,.int .i64 0)]) (H0:=H) ⟨rfl,b,rfl,by rw[same]; exact g⟩ (by omega)
  (fun j e H' hj ⟨he,b',hl,g⟩=>by
   subst he;have hjl:(j:Int)<b.length:=by omega
   have hself:(L.set i (D6 o 1 s B7 b'))[i]?=some (D6 o 1 s B7 b'):=List.getElem?_set_self hlt;obtain⟨c,hc,_,i2⟩:=g.ix i hself .i64 j (by omega);subst hc;obtain⟨x,hx⟩:∃ x,b'[j]?=some x:=⟨_,List.getElem?_eq_getElem (by omega)⟩
   obtain⟨H2,e2,g2,_⟩:=g.stRow i hself E9 (j:=j) (c:=0) (n:=1) 17 (v:=.int .u8 17) hx rfl rfl (by decide) rfl;rw[List.set_set] at g2;rw[Nat.add_zero] at e2;refine .inl ⟨_,H2,?_,rfl,_,by rw[List.length_set]; exact hl,g2⟩;rw[E07];simp -implicitDefEqProofs(disch:=omega) [-Q3,hjl,i2];simp only[Nat.mul_one] at e2;simp -implicitDefEqProofs(disch:=omega) [-Q3,e2])
  (fun e H' ⟨he,b',hl,g⟩=>by
   subst he;refine⟨.exit 0,_,H',?_,by simp,rfl,⟨.int .i64 b.length,rfl⟩,b',hl,g⟩;rw[E07];simp -implicitDefEqProofs)
 exact⟨z,H1,hr1,b',g⟩
theorem J11 (k:Nat) {H:A2} (l:List Pl) (hl:l.length≤2 ^ 20) (h0:∀ q,q ∈ l→q.adv=0) (a1 a14 a15 a16 a17 a18:Value) :
  ∃ z H',loopN (D14 k (R (T k))) B8 [(1,a1),(14,a14),(15,a15),(16,a16),(17,a17),(18,a18),(116,lv U0 l),(117,.int .i64 l.length),(118,.int .i64 0)] H=.ok (.exit 2,[(1,a1),(14,a14),(15,a15),(16,a16),(17,a17),(18,a18),(116,lv U0 l),(117,.int .i64 l.length),(118,z),(119,.bool false)]) H'∧Ext H H':=by
 obtain ⟨xx,e',H1,hr1,rfl,rfl,hx⟩:=K5 (body:=D14 k (R (T k))) l.length
  (fun j e H'=>e=[(1,a1),(14,a14),(15,a15),(16,a16),(17,a17),(18,a18),(116,lv U0 l),(117,.int .i64 l.length),(118,.int .i64 j)]∧Ext H H')
  (fun xx e H'=>xx=.exit 2∧e=[(1,a1),(14,a14),(15,a15),(16,a16),(17,a17),(18,a18),(116,lv U0 l),(117,.int .i64 l.length),(118,.int .i64 l.length),(119,.bool false)]∧Ext H H')
  (e0:=[(1,a1),(14,a14),(15,a15),(16,a16),(17,a17),(18,a18),(116,lv U0 l),(117,.int .i64 l.length),(118,.int .i64 0)]) (H0:=H) ⟨rfl,Ext.refl _⟩ (by omega)
  (fun j e H' hj ⟨he,hx⟩=>by
   subst he;have hjl:(j:Int)<l.length:=by omega
   obtain⟨q,hq⟩:∃ q,l[j]?=some q:=⟨_,List.getElem?_eq_getElem hj⟩
   have hz:=h0 q (List.mem_of_getElem? hq);have i1:=fun H'=>S0 M8 l .i64 j q hq H';obtain⟨qa,qx,qy⟩:=q;dsimp only at hz;subst hz;refine .inl ⟨_,H'.push ⟨U0 ⟨0,qx,qy⟩,1,false⟩,?_,rfl,hx.push _⟩;rw[E08];simp -implicitDefEqProofs(disch:=omega) [hjl,i1])
  (fun e H' ⟨he,hx⟩=>by
   subst he;refine⟨.exit 2,_,H',?_,by simp,rfl,rfl,hx⟩;rw[E08];simp -implicitDefEqProofs)
 exact⟨_,H1,hr1,hx⟩
theorem G7w (t:A0r) (pg:Int→Int→Option (Int × Int)) (gl:List Gl) {l:List Pl} (h:∀ q,q ∈ l→q.adv=0) (i mark:Int) (e:En):∀ q,q ∈ Q9 t pg gl l i mark e→q.adv=0:=by
 have hs:∀ i x y,∀ q,q ∈ A0l l i x y→q.adv=0:=fun i x y q hq=>by
  unfold A0l A00 at hq;split at hq
  ·obtain⟨n,hn⟩:=List.getElem?_of_mem hq;rw[List.getElem?_modify] at hn;obtain⟨q0,h0,h1⟩:=Option.map_eq_some_iff.1 hn;have:=h q0 (List.mem_of_getElem? h0);rw[← h1];split
   ·exact this
   ·exact this
  ·exact h q hq
 unfold Q9
 repeat' split
 all_goals first
  | exact h
  | exact hs _ _ _
set_option maxRecDepth 10000 in
theorem B7n(t:A0r)(ht:t.m.ok)(pg:Int→Int→Option (Int × Int))(gl:List Gl)(l:List Pl)(h:∀ q,q ∈ l→q.adv=0):∀ q,q ∈ (A41 t pg gl l).1→q.adv=0:=by
 unfold A41 A4m;exact A8j t.m ht (fun _:List Pl × Int=>gl) (fun s i e=>(A2z t pg gl s i e,i,i+1)) (fun s:List Pl × Int=>∀ q,q ∈ s.1→q.adv=0) (fun s i e hs _ _=>by
  dsimp only;unfold A2z;exact G7w t pg gl hs i s.2 e) (2*(gl.length:Int)+128) (2*gl.length+128) ((l,-1),⟨0,0,0,0⟩) h (Int.le_refl _) (Int.le_refl _) (by have:=ht.two; dsimp only; omega)
set_option maxRecDepth 20000 in
set_option maxHeartbeats 4000000 in
theorem G5q (x:A7g) (hx:x.ok):R (T F.B2z) F.ζj [bcV x] A2.empty=.ok (.bool true) A2.empty:=by
 generalize hk:F.B2z=k;have hs:=G6c k (by subst hk; rfl);have hW:B2h k=.no:=by subst hk; rfl
 have hk6:k<1000000:=by subst hk; decide
 have hkP:k=B7o:=by subst hk; rfl
 clear hk;rw[G0k];obtain⟨H,hH,hHn⟩:∃ H,H=A2.empty∧H.n=0:=⟨_,rfl,rfl⟩
 rw[← hH];clear hH;have g:=(D2.nil H).push ⟨bcC x,1,false⟩;simp only[List.nil_append] at g;rcases G7k k x hx (H.push ⟨bcC x,1,false⟩) with⟨c1,hsm⟩ | hsm;rotate_left
 ·refine D8 ⟨_,?_,g.ext⟩ (.bool _);simp -implicitDefEqProofs(disch:=omega) [ζj,hs,hsm]
 obtain ⟨c1,c2,c3,c4,c5,c6,c7⟩:=c1;obtain⟨s1,o1,H1,w1,g,hn1⟩:=G7p k hW x.p hx.p (by omega) (by omega) (by omega) (B7c hkP (by simp only[A02]; omega)) g (A1q.lv _ x.p (Sl.lv _ 4 x.p.ents)) hx.kind (Sl.lv _ 1 x.acts) (by omega);simp only[List.nil_append,List.cons_append] at g;have hcb:Byt (A1f x.p 1 (kb x.kind) (x.acts.map m16)):=J0q hx.p _ _ _;have hcl:=J0r hx.p 1 (kb x.kind) (l:=x.acts.map m16) (by omega) (by omega) (by omega) (by rw[List.length_map]; omega);have hpos:20≤(A1f x.p 1 (kb x.kind) (x.acts.map m16)).length:=by
  unfold A1f;rw[List.length_append,B91];unfold K6;simp;omega
 simp only[A02] at hn1;have hw2:=G9d k (H:=H1) (D0h hk6 (by omega)) hW x.p hx.p (by omega) (by omega) (by omega) (A1q.lv H1 x.p (Sl.lv H1 4 x.p.ents)) hx.kind (Sl.lv H1 1 x.acts) (by omega);generalize A1f x.p 1 (kb x.kind) (x.acts.map m16)=b at g hw2 hcb hcl hpos;have hrd:=G5y k ((g.row 1 rfl).sl E9) hcb 40 (by omega) (fun _ H'=>G5z k hk6 b hcb 40 (by omega) (by omega) H');unfold B0v bindN at hrd;rw[if_pos (by omega),if_pos (by omega)] at hrd;obtain⟨r,kd,rl,hrr,hrs⟩:=G5o k b hcb 40 (by omega) (by omega) H1;have b0:=g.get 0 rfl;have hn0:¬ H.n=H1.n:=by have:=A2.get_lt b0; omega
 have hn01:¬ H.n=H1.n+1:=by have:=A2.get_lt b0; omega
 have g:=g.push ⟨Y8 r kd rl,1,false⟩;simp only[List.nil_append,List.cons_append] at g;cases h:W7 b 40 with
 | none=>
  rw[h] at hrd hrr;simp only[bindP,Option.isSome_none,Bool.false_eq_true,if_false] at hrd hrr;refine D8 ⟨_,?_,g.ext⟩ (.bool _);simp -implicitDefEqProofs(disch:=omega) [ζj,hs,hsm,w1,hrd,b0,hn0,hw2,hrr]
 | some t=>
  obtain⟨hr1,hr2,hr3⟩:=hrs t h;rw[h] at hrd hrr;simp only[bindP,Option.isSome_some,if_true] at hrd hrr;have hok:=B64 hcb (by omega) (by omega) (by omega) h;have hln:∀ H',lnS s1 H'=.ok (.int .i64 b.length) H':=(g.row 1 rfl).len;have hl30:∀ l,l ∈ x.pts→l.length≤30:=fun l hl=>by have:=c1 l hl; omega
  have hw24:=fun H'=>G9c k hk6 (B7i H' x.pts) (by omega) hl30;obtain⟨_,_,_,_,_,p6⟩:=D6b x.pts (by omega);have hdl:=B94 x.pts hl30;have hol:(ofS (S3 x.pts)).length=6+x.pts.length*2:=by unfold ofS; simp[X3,A99]; omega
  have hbk:=E5k x.pts (by omega) hl30 40;have hrd24:=fun H'=>G5r k (H:=H') (Sl.lv H' 1 (A2l x.pts)) (A51 x.pts) 40 (by omega) (fun _ H'=>G5s k _ (A51 x.pts) 40 (by omega) (by omega) H');unfold B0r B0q at hrd24;rw[if_pos (by omega),if_pos (by omega),hbk] at hrd24;simp only[A2b,Option.isSome_some,if_true] at hrd24;have hta:=D0s x.pts (by omega) hl30;have hPg:=D3g (B2m x.pts) hta.byt;have hAt:=fun H'=>D3f k (B2m x.pts) hta H';obtain⟨of,rs,hr24,hO⟩:=G8r k (A2l x.pts) (A51 x.pts) 40 (by omega) (by omega) (B2m x.pts) hbk (H1.push ⟨Y8 r kd rl,1,false⟩);have hget24:=fun id i H'=>J09 k (B2m x.pts) hta hO id i H';generalize A2l x.pts=ab at hw24 hrd24 hr24;generalize B2m x.pts=ta at hrd24 hr24 hPg hAt hget24;have b2:=g.get 2 rfl;have hn2:¬ H1.n=H1.n+1:=by omega
  have g:=g.push ⟨A5u true of rs ta.data,1,false⟩;simp only[List.nil_append,List.cons_append,A02] at g;obtain⟨z2,H2,e2,b',g⟩:=J10 k (i:=1) rfl g (by omega) (B6 H.n) (Y5 t) (B6 H1.n) (A7k ta) (B6 (H1.n+1));simp only[List.set_cons_zero,List.set_cons_succ] at g;have q0:=g.get 0 rfl;have hmk:=fun (h:A2)=>A9x 1 8 [Value.int .i64 0] .i64 .i64 x.ids.length h (by omega) (by decide);have hq2:¬ H.n=H2.n:=by have:=A2.get_lt q0; omega
  have g:=g.push ⟨D5 [Value.int .i64 0] x.ids.length,1,false⟩;simp only[List.nil_append,List.cons_append] at g;have q0':=g.get 0 rfl;have hz:=E6b (g.get 4 rfl);obtain⟨o5,H5,e5,g⟩:=G4s k g 0 (List.replicate x.ids.length 0) (by simp; omega) hz;simp only[List.nil_append,List.cons_append,A02] at g e5;have q5:=g.get 0 rfl;obtain⟨c,o6,H6,e6,g⟩:=G62 k g x.ids (by omega);simp only[List.nil_append,List.cons_append] at g;have q6:=g.get 0 rfl;obtain⟨H7,e7,g,_⟩:=G5a k t hok g 6 5 (by decide) rfl rfl hPg (fun H' _ _ _=>hAt H') rfl rfl (by rw[A2q]; omega) (B1i _);simp only[List.set_cons_zero,List.set_cons_succ] at g;have hn11:=fun H'=>G8s k x.ids (by omega) H';have hn21:=G7a k (E6b (g.get 4 rfl)) (by simp; omega);have hrun:∀ H',R (T k) F.ζ0 [.agg (Y8 r kd rl).toArray,lv V5 (A2p x.ids),lv U0 (V7 (List.replicate x.ids.length 0)),A8x of rs ta.data] H'=.ok (.tuple #[lv U0 (A41 t (A1c ta) (A2p x.ids) (V7 (List.replicate x.ids.length 0))).1,.int .i64 (A41 t (A1c ta) (A2p x.ids) (V7 (List.replicate x.ids.length 0))).2]) H':=fun H'=>by
   rw[hr1,hr2,hr3];exact J0y k hcb (by omega) (by omega) t hok (G7x h) (A2p x.ids) (by rw[A2q]; omega) (V7 (List.replicate x.ids.length 0)) (by rw[E6a]; simp; omega) (B1i _) hPg hget24 H'
  have hlen:=J0z t hok.m (A1c ta) (A2p x.ids) (V7 (List.replicate x.ids.length 0));rw[E6a,List.length_replicate] at hlen;have hadv:=B7n t hok.m (A1c ta) (A2p x.ids) (V7 (List.replicate x.ids.length 0)) (fun q hq=>by
   unfold V7 at hq;obtain⟨n,hn,rfl⟩:=List.mem_map.1 hq;rw[List.eq_of_mem_replicate hn];rfl)
  generalize A41 t (A1c ta) (A2p x.ids) (V7 (List.replicate x.ids.length 0))=rr at e7 g hrun hlen hadv;have q7:=g.get 0 rfl;have q72:=g.get 2 rfl;have q73:=g.get 3 rfl;have a1:=E3o k hk6 g 5 rfl (by omega);obtain⟨z8,H8,e8,hx8⟩:=J11 k (H:=H7) rr.1 (by omega) hadv (B6 H.n) (B6 (H2.n+1)) (B6 c) (.int .i64 rr.2) (lv U0 rr.1) (.int .i64 rr.2);have g:=g.rest hx8;have q8:=g.get 0 rfl;have a2:=E3o k hk6 g 5 rfl (by omega);have hgl:=G4o k hk6 g 6 rfl (by rw[A2q]; omega);have hsame:=fun H'=>G7d k rr.1 rr.1 (by omega) H';have hsameG:=fun H'=>B5v k (Rd.lv W8 H' (A2p x.ids)) (Rd.lv W8 H' (A2p x.ids)) (by rw[A2q]; omega) (by rw[A2q]; omega);have v25:=B84 r kd rl;have v24:=B83 of rs ta.data;have vI:=E00 x.ids;refine D8 ⟨H8,?_,g.ext⟩ (.bool _);simp -implicitDefEqProofs(disch:=omega) [ζj,hs,hsm,w1,hrd,b0,hn0,hn01,hw2,hrr,b2,hn2,hw24,hrd24,hr24,hln,e2,E9g,q0,hq2,hmk,q0',e5,q5,e6,q6,e7,hn11,hn21,hrun,q7,q72,q73,a1,e8,E9h,q8,a2,hgl,hsame,hsameG,v25,v24,vI]
theorem G4y(vs:List Value)(h:A0c [D7q] vs):∃ H',R (T F.B2z) F.ζj vs A2.empty=.ok (.bool true) H':=by
 obtain⟨v1,_,rfl,h1,h⟩:=h.head;obtain rfl:=h.done;obtain⟨x,rfl,hx⟩:=D2y h1;exact⟨_,G5q x hx⟩
end Go.Sw
end
section
namespace Go.Sw
open Go.RowKit Go.Proofs Go.Shelf
attribute [local go_sem] Oper.semAt_some
set_option maxRecDepth 100000 in
set_option maxHeartbeats 1000000 in
theorem B6u (W:World) (f l id x:Int) (blk off m cap:Nat) (hf:0≤f) (hid:f≤id) (hil:id<4294967296) (hm:0<m) (hm2:m<2 ^ 60)
  (hc:W.cell? ⟨blk,off+min (id - f).toNat (m - 1),none⟩=some (.int .i64 x)) (hb:blk<W.heap.size) :
  CallsIn Fence.wide 1 A0 142 #[.agg #[.int .i64 f,.int .i64 l,.slice (some ⟨blk,off,none⟩) m cap],.int .i64 id] W fun e W'=>e=.returned (.int .i64 x)∧W'=W.alloc (.cells #[.int .i64 f,.int .i64 l,.slice (some ⟨blk,off,none⟩) m cap] 273):=by
 refine callsIn_of_wp Tryz.func142 rfl trivial ?_ rfl;simp only[Tryz.ntmps142,List.size_toArray,List.length_cons,List.length_nil,Nat.reduceAdd,Nat.reduceSub,Array.replicate_succ,Array.replicate_zero,List.push_toArray,List.append_toArray,List.nil_append,List.cons_append];have hw':W.cell? ⟨blk,off+(min (id - f) ((m:Int) - 1)).toNat,none⟩=some (.int .i64 x):=by
  rw[← hc,show (min (id - f) ((m:Int) - 1)).toNat=min (id - f).toNat (m - 1) by omega]
 by_cases hlt:(m:Int) - 1<id - f
 ·have hw:W.cell? ⟨blk,off+(m - 1),none⟩=some (.int .i64 x):=by
   rw[← hc,show min (id - f).toNat (m - 1)=m - 1 by omega]
  gi_wp2
  go_ret
  exact⟨rfl,rfl⟩
 ·have hw:W.cell? ⟨blk,off+(id - f).toNat,none⟩=some (.int .i64 x):=by
   rw[← hc,show min (id - f).toNat (m - 1)=(id - f).toNat by omega]
  gi_wp2
  go_ret
  exact⟨rfl,rfl⟩
structure Pa where
 f:Int
 l:Int
 m:Nat
 x:Nat→Int
def paN(p:Pa):Nat:=(p.l - p.f+1).toNat
def PaZ(z:Nat→Option Obj)(cs:Array Value)(o:Nat)(p:Pa):Prop :=
 ∃ a cap,cs[o]?=some (.int .i64 p.f)∧cs[o+1]?=some (.int .i64 p.l)∧cs[o+2]?=some (.slice a p.m cap) ∧
  (0<p.m→∃ blk off ws el fz,a=some ⟨blk,off,none⟩∧z blk=some (.cells ws el fz)∧∀ j,j<paN p→ws[off+min j (p.m - 1)]?=some (.int .i64 (p.x j)))
def A4s(ps:List Pa):Nat:=(ps.map paN).sum
set_option maxRecDepth 100000 in
set_option maxHeartbeats 4000000 in
theorem J0b (z:Nat→Option Obj) (l0:Nat) (J:Nat→(Nat→Prop)→World→Prop) (Jx:World→Prop) (Jp:List PanicEntry→World→Prop) (ps:List Pa)
  (hal:∀ i T W o,J i T W→J i (fun k=>T k∨k=W.heap.size) (W.alloc o))
  (htn:∀ i T W W',J i T W→W.heap.size=W'.heap.size→W'.os=W.os→W'.tape=W.tape→W'.output=W.output→(∀ k,¬ T k→W'.heap[k]?=W.heap[k]?)→J i T W')
  (hfz:∀ i T W,J i T W→∀ k o,z k=some o→W.heap[k]?=some o)
  (hY:∀ (a:Nat) (p:Pa) (j:Nat) T W,ps[a]?=some p→j<paN p→J (A4s (ps.take a)+j) T W→YieldAt Fence.wide 0 A0 l0 #[.int .i64 (p.f+j),.int .i64 (p.x j)] W fun e W'=>
   (e=.returned (.bool true)∧J (A4s (ps.take a)+(j+1)) T W'∧(∀ k,T k→W'.heap[k]?=W.heap[k]?)∧W.heap.size≤W'.heap.size)∨(e=.returned (.bool false)∧Jx W')∨∃ ch,e=.panicked ch∧Jp ch W')
  (hok:∀ p,p ∈ ps→0≤p.f∧p.l<4294967296∧p.m<2 ^ 60∧(p.f≤p.l→0<p.m))
  (W:World) (h0:J 0 (fun _=>False) W) (BX bo tb toff:Nat) (hBX:W.cell? ⟨BX,bo,none⟩=some (.pointer (some ⟨tb,toff,none⟩)))
  (tcs:Array Value) (tel:TypeId) (tfz:Nat × Nat) (htb:z tb=some (.cells tcs tel tfz)) (pa:Option Addr) (pcap:Nat) (htc:tcs[toff+1]?=some (.slice pa ps.length pcap)) (hn:ps.length<2 ^ 60)
  (hpa:ps≠[]→∃ pb poff pcs pel pfz,pa=some ⟨pb,poff,none⟩∧z pb=some (.cells pcs pel pfz)∧∀ (a:Nat) p,ps[a]?=some p→PaZ z pcs (poff+a*3) p) :
  CallsIn Fence.wide 3 A0 141 #[.func (.yield l0) #[] #[],.pointer (some ⟨BX,bo,none⟩)] W fun e W'=>((∃ v,e=.returned v)∧((∃ T,J (A4s ps) T W')∨Jx W'))∨∃ ch,e=.panicked ch∧Jp ch W':=by
 have htW:=hfz _ _ _ h0 _ _ htb;have hT1:W.cell? ⟨tb,toff+1,none⟩=some (.slice pa ps.length pcap):=by simp only[World.cell?,htW,htc]; rfl
 refine callsIn_of_wp Tryz.func141 rfl trivial ?_ rfl;simp only[Tryz.ntmps141,List.size_toArray,List.length_cons,List.length_nil,Nat.reduceAdd,Nat.reduceSub,Array.replicate_succ,Array.replicate_zero,List.push_toArray,List.append_toArray,List.nil_append,List.cons_append]
 gi_wp2
 gi_loopw [11] (fun i wr=>∃ k:Nat,k≤ps.length∧i=.int .i64 k∧∃ T,J (A4s (ps.take k)) T wr) (fun i _=>ps.length - (intOf i).toNat)
 case atStart=>exact⟨0,Nat.zero_le _,rfl,_,h0⟩
 case round=>
  obtain⟨k,hk,rfl,T,hJ⟩:=hrel;by_cases hlt:k<ps.length
  ·obtain ⟨p,hp⟩:∃ p,ps[k]?=some p:=⟨_,List.getElem?_eq_getElem hlt⟩
   obtain⟨pb,poff,pcs,pel,pfz,rfl,hzp,hPZ⟩:=hpa (fun e=>by subst e; simp at hlt);obtain⟨va,cap,c1,c2,c3,hv⟩:=hPZ k p hp;have hwp:=hfz _ _ _ hJ _ _ hzp;have d1:wr.cell? ⟨pb,poff+k*3,none⟩=some (.int .i64 p.f):=by simp only[World.cell?,hwp,c1]; rfl
   have d2:wr.cell? ⟨pb,poff+k*3+1,none⟩=some (.int .i64 p.l):=by simp only[World.cell?,hwp,c2]; rfl
   have d3:wr.cell? ⟨pb,poff+k*3+2,none⟩=some (.slice va p.m cap):=by simp only[World.cell?,hwp,c3]; rfl
   have hpo:=hok p (List.mem_of_getElem? hp);obtain⟨w1,hw1⟩:∃ w1,w1=wr:=⟨_,rfl⟩
   subst hw1
   gi_wp2
   gi_loopw [5] (fun i w2=>∃ j:Nat,j≤paN p∧i=.int .i64 (p.f+j)∧∃ T2,J (A4s (ps.take k)+j) T2 w2∧T2 w1.heap.size∧w2.heap[w1.heap.size]?=some (.cells #[.int .i64 p.f,.int .i64 p.l,.slice va p.m cap] 273 (0,0)))
    (fun i _=>paN p - (intOf i - p.f).toNat)
   case atStart=>
    refine⟨0,Nat.zero_le _,by simp,_,hal _ _ _ _ hJ,.inr rfl,D5k _ _⟩
   case round=>
    obtain⟨j,hj,rfl,T2,hJ2,hT2,hbx⟩:=hrel;have b1:wr.cell? ⟨w1.heap.size,0,none⟩=some (.int .i64 p.f):=by simp only[World.cell?,hbx]; rfl
    have b2:wr.cell? ⟨w1.heap.size,1,none⟩=some (.int .i64 p.l):=by simp only[World.cell?,hbx]; rfl
    have b3:wr.cell? ⟨w1.heap.size,2,none⟩=some (.slice va p.m cap):=by simp only[World.cell?,hbx]; rfl
    have hc0:wr.cell? ⟨w1.heap.size,0,none⟩ |>.isSome:=by rw[b1]; rfl
    by_cases hjl:j<paN p
    ·have hle:p.f≤p.l:=by unfold paN at hjl; omega
     have hjp:p.f+(j:Int)≤p.l:=by unfold paN at hjl; omega
     have hvl:=hpo.2.2.2 hle;obtain⟨blk,off,ws,wel,wfz,rfl,hzw,hws⟩:=hv hvl;have hww:=hfz _ _ _ hJ2 _ _ hzw;have hval:wr.cell? ⟨blk,off+min (p.f+(j:Int) - p.f).toNat (p.m - 1),none⟩=some (.int .i64 (p.x j)):=by
      rw[show (p.f+(j:Int) - p.f).toNat=j by omega];simp only[World.cell?,hww,hws j hjl]; rfl
     have hbl:blk<wr.heap.size:=(Array.getElem?_eq_some_iff.1 hww).1;have hat:=B6u wr p.f p.l (p.f+j) (p.x j) blk off p.m cap hpo.1 (by omega) (by omega) hvl hpo.2.2.1 hval hbl;have hJ3:=hal _ _ _ (.cells #[.int .i64 p.f,.int .i64 p.l,.slice (some ⟨blk,off,none⟩) p.m cap] 273) hJ2;obtain⟨fn,tmps,assign,body,hy,hR⟩:=hY k p j _ _ hp hjl hJ3;have hf81:Fence.wide.fn 142:=trivial
     gi_wp2_with (gi_at_call 142; refine (callsIn_wide.2 (callsIn_wide.1 hat)).mono ?_; rintro e w' ⟨rfl,rfl⟩)
     refine (G7f hR).mono ?_;rintro e w3 (⟨rfl,hJ4,hkeep,_⟩ | ⟨rfl,hx⟩ | ⟨ch,rfl,hpn⟩)
     ·have hbx3:w3.heap[w1.heap.size]?=some (.cells #[.int .i64 p.f,.int .i64 p.l,.slice (some ⟨blk,off,none⟩) p.m cap] 273 (0,0)) :=
       (hkeep _ (.inl hT2)).trans ((Below.heap_alloc wr _ _ (Array.getElem?_eq_some_iff.1 hbx).1).trans hbx)
      gi_wp2
      go_roundw
      ·exact⟨j+1,hjl,by congr 1; push_cast; omega,_,hJ4,.inl hT2,hbx3⟩
      ·simp[intOf]; omega
     ·gi_wp2
      refine bodyPost_ret (results_none rfl _ _ _) rfl ?_;exact .inl ⟨⟨_,rfl⟩,.inr hx⟩
     ·gi_wp2
      exact⟨rfl,.inr ⟨_,rfl,hpn⟩⟩
    ·have hlj:p.l<p.f+(j:Int):=by unfold paN at hjl; omega
     gi_wp2
     obtain rfl:j=paN p:=by omega
     go_roundw
     ·refine ⟨k+1,hlt,by simp,T2,?_⟩;have:A4s (ps.take (k+1))=A4s (ps.take k)+paN p:=by
       rw[List.take_add_one,hp]; simp[A4s]
      rw[this]; exact hJ2
     ·simp[intOf]; omega
  ·obtain rfl:k=ps.length:=by omega
   rw[List.take_length] at hJ
   gi_wp2
   go_end0
   exact .inl ⟨⟨_,rfl⟩,.inl ⟨T,hJ⟩⟩
def paL(p:Pa):List (List Int):=(List.range (paN p)).map fun j=>[p.f+(j:Nat),p.x j]
theorem B1b {α β:Type} {f:α→Option β} {g:α→β} (hg:∀ y z,f y=some z→z=g y):∀ {l:List α} {a:List β},l.mapM f=some a→a=l.map g∧∀ y,y ∈ l→(f y).isSome=true
 | [],a,h=>by simp at h; subst h; exact⟨rfl,fun y hy=>by cases hy⟩
 | y :: l,a,h=>by
  rw[List.mapM_cons] at h;cases hy:f y with
  | none=>rw[hy] at h; simp at h
  | some z=>
   cases hl:l.mapM f with
   | none=>rw[hy,hl] at h; simp at h
   | some b=>
    rw[hy,hl] at h;obtain⟨h1,h2⟩:=B1b hg hl;have h:z :: b=a:=by simpa using h
    subst h;refine⟨by rw[List.map_cons,← h1,hg _ _ hy],fun y' hy'=>?_⟩;rcases List.mem_cons.1 hy' with rfl | hm
    ·simp[hy]
    ·exact h2 _ hm
def A6c(vals:List Value)(j:Nat):Int:=match vals[min j (vals.length - 1)]? with | some (.int .i64 x)=>x | _=>0
theorem G6y {f l:Int} {vals:List Value} {a:List (List Int)} (h:A9e f l vals=some a) :
  0≤f∧l<4294967296∧vals.length<2 ^ 60∧a=paL ⟨f,l,vals.length,A6c vals⟩∧∀ j,j<(l - f+1).toNat→vals[min j (vals.length - 1)]?=some (.int .i64 (A6c vals j)):=by
 unfold A9e at h;split at h
 ·rename_i hc;obtain⟨h1,h2⟩:=B1b (g:=fun j=>[f+(j:Nat),A6c vals j]) (fun y z hz=>by
   unfold A6c;split at hz
   ·rename_i e; rw[e]; injection hz with hz; exact hz.symm
   ·cases hz) h
  refine⟨hc.1,hc.2.1,hc.2.2,h1,fun j hj=>?_⟩;have:=h2 j (List.mem_range.2 hj);unfold A6c;split at this
  ·rename_i e; rw[e]
  ·cases this
 ·cases h
theorem G6z {μ:Mu} {cs:Array Value}:∀ (n:Nat) (vs:List Value) (L:List (List Int)) (o:Nat),A1d n vs=some L→o+vs.length≤cs.size→(∀ (i:Nat) v v',vs[i]?=some v→cs[o+i]?=some v'→VR μ v v') →
  ∃ pl:List Pa,pl.length=n∧(∀ p,p ∈ pl→0≤p.f∧p.l<4294967296∧p.m<2 ^ 60∧(p.f≤p.l→0<p.m))∧(∀ (a:Nat) p,pl[a]?=some p→PaZ μ.z cs (o+a*3) p)∧L=pl.flatMap paL:=by
 intro n
 induction n with
 | zero=>
  intro vs L o h _ _;cases vs with
  | nil=>unfold A1d at h; injection h with h; subst h; exact⟨[],rfl,fun p hp=>(by cases hp),fun a p hp=>(by cases hp),rfl⟩
  | cons v vs=>unfold A1d at h; cases h
 | succ n ih=>
  intro vs L o h hs hv;unfold A1d at h;split at h
  ·rename_i e; cases e
  ·rename_i n' f l m pth g ws ys r e;injection e with e; subst e;cases hm:Nat.beq m ws.size with
   | false=>rw[hm] at h; cases h
   | true =>
    rw[hm] at h;have hm:=Nat.eq_of_beq_eq_true hm;cases hp:A9e f l ws.toList with
    | none=>rw[hp] at h; cases h
    | some a=>
     cases hr:A1d n r with
     | none=>rw[hp,hr] at h; cases h
     | some b=>
      rw[hp,hr] at h;have h:some (a++b)=some L:=h;injection h with h; subst h;simp only[List.length_cons] at hs;obtain⟨pl,h1,h2,h3,h4⟩:=ih r b (o+3) hr (by omega) fun i v v' hi hi'=>hv (i+3) v v' (by simpa using hi) (by rw[show o+(i+3)=o+3+i by omega]; exact hi');obtain⟨q1,q2,q3,q4,q5⟩:=G6y hp;have g0:∀ k,k<3→∃ v',cs[o+k]?=some v':=fun k hk=>⟨_,Array.getElem?_eq_getElem (by omega)⟩
      obtain⟨c0,e0⟩:=g0 0 (by omega);obtain⟨c1,e1⟩:=g0 1 (by omega);obtain⟨c2,e2⟩:=g0 2 (by omega);have r0:=hv 0 _ _ rfl e0;have r1:=hv 1 _ _ rfl e1;have r2:=hv 2 _ _ rfl e2;refine⟨⟨f,l,ws.toList.length,A6c ws.toList⟩ :: pl,by simp[h1],fun p hp=>?_,fun a' p ha=>?_,?_⟩
      ·rcases List.mem_cons.1 hp with rfl | hp
       ·refine⟨q1,q2,q3,fun hle=>?_⟩;have:=q5 0 (by have hle':f≤l:=hle; omega);rcases Nat.eq_zero_or_pos ws.toList.length with hz | hz
        ·rw[List.length_eq_zero_iff.1 hz] at this; cases this
        ·exact hz
       ·exact h2 p hp
      ·cases a' with
       | succ a'=>rw[show o+(a'+1)*3=o+3+a'*3 by omega]; exact h3 a' p (by simpa using ha)
       | zero=>
        simp at ha; subst ha;cases r0; cases r1;cases r2 with
        | list _ _ _ _ _ blk off cap zcs el fz hz hl hc hg h0 hx=>
         refine⟨some ⟨blk,off,none⟩,cap,by simpa using e0,by simpa using e1,by rw[Nat.zero_mul,Nat.add_zero,e2,hm],fun hpos=>⟨blk,off,zcs,el,fz,rfl,hz,fun j hj=>?_⟩⟩;have hj':=q5 j hj;have hlt:=(List.getElem?_eq_some_iff.1 hj').1;have hlt':min j (ws.toList.length - 1)<ws.size:=by simpa using hlt
         obtain⟨v',hv'⟩:∃ v',zcs[off+min j (ws.toList.length - 1)]?=some v':=⟨_,Array.getElem?_eq_getElem (by omega)⟩
         have:=hx _ _ _ (by rw[← Array.getElem?_toList]; exact hj') hv';cases this;exact hv'
        | empty _ _ _ _ x cap hn hs'=>
         have hz:ws.toList.length=0:=by rw[Array.length_toList]; exact hm.symm
         refine⟨x,cap,by simpa using e0,by simpa using e1,by rw[Nat.zero_mul,Nat.add_zero,e2]; show some (Value.slice x 0 cap)=some (Value.slice x ws.toList.length cap); rw[hz],fun hpos=>?_⟩;simp only[hz] at hpos; omega
      ·rw[List.flatMap_cons,← h4,q4]
  ·cases h
theorem A7a(p:Pa):(paL p).length=paN p:=by simp[paL]
theorem B40:∀ pl:List Pa,(pl.flatMap paL).length=A4s pl
 | []=>rfl
 | p :: pl=>by simp[List.flatMap_cons,B40 pl,A7a,A4s]
theorem B6v:∀ (pl:List Pa) (a:Nat) (p:Pa) (j:Nat),pl[a]?=some p→j<paN p→(pl.flatMap paL)[A4s (pl.take a)+j]?=some [p.f+(j:Nat),p.x j]
 | [],a,p,j,h,_=>by simp at h
 | q :: pl,0,p,j,h,hj=>by
  simp at h; subst h;rw[List.flatMap_cons,List.getElem?_append_left (by simp[A4s,A7a]; exact hj)];simp[paL,A4s,hj]
 | q :: pl,a+1,p,j,h,hj=>by
  have:=B6v pl a p j (by simpa using h) hj;rw[List.flatMap_cons,List.getElem?_append_right (by simp[A4s,A7a]; omega)];rw[← this]; congr 1;simp[A4s,A7a]; omega
set_option maxRecDepth 100000 in
theorem D7u:B9e A0 itS:=by
 intro v H L hL w0 μ w v' hH hV;unfold itS B6t at hL;split at hL;rotate_left
 ·cases hL
 rename_i f xs ys;cases hb:(Nat.beq f 141 && Nat.beq xs.size 0) with
 | false=>rw[hb] at hL; cases hL
 | true =>
  rw[hb] at hL;obtain⟨hb1,hb2⟩:=Bool.and_eq_true_iff.1 hb;have hb1:=Nat.eq_of_beq_eq_true hb1;have hb2:=Nat.eq_of_beq_eq_true hb2;subst hb1;simp only[cond_true] at hL;split at hL;rotate_left
  ·cases hL
  rename_i b hys;split at hL;rotate_left
  ·cases hL
  rename_i n0 p0 g0 ts ty0 ez ro hblk;split at hL;rotate_left
  ·cases hL
  rename_i t0 n p1 g1 ps ty1 hts;split at hL;rotate_left
  ·cases hL
  rename_i hn;cases hV with
  | func _ _ xs' _ ys' h1 h2 h3 h4=>
   have hx':xs'=#[]:=by apply Array.eq_empty_of_size_eq_zero; omega
   subst hx';obtain⟨y',r',hy',hyr,hr'⟩:=VRs.cons_inv (by rw[← hys]; exact VRs.of_arr h3 h4);have:=hr'.nil_inv; subst this;have hye:ys'=#[y']:=by apply Array.toList_inj.1; rw[hy']
   subst hye;cases hyr with
   | ptr _ _ m hm=>
    obtain⟨v1,hc1,hr1,_⟩:=hH.cell hblk hm (off:=0) rfl;cases hr1 with
    | box _ _ _ _ _ tb toff tcs tel tfz hz hl h0 hx=>
     have htl:ts.size=2:=by rw[← Array.length_toList,hts]; rfl
     obtain⟨v2,hv2⟩:∃ v2,tcs[toff+1]?=some v2:=⟨_,Array.getElem?_eq_getElem (by omega)⟩
     have hr2:=hx 1 _ _ (by rw[← Array.getElem?_toList,hts]; rfl) hv2
     have key:∃ (pl:List Pa) (pa:Option Addr) (pcap:Nat),L=pl.flatMap paL∧(∀ p,p ∈ pl→0≤p.f∧p.l<4294967296∧p.m<2 ^ 60∧(p.f≤p.l→0<p.m))∧pl.length=n∧v2=.slice pa pl.length pcap ∧
       (pl≠[]→∃ pb poff pcs pel pfz,pa=some ⟨pb,poff,none⟩∧μ.z pb=some (.cells pcs pel pfz)∧∀ (a:Nat) p,pl[a]?=some p→PaZ μ.z pcs (poff+a*3) p):=by
      cases hr2 with
      | list _ _ _ _ _ pb poff pcap pcs pel pfz hz2 hl2 hc2 hg2 h02 hx2=>
       obtain⟨pl,e1,e2,e3,e4⟩:=G6z (μ:=μ) (cs:=pcs) n ps.toList L poff hL (by simpa using hl2) fun i v v' hi hi'=>hx2 i v v' (by rw[← Array.getElem?_toList]; exact hi) hi';exact⟨pl,_,pcap,e4,e2,e1,by rw[e1],fun _=>⟨pb,poff,pcs,pel,pfz,rfl,hz2,e3⟩⟩
      | empty _ _ _ _ x pcap hn2 hs2=>
       generalize ps.toList=psl at hL;cases psl with
       | nil=>
        unfold A1d at hL; injection hL with hL; subst hL;exact⟨[],x,pcap,rfl,fun p hp=>(by cases hp),rfl,rfl,fun h=>(h rfl).elim⟩
       | cons a r=>unfold A1d at hL; cases hL
     obtain⟨pl,pa,pcap,rfl,hok,hlen,rfl,hpa⟩:=key;refine⟨141,#[.pointer (some ⟨m.blk,m.base+0,none⟩)],rfl,⟨Tryz.f141,Tryz.func141,rfl,by decide⟩,fun l0 J Jx Jp hal htn hfz hY h0J=>?_⟩;have:=J0b μ.z l0 J Jx Jp pl hal htn hfz (fun a p j T W hp hj hJ=>hY _ T W _ hJ (B6v pl a p j hp hj)) hok w h0J m.blk (m.base+0) tb toff hc1 tcs tel tfz hz pa pcap hv2 (by rw[hlen]; exact hn) hpa;rw[B40];exact callsIn_wide.1 this
end Go.Sw
end
section
namespace Go.Sw
open Go.RowKit
theorem A3u:Y2 A0:=Y2.of (by kernel_rfl)
theorem A3t:A0.follows .mixedOrders=true:=Checked.mixed Go.Proofs.Tryz.checked
theorem D01:laidOutB A0=true:=by kernel_rfl
theorem G5d:A68 A0 F.ζg fun _ args H=>A0f 3 12 args H :=
 B10 (c:={ P:=A0,kp:=kpS,sp:=fun _=>none }) (fun _ _=>rfl) A3u A3t (t:=56) (e:=93) (by kernel_rfl) fun call a H=>(E9b 0 _ call a H).trans (by
  unfold ζg A3j;simp only[B9k,D7l,B0u])
theorem G5c:A68 A0 F.ζ9 fun _ args H=>A0f 2 16 args H :=
 B10 (c:={ P:=A0,kp:=kpS,sp:=fun _=>none }) (fun _ _=>rfl) A3u A3t (t:=61) (e:=150) (by kernel_rfl) fun call a H=>(E9a 0 _ call a H).trans (by
  unfold ζ9 A3j;simp only[B9l,D7m,B0u])
theorem B46(f:FuncId)(s:Sp)(h:A4j f=some s):A68 A0 f s:=by
 unfold A4j at h;cases h47:Nat.beq f 47 with
 | true=>have:=Nat.eq_of_beq_eq_true h47; subst this; rw[h47,cond_true] at h; injection h with h; subst h; exact D3v
 | false=>
 rw[h47,cond_false] at h;cases h78:Nat.beq f 78 with
 | true=>have:=Nat.eq_of_beq_eq_true h78; subst this; rw[h78,cond_true] at h; injection h with h; subst h; exact G5d
 | false=>
 rw[h78,cond_false] at h;cases h79:Nat.beq f 79 with
 | true=>have:=Nat.eq_of_beq_eq_true h79; subst this; rw[h79,cond_true] at h; injection h with h; subst h; exact G5c
 | false=>
 rw[h79,cond_false] at h;cases h84:Nat.beq f 84 with
 | true=>have:=Nat.eq_of_beq_eq_true h84; subst this; rw[h84,cond_true] at h; injection h with h; subst h; exact J0o (c:={ P:=A0,kp:=kpS,sp:=fun _=>none,it:=itS }) A3u A3t D7u (by kernel_rfl)
 | false=>
 rw[h84,cond_false] at h;cases h97:Nat.beq f 97 with
 | true=>have:=Nat.eq_of_beq_eq_true h97; subst this; rw[h97,cond_true] at h; injection h with h; subst h; exact A68.stuck _ _
 | false=>
 rw[h97,cond_false] at h;cases h
theorem D2u(k:Nat):(T k).c.P=A0:=by unfold T C; rfl
theorem D0w{k m:Nat}(hsp:A89 (run (A57 A0 kpS A4j) m (k % 1000000) [] A2.empty)=true):A4p (T k).c:=by
 have h0:N7 A0 (run (A57 A0 kpS A4j) m):=D3q (c:=A57 A0 kpS A4j) A3u A3t (A4p.base B46) m;have h1:A4p (C k):=by
  unfold C;exact A4p.of (P:=A0) (kp:=kpS) (speaks:=B4f) (more:=A4j) (k:=k % 1000000) h0 hsp B46
 exact h1
end Go.Sw
end
