/-
  Functions' forms, and what is proved of them, part 10.
-/
import Derived.Test.YtanfippcmdialaaGreatSwW5
import Derived.Test.YtanfippcmdialaaGreatSwW9
import Derived.Test.YtanfippcmdialaaGreatSwCfg
import Derived.Test.YtanfippcmdialaaGreatSwLib8
import Derived.Tactics
import Derived.Tactics2
import Derived.Defers
import Derived.Recover
import Derived.Laws.Pointers
import Derived.Test.YtanfippcmdialaaGreatSwW4
import Derived.Test.YtanfippcmdialaaGreatSwW8
set_option linter.unusedSimpArgs false
set_option linter.unusedVariables false
set_option linter.unusedSectionVars false
section
namespace Go.Sw
open Go.RowKit
structure D7c where
 m:Q7
 subs:List (Int × List Pt)
end Go.Sw
end
section
namespace Go.Sw
open Go.RowKit Go.Proofs
set_option maxRecDepth 20000 in
theorem G6q (p:Addr) (b:Bool) (w:World) (hc:(w.alloc (.cells #[] 217)).cell? p=some (.bool b)) (hz:(w.alloc (.cells #[] 217)).frozen? p=false) :
  CallsD A0 98 #[.pointer (some p)] (.panicking [{ v:=.iface 217 (.agg #[]),recovered:=false }]) w fun e u' w'=>
   e=.returned (.tuple #[])∧u'=.panicking [{ v:=.iface 217 (.agg #[]),recovered:=true }]∧w'=(w.alloc (.cells #[] 217)).setCell p (.bool false):=by
 refine callsD_of_wpS Tryz.func98 rfl fun c₀ cs hu=>?_;apply wpS_seq;apply wpS_region;simp[wpOpsS,go_sem,recoverD,hu,Tryz.ntmps98,Exit.thenS];have hta:∀ w,(Instr.typeAssert (.iface 217 (.agg #[])) 20 217 true).run A0 w=.ok (.tuple #[.agg #[],.bool true]) w:=fun w=>by kernel_rfl
 refine wpS_of_wp ?_
 go_wp2
 cases c₀;simp_all [bodyPostS,results,Tryz.results98]
theorem G7y(p:Addr)(w:World) :
  CallsD A0 98 #[.pointer (some p)] .returning w fun e u' w'=>e=.returned (.tuple #[])∧u'=.returning∧w'=w:=by
 refine callsD_of_wpS Tryz.func98 rfl fun c₀ cs hu=>?_;apply wpS_seq;apply wpS_region;simp[wpOpsS,go_sem,recoverD,hu,Tryz.ntmps98,Exit.thenS];refine wpS_of_wp ?_
 go_wp2
 cases c₀;simp_all [bodyPostS,results,Tryz.results98]
set_option maxRecDepth 20000 in
theorem B7y (g:FuncId) (first cap:Array Value) (w:World) (R:Ending→World→Prop)
  (hcf:(callFunc g (first++cap)).run A0 (w.alloc (.cells #[.bool false] 4))=.ok (.enter g (first++cap)) (w.alloc (.cells #[.bool false] 4)))
  (hcall:Calls A0 g (first++cap) (w.alloc (.cells #[.bool false] 4)) fun e w'=>match e with
   | .returned _=>w'.heap[w.heap.size]?=some (.cells #[.bool false] 4 (0,0))∧R (.returned (.bool true)) (w'.setCell ⟨w.heap.size,0,none⟩ (.bool true))
   | .panicked chain=>chain=[{ v:=.iface 217 (.agg #[]),recovered:=false }]∧w'.heap[w.heap.size]?=some (.cells #[.bool false] 4 (0,0))∧R (.returned (.bool false)) ((w'.alloc (.cells #[] 217)).setCell ⟨w.heap.size,0,none⟩ (.bool false))
   | .outgrown=>False) :
  Calls A0 47 #[.func (.func g) first cap] w R:=by
 have hmf:∀ (fn:Fn) (first cap:Array Value) (w:World),(Instr.makeFunc fn first cap).run A0 w=.ok (.func fn first cap) w:=fun _ _ _ _=>rfl
 go_enter_defers Tryz.func47,Tryz.ntmps47
 go_wp2
 rename_i K2 hK2 K1 hK1;refine hcall.mono fun e w' he=>?_;cases e with
 | returned v=>
  obtain⟨h1,h2⟩:=he;have hc:w'.cell? ⟨w.heap.size,0,none⟩=some (.bool false):=by simp[World.cell?,h1]
  have hz:w'.frozen? ⟨w.heap.size,0,none⟩=false:=by simp[World.frozen?,h1]
  apply hK1;apply hK2
  go_wp2
  have hc2:(w'.setCell ⟨w.heap.size,0,none⟩ (.bool true)).cell? ⟨w.heap.size,0,none⟩=some (.bool true):=World.cell?_setCell_same _ _ _ hc;refine leaves_cons (f:=98) (args:=#[.pointer (some ⟨w.heap.size,0,none⟩)]) (by simp) (by simp[go_sem]) ?_;refine (G7y ⟨w.heap.size,0,none⟩ _).mono ?_;rintro e u' w'' ⟨rfl,rfl,rfl⟩;simp[Leaves,settle,results,Tryz.results47,go_sem,hc2];exact h2
 | panicked chain=>
  obtain ⟨h0,h1,h2⟩:=he;subst h0;have hlt:w.heap.size<w'.heap.size:=by
   rcases Nat.lt_or_ge w.heap.size w'.heap.size with h | h
   ·exact h
   ·rw[Array.getElem?_eq_none h] at h1; cases h1
  have h3:(w'.alloc (.cells #[] 217)).heap[w.heap.size]?=some (.cells #[.bool false] 4 (0,0)):=by
   rw[A63 _ _ _ hlt]; exact h1
  have hc:(w'.alloc (.cells #[] 217)).cell? ⟨w.heap.size,0,none⟩=some (.bool false):=by simp only[World.cell?,h3]; rfl
  have hz:(w'.alloc (.cells #[] 217)).frozen? ⟨w.heap.size,0,none⟩=false:=by simp[World.frozen?,h3]
  have hc2:((w'.alloc (.cells #[] 217)).setCell ⟨w.heap.size,0,none⟩ (.bool false)).cell? ⟨w.heap.size,0,none⟩=some (.bool false):=World.cell?_setCell_same _ _ _ hc;show Leaves _ _ _ _ _ _ _;refine leaves_cons (f:=98) (args:=#[.pointer (some ⟨w.heap.size,0,none⟩)]) (by simp) (by simp[go_sem]) ?_;refine (G6q ⟨w.heap.size,0,none⟩ false _ hc hz).mono ?_;rintro e u' w'' ⟨rfl,rfl,rfl⟩;simp[Leaves,settle,results,Tryz.results47,go_sem,hc2];exact h2
 | outgrown=>exact he.elim
theorem D3v:A68 A0 47 (tryV 217):=D3w (bt:=4) Tryz.func47 rfl (by kernel_rfl) B7y
end Go.Sw
end
section
namespace Go.Sw
open Go.RowKit
structure D7c.ok (t:D7c):Prop where
 m:t.m.ok
 subs:∀ x,x ∈ t.subs→(∀ p,p ∈ x.2→p.ok)∧P9 x.2=true∧x.2.length<2 ^ 31
 has:∀ e,e ∈ t.m.ents→(e.a=65535∨e.a<t.subs.length)∧(e.b=65535∨e.b<t.subs.length)
theorem G9l(n:Nat):n &&& 2 ^ 15=if n.testBit 15 then 2 ^ 15 else 0:=by
 apply Nat.eq_of_testBit_eq;intro i;rw[Nat.testBit_and,Nat.testBit_two_pow];by_cases h:15=i
 ·subst h;cases hb:n.testBit 15 <;> simp <;> decide
 ·cases hb:n.testBit 15
  ·simp[h]
  ·simp only[h,decide_false,Bool.and_false,if_true,Nat.testBit_two_pow]
theorem D7i(P:Program)(t:TypeId)(H:A2){a:Int}(h0:0≤a)(h1:a<65536):A5 P .and t (.int .i64 a) (.int .i64 32768) H=.ok (.int .i64 (if a≥32768 then 32768 else 0)) H:=by
 have e:(BitVec.ofInt 64 a &&& BitVec.ofInt 64 32768).toNat=(if a≥32768 then 32768 else 0):=by
  rw[BitVec.toNat_and,BitVec.toNat_ofInt,BitVec.toNat_ofInt];rw[show ((32768:Int) % ((2 ^ 64:Nat):Int)).toNat=2 ^ 15 from by decide,G9l,Nat.testBit_eq_decide_div_mod_eq];obtain⟨n,rfl⟩:=Int.eq_ofNat_of_zero_le h0;rw[show (((n:Int)) % ((2 ^ 64:Nat):Int)).toNat=n by omega];by_cases h:(n:Int)≥32768
  ·rw[if_pos h,decide_eq_true (show n / 2 ^ 15 % 2=1 by omega)]; rfl
  ·rw[if_neg h,decide_eq_false (show ¬ n / 2 ^ 15 % 2=1 by omega)]; rfl
 have e1:A0n P .and t (.int .i64 a) (.int .i64 32768)=some (.int .i64 (IntKind.i64.wrap (BitVec.ofInt 64 a &&& BitVec.ofInt 64 32768).toNat)):=rfl;unfold A5;rw[e1,e];by_cases h:a≥32768
 ·simp[h]
 ·simp[h]
theorem B7g (k:Nat) (f:Fn) (a b:Array Value) (H:A2):R (T k) F.B38 [.func f a b] H=.ok (.func (.func F.B0c) #[] #[B6 H.n]) (H.push ⟨[.func f a b],1,false⟩):=by
 rw [G5f];have e:B38 k (R (T k)) (.func f a b) H=.ok (.func (.func F.B0c) #[] #[B6 H.n]) (H.push ⟨[.func f a b],1,false⟩):=by
  simp -implicitDefEqProofs [B38]
 rw [e];have dead:¬ L6 H (.func (.func F.B0c) #[] #[B6 H.n]):=fun h=>by
  cases h with
  | func fn xs ys h1 h2=>
   have:=h2 0 (B6 H.n) rfl;cases this with
   | ptr b off k hg=>have:=A2.get_lt hg; omega
 unfold nrm;exact if_neg fun hc=>dead hc.2
theorem D0y(l:List En):veq (lv E7 l) (lv E7 l)=true:=A45 fun p _ v hv=>by
 simp[E7] at hv;rcases hv with rfl | rfl | rfl | rfl <;> simp
theorem D3y(l:List Int):veq (lv N3 l) (lv N3 l)=true:=A45 fun p _ v hv=>by
 simp[N3] at hv;subst hv; simp
theorem B85(l:List (List Int)):veq (lv A0u l) (lv A0u l)=true:=A45 fun p _ v hv=>by
 simp[A0u] at hv;subst hv; exact D3y p
theorem B1v(m:Q7):veq (W0 m) (W0 m)=true:=A8m (l:=[.int .i64 m.classes,W4 m.tab,lv A0u m.rows,lv E7 m.ents]) fun v hv=>by
 simp at hv;rcases hv with rfl | rfl | rfl | rfl
 ·simp
 ·exact D0z _
 ·exact B85 _
 ·exact D0y _
theorem D2.perm{H0 H:A2}{L L':List It}(h:D2 H0 H L)(hp:L.Perm L'):D2 H0 H L':=by
 have hpw:L.Pairwise fun x y=>∀ b,b ∈ x.o→b ∉ y.o:=List.pairwise_iff_getElem.2 fun i j hi hj hij b hb=>h.2.2 i j _ _ (by omega) (List.getElem?_eq_getElem hi) (List.getElem?_eq_getElem hj) b hb;have hpw':=(hp.pairwise_iff (fun {x y} hxy b hb hb2=>hxy b hb2 hb)).1 hpw;refine⟨h.1,fun i x hx=>?_,fun i j x y hij hx hy b hb=>?_⟩
 ·obtain⟨j,hj⟩:=List.getElem?_of_mem (hp.mem_iff.2 (List.mem_of_getElem? hx));exact h.2.1 j x hj
 ·obtain⟨hi,rfl⟩:=List.getElem?_eq_some_iff.1 hx;obtain⟨hj,rfl⟩:=List.getElem?_eq_some_iff.1 hy;rcases Nat.lt_or_gt_of_ne hij with hlt | hgt
  ·exact List.pairwise_iff_getElem.1 hpw' i j hi hj hlt b hb
  ·exact fun hb2=>List.pairwise_iff_getElem.1 hpw' j i hj hi hgt b hb2 hb
theorem G8s (k:Nat) (ids:List Int) (hl:ids.length<2 ^ 30) (H:A2):R (T k) F.A95 [lv N3 ids] H=.ok (lv V5 (A2p ids)) H:=by
 rw[G3x];have g:=(D2.nil H).more_row (Ext.refl _) (N2.bare V5 _ 2) (fun b hb=>by cases hb);simp only[List.nil_append] at g
 obtain ⟨x,e',H1,hr1,rfl,z,s,o,rfl,g⟩:=K5 (body:=D57 k (R (T k))) ids.length
  (fun j e H'=>∃ s o,e=[(0,lv N3 ids),(3,s),(4,.int .i64 j)]∧D2 H H' [D6 o 2 s V5 (A2p (ids.take j))])
  (fun x e H'=>x=.exit 0∧∃ z s o,e=[(0,lv N3 ids),(3,s),(4,z),(9,.bool false)]∧D2 H H' [D6 o 2 s V5 (A2p ids)])
  (e0:=[(0,lv N3 ids),(3,U8),(4,.int .i64 0)]) (H0:=H) ⟨U8,none,rfl,g⟩ (by omega)
  (fun j e H' hj ⟨s,o,he,g⟩=>by
   subst he;have hlt:(j:Int)<ids.length:=by omega
   obtain⟨x,hx⟩:∃ x,ids[j]?=some x:=⟨_,List.getElem?_eq_getElem hj⟩
   have i1:=fun H'=>S0 N0 ids .i64 j x hx H';have hlen:(ids.take j).length=j:=by rw[List.length_take]; omega
   obtain⟨s',o',H2,e2,g2⟩:=g.append1 (bytes:=16) 0 W8 rfl (⟨x,j⟩:Gl) (by rw[A2q]; omega) (by decide);simp only[List.set_cons_zero] at g2;simp only[V5] at e2;refine .inl ⟨_,H2,?_,s',o',rfl,by rw[A29 hx,E69,hlen]; exact g2⟩;rw[E1o];simp -implicitDefEqProofs(disch:=omega) [hlt,i1,e2])
  (fun e H' ⟨s,o,he,g⟩=>by
   subst he;rw[List.take_length] at g;refine⟨.exit 0,_,H',?_,by simp,rfl,.int .i64 ids.length,s,o,rfl,g⟩;rw[E1o];simp -implicitDefEqProofs)
 obtain⟨L,hf⟩:=(g.own 0 rfl).freeze W8 (E4q _) 6;refine G7 (v:=s) (H':=H1) ?_ hf g.ext (D3.Gls _).alive;simp -implicitDefEqProofs(disch:=omega) [A95,hr1,G0u]
end Go.Sw
end
section
set_option maxRecDepth 100000
namespace Go.Sw
noncomputable section
variable (k:Nat) (call:A8)
def B4x(k:Nat)(call:A8)(a0:Value)(h:A2):Res Value :=
 (D1 A0 171 h).bind fun v0 h0=>(A5 A0 .mul 3 (.int .i64 2) a0 h0).bind fun v1 h1=>(A5 A0 .add 3 v1 (.int .i64 128) h1).bind fun v2 h2=>(E0 A0 171 [(4,v2)] h2).bind fun v3 h3=>(B4 A0 171 v0 v3 h3).bind fun _v4 h4=>(A3 A0 171 v0 h4).bind fun v5 h5=>
 .ok v5 h5
theorem G1v(k:Nat)(a0:Value)(h:A2):R (T k) F.B4x [a0] h=nrm .gc h (B4x k (R (T k)) a0 h) :=G9
def E2h(a3 a4 a6 a8:Value)(h:A2):Res Value :=
 E4 (B3 (C k) call F.A6x [1,1,1,1]) (G2 A0 (G3 A0 F.A6x)) .normal [(3,a3),(4,a4),(6,a6),(8,a8)] h
def E2i(a2 a3 a4 a6 a8 a18:Value)(h:A2):Res Value :=
 E4 (B3 (C k) call F.A6x [1,1,1,1]) (G2 A0 (G3 A0 F.A6x)) .normal [(2,a2),(3,a3),(4,a4),(6,a6),(8,a8),(18,a18)] h
def A6x(a0 a1 a2:Value)(h:A2):Res Value :=
 (K9 a0 h).bind fun v0 h0=>(K9 a1 h0).bind fun v1 h1=>(D1 A0 129 h1).bind fun v2 h2=>(A1 A0 171 v1 5 h2).bind fun v3 h3=>(A3 A0 4 v3 h3).bind fun v4 h4=>
 condV (some v4) (
 (E0 A0 129 [] h4).bind fun v5 h5=>(B4 A0 129 v2 v5 h5).bind fun _v6 h6=>(A3 A0 129 v2 h6).bind fun v7 h7=>
 .ok (.tuple #[v7,(.bool false)]) h7)
 (
 (A1 A0 171 v1 1 h4).bind fun v8 h8=>(A3 A0 3 v8 h8).bind fun v9 h9=>(A6 A0 .len [61] [a2] h9).bind fun va ha=>(A5 A0 .lss 3 v9 va ha).bind fun vb hb=>
 condV (some vb) (
 (A3 A0 44 v0 hb).bindN fun vc hc=>(A1 A0 171 v1 1 hc).bindN fun vd hd=>(A3 A0 3 vd hd).bindN fun ve he=>(A9 A0 61 a2 ve he).bindN fun vf hf=>(A1 A0 150 vf 0 hf).bindN fun vg hg=>(A3 A0 3 vg hg).bindN fun vh hh=>(call F.B0b [vc,vh] hh).bindT (fun p39 hi=>.panic p39 hi) fun vi hj=>
 E2h k call v0 v1 v2 vi hj)
 (
 E2i k call a2 v0 v1 v2 (.int .i64 0) vb hb))
theorem G3a(k:Nat)(a0 a1 a2:Value)(h:A2):R (T k) F.A6x [a0,a1,a2] h=nrm .gc h (A6x k (R (T k)) a0 a1 a2 h) :=G9
theorem G0w(a3 a4 a6 a8:Value)(h:A2):E2h k call a3 a4 a6 a8 h =
 (A3 A0 44 a3 h).bind fun v0 h0=>(A1 A0 171 a4 0 h0).bind fun v1 h1=>(A3 A0 3 v1 h1).bind fun v2 h2=>(call F.A8p [v0,v2,a8] h2).bind fun v3 h3=>(B5 v3 0 h3).bind fun v4 h4=>(B5 v3 1 h4).bind fun v5 h5=>(D1 A0 129 h5).bind fun v6 h6=>(B4 A0 129 v6 v4 h6).bind fun _v7 h7=>(A3 A0 129 v6 h7).bind fun v8 h8=>(B4 A0 129 a6 v8 h8).bind fun _v9 h9=>(A3 A0 129 a6 h9).bind fun va ha=>
 .ok (.tuple #[va,v5]) ha:=by kernel_rfl
theorem G0x(a2 a3 a4 a6 a8 a18:Value)(h:A2):E2i k call a2 a3 a4 a6 a8 a18 h =
 (A3 A0 44 a3 h).bind fun v0 h0=>(A1 A0 171 a4 0 h0).bind fun v1 h1=>(A3 A0 3 v1 h1).bind fun v2 h2=>(call F.A8p [v0,v2,a8] h2).bind fun v3 h3=>(B5 v3 0 h3).bind fun v4 h4=>(B5 v3 1 h4).bind fun v5 h5=>(D1 A0 129 h5).bind fun v6 h6=>(B4 A0 129 v6 v4 h6).bind fun _v7 h7=>(A3 A0 129 v6 h7).bind fun v8 h8=>(B4 A0 129 a6 v8 h8).bind fun _v9 h9=>(A3 A0 129 a6 h9).bind fun va ha=>
 .ok (.tuple #[va,v5]) ha:=by kernel_rfl
def D5i(a5 a10 a11:Value)(h:A2):Res Value :=
 E4 (B3 (C k) call F.ζf [1,1,1,1,1]) (G2 A0 (G3 A0 F.ζf)) .normal [(5,a5),(10,a10),(11,a11)] h
def E2u(a5 a10 a11:Value)(h:A2):Res Value :=
 E4 (B3 (C k) call F.ζf [1,1,1,1,1,1]) (G2 A0 (G3 A0 F.ζf)) .normal [(5,a5),(10,a10),(11,a11)] h
def E2v(a5 a10 a11 a39:Value)(h:A2):Res Value :=
 E4 (B3 (C k) call F.ζf [1,1,1,1,1,1]) (G2 A0 (G3 A0 F.ζf)) .normal [(5,a5),(10,a10),(11,a11),(39,a39)] h
def B8m(a5 a10:Value)(h:A2):Res Value :=
 E4 (B3 (C k) call F.ζf [1,1,1,1,1,1,1]) (G2 A0 (G3 A0 F.ζf)) .normal [(5,a5),(10,a10)] h
def D5j(a5 a10 a52:Value)(h:A2):Res Value :=
 E4 (B3 (C k) call F.ζf [1,1,1,1,1,1,1]) (G2 A0 (G3 A0 F.ζf)) .normal [(5,a5),(10,a10),(52,a52)] h
def ζf(a0 a1 a2 a3 a4:Value)(h:A2):Res Value :=
 (K9 a0 h).bind fun v0 h0=>(K9 a1 h0).bind fun v1 h1=>(D1 A0 171 h1).bind fun v2 h2=>(A1 A0 171 v0 1 h2).bind fun v3 h3=>(A3 A0 3 v3 h3).bind fun v4 h4=>(A5 A0 .geq 3 v4 a2 h4).bind fun v5 h5=>(A1 A0 171 v0 2 h5).bind fun v6 h6=>(A3 A0 3 v6 h6).bind fun v7 h7=>(A5 A0 .add 3 v7 (.int .i64 1) h7).bind fun v8 h8=>(A1 A0 171 v0 2 h8).bind fun v9 h9=>(B4 A0 3 v9 v8 h9).bind fun _va ha=>(A1 A0 129 v1 0 ha).bind fun vb hb=>(A3 A0 3 vb hb).bind fun vc hc=>(A1 A0 171 v0 0 hc).bind fun vd hd=>(B4 A0 3 vd vc hd).bind fun _ve he=>(A1 A0 129 v1 1 he).bind fun vf hf=>(A3 A0 3 vf hf).bind fun vg hg=>(A5 A0 .quo 3 vg (.int .i64 16384) hg).bind fun vh hh=>(A5 A0 .rem 3 vh (.int .i64 2) hh).bind fun vi hi=>(A5 A0 .eql 3 vi (.int .i64 1) hi).bind fun vj hj=>
 condV (some vj) (
 (A1 A0 171 v0 3 hj).bind fun vk hk=>(A3 A0 3 vk hk).bind fun vl hl=>(A5 A0 .add 3 vl (.int .i64 1) hl).bind fun vm hm=>(A1 A0 171 v0 3 hm).bind fun vn hn=>(B4 A0 3 vn vm hn).bind fun _vo ho=>(A1 A0 171 v0 1 ho).bind fun vp hp=>(B4 A0 3 vp a3 hp).bind fun _vq hq=>
 D5i k call v0 v2 (.bool false) hq)
 (
 (A1 A0 171 v0 3 hj).bind fun vr hr=>(B4 A0 3 vr (.int .i64 0) hr).bind fun _vs hs=>(A1 A0 171 v0 1 hs).bind fun vt ht=>(B4 A0 3 vt a4 ht).bind fun _vu hu=>
 D5i k call v0 v2 v5 hu)
theorem G4h(k:Nat)(a0 a1 a2 a3 a4:Value)(h:A2):R (T k) F.ζf [a0,a1,a2,a3,a4] h=nrm .gc h (ζf k (R (T k)) a0 a1 a2 a3 a4 h) :=G9
theorem ζo(a5 a10 a11:Value)(h:A2):D5i k call a5 a10 a11 h =
 (A1 A0 171 a5 1 h).bind fun v0 h0=>(A3 A0 3 v0 h0).bind fun v1 h1=>(A5 A0 .lss 3 v1 (.int .i64 0) h1).bind fun v2 h2=>
 condV (some v2) (
 (A1 A0 171 a5 1 h2).bind fun v3 h3=>(B4 A0 3 v3 (.int .i64 0) h3).bind fun _v4 h4=>
 E2u k call a5 a10 a11 h4)
 (
 E2v k call a5 a10 a11 v2 h2):=by kernel_rfl
theorem B4s(a5 a10 a11:Value)(h:A2):E2u k call a5 a10 a11 h =
 condV (some a11) (
 (A1 A0 171 a5 5 h).bind fun v0 h0=>(B4 A0 4 v0 (.bool true) h0).bind fun _v1 h1=>
 B8m k call a5 a10 h1)
 (
 (A1 A0 171 a5 2 h).bind fun v2 h2=>(A3 A0 3 v2 h2).bind fun v3 h3=>(A1 A0 171 a5 4 h3).bind fun v4 h4=>(A3 A0 3 v4 h4).bind fun v5 h5=>(A5 A0 .geq 3 v3 v5 h5).bind fun v6 h6=>(wV v6 false (A1 A0 171 a5 3 h6) h6).bind fun v7 h7=>(wV v6 false (A3 A0 3 v7 h7) h7).bind fun v8 h8=>(wV v6 false (A5 A0 .gtr 3 v8 (.int .i64 64) h8) h8).bind fun v9 h9=>(condV (some v6) (Res.ok (.bool true) h9) (Res.ok v9 h9)).bind fun va ha=>
 condV (some va) (
 (A1 A0 171 a5 5 ha).bind fun vb hb=>(B4 A0 4 vb (.bool true) hb).bind fun _vc hc=>(A1 A0 171 a5 6 hc).bind fun vd hd=>(B4 A0 3 vd (.int .i64 4) hd).bind fun _ve he=>
 B8m k call a5 a10 he)
 (
 D5j k call a5 a10 va ha)):=by kernel_rfl
theorem B4t(a5 a10 a11 a39:Value)(h:A2):E2v k call a5 a10 a11 a39 h =
 condV (some a11) (
 (A1 A0 171 a5 5 h).bind fun v0 h0=>(B4 A0 4 v0 (.bool true) h0).bind fun _v1 h1=>
 B8m k call a5 a10 h1)
 (
 (A1 A0 171 a5 2 h).bind fun v2 h2=>(A3 A0 3 v2 h2).bind fun v3 h3=>(A1 A0 171 a5 4 h3).bind fun v4 h4=>(A3 A0 3 v4 h4).bind fun v5 h5=>(A5 A0 .geq 3 v3 v5 h5).bind fun v6 h6=>(wV v6 false (A1 A0 171 a5 3 h6) h6).bind fun v7 h7=>(wV v6 false (A3 A0 3 v7 h7) h7).bind fun v8 h8=>(wV v6 false (A5 A0 .gtr 3 v8 (.int .i64 64) h8) h8).bind fun v9 h9=>(condV (some v6) (Res.ok (.bool true) h9) (Res.ok v9 h9)).bind fun va ha=>
 condV (some va) (
 (A1 A0 171 a5 5 ha).bind fun vb hb=>(B4 A0 4 vb (.bool true) hb).bind fun _vc hc=>(A1 A0 171 a5 6 hc).bind fun vd hd=>(B4 A0 3 vd (.int .i64 4) hd).bind fun _ve he=>
 B8m k call a5 a10 he)
 (
 D5j k call a5 a10 va ha)):=by kernel_rfl
theorem B20(a5 a10:Value)(h:A2):B8m k call a5 a10 h =
 (A3 A0 171 a5 h).bind fun v0 h0=>(B4 A0 171 a10 v0 h0).bind fun _v1 h1=>(A3 A0 171 a10 h1).bind fun v2 h2=>
 .ok v2 h2:=by kernel_rfl
theorem D1g(a5 a10 a52:Value)(h:A2):D5j k call a5 a10 a52 h =
 (A3 A0 171 a5 h).bind fun v0 h0=>(B4 A0 171 a10 v0 h0).bind fun _v1 h1=>(A3 A0 171 a10 h1).bind fun v2 h2=>
 .ok v2 h2:=by kernel_rfl
end
end Go.Sw
end
section
namespace Go.Sw
open Go.RowKit
structure Way where
 st:Int
 pl:Int
 stp:Int
 rest:Int
 most:Int
 over:Bool
 code:Int
abbrev A61(w:Way):List Value:=[.int .i64 w.st,.int .i64 w.pl,.int .i64 w.stp,.int .i64 w.rest,.int .i64 w.most,.bool w.over,.int .i64 w.code]
abbrev B87(w:Way):Value:=.agg (A61 w).toArray
theorem D3.way(w:Way):D3 (B87 w):=.aggL (.cons (.int _ _) (.cons (.int _ _) (.cons (.int _ _) (.cons (.int _ _) (.cons (.int _ _) (.cons (.bool _) (.cons (.int _ _) .nil)))))))
theorem G9e(k:Nat)(n:Int)(h0:0≤n)(h1:n<2 ^ 40)(H:A2):R (T k) F.B4x [.int .i64 n] H=.ok (B87 ⟨0,0,0,0,2*n+128,false,0⟩) H:=by
 rw[G1v];refine D8 ⟨H.push ⟨A61 ⟨0,0,0,0,2*n+128,false,0⟩,1,false⟩,?_,(Ext.refl H).push _⟩ (D3.way _).alive;simp -implicitDefEqProofs(disch:=omega) [B4x]
def goS(w:Way)(e:En)(n stay on:Int):Way :=
 let s:Bool:=decide (e.flags / 16384 % 2=1)
 let rest:=if s then w.rest+1 else 0
 let pl:=max (if s then stay else on) 0
 let fin:Bool:=!s && decide (w.pl≥n)
 if fin then ⟨e.next,pl,w.stp+1,rest,w.most,true,w.code⟩
 else if w.stp+1≥w.most∨rest>64 then ⟨e.next,pl,w.stp+1,rest,w.most,true,4⟩
 else ⟨e.next,pl,w.stp+1,rest,w.most,w.over,w.code⟩
set_option maxHeartbeats 1000000 in
theorem D2q (k:Nat) (w:Way) (e:En) (n stay on:Int) (hw:0≤w.stp∧w.stp<2 ^ 50∧0≤w.rest∧w.rest<2 ^ 50) (he:0≤e.flags∧e.flags<65536) (H:A2) :
  R (T k) F.ζf [B87 w,B6k e,.int .i64 n,.int .i64 stay,.int .i64 on] H=.ok (B87 (goS w e n stay on)) H:=by
 rw[G4h];have q1:=fun H=>A49 A0 3 H .i64 e.flags 16384 (by decide);rw[Int.tdiv_eq_ediv_of_nonneg he.1] at q1;have hq:0≤e.flags / 16384:=Int.ediv_nonneg he.1 (by decide);have q2:=fun H=>A58 A0 3 H .i64 (e.flags / 16384) 2 (by decide);rw[Int.tmod_eq_emod_of_nonneg hq] at q2;refine D8 ⟨((H.push ⟨A61 (goS w e n stay on),1,false⟩).push ⟨E7 e,1,false⟩).push ⟨A61 (goS w e n stay on),1,false⟩,?_,(((Ext.refl H).push _).push _).push _⟩ (D3.way _).alive;unfold goS;by_cases c1:e.flags / 16384 % 2=1
 ·have m1:max stay 0=if stay<0 then 0 else stay:=by split <;> omega
  by_cases c2:stay<0
  ·by_cases c3:w.stp+1≥w.most
   ·simp -implicitDefEqProofs(disch:=omega) [ζf,q1,q2,c1,m1,c2,c3,ζo,B4s,B20]
   ·by_cases c4:w.rest+1>64
    ·simp -implicitDefEqProofs(disch:=omega) [ζf,q1,q2,c1,m1,c2,c3,c4,ζo,B4s,B20]
    ·simp -implicitDefEqProofs(disch:=omega) [ζf,q1,q2,c1,m1,c2,c3,c4,ζo,B4s,D1g]
  ·by_cases c3:w.stp+1≥w.most
   ·simp -implicitDefEqProofs(disch:=omega) [ζf,q1,q2,c1,m1,c2,c3,ζo,B4t,B20]
   ·by_cases c4:w.rest+1>64
    ·simp -implicitDefEqProofs(disch:=omega) [ζf,q1,q2,c1,m1,c2,c3,c4,ζo,B4t,B20]
    ·simp -implicitDefEqProofs(disch:=omega) [ζf,q1,q2,c1,m1,c2,c3,c4,ζo,B4t,D1g]
 ·have c1':(e.flags / 16384 % 2 == 1)=false:=by simpa using c1
  have m1:max on 0=if on<0 then 0 else on:=by split <;> omega
  by_cases c5:w.pl≥n
  ·by_cases c2:on<0
   ·simp -implicitDefEqProofs(disch:=omega) [ζf,q1,q2,c1,c1',m1,c2,c5,ζo,B4s,B20]
   ·simp -implicitDefEqProofs(disch:=omega) [ζf,q1,q2,c1,c1',m1,c2,c5,ζo,B4t,B20]
  ·by_cases c3:w.stp+1≥w.most
   ·by_cases c2:on<0
    ·simp -implicitDefEqProofs(disch:=omega) [ζf,q1,q2,c1,c1',m1,c2,c3,c5,ζo,B4s,B20]
    ·simp -implicitDefEqProofs(disch:=omega) [ζf,q1,q2,c1,c1',m1,c2,c3,c5,ζo,B4t,B20]
   ·by_cases c2:on<0
    ·simp -implicitDefEqProofs(disch:=omega) [ζf,q1,q2,c1,c1',m1,c2,c3,c5,ζo,B4s,D1g]
    ·simp -implicitDefEqProofs(disch:=omega) [ζf,q1,q2,c1,c1',m1,c2,c3,c5,ζo,B4t,D1g]
theorem G9p(m:Q7)(l:List Gl)(pl:Int)(h:0≤pl):(A27 m l pl).1=if pl<l.length then (match l[pl.toNat]? with | some g=>A1t m g.id | none=>0) else 0:=by
 unfold A27 atG;by_cases h2:pl<l.length
 ·rw[if_pos ⟨h,h2⟩,if_pos h2];obtain⟨g,hg⟩:∃ g,l[pl.toNat]?=some g:=⟨_,List.getElem?_eq_getElem (by omega)⟩
  rw[hg]
 ·rw[if_neg (fun hc=>h2 hc.2),if_neg h2]
set_option maxHeartbeats 1000000 in
theorem B5p(k:Nat){b:List Int}(hb:Byt b){g w:Int}(hg:1≤g∧g≤65535)(hw:w=0∨w=1∨w=2)(hl:b.length<2 ^ 31){m:Q7}(hm:m.ok)(h:Z5 b g w=some m)(y:Way)(hy:y.over=false)(hp:0≤y.pl)(l:List Gl)(hll:l.length<2 ^ 40)(H:A2) :
  R (T k) F.A6x [rmV (A0o b g w m),B87 y,lv V5 l] H=.ok (.tuple #[Z9 (X2 m y.st (A27 m l y.pl).1),.bool (X2 m y.st (A27 m l y.pl).1).isSome]) H:=by
 rw[G3a];have hstep:=fun c H'=>J13 k hb hw hl hm h y.st c H';have hcls:=fun id H'=>G80 k hb hg hl hm h id H';have hc:=G9p m l y.pl hp;obtain⟨st,pl,stp,rest,most,over,code⟩:=y;dsimp only at hy hp hstep hc ⊢;subst hy;generalize A0o b g w m=r at hstep hcls ⊢;have fl:∀ o:Option En,D3 (.tuple #[Z9 o,.bool o.isSome]):=fun o=>.tupleL (.cons (D6f _) (.cons (.bool _) .nil));by_cases h2:pl<l.length
 ·rw[if_pos h2] at hc;obtain⟨gl,hgl⟩:∃ gl,l[pl.toNat]?=some gl:=⟨_,List.getElem?_eq_getElem (by omega)⟩
  rw[hgl] at hc;dsimp only at hc;have i1:=fun H'=>A34 W8 l .i64 pl gl hp hgl H';rw[hc];generalize hs:X2 m st (A1t m gl.id)=o;have hst:=fun H'=>hstep (A1t m gl.id) H';rw[hs] at hst;have fo:=fl o;unfold Z9 at hst fo ⊢;generalize o.isSome=z at hst fo ⊢;generalize o.getD ⟨0,0,0,0⟩=e at hst fo ⊢;refine D8 ⟨((((H.push ⟨M0 r.b r.cl r.rowsAt r.entsAt r.states r.n r.words r.tb r.parts,1,false⟩).push ⟨[.int .i64 st,.int .i64 pl,.int .i64 stp,.int .i64 rest,.int .i64 most,.bool false,.int .i64 code],1,false⟩).push ⟨E7 e,1,false⟩).push ⟨E7 e,1,false⟩),?_,((((Ext.refl H).push _).push _).push _).push _⟩ fo.alive;simp -implicitDefEqProofs(disch:=omega) [A6x,h2,i1,hcls,G0w,hst]
 ·rw[if_neg h2] at hc;rw[hc];generalize hs:X2 m st 0=o;have hst:=fun H'=>hstep 0 H';rw[hs] at hst;have fo:=fl o;unfold Z9 at hst fo ⊢;generalize o.isSome=z at hst fo ⊢;generalize o.getD ⟨0,0,0,0⟩=e at hst fo ⊢;refine D8 ⟨((((H.push ⟨M0 r.b r.cl r.rowsAt r.entsAt r.states r.n r.words r.tb r.parts,1,false⟩).push ⟨[.int .i64 st,.int .i64 pl,.int .i64 stp,.int .i64 rest,.int .i64 most,.bool false,.int .i64 code],1,false⟩).push ⟨E7 e,1,false⟩).push ⟨E7 e,1,false⟩),?_,((((Ext.refl H).push _).push _).push _).push _⟩ fo.alive;simp -implicitDefEqProofs(disch:=omega) [A6x,h2,G0x,hst]
end Go.Sw
end
section
namespace Go.Sw
open Go.RowKit
variable {σ:Type}
abbrev A6s(y:Way):Drv:=⟨y.st,y.pl,y.stp,y.rest⟩
def A1u(m:Q7)(ln:σ→List Gl)(f:σ→Int→En→σ × Int × Int)(x:σ × Way):σ × Way :=
 ((f x.1 x.2.pl (A1i m (ln x.1) (A6s x.2))).1,goS x.2 (A1i m (ln x.1) (A6s x.2)) ((ln x.1).length:Int) (f x.1 x.2.pl (A1i m (ln x.1) (A6s x.2))).2.1 (f x.1 x.2.pl (A1i m (ln x.1) (A6s x.2))).2.2)
def A16(m:Q7)(ln:σ→List Gl)(f:σ→Int→En→σ × Int × Int):Nat→σ × Way→σ × Way
 | 0,x=>x
 | n+1,x=>if x.2.over=true then x else A16 m ln f n (A1u m ln f x)
theorem B8z(m:Q7)(ln:σ→List Gl)(f:σ→Int→En→σ × Int × Int)(n:Nat)(x:σ × Way)(h:x.2.over=true):A16 m ln f n x=x:=by
 cases n with
 | zero=>rfl
 | succ n=>unfold A16; rw[if_pos h]
theorem B6b(m:Q7)(l:List Gl)(p:Int)(h:0≤p):(A27 m l p).2=decide (p≥l.length):=by
 unfold A27 atG;by_cases h2:p<l.length
 ·obtain⟨g,hg⟩:∃ g,l[p.toNat]?=some g:=⟨_,List.getElem?_eq_getElem (by omega)⟩
  rw[if_pos ⟨h,h2⟩,hg,decide_eq_false (by omega)]
 ·rw[if_neg (fun hc=>h2 hc.2),decide_eq_true (by omega)]
theorem A7u (m:Q7) (ln:σ→List Gl) (f:σ→Int→En→σ × Int × Int) (N:Int):∀ (n:Nat) (s:σ) (y:Way),y.over=false→y.code=0→0≤y.pl→y.most=N→y.stp<N→N - y.stp≤n →
  A42 m ln f N n (s,A6s y)=((A16 m ln f n (s,y)).2.stp,(A16 m ln f n (s,y)).2.code,(A16 m ln f n (s,y)).1)
 | 0,s,y,_,_,_,_,h1,h2=>by omega
 | n + 1,s,y,hov,hc0,hp,hN,hlt,hn=>by
  have hend:=B6b m (ln s) y.pl hp;have hd:A16 m ln f (n+1) (s,y)=A16 m ln f n (A1u m ln f (s,y)):=by
   show (if y.over=true then (s,y) else A16 m ln f n (A1u m ln f (s,y)))=_;rw[if_neg (by rw[hov]; simp)]
  rw[hd];unfold A42;rw[if_pos hlt];unfold A1u U6;dsimp only;generalize A1i m (ln s) (A6s y)=e;generalize f s y.pl e=r;rw[hend];unfold goS;dsimp only;by_cases c1:e.flags / 16384 % 2=1
  ·rw [if_pos c1,decide_eq_true c1];simp only[Bool.not_true,Bool.false_and,Bool.false_eq_true,if_false,if_true];by_cases c2:y.rest+1>64
   ·rw[if_pos c2,if_pos (Or.inr c2)];rw[B8z _ _ _ _ _ rfl]
   ·rw [if_neg c2];by_cases c3:y.stp+1≥y.most
    ·rw[if_pos (Or.inl c3),B8z _ _ _ _ _ rfl];cases n with
     | zero=>rfl
     | succ n=>unfold A42; dsimp only; rw[if_neg (by omega)]
    ·rw[if_neg (by omega)];exact A7u m ln f N n _ ⟨e.next,max r.2.1 0,y.stp+1,y.rest+1,y.most,y.over,y.code⟩ hov hc0 (by dsimp only; omega) hN (by dsimp only; omega) (by dsimp only; omega)
  ·rw [if_neg c1,decide_eq_false c1];simp only[Bool.not_false,Bool.true_and,Bool.false_eq_true,if_false];by_cases c4:y.pl≥(ln s).length
   ·rw[decide_eq_true c4];simp only[if_true];rw[B8z _ _ _ _ _ rfl,hc0]
   ·rw [decide_eq_false c4];simp only[Bool.false_eq_true,if_false];rw[if_neg (show ¬ (0:Int)>64 by decide)];by_cases c3:y.stp+1≥y.most
    ·rw[if_pos (Or.inl c3),B8z _ _ _ _ _ rfl];cases n with
     | zero=>rfl
     | succ n=>unfold A42; dsimp only; rw[if_neg (by omega)]
    ·rw[if_neg (by omega)];exact A7u m ln f N n _ ⟨e.next,max r.2.2 0,y.stp+1,0,y.most,y.over,y.code⟩ hov hc0 (by dsimp only; omega) hN (by dsimp only; omega) (by dsimp only; omega)
theorem B9w (y:Way) (e:En) (n stay on:Int) (hr:0≤y.rest):let z:=goS y e n stay on
  z.most=y.most∧z.stp=y.stp+1∧z.st=e.next∧0≤z.pl∧z.pl≤max (max stay on) 0∧0≤z.rest∧z.rest≤y.rest+1∧(z.over=false→z.stp<z.most∧z.rest≤64):=by
 intro z;have hz:z=goS y e n stay on:=rfl
 clear_value z
 unfold goS at hz;dsimp only at hz;by_cases c1:e.flags / 16384 % 2=1
 ·rw[decide_eq_true c1] at hz;simp only[Bool.not_true,Bool.false_and,Bool.false_eq_true,if_false,if_true] at hz;split at hz <;> subst hz <;> dsimp only <;> refine⟨rfl,rfl,rfl,by omega,by omega,by omega,by omega,fun h=>?_⟩
  ·cases h
  ·omega
 ·rw [decide_eq_false c1] at hz;simp only[Bool.not_false,Bool.true_and,Bool.false_eq_true,if_false] at hz;split at hz
  ·subst hz; dsimp only; exact⟨rfl,rfl,rfl,by omega,by omega,by omega,by omega,fun h=>by cases h⟩
  ·split at hz <;> subst hz <;> dsimp only <;> refine⟨rfl,rfl,rfl,by omega,by omega,by omega,by omega,fun h=>?_⟩
   ·cases h
   ·omega
def D7g(m:Q7)(N j:Nat)(y:Way):Prop:=y.over=false→y.stp=j∧y.stp<N∧y.most=N∧0≤y.pl∧y.pl≤128*j∧0≤y.rest∧y.rest≤j∧0≤y.st∧y.st<m.rows.length
theorem B6h {body:Env→A2→Res (D0 × Env)} (m:Q7) (hm:m.ok) (ln:σ→List Gl) (f:σ→Int→En→σ × Int × Int) (N:Nat) (h0N:0<N) (hN:N<2 ^ 42)
  (At:σ × Way→Env→A2→Prop) (Inv:σ→Prop) (Q:σ × Way→D0→Env→A2→Prop)
  (hover:∀ x e H,At x e H→Inv x.1→x.2.over=true→∃ xx e' H',body e H=.ok (xx,e') H'∧xx≠.normal∧Q x xx e' H')
  (hstep:∀ s y en e H,At (s,y) e H→Inv s→y.over=false→0≤y.pl→y.pl<2 ^ 50→0≤y.stp→y.stp<2 ^ 50→0≤y.rest→y.rest<2 ^ 50→en ∈ m.ents→en=A1i m (ln s) (A6s y) →
   ∃ e' H',body e H=.ok (.normal,e') H'∧At ((f s y.pl en).1,goS y en ((ln s).length:Int) (f s y.pl en).2.1 (f s y.pl en).2.2) e' H'∧Inv (f s y.pl en).1∧(f s y.pl en).2.1≤y.pl+128∧(f s y.pl en).2.2≤y.pl+128)
  (s0:σ) {e0:Env} {H0:A2} (hA:At (s0,⟨0,0,0,0,N,false,0⟩) e0 H0) (hI:Inv s0) :
  ∃ xx e' H',loopN body B8 e0 H0=.ok (xx,e') H'∧Q (A16 m ln f N (s0,⟨0,0,0,0,N,false,0⟩)) xx e' H':=by
 generalize hr0:A16 m ln f N (s0,⟨0,0,0,0,N,false,0⟩)=r
 exact K5 (body:=body) N
  (fun j e H'=>∃ x:σ × Way,At x e H'∧Inv x.1∧A16 m ln f (N - j) x=r∧D7g m N j x.2)
  (fun xx e H'=>Q r xx e H')
  ⟨_,hA,hI,by rw[Nat.sub_zero]; exact hr0,fun _=>by have:=hm.two; dsimp only; omega⟩ (by omega)
  (fun j e H' hj ⟨x,hA,hI,hd,hnot⟩=>by
   obtain⟨s,y⟩:=x;dsimp only at hI hnot;cases hov:y.over with
   | true=>
    rw[B8z _ _ _ _ _ hov] at hd;subst hd;obtain⟨xx,e',H2,h1,h2,h3⟩:=hover (s,y) e H' hA hI hov;exact .inr ⟨xx,e',H2,h1,h2,h3⟩
   | false=>
    obtain⟨n1,n2,n3,n4,n5,n6,n7,n8,n9⟩:=hnot hov;have hNj:N - j=(N - (j+1))+1:=by omega
    rw [hNj] at hd;have hd2:A16 m ln f (N - (j+1)) (A1u m ln f (s,y))=r:=by
     rw[← hd];show _=(if y.over=true then _ else A16 m ln f (N - (j+1)) (A1u m ln f (s,y)))
     rw[if_neg (by rw[hov]; simp)]
    unfold A1u at hd2;dsimp only at hd2;have hmem:=A7w hm (ln s) (A6s y) ⟨n8,n9⟩;have hent:=hm.ent _ hmem;obtain⟨e',H2,h1,h2,h3,h4,h5⟩:=hstep s y _ e H' hA hI hov n4 (by omega) (by omega) (by omega) n6 (by omega) hmem rfl;refine .inl ⟨e',H2,h1,_,h2,h3,hd2,fun hz=>?_⟩;have g:=B9w y (A1i m (ln s) (A6s y)) ((ln s).length:Int) (f s y.pl (A1i m (ln s) (A6s y))).2.1 (f s y.pl (A1i m (ln s) (A6s y))).2.2 n6;dsimp only at g hz ⊢;obtain⟨g1,g2,g3,g4,g5,g6,g7,g8⟩:=g;have:=g8 hz;refine⟨by omega,by omega,by omega,g4,by omega,g6,by omega,by omega,by omega⟩)
  (fun e H' ⟨x,hA,hI,hd,hnot⟩=>by
   rw [Nat.sub_self] at hd;have hd:x=r:=hd;subst hd;have hov:x.2.over=true:=by
    cases h:x.2.over with
    | true=>rfl
    | false=>have:=hnot h; omega
   exact hover x e H' hA hI hov)
end Go.Sw
end
section
namespace Go.Sw
open Go.RowKit
abbrev rmC(r:A13):List Value:=M0 r.b r.cl r.rowsAt r.entsAt r.states r.n r.words r.tb r.parts
end Go.Sw
end
section
set_option maxRecDepth 100000
namespace Go.Sw
noncomputable section
variable (k:Nat) (call:A8)

end
end Go.Sw
end
section
namespace Go.Sw
open Go.RowKit
structure A0r where
 m:Q7
 kind:Int
 acts:List Int
def N8(k:Int)(a:List Int)(e:En):Bool:=decide (e.a=65535) || (E1 a (4*k*e.a) (4*k)).isSome
def W7(b:List Int)(g:Int):Option A0r:=(Z5 b g 1).bind fun m=>(uS b 16 4).bind fun w=>
 if w / 1073741824=1∨w / 1073741824=2 then (L5 b (w % 16777216)).bind fun a=>if m.ents.all (N8 (w / 1073741824) a) then some ⟨m,w / 1073741824,a⟩ else none else some ⟨m,w / 1073741824,[]⟩
structure A0r.ok (t:A0r):Prop where
 m:t.m.ok
 kind:0≤t.kind∧t.kind<4
 byt:Byt t.acts
 len:t.acts.length<2 ^ 31
 has:t.kind=1∨t.kind=2→∀ e,e ∈ t.m.ents→e.a=65535∨4*t.kind*e.a+4*t.kind≤t.acts.length
theorem B64 {b:List Int} (hb:Byt b) {g:Int} (h1:1≤g) (h2:g≤65535) (hl:b.length<2 ^ 31) {t:A0r} (h:W7 b g=some t):t.ok:=by
 unfold W7 at h;obtain⟨m,hm,h⟩:=Option.bind_eq_some_iff.1 h;obtain⟨w,hw,h⟩:=Option.bind_eq_some_iff.1 h;have hwb:=W5 hb hw;split at h
 ·rename_i hc;obtain⟨a,ha,h⟩:=Option.bind_eq_some_iff.1 h;split at h
  ·rename_i hall;injection h with h;subst h;have:=A73 ha;refine⟨A5k hb h1 h2 (by omega) hm,by dsimp only; omega,hb.rest ha,by dsimp only; omega,fun _ e he=>?_⟩;have:=List.all_eq_true.1 hall e he;unfold N8 at this;rw[Bool.or_eq_true,decide_eq_true_eq] at this;refine this.imp id fun hp=>?_;obtain⟨r,hr⟩:=Option.isSome_iff_exists.1 hp;unfold E1 at hr;split at hr
   ·dsimp only; omega
   ·cases hr
  ·cases h
 ·rename_i hc;injection h with h;subst h;exact⟨A5k hb h1 h2 (by omega) hm,by dsimp only; omega,Byt.nil,by simp,fun h=>absurd h hc⟩
def A6v(t:A0r)(pg:Int→Int→Option (Int × Int))(a mk own:Int):Option ((Int × Int) × (Int × Int)) :=
 if t.kind=1 then (pg mk (gU t.acts (4*a) 2)).bind fun p=>(pg own (gU t.acts (4*a+2) 2)).map fun q=>(p,q)
 else if t.kind=2 then some ((s16 (gU t.acts (8*a) 2),s16 (gU t.acts (8*a+2) 2)),(s16 (gU t.acts (8*a+4) 2),s16 (gU t.acts (8*a+6) 2)))
 else none
def A0l(l:List Pl)(i x y:Int):List Pl:=A00 l i fun p=>⟨p.adv,N6 p.x x,N6 p.y y⟩
def Q9(t:A0r)(pg:Int→Int→Option (Int × Int))(gl:List Gl)(l:List Pl)(i mark:Int)(e:En):List Pl :=
 if e.a=65535 then l else
 match atG gl i,atG gl mark with
 | some own,some mk=>match A6v t pg e.a mk.id own.id with
  | some r=>A0l l i (r.1.1 - r.2.1) (r.1.2 - r.2.2)
  | none=>l
 | _,_=>l
def A2z(t:A0r)(pg:Int→Int→Option (Int × Int))(gl:List Gl)(s:List Pl × Int)(i:Int)(e:En):List Pl × Int :=
 (Q9 t pg gl s.1 i s.2 e,if e.flags≥32768∧(atG gl i).isSome=true then i else s.2)
theorem E4n(t:A0r)(pg:Int→Int→Option (Int × Int))(gl:List Gl)(l:List Pl)(i mark:Int)(e:En):(Q9 t pg gl l i mark e).length=l.length:=by
 unfold Q9 A0l
 repeat' split
 all_goals simp
theorem E5n(t:A0r)(pg:Int→Int→Option (Int × Int))(gl:List Gl){l:List Pl}(h:∀ q,q ∈ l→q.ok)(i mark:Int)(e:En):∀ q,q ∈ Q9 t pg gl l i mark e→q.ok:=by
 unfold Q9 A0l
 repeat' split
 all_goals first
  | exact h
  | exact B82 h _ fun q hq=>⟨hq.1,B3m _ _,B3m _ _⟩
def A4m(t:A0r)(pg:Int→Int→Option (Int × Int))(gl:List Gl)(l:List Pl):Int × Int × (List Pl × Int) :=
 A42 t.m (fun _:List Pl × Int=>gl) (fun s i e=>(A2z t pg gl s i e,i,i+1)) (2*(gl.length:Int)+128) (2*gl.length+128) ((l,-1),⟨0,0,0,0⟩)
def A41(t:A0r)(pg:Int→Int→Option (Int × Int))(gl:List Gl)(l:List Pl):List Pl × Int:=((A4m t pg gl l).2.2.1,(A4m t pg gl l).2.1)
end Go.Sw
end
