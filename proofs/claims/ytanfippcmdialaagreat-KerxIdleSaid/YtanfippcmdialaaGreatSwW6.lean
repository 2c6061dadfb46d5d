/-
  Functions' forms, and what is proved of them, part 6.
-/
import Derived.Test.YtanfippcmdialaaGreatSwW5
import Derived.Test.YtanfippcmdialaaGreatSwW3
import Derived.Test.YtanfippcmdialaaGreatSwLib8
import Derived.Test.YtanfippcmdialaaGreatSwCfg
import Derived.Test.YtanfippcmdialaaGreatSwW4
import Derived.Test.YtanfippcmdialaaGreatSwW2
import Derived.Test.YtanfippcmdialaaGreatSwLib9
import Derived.Test.YtanfippcmdialaaGreatSwW1
set_option linter.unusedSimpArgs false
set_option linter.unusedVariables false
set_option linter.unusedSectionVars false
section
namespace Go.Sw
def PlAt (H:Heap) (p:Nat) (o:Option Nat) (down:Bool) (l:List Pl):Prop :=
 (∀ b,o = some b → b ≠ p) ∧ ∃ s,H.get p = some ⟨[.bool down,s],1,false⟩ ∧ OwnO H o 3 s encP l
theorem PlAt.up {H H':Heap} {p:Nat} {o:Option Nat} {down:Bool} {l:List Pl} (h:PlAt H p o down l) (hp:H'.get p = H.get p) (ho:∀ b,o = some b → H'.get b = H.get b):PlAt H' p o down l:=by
 obtain ⟨h1,s,h2,h3⟩:=h;exact ⟨h1,s,by rw [hp]; exact h2,h3.up ho⟩
theorem PlAt.lt {H:Heap} {p:Nat} {o:Option Nat} {down:Bool} {l:List Pl} (h:PlAt H p o down l):p < H.n:=by
 obtain ⟨_,s,h2,_⟩:=h;exact Heap.get_lt h2
theorem PlAt.lto {H:Heap} {p:Nat} {o:Option Nat} {down:Bool} {l:List Pl} (h:PlAt H p o down l):∀ b,o = some b → b < H.n:=by
 obtain ⟨_,s,_,h3⟩:=h;intro b hb;rcases h3 with ⟨h4,_⟩ | ⟨c,h4,_,h5⟩
 ·rw [h4] at hb; cases hb
 ·rw [h4] at hb; injection hb with hb; subst hb; exact Heap.get_lt h5
theorem PlAt.ext {H H':Heap} {p:Nat} {o:Option Nat} {down:Bool} {l:List Pl} (h:PlAt H p o down l) (hx:Ext H H'):PlAt H' p o down l :=
 h.up (hx.2 p h.lt (by simp)) fun b hb => hx.2 b (h.lto b hb) (by simp)
def fpP (p:Nat) (o:Option Nat):List Nat:=p :: o.toList
theorem plAt_run (k:Nat) {H:Heap} {p:Nat} {o:Option Nat} {down:Bool} {l:List Pl} (h:PlAt H p o down l) (hok:∀ q,q ∈ l → q.ok) (i:Int) :
  ∃ H1 b j l' q e,R (T k) F.ζ1j [.pointer (some ⟨p,0,none⟩),.int .i64 i] H = .ok (.pointer (some ⟨b,j * 3,none⟩)) H1 ∧ b ≠ p ∧ H1.get b = some ⟨rows encP l',e,false⟩ ∧ l'[j]? = some q ∧ q.ok ∧ H1.get p = H.get p ∧
   ∀ (H2:Heap) (f:Pl → Pl),H2.get b = some ⟨rows encP (l'.set j (f q)),e,false⟩ → (∀ c,c ≠ b → H2.get c = H1.get c) → H2.n = H1.n → PlAt H2 p o down (updPl l i f) ∧ Keeps (fpP p o) H H2:=by
 have hh:=h;have hlt:=h.lt;have hlto:=h.lto;obtain ⟨hne,s,h2,h3⟩:=h;rw [ζca];by_cases hi:0 ≤ i ∧ i < l.length
 ·obtain ⟨n,rfl⟩:∃ n:Nat,i = n:=⟨i.toNat,by omega⟩
  have hn:n < l.length:=by omega
  obtain ⟨q,hq⟩:∃ q,l[n]? = some q:=⟨l[n],List.getElem?_eq_getElem hn⟩
  obtain ⟨b,rfl,rfl,hb,hix⟩:=h3.ix .i64 n hn;have h0:¬ (n:Int) < 0:=by omega
  have h1:¬ (l.length:Int) ≤ n:=by omega
  refine ⟨H,b,n,l,q,3,by simp -implicitDefEqProofs [ζ1j,h2,h0,h1,hix],hne b rfl,hb,hq,hok q (List.mem_of_getElem? hq),rfl,fun H2 f g1 g2 g3 => ⟨⟨hne,_,by rw [g2 p (fun e => hne b rfl e.symm)]; exact h2,?_⟩,by rw [g3]; exact Nat.le_refl _,fun c hc hs => g2 c fun e => hs (by simp [fpP,e])⟩⟩;have:updPl l n f = l.set n (f q):=by
   unfold updPl;rw [if_pos (by omega),Int.toNat_natCast,ζhs _ l n q hq]
  rw [this];exact .inr ⟨b,rfl,by simp,g1⟩
 ·refine ⟨H.push ⟨[.int .i32 0,.int .i32 0,.int .i32 0],1,false⟩,H.n,0,[⟨0,0,0⟩],⟨0,0,0⟩,1,?_,by omega,by rw [Heap.get_push,if_pos rfl]; rfl,rfl,by unfold Pl.ok; simp,ζ23 _ _ _ hlt,fun H2 f g1 g2 g3 => ?_⟩
  ·by_cases h0:i < 0
   ·simp -implicitDefEqProofs [ζ1j,h0]
   ·have h1:(l.length:Int) ≤ i:=by omega
    simp -implicitDefEqProofs [ζ1j,h0,h2,h3.len,h1]
  ·have:updPl l i f = l:=by
    unfold updPl;split
    ·exact ζfl _ _ _ (by omega)
    ·rfl
   rw [this];have hx:Ext H H2:=⟨by rw [g3]; simp,fun c hc hs => by rw [g2 c (by omega)]; exact ζ23 _ _ _ hc⟩
   exact ⟨hh.ext hx,hx.1,fun c hc _ => hx.2 c hc (by simp)⟩
theorem ζmo (k:Nat) {H:Heap} {p:Nat} {o:Option Nat} {down:Bool} {l:List Pl} (h:PlAt H p o down l) (hok:∀ q,q ∈ l → q.ok) (i n:Int) :
  ∃ H2,R (T k) F.ζ13 [.pointer (some ⟨p,0,none⟩),.int .i64 i,.int .i64 n] H = .ok (.tuple #[]) H2 ∧ PlAt H2 p o down (updPl l i fun q => ⟨addI q.adv n,q.x,q.y⟩) ∧ Keeps (fpP p o) H H2:=by
 obtain ⟨H1,b,j,l',q,e,a1,_,a2,a3,a4,_,a5⟩:=plAt_run k h hok i;have r1:=ld1_row encP_len a2 (c:=0) a3 (by decide) rfl;obtain ⟨H2,s1,g1,k1,n1⟩:=st_row encP_len a2 (c:=0) (n:=1) ⟨addI q.adv n,q.x,q.y⟩ (v:=.int .i32 (addI q.adv n)) a3 rfl rfl (by decide) rfl;obtain ⟨b1,b2⟩:=a5 H2 (fun q => ⟨addI q.adv n,q.x,q.y⟩) g1 k1 n1;refine ⟨H2,?_,b1,b2⟩;simp only [Nat.add_zero] at r1 s1;rw [ζaa];simp -implicitDefEqProofs [-ld1_ptr,-stR_ptr,ζ13,a1,r1,s1,Add_run _ _ _ a4.1.1 a4.1.2]
theorem side_run (k:Nat) {H:Heap} {p:Nat} {o:Option Nat} {down:Bool} {l:List Pl} (h:PlAt H p o down l) (hok:∀ q,q ∈ l → q.ok) (i:Int) :
  ∃ H1 b j l' q e,R (T k) F.ζ26 [.pointer (some ⟨p,0,none⟩),.int .i64 i] H = .ok (.pointer (some ⟨b,j * 3 + (if down then 1 else 2),none⟩)) H1 ∧ H1.get b = some ⟨rows encP l',e,false⟩ ∧ l'[j]? = some q ∧ q.ok ∧
   ∀ (H2:Heap) (f:Pl → Pl),H2.get b = some ⟨rows encP (l'.set j (f q)),e,false⟩ → (∀ c,c ≠ b → H2.get c = H1.get c) → H2.n = H1.n → PlAt H2 p o down (updPl l i f) ∧ Keeps (fpP p o) H H2:=by
 obtain ⟨H1,b,j,l',q,e,a1,a0,a2,a3,a4,ap,a5⟩:=plAt_run k h hok i;obtain ⟨_,s,h2,_⟩:=h;refine ⟨H1,b,j,l',q,e,?_,a2,a3,a4,a5⟩;rw [ζaz];rw [← ap] at h2;cases down <;> simp -implicitDefEqProofs [ζ26,a1,h2]
theorem ζl4 (k:Nat) {H:Heap} {p:Nat} {o:Option Nat} {down:Bool} {l:List Pl} (h:PlAt H p o down l) (hok:∀ q,q ∈ l → q.ok) (i n:Int) :
  ∃ H2,R (T k) F.ζo [.pointer (some ⟨p,0,none⟩),.int .i64 i,.int .i64 n] H = .ok (.tuple #[]) H2 ∧ PlAt H2 p o down (updPl l i fun q => if down then ⟨q.adv,addI q.x n,q.y⟩ else ⟨q.adv,q.x,addI q.y n⟩) ∧ Keeps (fpP p o) H H2:=by
 obtain ⟨H1,b,j,l',q,e,a1,a2,a3,a4,a5⟩:=side_run k h hok i;rw [ζ9g];cases down
 ·have r1:=ld1_row encP_len a2 (c:=2) a3 (by decide) rfl;obtain ⟨H2,s1,g1,k1,n1⟩:=st_row encP_len a2 (c:=2) (n:=1) ⟨q.adv,q.x,addI q.y n⟩ (v:=.int .i32 (addI q.y n)) a3 rfl rfl (by decide) rfl;obtain ⟨b1,b2⟩:=a5 H2 (fun q => ⟨q.adv,q.x,addI q.y n⟩) g1 k1 n1;refine ⟨H2,?_,by simpa using b1,b2⟩;simp only [Bool.false_eq_true,if_false] at a1;simp -implicitDefEqProofs [-ld1_ptr,-stR_ptr,ζo,a1,r1,s1,Add_run _ _ _ a4.2.2.1 a4.2.2.2]
 ·have r1:=ld1_row encP_len a2 (c:=1) a3 (by decide) rfl;obtain ⟨H2,s1,g1,k1,n1⟩:=st_row encP_len a2 (c:=1) (n:=1) ⟨q.adv,addI q.x n,q.y⟩ (v:=.int .i32 (addI q.x n)) a3 rfl rfl (by decide) rfl;obtain ⟨b1,b2⟩:=a5 H2 (fun q => ⟨q.adv,addI q.x n,q.y⟩) g1 k1 n1;refine ⟨H2,?_,by simpa using b1,b2⟩;simp only [if_true] at a1;simp -implicitDefEqProofs [-ld1_ptr,-stR_ptr,ζo,a1,r1,s1,Add_run _ _ _ a4.2.1.1 a4.2.1.2]
theorem ζmr (k:Nat) {H:Heap} {p:Nat} {o:Option Nat} {down:Bool} {l:List Pl} (h:PlAt H p o down l) (hok:∀ q,q ∈ l → q.ok) (i:Int) :
  ∃ H2,R (T k) F.ζ14 [.pointer (some ⟨p,0,none⟩),.int .i64 i] H = .ok (.tuple #[]) H2 ∧ PlAt H2 p o down (levelPl l down i) ∧ Keeps (fpP p o) H H2:=by
 obtain ⟨H1,b,j,l',q,e,a1,a2,a3,a4,a5⟩:=side_run k h hok i;rw [ζab];cases down
 ·obtain ⟨H2,s1,g1,k1,n1⟩:=st_row encP_len a2 (c:=2) (n:=1) ⟨q.adv,q.x,0⟩ (v:=.int .i32 0) a3 rfl rfl (by decide) rfl;obtain ⟨b1,b2⟩:=a5 H2 (fun q => ⟨q.adv,q.x,0⟩) g1 k1 n1;refine ⟨H2,?_,by simpa [levelPl] using b1,b2⟩;simp only [Bool.false_eq_true,if_false] at a1;simp -implicitDefEqProofs [-ld1_ptr,-stR_ptr,ζ14,a1,s1]
 ·obtain ⟨H2,s1,g1,k1,n1⟩:=st_row encP_len a2 (c:=1) (n:=1) ⟨q.adv,0,q.y⟩ (v:=.int .i32 0) a3 rfl rfl (by decide) rfl;obtain ⟨b1,b2⟩:=a5 H2 (fun q => ⟨q.adv,0,q.y⟩) g1 k1 n1;refine ⟨H2,?_,by simpa [levelPl] using b1,b2⟩;simp only [if_true] at a1;simp -implicitDefEqProofs [-ld1_ptr,-stR_ptr,ζ14,a1,s1]
end Go.Sw
end
section
namespace Go.Sw
theorem cloneP_R (k:Nat) (a:Value) (H:Heap):R (T k) F.ζ9 [a] H = nrm .no H (cloneV 3 12 [a] H) :=
 R_sp (t:=T k) (T_scott k) (s:=fun _ args H => cloneV 3 12 args H) (by kernel_rfl) _ _
theorem ζmt (k:Nat) {H:Heap} {p:Nat} {o:Option Nat} {down:Bool} {l:List Pl} (h:PlAt H p o down l) (hok:∀ q,q ∈ l → q.ok) (i x y:Int) :
  ∃ H2,R (T k) F.ζ1t [.pointer (some ⟨p,0,none⟩),.int .i64 i,.int .i64 x,.int .i64 y] H = .ok (.tuple #[]) H2 ∧ PlAt H2 p o down (updPl l i fun q => ⟨q.adv,addI q.x x,addI q.y y⟩) ∧ Keeps (fpP p o) H H2:=by
 obtain ⟨H1,b,j,l',q,e,a1,_,a2,a3,a4,_,a5⟩:=plAt_run k h hok i;have hj:=(List.getElem?_eq_some_iff.1 a3).1;have r1:=ld1_row encP_len a2 (c:=1) a3 (by decide) rfl;have r2:=ld1_row encP_len a2 (c:=2) a3 (by decide) rfl;obtain ⟨H2,s1,g1,k1,n1⟩:=st_row encP_len a2 (c:=1) (n:=1) ⟨q.adv,addI q.x x,q.y⟩ (v:=.int .i32 (addI q.x x)) a3 rfl rfl (by decide) rfl;have hq2:(l'.set j ⟨q.adv,addI q.x x,q.y⟩)[j]? = some ⟨q.adv,addI q.x x,q.y⟩:=by rw [List.getElem?_set_self hj]
 obtain ⟨H3,s2,g2,k2,n2⟩:=st_row encP_len g1 (c:=2) (n:=1) ⟨q.adv,addI q.x x,addI q.y y⟩ (v:=.int .i32 (addI q.y y)) hq2 rfl rfl (by decide) rfl;rw [List.set_set] at g2;obtain ⟨b1,b2⟩:=a5 H3 (fun q => ⟨q.adv,addI q.x x,addI q.y y⟩) g2 (fun c hc => by rw [k2 c hc,k1 c hc]) (by rw [n2,n1]);refine ⟨H3,?_,b1,b2⟩;rw [ζac];simp -implicitDefEqProofs [-ld1_ptr,-stR_ptr,ζ1t,a1,r1,r2,s1,s2,Add_run _ _ _ a4.2.1.1 a4.2.1.2,Add_run _ _ _ a4.2.2.1 a4.2.2.2]
theorem All_run (k:Nat) (hk:k < 1000000) {H:Heap} {p:Nat} {o:Option Nat} {down:Bool} {l:List Pl} (h:PlAt H p o down l) (hl:l.length ≤ 2 ^ 20):R (T k) F.ζ2c [.pointer (some ⟨p,0,none⟩)] H = .ok (lv encP l) H:=by
 obtain ⟨_,s,h2,h3⟩:=h;obtain ⟨s',H',e1,o1,x1⟩:=ζn5 (bytes:=12) encP_len h3 (by omega) (by decide);have ho:own k = .fz:=by unfold own; rw [show Nat.blt k 1000000 = true from Nat.ble_eq_true_of_le hk]; rfl
 rw [ζbl,ho];obtain ⟨L,hf⟩:=o1.freeze encP_len (ζhb _) 6;refine nrm_fz (v:=s') (H':=H') ?_ hf x1 (Flat.alive (Flat.lv (ζj6 _)));simp -implicitDefEqProofs [ζ2c,h2,cloneP_R,e1]
theorem New_runG (k:Nat) (dir:Int) (l:List Int) (hl:l.length ≤ 2 ^ 20) (H:Heap) {av:Value} (hv:Sl H 1 av encI l) :
  ∃ H' o,R (T k) F.ζ5k [.int .i64 dir,av] H = .ok (.pointer (some ⟨H.n,0,none⟩)) H' ∧ PlAt H' H.n o (dir == 2) (newPl l) ∧ (∀ b,o = some b → H.n < b) ∧ Ext H H':=by
 rw [ζkm]
 obtain ⟨x,e',H1,hr,v,rfl,rfl,o,ho,hf,hx⟩:=loop_up (body:=ζa9 k (R (T k))) l.length
  (fun i e H' => e = [(5,.pointer (some ⟨H.n,0,none⟩)),(12,av),(13,.int .i64 l.length),(14,.int .i64 i)] ∧ ∃ o,PlAt H' H.n o (dir == 2) (newPl (l.take i)) ∧ (∀ b,o = some b → H.n < b) ∧ Ext H H')
  (fun x e H' => ∃ v,x = .exit 0 ∧ e = [(5,.pointer (some ⟨H.n,0,none⟩)),(12,av),(13,.int .i64 l.length),(14,.int .i64 l.length),(15,v)] ∧ ∃ o,PlAt H' H.n o (dir == 2) (newPl l) ∧ (∀ b,o = some b → H.n < b) ∧ Ext H H')
  (e0:=[(5,.pointer (some ⟨H.n,0,none⟩)),(12,av),(13,.int .i64 l.length),(14,.int .i64 0)]) (H0:=H.push ⟨[.bool (dir == 2),.slice none 0 0],1,false⟩)
  ⟨rfl,none,⟨(fun b hb => by cases hb),.slice none 0 0,by rw [Heap.get_push,if_pos rfl],.inl ⟨rfl,rfl,.inl rfl⟩⟩,(fun b hb => by cases hb),(Ext.refl H).push _⟩ (by omega)
  (fun i e H' hi ⟨he,o,⟨hne,s,h2,h3⟩,hof,hx⟩ => by
   subst he;obtain ⟨n,hg⟩:∃ n,l[i]? = some n:=⟨l[i],List.getElem?_eq_getElem hi⟩
   have hlt:(i:Int) < l.length:=by omega
   have hpn:H.n < H'.n:=Heap.get_lt h2;have hlto:∀ b,o = some b → b < H'.n:=fun b hb => by
    rcases h3 with ⟨h4,_⟩ | ⟨c,h4,_,h5⟩
    ·rw [h4] at hb; cases hb
    ·rw [h4] at hb; injection hb with hb; subst hb; exact Heap.get_lt h5
   have hlen:(newPl (l.take i)).length < 2 ^ 31:=by simp [newPl]; omega
   obtain ⟨s',H2,e1,o1,n1,k1⟩:=ap1_ownO (bytes:=12) encP_len h3 hlto ⟨clampI n,0,0⟩ hlen (by decide);have k2:=k1 H.n hpn fun e => hne H.n e rfl;rw [h2] at k2;have hne2:¬ H.n = H'.n:=by omega
   obtain ⟨pt,hix,hld⟩:=hv.ix1 encI_len i n hg _ rfl;have hld:=hld H' hx;refine .inl ⟨_,H2.set H.n (some ⟨[.bool (dir == 2),s'],1,false⟩),?_,rfl,some (H'.n + 1),⟨fun b hb => by injection hb; omega,s',by rw [Heap.get_set k2,if_pos rfl],?_⟩,fun b hb => by injection hb; omega,?_⟩
   ·rw [ζ9v];simp -implicitDefEqProofs (disch:=omega) [hlt,hix,hld,h2,e1,k2,hne2,h3.veq,o1.storable,o1.cells]
   ·have:=o1.up (H':=H2.set H.n (some ⟨[.bool (dir == 2),s'],1,false⟩)) fun b hb => by
     injection hb with hb;exact ζ32 _ _ _ _ (by omega)
    have e:newPl (l.take (i + 1)) = newPl (l.take i) ++ [⟨clampI n,0,0⟩]:=by
     rw [List.take_add_one,hg]; simp [newPl]
    rw [e];exact this
   ·refine ⟨by rw [Heap.n_set,n1]; have:=hx.n; omega,fun c hc hs => ?_⟩;rw [ζ32 _ _ _ _ (by omega),k1 c (by omega) (fun e => by have:=hof c e; omega)];exact hx.2 c hc hs)
  (fun e H' ⟨he,o,ho,hof,hx⟩ => by
   subst he;rw [ζ9v];exact ⟨.exit 0,_,H',by simp -implicitDefEqProofs <;> rfl,by simp,_,rfl,rfl,o,by simpa using ho,hof,hx⟩)
 have hln:=fun H' => hv.len H';refine ⟨H1,o,?_,ho,hf,hx⟩;simp -implicitDefEqProofs [ζ5k,hln,hr,ζdy]
end Go.Sw
end
section
namespace Go.Sw
open Go.RowKit
theorem ζif (k:Nat) {H:Heap} {o:Option Nat} {s:Value} {l:List Pl} (h:OwnO H o 3 s encP l) (hl:l.length < 2 ^ 31) :
  ∃ H',R (T k) F.ζ3 [s] H = .ok (.tuple #[]) H' ∧ OwnO H' o 3 s encP l.reverse ∧ H'.n = H.n ∧ ∀ c,o ≠ some c → H'.get c = H.get c:=by
 rw [ζ3x];have hlen:=h.len;rcases h with ⟨h0,rfl,hs⟩ | ⟨b,rfl,rfl,hb⟩
 ·refine ⟨H,?_,.inl ⟨h0,rfl,hs⟩,rfl,fun _ _ => rfl⟩
  obtain ⟨x,e',H1,hr,rfl,rfl,v,rfl⟩:=loop_up (body:=ζi k (R (T k))) 0
   (fun _ e H' => H' = H ∧ e = [(0,s),(2,.int .i64 0),(3,.int .i64 (-1))]) (fun x e H' => H' = H ∧ x = .exit 0 ∧ ∃ v,e = [(0,s),(2,.int .i64 0),(3,.int .i64 (-1)),(9,v)]) (e0:=[(0,s),(2,.int .i64 0),(3,.int .i64 (-1))]) (H0:=H) ⟨rfl,rfl⟩ (by omega) (fun i _ _ hi _ => by omega)
   (fun e H' ⟨hH,he⟩ => by
    subst hH he;refine ⟨.exit 0,_,_,?_,by simp,rfl,rfl,.bool false,rfl⟩;rw [ζt];simp -implicitDefEqProofs)
  simp -implicitDefEqProofs [ζ3,hlen,hr,ζ1m]
 ·have ix:∀ (i:Nat) (H':Heap),i < l.length → ixS 3 (.slice (some ⟨b,0,none⟩) l.length l.length) (.int .i64 i) H' = .ok (.pointer (some ⟨b,i * 3,none⟩)) H':=fun i H' hi => by
   unfold ixS;dsimp only;rw [if_pos ⟨by omega,by omega⟩];simp
  obtain ⟨x,e',H1,hr,rfl,⟨a1,v,rfl⟩,a2,a3⟩:=loop_up (body:=ζi k (R (T k))) (l.length / 2)
   (fun i e H' => e = [(0,.slice (some ⟨b,0,none⟩) l.length l.length),(2,.int .i64 i),(3,.int .i64 (l.length - 1 - i))] ∧ (∃ r,RevTo l r i ∧ H'.get b = some ⟨rows encP r,3,false⟩) ∧ H'.n = H.n ∧ ∀ c,c ≠ b → H'.get c = H.get c)
   (fun x e H' => x = .exit 0 ∧ (∃ a v,e = [(0,.slice (some ⟨b,0,none⟩) l.length l.length),(2,a),(3,v),(9,.bool false)]) ∧ H'.get b = some ⟨rows encP l.reverse,3,false⟩ ∧ H'.n = H.n ∧ ∀ c,c ≠ b → H'.get c = H.get c)
   (e0:=[(0,.slice (some ⟨b,0,none⟩) l.length l.length),(2,.int .i64 0),(3,.int .i64 (l.length - 1))]) (H0:=H) ⟨by simp,⟨l,.zero l,hb⟩,rfl,fun _ _ => rfl⟩ (by omega)
   (fun i e H' hi ⟨he,⟨r,hr,hg⟩,hn,hk⟩ => by
    subst he;obtain ⟨x,y,e1,e2,hr'⟩:=hr.step (by omega);obtain ⟨H2,H3,s1,s2,g3,k3,n3⟩:=swap_row encP_len (fun _ => rfl) hg e1 e2;have hlt:(i:Int) < l.length - 1 - i:=by omega
    have hj:((l.length:Int) - 1 - i) = ((l.length - 1 - i:Nat):Int):=by omega
    have i1:=fun H' => ix i H' (by omega);have i2:=fun H' => ix (l.length - 1 - i) H' (by omega);rw [← hj] at i2;have l1:=ldA_row encP_len hg e1;have l2:=ldA_row encP_len hg e2;refine .inl ⟨_,H3,?_,rfl,⟨_,hr',g3⟩,by rw [n3,hn],fun c hc => by rw [k3 c hc,hk c hc]⟩;rw [ζt];simp -implicitDefEqProofs (disch:=omega) [-ldA_ptr,-stR_ptr,hlt,i1,i2,l1,l2,s1,s2];omega)
   (fun e H' ⟨he,⟨r,hr,hg⟩,hn,hk⟩ => by
    subst he;have hlt:¬ ((l.length / 2:Nat):Int) < l.length - 1 - (l.length / 2:Nat):=by omega
    refine ⟨.exit 0,_,H',?_,by simp,rfl,⟨.int .i64 (l.length / 2:Nat),.int .i64 (l.length - 1 - (l.length / 2:Nat)),rfl⟩,by rw [← hr.done]; exact hg,hn,hk⟩;rw [ζt];simp -implicitDefEqProofs (disch:=omega) only [bin_lss,Res.bind_ok,hlt,decide_false,ζd1,Bool.false_eq_true,if_false])
  refine ⟨H1,?_,.inr ⟨b,rfl,by simp,a2⟩,a3.1,fun c hc => a3.2 c fun e => hc (by rw [e])⟩;have hlt:1 ≤ l.length + 1:=by omega
  simp -implicitDefEqProofs (disch:=omega) [ζ3,hr,ζ1m]
theorem Turn_run (k:Nat) {H:Heap} {p:Nat} {o:Option Nat} {down:Bool} {l:List Pl} (h:PlAt H p o down l) (hl:l.length < 2 ^ 31) :
  ∃ H',R (T k) F.ζg [.pointer (some ⟨p,0,none⟩)] H = .ok (.tuple #[]) H' ∧ PlAt H' p o down l.reverse ∧ Keeps (fpP p o) H H':=by
 obtain ⟨h1,s,h2,h3⟩:=h;obtain ⟨H',e1,e2,e3,e4⟩:=ζif k h3 hl;refine ⟨H',?_,⟨h1,s,by rw [e4 p fun e => h1 p e rfl]; exact h2,e2⟩,by rw [e3]; exact Nat.le_refl _,fun c _ hc => e4 c fun e => hc (by simp [fpP,e])⟩;rw [ζ77];simp -implicitDefEqProofs [ζg,h2,e1]
end Go.Sw
end
section
namespace Go.Sw
open Go.RowKit
theorem newPl_ok (l:List Int):∀ q,q ∈ newPl l → q.ok:=by
 intro q hq;obtain ⟨n,_,rfl⟩:=List.mem_map.1 hq;have:=ζco n;have:=ζcn n;unfold Pl.ok;dsimp only;omega
@[simp] theorem ζgm (l:List Int):(newPl l).length = l.length:=by simp [newPl]
theorem addI_ok (a n:Int):-2147483648 ≤ addI a n ∧ addI a n ≤ 2147483647:=⟨addI_lo _ _,addI_hi _ _⟩
theorem updPl_ok {l:List Pl} (h:∀ q,q ∈ l → q.ok) (i:Int) {f:Pl → Pl} (hf:∀ q,q.ok → (f q).ok):∀ q,q ∈ updPl l i f → q.ok:=by
 unfold updPl;split
 ·intro q hq;obtain ⟨j,hj⟩:=List.getElem?_of_mem hq;rw [List.getElem?_modify] at hj;cases hg:l[j]? with
  | none => rw [hg] at hj; simp at hj
  | some x =>
   have hx:=h x (List.mem_of_getElem? hg);rw [hg] at hj;simp at hj;subst hj;split
   ·exact hf x hx
   ·exact hx
 ·exact h
@[simp] theorem ζoh (l:List Pl) (i:Int) (f:Pl → Pl):(updPl l i f).length = l.length:=by
 unfold updPl;split <;> simp
end Go.Sw
end
section
set_option maxRecDepth 100000
set_option linter.unusedVariables false
namespace Go.Sw
noncomputable section
def ζa2 (k:Nat) (call:Caller):Env → Heap → Res (AExit × Env):=loopB (C k) call F.ζ46 [1,1,1,0,0,0]
def ζ73 (k:Nat) (call:Caller):Kont Value:=kBlock 0 (kSeq (pieceK (C k) call F.ζ46 [1,1,1,1]) (kDone Prog (resOf Prog F.ζ46)))
def ζ46 (k:Nat) (call:Caller) (a0 a1 a2:Value) (h:Heap):Res Value :=
 (buildR Prog 228 [(0,a0),(1,a1)] h).bind fun v1 h2 =>
 (boxR v1 h2).bind fun v3 h4 =>
 (call F.ζ2i [a1] h4).bind fun v5 h6 =>
 (binR Prog .mul 3 (.int .i64 2) v5 h6).bind fun v7 h8 =>
 (binR Prog .add 3 v7 (.int .i64 128) h8).bind fun v9 h10 =>
 (loopN (ζa2 k call) loopFuel [(2,a2),(8,v3),(9,v9)] h10).bind fun r11 h12 =>
 ζ73 k call r11.1 r11.2 h12
theorem ζk3 (k:Nat) (a0 a1 a2:Value) (h:Heap):R (T k) F.ζ46 [a0,a1,a2] h = nrm .no h (ζ46 k (R (T k)) a0 a1 a2 h) :=
 (R_body (t:=T k) (T_scott k) (by kernel_rfl) (by kernel_rfl) _ _).trans (by kernel_rfl)
theorem ζ5h (k:Nat) (call:Caller) (a2 a8 a9:Value) (h:Heap):ζa2 k call [(2,a2),(8,a8),(9,a9)] h =
 (nilR a8 h).bind fun v13 h14 =>
 (fieldAddrR Prog 228 v13 4 h14).bind fun v15 h16 =>
 (loadR Prog 3 v15 h16).bind fun v17 h18 =>
 (binR Prog .lss 3 v17 a9 h18).bind fun v19 h20 =>
 condV (some v19) (
 (call F.ζ25 [a8,a2] h20).bind fun v21 h22 =>
 condV (some v21) (
 (nilR a8 h22).bind fun v23 h24 =>
 (fieldAddrR Prog 228 v23 4 h24).bind fun v25 h26 =>
 (loadR Prog 3 v25 h26).bind fun v27 h28 =>
 .ok (.ret,[(6,v27),(7,(.int .i64 0))]) h28)
 (
 (nilR a8 h22).bind fun v29 h30 =>
 (fieldAddrR Prog 228 v29 5 h30).bind fun v31 h32 =>
 (loadR Prog 3 v31 h32).bind fun v33 h34 =>
 (binR Prog .gtr 3 v33 (.int .i64 64) h34).bind fun v35 h36 =>
 condV (some v35) (
 .ok ((.exit 0),[(2,a2),(8,a8),(9,a9),(35,v35)]) h36)
 (
 .ok (.normal,[(2,a2),(8,a8),(9,a9)]) h36)))
 (
 .ok ((.exit 0),[(2,a2),(8,a8),(9,a9),(23,v19)]) h20) :=
 (loopB_eq _ _).trans (by kernel_rfl)
theorem ζeo (k:Nat) (call:Caller) (a6 a7:Value) (h:Heap):ζ73 k call .ret [(6,a6),(7,a7)] h =
 .ok (.tuple #[a6,a7]) h:=by kernel_rfl
theorem ζd5 (k:Nat) (call:Caller) (a2 a8 a9 a35:Value) (h:Heap):ζ73 k call (.exit 0) [(2,a2),(8,a8),(9,a9),(35,a35)] h =
 (nilR a8 h).bind fun v37 h38 =>
 (fieldAddrR Prog 228 v37 4 h38).bind fun v39 h40 =>
 (loadR Prog 3 v39 h40).bind fun v41 h42 =>
 .ok (.tuple #[v41,(.int .i64 4)]) h42:=by kernel_rfl
theorem ζba (k:Nat) (call:Caller) (a2 a8 a9 a23:Value) (h:Heap):ζ73 k call (.exit 0) [(2,a2),(8,a8),(9,a9),(23,a23)] h =
 (nilR a8 h).bind fun v43 h44 =>
 (fieldAddrR Prog 228 v43 4 h44).bind fun v45 h46 =>
 (loadR Prog 3 v45 h46).bind fun v47 h48 =>
 .ok (.tuple #[v47,(.int .i64 4)]) h48:=by kernel_rfl
def ζ4h (k:Nat) (call:Caller) (a0:Value) (h:Heap):Res Value :=
 (boxR a0 h).bind fun v1 h2 =>
 .ok (.func (.func F.ζ1w) #[] #[v1]) h2
theorem ζha (k:Nat) (a0:Value) (h:Heap):R (T k) F.ζ4h [a0] h = nrm .gc h (ζ4h k (R (T k)) a0 h) :=
 (R_body (t:=T k) (T_scott k) (by kernel_rfl) (by kernel_rfl) _ _).trans (by kernel_rfl)
def ζ25 (k:Nat) (call:Caller) (a0 a1:Value) (h:Heap):Res Value :=
 (call F.ζ1r [a0] h).bind fun v1 h2 =>
 (extractR v1 0 h2).bind fun v3 h4 =>
 (extractR v1 1 h4).bind fun v5 h6 =>
 (nilR a0 h6).bindN fun v7 h8 =>
 (fieldAddrR Prog 228 v7 0 h8).bindN fun v9 h10 =>
 (loadR Prog 159 v9 h10).bindN fun v11 h12 =>
 (nilR a0 h12).bindN fun v13 h14 =>
 (fieldAddrR Prog 228 v13 2 h14).bindN fun v15 h16 =>
 (loadR Prog 3 v15 h16).bindN fun v17 h18 =>
 (call F.ζu [v11,v17,v3] h18).bindT (fun p21 h22 => (allocR Prog 129 h18).bindN fun v23 h24 => .panic p21 h22) fun v19 h20 =>
 (extractR v19 0 h20).bindN fun v25 h26 =>
 (extractR v19 1 h26).bindN fun v27 h28 =>
 (allocR Prog 129 h28).bindN fun v29 h30 =>
 (storeR Prog 129 v29 v25 h30).bindN fun _v31 h32 =>
 (nilR a0 h32).bind fun v33 h34 =>
 (fieldAddrR Prog 228 v33 4 h34).bind fun v35 h36 =>
 (loadR Prog 3 v35 h36).bind fun v37 h38 =>
 (binR Prog .add 3 v37 (.int .i64 1) h38).bind fun v39 h40 =>
 (nilR a0 h40).bind fun v41 h42 =>
 (fieldAddrR Prog 228 v41 4 h42).bind fun v43 h44 =>
 (storeR Prog 3 v43 v39 h44).bind fun _v45 h46 =>
 (fieldAddrR Prog 129 v29 0 h46).bind fun v47 h48 =>
 (loadR Prog 3 v47 h48).bind fun v49 h50 =>
 (nilR a0 h50).bind fun v51 h52 =>
 (fieldAddrR Prog 228 v51 2 h52).bind fun v53 h54 =>
 (storeR Prog 3 v53 v49 h54).bind fun _v55 h56 =>
 (nilR a0 h56).bindN fun v57 h58 =>
 (fieldAddrR Prog 228 v57 3 h58).bindN fun v59 h60 =>
 (loadR Prog 3 v59 h60).bindN fun v61 h62 =>
 (loadR Prog 129 v29 h62).bindN fun v63 h64 =>
 (callV call a1 [v61,v63] h64).bindT (fun p67 h68 => .panic p67 h68) fun v65 h66 =>
 (extractR v65 0 h66).bindN fun v69 h70 =>
 (extractR v65 1 h70).bindN fun v71 h72 =>
 (fieldAddrR Prog 129 v29 1 h72).bind fun v73 h74 =>
 (loadR Prog 3 v73 h74).bind fun v75 h76 =>
 (binR Prog .and 3 v75 (.int .i64 16384) h76).bind fun v77 h78 =>
 (binR Prog .neq 3 v77 (.int .i64 0) h78).bind fun v79 h80 =>
 condV (some v79) (
 (builtinV Prog .max [3,3] [v69,(.int .i64 0)] h80).bind fun v81 h82 =>
 (nilR a0 h82).bind fun v83 h84 =>
 (fieldAddrR Prog 228 v83 3 h84).bind fun v85 h86 =>
 (storeR Prog 3 v85 v81 h86).bind fun _v87 h88 =>
 (nilR a0 h88).bind fun v89 h90 =>
 (fieldAddrR Prog 228 v89 5 h90).bind fun v91 h92 =>
 (loadR Prog 3 v91 h92).bind fun v93 h94 =>
 (binR Prog .add 3 v93 (.int .i64 1) h94).bind fun v95 h96 =>
 (nilR a0 h96).bind fun v97 h98 =>
 (fieldAddrR Prog 228 v97 5 h98).bind fun v99 h100 =>
 (storeR Prog 3 v99 v95 h100).bind fun _v101 h102 =>
 .ok (.bool false) h102)
 (
 (builtinV Prog .max [3,3] [v71,(.int .i64 0)] h80).bind fun v103 h104 =>
 (nilR a0 h104).bind fun v105 h106 =>
 (fieldAddrR Prog 228 v105 3 h106).bind fun v107 h108 =>
 (storeR Prog 3 v107 v103 h108).bind fun _v109 h110 =>
 (nilR a0 h110).bind fun v111 h112 =>
 (fieldAddrR Prog 228 v111 5 h112).bind fun v113 h114 =>
 (storeR Prog 3 v113 (.int .i64 0) h114).bind fun _v115 h116 =>
 .ok v5 h116)
theorem ζ74 (k:Nat) (a0 a1:Value) (h:Heap):R (T k) F.ζ25 [a0,a1] h = nrm .no h (ζ25 k (R (T k)) a0 a1 h) :=
 (R_body (t:=T k) (T_scott k) (by kernel_rfl) (by kernel_rfl) _ _).trans (by kernel_rfl)
def ζ1w (k:Nat) (call:Caller) (a0 a1 a2:Value) (h:Heap):Res Value :=
 (boxR a1 h).bind fun v1 h2 =>
 (loadR Prog 168 a2 h2).bind fun v3 h4 =>
 (loadR Prog 129 v1 h4).bind fun v5 h6 =>
 (callV call v3 [a0,v5] h6).bind fun v7 h8 =>
 (binR Prog .add 3 a0 (.int .i64 1) h8).bind fun v9 h10 =>
 .ok (.tuple #[a0,v9]) h10
theorem ζc6 (k:Nat) (a0 a1 a2:Value) (h:Heap):R (T k) F.ζ1w [a0,a1,a2] h = nrm .no h (ζ1w k (R (T k)) a0 a1 a2 h) :=
 (R_body (t:=T k) (T_scott k) (by kernel_rfl) (by kernel_rfl) _ _).trans (by kernel_rfl)
def ζ1r (k:Nat) (call:Caller) (a0:Value) (h:Heap):Res Value :=
 (nilR a0 h).bindN fun v1 h2 =>
 (fieldAddrR Prog 228 v1 1 h2).bindN fun v3 h4 =>
 (loadR Prog 52 v3 h4).bindN fun v5 h6 =>
 (nilR a0 h6).bindN fun v7 h8 =>
 (fieldAddrR Prog 228 v7 3 h8).bindN fun v9 h10 =>
 (loadR Prog 3 v9 h10).bindN fun v11 h12 =>
 (call F.ζ2z [v5,v11] h12).bindT (fun p15 h16 => (allocR Prog 150 h12).bindN fun v17 h18 => .panic p15 h16) fun v13 h14 =>
 (extractR v13 0 h14).bindN fun v19 h20 =>
 (extractR v13 1 h20).bindN fun v21 h22 =>
 (allocR Prog 150 h22).bindN fun v23 h24 =>
 (storeR Prog 150 v23 v19 h24).bindN fun _v25 h26 =>
 (unR .not v21 h26).bind fun v27 h28 =>
 condV (some v27) (
 .ok (.tuple #[(.int .i64 0),(.bool true)]) h28)
 (
 (nilR a0 h28).bindN fun v29 h30 =>
 (fieldAddrR Prog 228 v29 0 h30).bindN fun v31 h32 =>
 (loadR Prog 159 v31 h32).bindN fun v33 h34 =>
 (fieldAddrR Prog 150 v23 0 h34).bindN fun v35 h36 =>
 (loadR Prog 3 v35 h36).bindN fun v37 h38 =>
 (call F.ζw [v33,v37] h38).bindT (fun p41 h42 => .panic p41 h42) fun v39 h40 =>
 .ok (.tuple #[v39,(.bool false)]) h40)
theorem ζa3 (k:Nat) (a0:Value) (h:Heap):R (T k) F.ζ1r [a0] h = nrm .gc h (ζ1r k (R (T k)) a0 h) :=
 (R_body (t:=T k) (T_scott k) (by kernel_rfl) (by kernel_rfl) _ _).trans (by kernel_rfl)
end
end Go.Sw
end
section
namespace Go.Sw
open Go.RowKit
theorem Star.stEnd {H0 H:Heap} {A B:List It} {c:Nat} {cells:List Value} {e:Nat} (h:Star H0 H (A ++ itBlk c ⟨cells,e,false⟩ :: B)) (off:Nat) {v:Value} (hs:storable v = true) (hc:v.cells = #[v]) (ho:off < cells.length) :
  ∃ H',stR 1 (.pointer (some ⟨c,off,none⟩)) v H = .ok undef H' ∧ Star H0 H' (A ++ itBlk c ⟨cells.set off v,e,false⟩ :: B):=by
 obtain ⟨H',h1,h2,_⟩:=h.stCell A.length (c:=c) (cells:=cells) (e:=e) (by simp) off hs hc ho;exact ⟨H',h1,by simpa using h2⟩
structure Drv where
 st:Int
 pl:Int
 stp:Int
 rest:Int
abbrev drvC (m:Mach) (c:Nat) (d:Drv):List Value:=[machV m,ptrV c,.int .i64 d.st,.int .i64 d.pl,.int .i64 d.stp,.int .i64 d.rest]
def clsS (m:Mach) (l:List Gl) (pl:Int):Int × Bool:=match atG l pl with | some g => (classS m g.id,false) | none => (0,true)
def entS (m:Mach) (l:List Gl) (d:Drv):En:=(stepS m d.st (clsS m l d.pl).1).getD ⟨0,0,0,0⟩
abbrev encE (e:En):Value:=.agg (encEn e).toArray
theorem take_mid {α:Type} (x:α) (B:List α):∀ A:List α,(A ++ x :: B).take (A.length + 1) = A ++ [x]
 | [] => rfl
 | a :: A => by simp [take_mid x B A]
theorem ζmw (n:Nat):n &&& 2 ^ 14 = if n.testBit 14 then 2 ^ 14 else 0:=by
 apply Nat.eq_of_testBit_eq;intro i;rw [Nat.testBit_and,Nat.testBit_two_pow];by_cases h:14 = i
 ·subst h;cases hb:n.testBit 14 <;> simp <;> decide
 ·cases hb:n.testBit 14
  ·simp [h]
  ·simp only [h,decide_false,Bool.and_false,if_true,Nat.testBit_two_pow]
theorem and14 (P:Program) (t:TypeId) (H:Heap) {a:Int} (h0:0 ≤ a) (h1:a < 65536):binR P .and t (.int .i64 a) (.int .i64 16384) H = .ok (.int .i64 (if a / 16384 % 2 = 1 then 16384 else 0)) H:=by
 have e:(BitVec.ofInt 64 a &&& BitVec.ofInt 64 16384).toNat = (if a / 16384 % 2 = 1 then 16384 else 0):=by
  rw [BitVec.toNat_and,BitVec.toNat_ofInt,BitVec.toNat_ofInt];rw [show ((16384:Int) % ((2 ^ 64:Nat):Int)).toNat = 2 ^ 14 from by decide,ζmw,Nat.testBit_eq_decide_div_mod_eq];obtain ⟨n,rfl⟩:=Int.eq_ofNat_of_zero_le h0;rw [show (((n:Int)) % ((2 ^ 64:Nat):Int)).toNat = n by omega];by_cases h:(n:Int) / 16384 % 2 = 1
  ·rw [if_pos h,decide_eq_true (show n / 2 ^ 14 % 2 = 1 by omega)]; rfl
  ·rw [if_neg h,decide_eq_false (show ¬ n / 2 ^ 14 % 2 = 1 by omega)]; rfl
 have e1:binV P .and t (.int .i64 a) (.int .i64 16384) = some (.int .i64 (IntKind.i64.wrap (BitVec.ofInt 64 a &&& BitVec.ofInt 64 16384).toNat)):=rfl;unfold binR;rw [e1,e];by_cases h:a / 16384 % 2 = 1
 ·simp [h]
 ·simp [h]
theorem ζep (k:Nat) (m:Mach) (hm:m.ok) {H0 H:Heap} {L:List It} (h:Star H0 H L) {c q:Nat} {o:Option Nat} {l:List Gl} {d:Drv} (i:Nat) (hi:L[i]? = some (itLine c o l)) (hq:H.get q = some ⟨drvC m c d,1,false⟩) :
  R (T k) F.ζ1r [ptrV q] H = .ok (.tuple #[.int .i64 (clsS m l d.pl).1,.bool (clsS m l d.pl).2]) H:=by
 rw [ζa3];have hat:=ζdm k h i hi d.pl;have fl:∀ (a:Int) b,Flat (.tuple #[.int .i64 a,.bool b]):=fun a b => .tupleL (.cons (.int _ _) (.cons (.bool _) .nil));unfold clsS;have hqn:¬ q = H.n:=by have:=Heap.get_lt hq; omega
 cases ha:atG l d.pl with
 | none =>
  rw [ha] at hat;refine nrm_gc ⟨H.push ⟨[.int .i64 0,.int .i64 0],1,false⟩,?_,(Ext.refl H).push _⟩ (fl _ _).alive;unfold encA at hat;simp at hat;simp -implicitDefEqProofs (disch:=omega) [ζ1r,hq,hat]
 | some g =>
  rw [ha] at hat;have hc:=fun H' => ζmq k m hm g.id H';refine nrm_gc ⟨H.push ⟨encG g,1,false⟩,?_,(Ext.refl H).push _⟩ (fl _ _).alive;unfold encA at hat;simp at hat;simp -implicitDefEqProofs (disch:=omega) [ζ1r,hq,hqn,hat,hc]
theorem ζll {m:Mach} (hm:m.ok) (l:List Gl) (d:Drv):let e:=entS m l d; 0 ≤ e.next ∧ e.next < 65536 ∧ 0 ≤ e.flags ∧ e.flags < 65536 ∧ 0 ≤ e.a ∧ e.a < 65536 ∧ 0 ≤ e.b ∧ e.b < 65536:=by
 dsimp only;unfold entS;cases h:stepS m d.st (clsS m l d.pl).1 with
 | none => simp
 | some x =>
  have hx:x ∈ m.ents:=by
   unfold stepS at h;split at h
   ·obtain ⟨r,_,h⟩:=Option.bind_eq_some_iff.1 h;obtain ⟨y,_,h⟩:=Option.bind_eq_some_iff.1 h;exact List.mem_of_getElem? h
   ·cases h
  have:=hm.ent x hx;have:=hm.two;simp only [Option.getD_some];omega
theorem getS_pos {ps:List Pt} (hok:∀ p,p ∈ ps → p.ok) {id x:Int} (h:getS ps id = some x):0 ≤ x:=by
 unfold getS at h;obtain ⟨p,hp,h⟩:=Option.bind_eq_some_iff.1 h;split at h
 ·exact ((hok p (List.mem_of_find?_eq_some hp)).2.2.2.2.2 x (List.mem_of_getElem? h)).1
 ·cases h
theorem ζii {m:Mach} (hm:m.ok) (id:Int):0 ≤ classS m id ∧ classS m id < m.classes:=by
 have:=hm.cl;unfold classS;split
 ·omega
 ·split
  ·rename_i c hc;have:=getS_pos hm.pts hc;split <;> omega
  ·omega
theorem ζld {m:Mach} (hm:m.ok) (l:List Gl) (p:Int):0 ≤ (clsS m l p).1 ∧ (clsS m l p).1 < m.classes:=by
 have:=hm.cl;unfold clsS;split
 ·exact ζii hm _
 ·dsimp only; omega
theorem entS_mem {m:Mach} (hm:m.ok) (l:List Gl) (d:Drv) (h:0 ≤ d.st ∧ d.st < m.rows.length):entS m l d ∈ m.ents:=by
 have hc:=ζld hm l d.pl;obtain ⟨r,x,e,_,_,_,he,hs⟩:=ζia hm (s:=d.st) (c:=(clsS m l d.pl).1) ⟨h.1,h.2,hc.1,hc.2⟩;unfold entS;rw [hs];exact List.mem_of_getElem? he
variable {σ:Type}
def ActOk (k:Nat) (m:Mach) (H0:Heap) (W:σ → List It) (Inv:σ → Prop) (a:Value) (f:σ → Int → En → σ × Int × Int):Prop :=
 ∀ s i e H X,Inv s → Star H0 H (W s ++ X) → 0 ≤ i → i < 2 ^ 50 → e ∈ m.ents →
  ∃ H',callV (R (T k)) a [.int .i64 i,encE e] H = .ok (.tuple #[.int .i64 (f s i e).2.1,.int .i64 (f s i e).2.2]) H' ∧ Star H0 H' (W (f s i e).1 ++ X) ∧ Inv (f s i e).1 ∧ (f s i e).2.1 ≤ i + 128 ∧ (f s i e).2.2 ≤ i + 128
def stepD (m:Mach) (ln:σ → List Gl) (f:σ → Int → En → σ × Int × Int) (x:σ × Drv):(σ × Drv) × Bool :=
 if (entS m (ln x.1) x.2).flags / 16384 % 2 = 1 then (((f x.1 x.2.pl (entS m (ln x.1) x.2)).1,⟨(entS m (ln x.1) x.2).next,max (f x.1 x.2.pl (entS m (ln x.1) x.2)).2.1 0,x.2.stp + 1,x.2.rest + 1⟩),false)
 else (((f x.1 x.2.pl (entS m (ln x.1) x.2)).1,⟨(entS m (ln x.1) x.2).next,max (f x.1 x.2.pl (entS m (ln x.1) x.2)).2.2 0,x.2.stp + 1,0⟩),(clsS m (ln x.1) x.2.pl).2)
set_option maxHeartbeats 2000000 in
theorem ζg6 (k:Nat) (m:Mach) (hm:m.ok) {H0 H:Heap} (W:σ → List It) (Inv:σ → Prop) (ln:σ → List Gl) (c:Nat) (hW:∀ s,∃ (i:Nat) (o:Option Nat),(W s)[i]? = some (itLine c o (ln s))) (a:Value) (f:σ → Int → En → σ × Int × Int) (ha:ActOk k m H0 W Inv a f)
  (X:List It) (q:Nat) (s:σ) (d:Drv) (hI:Inv s) (h:Star H0 H (W s ++ X ++ [itBlk q ⟨drvC m c d,1,false⟩])) (hp:0 ≤ d.pl ∧ d.pl < 2 ^ 50) (hst:0 ≤ d.stp ∧ d.stp < 2 ^ 50) (hr:0 ≤ d.rest ∧ d.rest < 2 ^ 50) (hse:0 ≤ d.st ∧ d.st < m.rows.length) :
  ∃ H',R (T k) F.ζ25 [ptrV q,a] H = .ok (.bool (stepD m ln f (s,d)).2) H' ∧ Star H0 H' (W (stepD m ln f (s,d)).1.1 ++ X ++ [itBlk q ⟨drvC m c (stepD m ln f (s,d)).1.2,1,false⟩]) ∧ Inv (stepD m ln f (s,d)).1.1 ∧ (stepD m ln f (s,d)).1.2.pl ≤ d.pl + 128 ∧ 0 ≤ (stepD m ln f (s,d)).1.2.st ∧ (stepD m ln f (s,d)).1.2.st < m.rows.length:=by
 obtain ⟨i,o,ho⟩:=hW s;have hq:=h.memBlk (c:=q) (k:=⟨drvC m c d,1,false⟩) (by simp);have hline:(W s ++ X ++ [itBlk q ⟨drvC m c d,1,false⟩])[i]? = some (itLine c o (ln s)):=by
  have h0:i < (W s).length:=(List.getElem?_eq_some_iff.1 ho).1;rw [List.append_assoc,List.getElem?_append_left h0];exact ho
 have hcls:=ζep k m hm h i hline hq;have hstep:=fun H' => Step_run k m hm d.st (clsS m (ln s) d.pl).1 H';have heb:=ζll hm (ln s) d;have hmem:=entS_mem hm (ln s) d hse;have hnx:=hm.ent _ hmem;have hee:encEA (stepS m d.st (clsS m (ln s) d.pl).1) = encE (entS m (ln s) d):=rfl;rw [hee] at hstep;have hx:=ha s d.pl (entS m (ln s) d);unfold stepD;dsimp only;generalize (stepS m d.st (clsS m (ln s) d.pl).1).isSome = z at hstep;generalize (clsS m (ln s) d.pl) = cl at hcls hstep;generalize entS m (ln s) d = e at hstep heb hx hmem hnx ⊢;dsimp only at heb;generalize f s d.pl e = r at hx ⊢;have g:=h.push ⟨encEn e,1,false⟩;rw [List.append_assoc,List.singleton_append] at g;have hqn:¬ q = H.n:=by have:=Heap.get_lt hq; omega
 obtain ⟨H2,e2,g⟩:=g.stEnd 4 (v:=.int .i64 (d.stp + 1)) rfl rfl (by simp);simp only [List.set_cons_zero,List.set_cons_succ] at g;have he2:=g.memBlk (c:=H.n) (k:=⟨encEn e,1,false⟩) (by simp);have hq2:=g.memBlk (c:=q) (k:=⟨[machV m,ptrV c,.int .i64 d.st,.int .i64 d.pl,.int .i64 (d.stp + 1),.int .i64 d.rest],1,false⟩) (by simp);obtain ⟨H3,e3,g⟩:=g.stEnd 2 (v:=.int .i64 e.next) rfl rfl (by simp);simp only [List.set_cons_zero,List.set_cons_succ] at g;have hq3:=g.memBlk (c:=q) (k:=⟨[machV m,ptrV c,.int .i64 e.next,.int .i64 d.pl,.int .i64 (d.stp + 1),.int .i64 d.rest],1,false⟩) (by simp);have he3:=g.memBlk (c:=H.n) (k:=⟨encEn e,1,false⟩) (by simp);rw [List.append_assoc] at g;obtain ⟨H4,e4,g4,hI4,hs4,ho4⟩:=hx H3 _ hI g hp.1 hp.2 hmem;rw [← List.append_assoc] at g4;have hq4:=g4.memBlk (c:=q) (k:=⟨[machV m,ptrV c,.int .i64 e.next,.int .i64 d.pl,.int .i64 (d.stp + 1),.int .i64 d.rest],1,false⟩) (by simp);have he4:=g4.memBlk (c:=H.n) (k:=⟨encEn e,1,false⟩) (by simp);have han:=fun H => and14 Prog 3 H heb.2.2.1 heb.2.2.2.1;rw [List.append_assoc] at g4;by_cases hfl:e.flags / 16384 % 2 = 1
 ·rw [if_pos hfl];rw [if_pos hfl] at han;have hmx:(if 0 > r.2.1 then 0 else r.2.1) = max r.2.1 0:=by split <;> omega
  obtain ⟨H5,e5,g5⟩:=Star.stEnd (A:=W r.1 ++ X) (by simpa using g4) 3 (v:=.int .i64 (max r.2.1 0)) rfl rfl (by simp);simp only [List.set_cons_zero,List.set_cons_succ] at g5;have hq5:=g5.memBlk (c:=q) (k:=⟨[machV m,ptrV c,.int .i64 e.next,.int .i64 (max r.2.1 0),.int .i64 (d.stp + 1),.int .i64 d.rest],1,false⟩) (by simp);obtain ⟨H6,e6,g6⟩:=g5.stEnd 5 (v:=.int .i64 (d.rest + 1)) rfl rfl (by simp);simp only [List.set_cons_zero,List.set_cons_succ] at g6;refine ⟨H6,?_,?_,hI4,by dsimp only; omega,hnx.1,hnx.2.1⟩
  ·rw [ζ74];simp -implicitDefEqProofs (disch:=omega) [-stR_ptr,ζ25,hcls,hq,hqn,hstep,stR_ptr 4 H.n 0,e2,hq2,he2,e3,hq3,he3,e4,hq4,he4,han,hmx,e5,hq5,e6]
  ·have:=g6.take ((W r.1 ++ X).length + 1);rw [take_mid] at this;exact this
 ·rw [if_neg hfl];rw [if_neg hfl] at han;have hmx:(if 0 > r.2.2 then 0 else r.2.2) = max r.2.2 0:=by split <;> omega
  obtain ⟨H5,e5,g5⟩:=Star.stEnd (A:=W r.1 ++ X) (by simpa using g4) 3 (v:=.int .i64 (max r.2.2 0)) rfl rfl (by simp);simp only [List.set_cons_zero,List.set_cons_succ] at g5;have hq5:=g5.memBlk (c:=q) (k:=⟨[machV m,ptrV c,.int .i64 e.next,.int .i64 (max r.2.2 0),.int .i64 (d.stp + 1),.int .i64 d.rest],1,false⟩) (by simp);obtain ⟨H6,e6,g6⟩:=g5.stEnd 5 (v:=.int .i64 0) rfl rfl (by simp);simp only [List.set_cons_zero,List.set_cons_succ] at g6;refine ⟨H6,?_,?_,hI4,by dsimp only; omega,hnx.1,hnx.2.1⟩
  ·rw [ζ74];simp -implicitDefEqProofs (disch:=omega) [-stR_ptr,ζ25,hcls,hq,hqn,hstep,stR_ptr 4 H.n 0,e2,hq2,he2,e3,hq3,he3,e4,hq4,he4,han,hmx,bne,e5,hq5,e6]
  ·have:=g6.take ((W r.1 ++ X).length + 1);rw [take_mid] at this;exact this
end Go.Sw
end
section
namespace Go.Sw
open Go.RowKit
def oddB (vs:List Int) (a:Int):Bool:=(List.range (vs.length / 2)).any fun i => decide (a ≤ (i:Int) ∧ gU vs (2 * (i:Int)) 2 % 2 = 1)
theorem oddB_iff {vs:List Int} {a:Int}:oddB vs a = true ↔ ∃ i:Nat,a ≤ i ∧ 2 * i + 2 ≤ vs.length ∧ gU vs (2 * (i:Int)) 2 % 2 = 1:=by
 unfold oddB;rw [List.any_eq_true];constructor
 ·rintro ⟨i,hi,h⟩;have:=of_decide_eq_true h;have hi:=List.mem_range.1 hi;exact ⟨i,this.1,by omega,this.2⟩
 ·rintro ⟨i,h1,h2,h3⟩;exact ⟨i,List.mem_range.2 (by omega),decide_eq_true ⟨h1,h3⟩⟩
structure STab where
 m:Mach
 vals:List Int
def entOdd (vs:List Int) (e:En):Bool:=decide (e.a = 65535) || oddB vs e.a
def stackS (b:List Int) (g:Int):Option STab:=(machS b g 1).bind fun m => (uS b 16 4).bind fun p => (restS b p).bind fun vs => if m.ents.all (entOdd vs) then some ⟨m,vs⟩ else none
structure STab.ok (t:STab):Prop where
 m:t.m.ok
 byt:Byt t.vals
 len:t.vals.length < 2 ^ 31
 has:∀ e,e ∈ t.m.ents → e.a = 65535 ∨ oddB t.vals e.a = true
theorem ζo9 {b:List Int} (hb:Byt b) {g:Int} (h1:1 ≤ g) (h2:g ≤ 65535) (hl:b.length < 2 ^ 31) {t:STab} (h:stackS b g = some t):t.ok:=by
 unfold stackS at h;obtain ⟨m,hm,h⟩:=Option.bind_eq_some_iff.1 h;obtain ⟨p,hp,h⟩:=Option.bind_eq_some_iff.1 h;obtain ⟨vs,hv,h⟩:=Option.bind_eq_some_iff.1 h;split at h
 ·rename_i hc;injection h with h;subst h;have:=ζ3v hv;refine ⟨machS_ok hb h1 h2 (by omega) hm,hb.rest hv,by dsimp only; omega,fun e he => ?_⟩;have:=List.all_eq_true.1 hc e he;unfold entOdd at this;rw [Bool.or_eq_true,decide_eq_true_eq] at this;exact this
 ·cases h
def valV (vs:List Int) (a:Int):Int:=s16 (gU vs (2 * a) 2) - s16 (gU vs (2 * a) 2) % 2
def lastS (vs:List Int) (a:Int):Bool:=decide (s16 (gU vs (2 * a) 2) % 2 = 1)
def onePl (down cross:Bool) (l:List Pl) (i v:Int):List Pl:=if cross = false then updPl l i fun p => ⟨addI p.adv v,p.x,p.y⟩ else if v = -32768 then levelPl l down i else updPl l i fun p => if down then ⟨p.adv,addI p.x v,p.y⟩ else ⟨p.adv,p.x,addI p.y v⟩
def moveS (vs:List Int) (down cross:Bool):List Int → Int → List Pl → List Pl × List Int
 | [],_,l => (l,[])
 | i :: ks,a,l => if lastS vs a then (onePl down cross l i (valV vs a),ks) else moveS vs down cross ks (a + 1) (onePl down cross l i (valV vs a))
theorem ζjk (down cross:Bool) (l:List Pl) (i v:Int):(onePl down cross l i v).length = l.length:=by
 unfold onePl levelPl updPl;split <;> split <;> (try split) <;> simp
theorem ζji (vs:List Int) (down cross:Bool):∀ (ks:List Int) (a:Int) (l:List Pl),(moveS vs down cross ks a l).1.length = l.length
 | [],_,_ => rfl
 | i :: ks,a,l => by
  unfold moveS;split
  ·exact ζjk _ _ _ _ _
  ·rw [ζji vs down cross ks,ζjk]
def doSt (t:STab) (n:Int) (down cross:Bool) (s:List Pl × List Int) (i:Int) (e:En):List Pl × List Int :=
 let k1:=if e.flags / 8192 % 2 = 1 then [] else s.2
 let k2:=if e.flags ≥ 32768 ∧ i < n then (i :: k1).take 8 else k1
 if e.a = 65535 then (s.1,k2) else moveS t.vals down cross k2 e.a s.1
theorem doSt_len (t:STab) (n:Int) (down cross:Bool) (s:List Pl × List Int) (i:Int) (e:En):(doSt t n down cross s i e).1.length = s.1.length:=by
 unfold doSt;dsimp only;split
 ·rfl
 ·exact ζji _ _ _ _ _ _
theorem onePl_ok {l:List Pl} (h:∀ q,q ∈ l → q.ok) (down cross:Bool) (i v:Int):∀ q,q ∈ onePl down cross l i v → q.ok:=by
 unfold onePl levelPl;split
 ·exact updPl_ok h i fun q hq => ⟨addI_ok _ _,hq.2⟩
 ·split
  ·refine updPl_ok h i fun q hq => ?_;split
   ·exact ⟨hq.1,by dsimp only; omega,hq.2.2⟩
   ·exact ⟨hq.1,hq.2.1,by dsimp only; omega⟩
  ·refine updPl_ok h i fun q hq => ?_;split
   ·exact ⟨hq.1,addI_ok _ _,hq.2.2⟩
   ·exact ⟨hq.1,hq.2.1,addI_ok _ _⟩
theorem moveS_ok (vs:List Int) (down cross:Bool):∀ (ks:List Int) (a:Int) {l:List Pl},(∀ q,q ∈ l → q.ok) → ∀ q,q ∈ (moveS vs down cross ks a l).1 → q.ok
 | [],_,_,h => h
 | i :: ks,a,l,h => by
  unfold moveS;split
  ·exact onePl_ok h _ _ _ _
  ·exact moveS_ok vs down cross ks (a + 1) (onePl_ok h _ _ _ _)
theorem doSt_ok (t:STab) (n:Int) (down cross:Bool) {s:List Pl × List Int} (h:∀ q,q ∈ s.1 → q.ok) (i:Int) (e:En):∀ q,q ∈ (doSt t n down cross s i e).1 → q.ok:=by
 unfold doSt;dsimp only;split
 ·exact h
 ·exact moveS_ok _ _ _ _ _ h
end Go.Sw
end
section
namespace Go.Sw
open Go.RowKit
def itPl (p:Nat) (o:Option Nat) (down:Bool) (l:List Pl):It :=
 ⟨fpP p o,fun H => PlAt H p o down l,fun _ _ h hk => h.up (hk p (by simp [fpP])) fun b hb => hk b (by simp [fpP,hb])⟩
theorem Star.pl {H0 H:Heap} {L:List It} (h:Star H0 H L) (i:Nat) {p:Nat} {o:Option Nat} {down:Bool} {l:List Pl} (hi:L[i]? = some (itPl p o down l)):PlAt H p o down l:=h.at i hi
theorem Star.plStep {H0 H H2:Heap} {L:List It} (h:Star H0 H L) (i:Nat) {p:Nat} {o:Option Nat} {down:Bool} {l l2:List Pl} (hi:L[i]? = some (itPl p o down l)) (hp:PlAt H2 p o down l2) (hk:Keeps (fpP p o) H H2):Star H0 H2 (L.set i (itPl p o down l2)) :=
 h.step i hi hk.1 (fun c hc hs => hk.2 c hc hs) _ hp fun b hb => .inl hb
theorem ζh1 (k:Nat) {H0 H:Heap} {L:List It} (h:Star H0 H L) (i:Nat) {p:Nat} {o:Option Nat} {down:Bool} {l:List Pl} (hi:L[i]? = some (itPl p o down l)) (hok:∀ q,q ∈ l → q.ok) (j n:Int) :
  ∃ H2,R (T k) F.ζ13 [ptrV p,.int .i64 j,.int .i64 n] H = .ok (.tuple #[]) H2 ∧ Star H0 H2 (L.set i (itPl p o down (updPl l j fun q => ⟨addI q.adv n,q.x,q.y⟩))):=by
 obtain ⟨H2,e,h1,h2⟩:=ζmo k (h.pl i hi) hok j n;exact ⟨H2,e,h.plStep i hi h1 h2⟩
theorem ζf5 (k:Nat) {H0 H:Heap} {L:List It} (h:Star H0 H L) (i:Nat) {p:Nat} {o:Option Nat} {down:Bool} {l:List Pl} (hi:L[i]? = some (itPl p o down l)) (hok:∀ q,q ∈ l → q.ok) (j n:Int) :
  ∃ H2,R (T k) F.ζo [ptrV p,.int .i64 j,.int .i64 n] H = .ok (.tuple #[]) H2 ∧ Star H0 H2 (L.set i (itPl p o down (updPl l j fun q => if down then ⟨q.adv,addI q.x n,q.y⟩ else ⟨q.adv,q.x,addI q.y n⟩))):=by
 obtain ⟨H2,e,h1,h2⟩:=ζl4 k (h.pl i hi) hok j n;exact ⟨H2,e,h.plStep i hi h1 h2⟩
theorem ζlt (k:Nat) {H0 H:Heap} {L:List It} (h:Star H0 H L) (i:Nat) {p:Nat} {o:Option Nat} {down:Bool} {l:List Pl} (hi:L[i]? = some (itPl p o down l)) (hok:∀ q,q ∈ l → q.ok) (j:Int) :
  ∃ H2,R (T k) F.ζ14 [ptrV p,.int .i64 j] H = .ok (.tuple #[]) H2 ∧ Star H0 H2 (L.set i (itPl p o down (levelPl l down j))):=by
 obtain ⟨H2,e,h1,h2⟩:=ζmr k (h.pl i hi) hok j;exact ⟨H2,e,h.plStep i hi h1 h2⟩
theorem ζm9 (k:Nat) {H0 H:Heap} {L:List It} (h:Star H0 H L) (i:Nat) {p:Nat} {o:Option Nat} {down:Bool} {l:List Pl} (hi:L[i]? = some (itPl p o down l)) (hok:∀ q,q ∈ l → q.ok) (j x y:Int) :
  ∃ H2,R (T k) F.ζ1t [ptrV p,.int .i64 j,.int .i64 x,.int .i64 y] H = .ok (.tuple #[]) H2 ∧ Star H0 H2 (L.set i (itPl p o down (updPl l j fun q => ⟨q.adv,addI q.x x,addI q.y y⟩))):=by
 obtain ⟨H2,e,h1,h2⟩:=ζmt k (h.pl i hi) hok j x y;exact ⟨H2,e,h.plStep i hi h1 h2⟩
theorem ζfy (k:Nat) {H0 H:Heap} {L:List It} (h:Star H0 H L) (i:Nat) {p:Nat} {o:Option Nat} {down:Bool} {l:List Pl} (hi:L[i]? = some (itPl p o down l)) (hl:l.length < 2 ^ 31) :
  ∃ H2,R (T k) F.ζg [ptrV p] H = .ok (.tuple #[]) H2 ∧ Star H0 H2 (L.set i (itPl p o down l.reverse)):=by
 obtain ⟨H2,e,h1,h2⟩:=Turn_run k (h.pl i hi) hl;exact ⟨H2,e,h.plStep i hi h1 h2⟩
theorem ζgt (k:Nat) {H0 H:Heap} {L:List It} (h:Star H0 H L) (dir:Int) (l:List Int) (hl:l.length ≤ 2 ^ 20) {av:Value} (hv:Sl H 1 av encI l) :
  ∃ o H',R (T k) F.ζ5k [.int .i64 dir,av] H = .ok (ptrV H.n) H' ∧ Star H0 H' (L ++ [itPl H.n o (dir == 2) (newPl l)]):=by
 obtain ⟨H',o,e,h1,h2,h3⟩:=New_runG k dir l hl H hv;refine ⟨o,H',e,h.more h3 _ h1 fun b hb => ?_⟩;have hlt:=h1.lt;rcases List.mem_cons.1 hb with rfl | hb
 ·omega
 ·have:=h2 b (Option.mem_toList.1 hb);have:=h1.lto b (Option.mem_toList.1 hb);omega
theorem ζiq (k:Nat) (hk:k < 1000000) {H0 H:Heap} {L:List It} (h:Star H0 H L) (i:Nat) {p:Nat} {o:Option Nat} {down:Bool} {l:List Pl} (hi:L[i]? = some (itPl p o down l)) (hl:l.length ≤ 2 ^ 20):R (T k) F.ζ2c [ptrV p] H = .ok (lv encP l) H:=All_run k hk (h.pl i hi) hl
end Go.Sw
end
section
set_option maxRecDepth 100000
set_option linter.unusedVariables false
namespace Go.Sw
noncomputable section
def ζ5v (k:Nat) (call:Caller):Env → Heap → Res (AExit × Env):=loopB (C k) call F.ζj [1,0,1,0,0]
def ζ7n (k:Nat) (call:Caller):Kont Value:=kBlock 0 (kSeq (pieceK (C k) call F.ζj [1,1]) (kDone Prog (resOf Prog F.ζj)))
def ζ47 (k:Nat) (call:Caller):Env → Heap → Res (AExit × Env):=loopB (C k) call F.ζj [1,0,1,0,0,1,0,0,1,0,1,0,0]
def ζ7o (k:Nat) (call:Caller):Kont (AExit × Env):=kBlock 2 (kSeq (pieceK (C k) call F.ζj [1,0,1,0,0,1,0,0,1,1]) (kBlock 1 (kSeq (pieceK (C k) call F.ζj [1,0,1,0,0,1,1]) (kRound (ownOf (C k) F.ζj [1,0,1,0,0])))))
def ζj (k:Nat) (call:Caller) (a0 a1 a2:Value) (h:Heap):Res Value :=
 (binR Prog .sub 3 a2 (.int .i64 1) h).bind fun v1 h2 =>
 (loopN (ζ5v k call) loopFuel [(0,a0),(1,a1),(7,v1)] h2).bind fun r3 h4 =>
 ζ7n k call r3.1 r3.2 h4
theorem ζed (k:Nat) (a0 a1 a2:Value) (h:Heap):R (T k) F.ζj [a0,a1,a2] h = nrm .no h (ζj k (R (T k)) a0 a1 a2 h) :=
 (R_body (t:=T k) (T_scott k) (by kernel_rfl) (by kernel_rfl) _ _).trans (by kernel_rfl)
theorem ζ6x (k:Nat) (call:Caller) (a0 a1 a7:Value) (h:Heap):ζ5v k call [(0,a0),(1,a1),(7,a7)] h =
 (binR Prog .geq 3 a7 (.int .i64 0) h).bind fun v5 h6 =>
 condV (some v5) (
 (loopN (ζ47 k call) loopFuel [(0,a0),(1,a1),(7,a7),(8,a1),(9,(.int .i64 0))] h6).bind fun r7 h8 =>
 ζ7o k call r7.1 r7.2 h8)
 (
 .ok ((.exit 0),[(0,a0),(1,a1),(7,a7),(13,v5)]) h6) :=
 (loopB_eq _ _).trans (by kernel_rfl)
theorem ζ6y (k:Nat) (call:Caller) (a0 a1 a7 a8 a9:Value) (h:Heap):ζ47 k call [(0,a0),(1,a1),(7,a7),(8,a8),(9,a9)] h =
 (binR Prog .lss 3 a9 a7 h).bind fun v9 h10 =>
 condV (some v9) (
 (binR Prog .quo 3 a8 (.int .i64 256) h10).bind fun v11 h12 =>
 (binR Prog .add 3 a9 (.int .i64 1) h12).bind fun v13 h14 =>
 .ok (.normal,[(0,a0),(1,a1),(7,a7),(8,v11),(9,v13)]) h14)
 (
 .ok ((.exit 2),[(0,a0),(1,a1),(7,a7),(8,a8),(9,a9),(19,v9)]) h10) :=
 (loopB_eq _ _).trans (by kernel_rfl)
theorem ζ9l (k:Nat) (call:Caller) (a0 a1 a7 a13:Value) (h:Heap):ζ7n k call (.exit 0) [(0,a0),(1,a1),(7,a7),(13,a13)] h =
 .ok a0 h:=by kernel_rfl
theorem ζ9m (k:Nat) (call:Caller) (a0 a1 a7 a8 a9 a19:Value) (h:Heap):ζ7o k call (.exit 2) [(0,a0),(1,a1),(7,a7),(8,a8),(9,a9),(19,a19)] h =
 (binR Prog .rem 3 a8 (.int .i64 256) h).bind fun v15 h16 =>
 (convR Prog 3 5 v15 h16).bind fun v17 h18 =>
 (buildSliceR Prog 22 1 [(0,v17)] h18).bind fun v19 h20 =>
 (builtinV Prog .append [22,22] [a0,v19] h20).bind fun v21 h22 =>
 (binR Prog .sub 3 a7 (.int .i64 1) h22).bind fun v23 h24 =>
 .ok (.normal,[(0,v21),(1,a1),(7,v23)]) h24:=by kernel_rfl
end
end Go.Sw
end
section
namespace Go.Sw
open Go.RowKit
theorem Put_in (k:Nat) (s:Value) (n:Int) (i:Nat) (h0:0 ≤ n) (hn:n < 2 ^ 62) (hi:i < 2 ^ 62) (H:Heap) :
  loopN (ζ47 k (R (T k))) loopFuel [(0,s),(1,.int .i64 n),(7,.int .i64 i),(8,.int .i64 n),(9,.int .i64 0)] H = .ok (.exit 2,[(0,s),(1,.int .i64 n),(7,.int .i64 i),(8,.int .i64 (n / 256 ^ i)),(9,.int .i64 i),(19,.bool false)]) H:=by
 obtain ⟨x,e',H1,hr,rfl,rfl,rfl⟩:=loop_up (body:=ζ47 k (R (T k))) i
  (fun j e H' => H' = H ∧ e = [(0,s),(1,.int .i64 n),(7,.int .i64 i),(8,.int .i64 (n / 256 ^ j)),(9,.int .i64 j)])
  (fun x e H' => H' = H ∧ x = .exit 2 ∧ e = [(0,s),(1,.int .i64 n),(7,.int .i64 i),(8,.int .i64 (n / 256 ^ i)),(9,.int .i64 i),(19,.bool false)])
  (e0:=[(0,s),(1,.int .i64 n),(7,.int .i64 i),(8,.int .i64 n),(9,.int .i64 0)]) (H0:=H) ⟨rfl,by simp⟩ (by omega)
  (fun j e H' hj ⟨hH,he⟩ => by
   subst he hH;have hlt:(j:Int) < i:=by omega
   have q0:0 ≤ n / 256 ^ j:=Int.ediv_nonneg h0 (Int.pow_nonneg (by decide));have q1:n / 256 ^ j ≤ n:=Int.ediv_le_self _ h0;have hq:(n / 256 ^ j).tdiv 256 = n / 256 ^ (j + 1):=by
    rw [Int.tdiv_eq_ediv_of_nonneg q0,Int.pow_succ,Int.ediv_ediv_of_nonneg (Int.pow_nonneg (by decide))]
   have q:=fun H => bin_quo Prog 3 H .i64 (n / 256 ^ j) 256 (by decide);rw [hq] at q;have q2:0 ≤ n / 256 ^ (j + 1):=Int.ediv_nonneg h0 (Int.pow_nonneg (by decide));have q3:n / 256 ^ (j + 1) ≤ n:=Int.ediv_le_self _ h0;generalize n / 256 ^ (j + 1) = m at q q2 q3 ⊢;generalize n / 256 ^ j = m0 at q ⊢;refine .inl ⟨_,H',?_,rfl,rfl⟩;rw [ζ6y];simp -implicitDefEqProofs (disch:=omega) [hlt,q])
  (fun e H' ⟨hH,he⟩ => by
   subst he hH;refine ⟨.exit 2,_,H',?_,by simp,rfl,rfl,rfl⟩;rw [ζ6y];simp -implicitDefEqProofs (disch:=omega))
 exact hr
theorem Put_star (k:Nat) {H0 H:Heap} {L:List It} (h:Star H0 H L) (i:Nat) {o:Option Nat} {s:Value} {b:List Int} (hi:L[i]? = some (itRow o 1 s encB b)) (n zi:Int) (z:Nat) (hzi:zi = z) (h0:0 ≤ n) (hn:n < 2 ^ 62) (hz:z ≤ 8) (hl:b.length < 2 ^ 30) :
  ∃ s' o' H',R (T k) F.ζj [s,.int .i64 n,.int .i64 zi] H = .ok s' H' ∧ Star H0 H' (L.set i (itRow o' 1 s' encB (b ++ bytesOf n z))):=by
 subst hzi;rw [ζed];have hlt:i < L.length:=(List.getElem?_eq_some_iff.1 hi).1;have hself:L.set i (itRow o 1 s encB b) = L:=by
  obtain ⟨hlt,hx⟩:=List.getElem?_eq_some_iff.1 hi;rw [← hx,List.set_getElem_self]
 obtain ⟨x,e',H1,hr,s',o',rfl,⟨a,c,rfl⟩,ho⟩:=loopDec (body:=ζ5v k (R (T k)))
  (fun m e H' => ∃ s o acc,e = [(0,s),(1,.int .i64 n),(7,.int .i64 ((m:Int) - 1))] ∧ Star H0 H' (L.set i (itRow o 1 s encB acc)) ∧ acc ++ bytesOf n m = b ++ bytesOf n z ∧ m ≤ z)
  (fun x e H' => ∃ s' o',x = .exit 0 ∧ (∃ a c,e = [(0,s'),(1,.int .i64 n),(7,a),(13,c)]) ∧ Star H0 H' (L.set i (itRow o' 1 s' encB (b ++ bytesOf n z))))
  (e0:=[(0,s),(1,.int .i64 n),(7,.int .i64 ((z:Int) - 1))]) (H0:=H) z ⟨s,o,b,rfl,by rw [hself]; exact h,rfl,Nat.le_refl _⟩ (by omega)
  (fun m e H' ⟨s,o,acc,he,ho,ha,hmz⟩ => by
   subst he;cases m with
   | zero =>
    refine .inr ⟨.exit 0,_,H',?_,by simp,s,o,rfl,⟨.int .i64 ((0:Nat) - 1),.bool false,rfl⟩,by simpa [bytesOf] using (by simpa [bytesOf] using ha) ▸ ho⟩;rw [ζ6x];simp -implicitDefEqProofs
   | succ m =>
    have hin:=Put_in k s n m h0 hn (by omega) H';have q0:0 ≤ n / 256 ^ m:=Int.ediv_nonneg h0 (Int.pow_nonneg (by decide));have hacc:acc.length < 2 ^ 31:=by
     have:=congrArg List.length ha;simp [ζ1o] at this;omega
    obtain ⟨s2,o2,H2,e1,o1⟩:=ho.append1 (bytes:=1) i encB_len (List.getElem?_set_self hlt) ((n / 256 ^ m) % 256) hacc (by decide);rw [List.set_set] at o1;have hrem:=fun H => bin_rem Prog 3 H .i64 (n / 256 ^ m) 256 (by decide);rw [Int.tmod_eq_emod_of_nonneg q0] at hrem;have hb:0 ≤ (n / 256 ^ m) % 256 ∧ (n / 256 ^ m) % 256 < 256:=by omega
    refine .inl ⟨m,_,H2,?_,by omega,s2,o2,acc ++ [(n / 256 ^ m) % 256],rfl,o1,by rw [List.append_assoc]; exact ha,by omega⟩;rw [ζ6x];have hge:(m:Int) ≥ 0:=by omega
    rw [show (((m + 1:Nat):Int) - 1) = (m:Int) by omega];generalize (n / 256 ^ m) % 256 = y at e1 hrem hb;simp -implicitDefEqProofs (disch:=omega) [hge,hin,ζ9m,hrem,e1])
 refine ⟨s',o',H1,?_,ho⟩;simp -implicitDefEqProofs (disch:=omega) [ζj,hr,ζ9l,nrm_no]
end Go.Sw
end
section
set_option maxRecDepth 100000
set_option linter.unusedVariables false
namespace Go.Sw
noncomputable section
end
end Go.Sw
end
section
namespace Go.Sw
open Go.RowKit
structure Plan where
 cls:List Int
 rows:List (List Int)
 ents:List En
 wide:Int
def twos (l:List Int):List Int:=(l.map fun c => bytesOf c 2).flatten
def rowL (n:Nat) (r:List Int):List Int:=(List.range n).map fun i => r[i]?.getD 0
def rowsL (n:Nat) (rs:List (List Int)):List Int:=(rs.map fun r => twos (rowL n r)).flatten
def Plan.ok (p:Plan):Prop:=Byt p.cls ∧ (∀ r,r ∈ p.rows → Byt r) ∧ 0 ≤ p.wide ∧ p.wide < 256
end Go.Sw
end
section
namespace Go.Sw
open Go.RowKit
theorem and_pow (n k:Nat):n &&& 2 ^ k = if n.testBit k then 2 ^ k else 0:=by
 apply Nat.eq_of_testBit_eq;intro i;rw [Nat.testBit_and,Nat.testBit_two_pow];by_cases h:k = i
 ·subst h;cases hb:n.testBit k
  ·simp
  ·simp
 ·cases hb:n.testBit k
  ·simp [h]
  ·simp only [h,decide_false,Bool.and_false,if_true,Nat.testBit_two_pow]
theorem bin_andP (P:Program) (t:TypeId) (H:Heap) (k:Nat) (hk:k < 62) {a:Int} (h0:0 ≤ a) (h1:a < 2 ^ 62) (m:Int) (hm:m = ((2 ^ k:Nat):Int)) :
  binR P .and t (.int .i64 a) (.int .i64 m) H = .ok (.int .i64 (if a / m % 2 = 1 then m else 0)) H:=by
 obtain ⟨n,rfl⟩:=Int.eq_ofNat_of_zero_le h0;have hp:2 ^ k ≤ 2 ^ 61:=Nat.pow_le_pow_right (by decide) (by omega);have hp0:0 < 2 ^ k:=Nat.two_pow_pos k;have e:(BitVec.ofInt 64 (n:Int) &&& BitVec.ofInt 64 m).toNat = if n.testBit k then 2 ^ k else 0:=by
  rw [BitVec.toNat_and,BitVec.toNat_ofInt,BitVec.toNat_ofInt,hm];rw [show (((n:Int)) % ((2 ^ 64:Nat):Int)).toNat = n by omega,show ((((2 ^ k:Nat):Int)) % ((2 ^ 64:Nat):Int)).toNat = 2 ^ k by omega,and_pow]
 have e1:binV P .and t (.int .i64 (n:Int)) (.int .i64 m) = some (.int .i64 (IntKind.i64.wrap (BitVec.ofInt 64 (n:Int) &&& BitVec.ofInt 64 m).toNat)):=rfl;unfold binR;rw [e1,e,Nat.testBit_eq_decide_div_mod_eq];have hd:(n:Int) / m = ((n / 2 ^ k:Nat):Int):=by rw [hm,Int.natCast_ediv]
 rw [hd];by_cases h:n / 2 ^ k % 2 = 1
 ·rw [decide_eq_true h,if_pos rfl,if_pos (by omega),wrap_i64 (by omega) (by omega),hm]; rfl
 ·rw [decide_eq_false h,if_neg (by simp),if_neg (by omega)]; rfl
theorem and13 (P:Program) (t:TypeId) (H:Heap) {a:Int} (h0:0 ≤ a) (h1:a < 65536):binR P .and t (.int .i64 a) (.int .i64 8192) H = .ok (.int .i64 (if a / 8192 % 2 = 1 then 8192 else 0)) H:=bin_andP P t H 13 (by decide) h0 (by omega) 8192 rfl
theorem bin_andL (P:Program) (t:TypeId) (H:Heap) (k:Nat) (hk:k < 62) {a:Int} (h0:0 ≤ a) (h1:a < 2 ^ 62) (m:Int) (hm:m = ((2 ^ k:Nat):Int) - 1):binR P .and t (.int .i64 a) (.int .i64 m) H = .ok (.int .i64 (a % ((2 ^ k:Nat):Int))) H:=by
 obtain ⟨n,rfl⟩:=Int.eq_ofNat_of_zero_le h0;have hp:2 ^ k ≤ 2 ^ 61:=Nat.pow_le_pow_right (by decide) (by omega);have hp0:0 < 2 ^ k:=Nat.two_pow_pos k;have e:(BitVec.ofInt 64 (n:Int) &&& BitVec.ofInt 64 m).toNat = n % 2 ^ k:=by
  rw [BitVec.toNat_and,BitVec.toNat_ofInt,BitVec.toNat_ofInt,hm];rw [show (((n:Int)) % ((2 ^ 64:Nat):Int)).toNat = n by omega,show ((((2 ^ k:Nat):Int) - 1) % ((2 ^ 64:Nat):Int)).toNat = 2 ^ k - 1 by omega,Nat.and_two_pow_sub_one_eq_mod]
 have e1:binV P .and t (.int .i64 (n:Int)) (.int .i64 m) = some (.int .i64 (IntKind.i64.wrap (BitVec.ofInt 64 (n:Int) &&& BitVec.ofInt 64 m).toNat)):=rfl;have hlt:n % 2 ^ k < 2 ^ k:=Nat.mod_lt _ hp0;unfold binR;rw [e1,e,wrap_i64 (by omega) (by omega),Int.natCast_emod];rfl
theorem and24 (P:Program) (t:TypeId) (H:Heap) {a:Int} (h0:0 ≤ a) (h1:a < 4294967296):binR P .and t (.int .i64 a) (.int .i64 16777215) H = .ok (.int .i64 (a % 16777216)) H:=bin_andL P t H 24 (by decide) h0 (by omega) 16777215 rfl
end Go.Sw
end
section
namespace Go.Sw
open Go.RowKit
variable {σ:Type}
def runD (m:Mach) (ln:σ → List Gl) (f:σ → Int → En → σ × Int × Int) (most:Int):Nat → σ × Drv → Int × Int × σ
  | 0,x => (x.2.stp,4,x.1)
  | n + 1,x => if x.2.stp < most then
      (if (stepD m ln f x).2 then ((stepD m ln f x).1.2.stp,0,(stepD m ln f x).1.1)
       else if (stepD m ln f x).1.2.rest > 64 then ((stepD m ln f x).1.2.stp,4,(stepD m ln f x).1.1)
       else runD m ln f most n (stepD m ln f x).1)
    else (x.2.stp,4,x.1)
theorem ζoa (m:Mach) (ln:σ → List Gl) (f:σ → Int → En → σ × Int × Int) (x:σ × Drv):(stepD m ln f x).1.2.stp = x.2.stp + 1:=by unfold stepD; split <;> rfl
theorem stepD_pl (m:Mach) (ln:σ → List Gl) (f:σ → Int → En → σ × Int × Int) (x:σ × Drv):0 ≤ (stepD m ln f x).1.2.pl:=by unfold stepD; split <;> (dsimp only; omega)
theorem ζme (m:Mach) (ln:σ → List Gl) (f:σ → Int → En → σ × Int × Int) (x:σ × Drv) (h:0 ≤ x.2.rest):0 ≤ (stepD m ln f x).1.2.rest ∧ (stepD m ln f x).1.2.rest ≤ x.2.rest + 1:=by unfold stepD; split <;> (dsimp only; omega)
set_option maxHeartbeats 1000000 in
theorem ζbu (k:Nat) (m:Mach) (hm:m.ok) {H0 H:Heap} (W:σ → List It) (Inv:σ → Prop) (ln:σ → List Gl) (c:Nat) (hW:∀ s,∃ (i:Nat) (o:Option Nat),(W s)[i]? = some (itLine c o (ln s))) (a:Value) (f:σ → Int → En → σ × Int × Int) (ha:ActOk k m H0 W Inv a f)
  (X:List It) (s:σ) (hI:Inv s) (h:Star H0 H (W s ++ X)) (hl:(ln s).length < 2 ^ 40) :
  ∃ H',R (T k) F.ζ46 [machV m,ptrV c,a] H = .ok (.tuple #[.int .i64 (runD m ln f (2 * (ln s).length + 128) (2 * (ln s).length + 128) (s,⟨0,0,0,0⟩)).1,.int .i64 (runD m ln f (2 * (ln s).length + 128) (2 * (ln s).length + 128) (s,⟨0,0,0,0⟩)).2.1]) H' ∧
   Star H0 H' (W (runD m ln f (2 * (ln s).length + 128) (2 * (ln s).length + 128) (s,⟨0,0,0,0⟩)).2.2 ++ X) ∧ Inv (runD m ln f (2 * (ln s).length + 128) (2 * (ln s).length + 128) (s,⟨0,0,0,0⟩)).2.2:=by
 rw [ζk3];obtain ⟨N,hN⟩:∃ N,N = 2 * (ln s).length + 128:=⟨_,rfl⟩
 have hNi:(2 * ((ln s).length:Int) + 128) = (N:Int):=by omega
 obtain ⟨x0,hx0⟩:∃ x0:σ × Drv,x0 = (s,⟨0,0,0,0⟩):=⟨_,rfl⟩
 rw [← hN,hNi,← hx0];generalize hR0:runD m ln f (N:Int) N x0 = R0;have g:=h.push ⟨drvC m c ⟨0,0,0,0⟩,1,false⟩;obtain ⟨i,o,ho⟩:=hW s;have hline:(W s ++ X ++ [itBlk H.n ⟨drvC m c ⟨0,0,0,0⟩,1,false⟩])[i]? = some (itLine c o (ln s)):=by
  have h0:i < (W s).length:=(List.getElem?_eq_some_iff.1 ho).1;rw [List.append_assoc,List.getElem?_append_left h0];exact ho
 have hlen:=ζfg k g i hline
 obtain ⟨e,eE,H1,hr1,hQ⟩:=loop_up (body:=ζa2 k (R (T k))) N
  (fun j e H' => e = [(2,a),(8,ptrV H.n),(9,.int .i64 N)] ∧ ∃ x:σ × Drv,Star H0 H' (W x.1 ++ X ++ [itBlk H.n ⟨drvC m c x.2,1,false⟩]) ∧ Inv x.1 ∧ x.2.stp = j ∧ 0 ≤ x.2.pl ∧ x.2.pl ≤ 128 * j ∧ 0 ≤ x.2.rest ∧ x.2.rest ≤ j ∧ (0 ≤ x.2.st ∧ x.2.st < m.rows.length) ∧ runD m ln f N (N - j) x = R0)
  (fun x' e H' => ∃ r:Int × Int × σ,r = R0 ∧ ∃ d:Drv,Star H0 H' (W r.2.2 ++ X ++ [itBlk H.n ⟨drvC m c d,1,false⟩]) ∧ Inv r.2.2 ∧
   ((x' = .ret ∧ e = [(6,.int .i64 r.1),(7,.int .i64 0)] ∧ r.2.1 = 0) ∨ (x' = .exit 0 ∧ d.stp = r.1 ∧ r.2.1 = 4 ∧ (e = [(2,a),(8,ptrV H.n),(9,.int .i64 N),(35,.bool true)] ∨ e = [(2,a),(8,ptrV H.n),(9,.int .i64 N),(23,.bool false)]))))
  (e0:=[(2,a),(8,ptrV H.n),(9,.int .i64 N)]) (H0:=H.push ⟨drvC m c ⟨0,0,0,0⟩,1,false⟩)
  ⟨rfl,x0,by rw [hx0]; exact g,by rw [hx0]; exact hI,by rw [hx0]; rfl,by rw [hx0]; exact Int.le_refl _,by rw [hx0]; exact Int.le_refl _,by rw [hx0]; exact Int.le_refl _,by rw [hx0]; exact Int.le_refl _,by rw [hx0]; have:=hm.two; dsimp only; omega,by rw [Nat.sub_zero]; exact hR0⟩ (by omega)
  (fun j e H' hj ⟨he,x,g,hI,h1,h2,h3,h4,h5,hse,hrun⟩ => by
   subst he;obtain ⟨H2,e2,g2,hI2,h6,h7⟩:=ζg6 k m hm W Inv ln c hW a f ha X H.n x.1 x.2 hI g (by omega) (by omega) (by omega) hse;have hq:=g.memBlk (c:=H.n) (k:=⟨drvC m c x.2,1,false⟩) (by simp);have p1:=ζoa m ln f x;have p2:=stepD_pl m ln f x;have p3:=ζme m ln f x h4;have hlt:x.2.stp < (N:Int):=by omega
   have hNj:N - j = (N - (j + 1)) + 1:=by omega
   rw [hNj] at hrun;unfold runD at hrun;rw [if_pos hlt] at hrun;have hxx:(x.1,x.2) = x:=rfl;rw [hxx] at e2 g2 hI2 h6 h7;generalize stepD m ln f x = y at *;have hq2:=g2.memBlk (c:=H.n) (k:=⟨drvC m c y.1.2,1,false⟩) (by simp);cases hy:y.2 with
   | true =>
    rw [hy] at hrun e2;simp only [if_true] at hrun;refine .inr ⟨.ret,_,H2,?_,by simp,_,hrun,y.1.2,g2,hI2,.inl ⟨rfl,rfl,rfl⟩⟩;rw [ζ5h];simp -implicitDefEqProofs (disch:=omega) [hq,hlt,e2,hq2]
   | false =>
    rw [hy] at hrun e2;simp only [Bool.false_eq_true,if_false] at hrun;by_cases hr:y.1.2.rest > 64
    ·rw [if_pos hr] at hrun;refine .inr ⟨.exit 0,_,H2,?_,by simp,_,hrun,y.1.2,g2,hI2,.inr ⟨rfl,rfl,rfl,.inl rfl⟩⟩;rw [ζ5h];simp -implicitDefEqProofs (disch:=omega) [hq,hlt,e2,hq2,hr]
    ·rw [if_neg hr] at hrun;refine .inl ⟨_,H2,?_,rfl,y.1,g2,hI2,by omega,p2,by omega,p3.1,by omega,h7,hrun⟩;rw [ζ5h];simp -implicitDefEqProofs (disch:=omega) [hq,hlt,e2,hq2,hr])
  (fun e H' ⟨he,x,g,hI,h1,h2,h3,h4,h5,hse,hrun⟩ => by
   subst he;rw [Nat.sub_self] at hrun;have hq:=g.memBlk (c:=H.n) (k:=⟨drvC m c x.2,1,false⟩) (by simp);refine ⟨.exit 0,_,H',?_,by simp,_,hrun,x.2,g,hI,.inr ⟨rfl,rfl,rfl,.inr rfl⟩⟩;have hnl:¬ x.2.stp < (N:Int):=by omega
   rw [ζ5h];simp -implicitDefEqProofs (disch:=omega) [hq,hnl])
 obtain ⟨r,hr,d,g,hIr,hcase⟩:=hQ;subst hr;have hq:=g.memBlk (c:=H.n) (k:=⟨drvC m c d,1,false⟩) (by simp);have gX:Star H0 H1 (W r.2.2 ++ X):=g.ζcq;refine ⟨H1,?_,gX,hIr⟩;rcases hcase with ⟨rfl,rfl,hc⟩ | ⟨rfl,hd,hc,rfl | rfl⟩
 ·rw [hc];simp -implicitDefEqProofs (disch:=omega) [ζ46,hlen,hNi,hr1,ζeo]
 ·rw [hc];simp -implicitDefEqProofs (disch:=omega) [ζ46,hlen,hNi,hr1,ζd5,hq,hd]
 ·rw [hc];simp -implicitDefEqProofs (disch:=omega) [ζ46,hlen,hNi,hr1,ζba,hq,hd]
end Go.Sw
end
section
namespace Go.Sw
open Go.RowKit
theorem ζo3 {b rv:List Int} {j:Int}:restS b j = some rv ↔ (0 ≤ j ∧ j ≤ b.length) ∧ rv = b.drop j.toNat:=by
 unfold restS;split
 ·rename_i h;exact ⟨fun e => by injection e with e; exact ⟨h,e.symm⟩,fun e => by rw [e.2]⟩
 ·rename_i h;exact ⟨fun e => (by cases e),fun e => absurd e.1 h⟩
end Go.Sw
end
section
namespace Go.Sw
open Go.RowKit
end Go.Sw
end
section
set_option maxRecDepth 100000
set_option linter.unusedVariables false
namespace Go.Sw
noncomputable section
end
end Go.Sw
end
section
namespace Go.Sw
open Go.RowKit
theorem Star.stAll {H0 H:Heap} {L:List It} (h:Star H0 H L) (i:Nat) {c:Nat} {cells:List Value} {e:Nat} (hi:L[i]? = some (itBlk c ⟨cells,e,false⟩)) (vs:List Value) (n:Nat) (hn:cells.length = n) (hv:vs.length = n) :
  ∃ H',stR n (.pointer (some ⟨c,0,none⟩)) (.agg vs.toArray) H = .ok undef H' ∧ Star H0 H' (L.set i (itBlk c ⟨vs,e,false⟩)) ∧ H'.n = H.n:=by
 have hg:=h.get i hi;refine ⟨H.set c (some ⟨vs,e,false⟩),?_,h.step i hi (by simp) (fun d _ hd => ?_) _ ?_ fun b hb => .inl hb,by simp⟩
 ·have hd:cells.drop vs.length = []:=by rw [List.drop_eq_nil_iff]; omega
  simp [hg,hv,hd];rw [hv] at hd;rw [if_pos (by omega),hd];simp
 ·rw [ζ32];exact fun e => hd (show d ∈ [c] by simp [e])
 ·exact ζ8l _ _ _ (by rw [hg]; rfl)
end Go.Sw
end
section
namespace Go.Sw
open Go.RowKit
end Go.Sw
end
section
namespace Go.Sw
theorem row_I {r:List Da} {cs:List Value} (h:LayRow [.int .i64] r cs):∃ n:Int,cs = encI n ∧ (Lit.int .i64 n).wf = true:=by
 obtain ⟨d,v,ds,vs,rfl,h1,h2⟩:=h.head;obtain rfl:=h2.done;obtain ⟨n,rfl,w⟩:=h1.intv;exact ⟨n,rfl,w⟩
theorem wf_u8 {n:Int} (h:(Lit.int .u8 n).wf = true):0 ≤ n ∧ n < 256:=by
 simp [Lit.wf,IntKind.min,IntKind.max,IntKind.signed,IntKind.bits] at h;omega
theorem row_B {r:List Da} {cs:List Value} (h:LayRow [.int .u8] r cs):∃ n:Int,cs = encB n ∧ (0 ≤ n ∧ n < 256):=by
 obtain ⟨d,v,ds,vs,rfl,h1,h2⟩:=h.head;obtain rfl:=h2.done;obtain ⟨n,rfl,w⟩:=h1.intv;exact ⟨n,rfl,wf_u8 w⟩
end Go.Sw
end
section
namespace Go.Sw
open Go.RowKit
end Go.Sw
end
section
namespace Go.Sw
open Go.RowKit
end Go.Sw
end
section
namespace Go.Sw
open Go.RowKit
variable {σ:Type}
def DoOk (k:Nat) (m:Mach) (H0:Heap) (W:σ → List It) (Inv:σ → Prop) (a:Value) (g:σ → Int → En → σ):Prop :=
 ∀ s i e H X,Inv s → Star H0 H (W s ++ X) → 0 ≤ i → i < 2 ^ 50 → e ∈ m.ents →
  ∃ v H',callV (R (T k)) a [.int .i64 i,encE e] H = .ok v H' ∧ Star H0 H' (W (g s i e) ++ X) ∧ Inv (g s i e)
theorem plain_ok (k:Nat) {m:Mach} {H0:Heap} {W:σ → List It} {Inv:σ → Prop} {a:Value} {g:σ → Int → En → σ} (h:DoOk k m H0 W Inv a g) (p:Nat) :
  ActOk k m H0 (fun s => W s ++ [itBlk p ⟨[a],1,false⟩]) Inv (.func (.func F.ζ1w) #[] #[ptrV p]) (fun s i e => (g s i e,i,i + 1)):=by
 intro s i e H X hI st h0 h1 he;have st2:=st.push ⟨encEn e,1,false⟩;have hp:=st2.memBlk (c:=p) (k:=⟨[a],1,false⟩) (by simp);have hpn:¬ p = H.n:=by have:=Heap.get_lt (st.memBlk (c:=p) (k:=⟨[a],1,false⟩) (by simp)); omega
 obtain ⟨v,H',e1,st3,hI2⟩:=h s i e (H.push ⟨encEn e,1,false⟩) ([itBlk p ⟨[a],1,false⟩] ++ X ++ [itBlk H.n ⟨encEn e,1,false⟩]) hI (by simpa [List.append_assoc] using st2) h0 h1 he;have st4:Star H0 H' (W (g s i e) ++ [itBlk p ⟨[a],1,false⟩] ++ X):=by
  have:W (g s i e) ++ ([itBlk p ⟨[a],1,false⟩] ++ X ++ [itBlk H.n ⟨encEn e,1,false⟩]) = (W (g s i e) ++ [itBlk p ⟨[a],1,false⟩] ++ X) ++ [itBlk H.n ⟨encEn e,1,false⟩]:=by simp
  rw [this] at st3;exact st3.ζcq
 refine ⟨H',?_,st4,hI2,by dsimp only; omega,by dsimp only; omega⟩;simp only [callV,List.nil_append,List.cons_append];rw [ζc6,nrm_of];simp -implicitDefEqProofs (disch:=omega) [ζ1w,hp,hpn,e1]
end Go.Sw
end
