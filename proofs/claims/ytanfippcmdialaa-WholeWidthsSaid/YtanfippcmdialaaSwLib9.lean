/-
  A speaking function, run by itself, answers true.
-/
import Derived.Test.YtanfippcmdialaaSwLib8
import Derived.Test.YtanfippcmdialaaSwLib6
section
namespace Go.Sw
open Go.RowKit
@[simp] theorem ne_2 (n:Nat):(n = n + 1 + 1) = False:=eq_false (by omega)
@[simp] theorem ne_3 (n:Nat):(n = n + 1 + 1 + 1) = False:=eq_false (by omega)
@[simp] theorem ne_4 (n:Nat):(n = n + 1 + 1 + 1 + 1) = False:=eq_false (by omega)
@[simp] theorem ne_2' (n:Nat):(n + 1 + 1 = n) = False:=eq_false (by omega)
section
variable {α β γ δ:Type} {fv:Value} {E:Heap → Prop}
end
theorem mkR_nat (size bytes:Nat) (z:List Value) (k k':IntKind) (n:Nat) (h:Heap) (hn:n ≤ 2 ^ 31) (hb:bytes ≤ 2 ^ 10) :
  mkR size bytes z (.int k n) (.int k' n) h = .ok (.slice (some ⟨h.n,0,none⟩) n n) (h.push ⟨repeatCells z n,size,false⟩):=by
 unfold mkR;dsimp only;rw [if_pos ⟨by omega,rfl,by omega,hb⟩,Int.toNat_natCast]
inductive St (σ ρ:Type) where
 | next (s:σ)
 | done (r:ρ)
def St.k {σ ρ:Type} (K:σ → Option (St σ ρ)):St σ ρ → Option (St σ ρ)
 | .next s => K s
 | .done r => some (.done r)
section
variable {σ ρ:Type} {fv:Value} {E:Heap → Prop}
end
end Go.Sw
end
section
namespace Go.Sw
open Go.RowKit
structure It where
 o:List Nat
 P:Heap → Prop
 loc:∀ H H',P H → (∀ b,b ∈ o → H'.get b = H.get b) → P H'
def itBlk (c:Nat) (k:Blk):It:=⟨[c],fun H => H.get c = some k,fun H H' h hk => by rw [hk c (List.mem_singleton.2 rfl)]; exact h⟩
def itRow {α:Type} (o:Option Nat) (m:Nat) (s:Value) (enc:α → List Value) (l:List α):It:=⟨o.toList,fun H => OwnO H o m s enc l,fun _ _ h hk => h.up fun b hb => hk b (Option.mem_toList.2 hb)⟩
def Star (H0 H:Heap) (L:List It):Prop :=
 Ext H0 H ∧ (∀ (i:Nat) x,L[i]? = some x → x.P H ∧ ∀ b,b ∈ x.o → H0.n ≤ b ∧ b < H.n) ∧
 ∀ (i j:Nat) x y,i ≠ j → L[i]? = some x → L[j]? = some y → ∀ b,b ∈ x.o → b ∉ y.o
theorem Star.nil (H:Heap):Star H H []:=⟨Ext.refl H,fun i x h => by simp at h,fun i j x y _ h => by simp at h⟩
theorem Star.ext {H0 H:Heap} {L:List It} (h:Star H0 H L):Ext H0 H:=h.1
theorem Star.at {H0 H:Heap} {L:List It} (h:Star H0 H L) (i:Nat) {x:It} (hi:L[i]? = some x):x.P H:=(h.2.1 i x hi).1
theorem Star.lt {H0 H:Heap} {L:List It} (h:Star H0 H L) (i:Nat) {x:It} (hi:L[i]? = some x):∀ b,b ∈ x.o → H0.n ≤ b ∧ b < H.n:=(h.2.1 i x hi).2
theorem Star.get {H0 H:Heap} {L:List It} (h:Star H0 H L) (i:Nat) {c:Nat} {k:Blk} (hi:L[i]? = some (itBlk c k)):H.get c = some k:=h.at i hi
theorem Star.row {α:Type} {enc:α → List Value} {H0 H:Heap} {L:List It} (h:Star H0 H L) (i:Nat) {o:Option Nat} {m:Nat} {s:Value} {l:List α} (hi:L[i]? = some (itRow o m s enc l)):OwnO H o m s enc l:=h.at i hi
theorem Star.own {α:Type} {enc:α → List Value} {H0 H:Heap} {L:List It} (h:Star H0 H L) (i:Nat) {o:Option Nat} {m:Nat} {s:Value} {l:List α} (hi:L[i]? = some (itRow o m s enc l)):Own H0 H m s enc l :=
 (h.row i hi).own H0 fun b hb => (h.lt i hi b (Option.mem_toList.2 hb)).1
theorem Star.ne {H0 H:Heap} {L:List It} (h:Star H0 H L) (i j:Nat) {x y:It} (hij:i ≠ j) (hi:L[i]? = some x) (hj:L[j]? = some y) {b:Nat} (hb:b ∈ x.o):b ∉ y.o:=h.2.2 i j x y hij hi hj b hb
theorem Star.step {H0 H H':Heap} {L:List It} (h:Star H0 H L) (i:Nat) {x:It} (hi:L[i]? = some x) (hn:H.n ≤ H'.n) (hk:∀ c,c < H.n → c ∉ x.o → H'.get c = H.get c) (y:It) (hy:y.P H')
  (hyo:∀ b,b ∈ y.o → b ∈ x.o ∨ (H.n ≤ b ∧ b < H'.n)):Star H0 H' (L.set i y):=by
 have hlt:i < L.length:=(List.getElem?_eq_some_iff.1 hi).1;have hxl:=h.lt i hi;refine ⟨⟨Nat.le_trans h.1.1 hn,fun c hc hs => ?_⟩,fun j z hj => ?_,fun j1 j2 z1 z2 hne h1 h2 b hb => ?_⟩
 ·rw [hk c (Nat.lt_of_lt_of_le hc h.1.1) fun hx => ?_]
  ·exact h.1.2 c hc hs
  ·have:=(hxl c hx).1; omega
 ·by_cases hij:i = j
  ·subst hij;rw [List.getElem?_set_self hlt] at hj;injection hj with hj;subst hj;refine ⟨hy,fun b hb => ?_⟩;rcases hyo b hb with h1 | ⟨h1,h2⟩
   ·have:=hxl b h1; omega
   ·have:=h.1.1; omega
  ·rw [List.getElem?_set_ne hij] at hj;obtain ⟨hp,hl⟩:=h.2.1 j z hj;refine ⟨z.loc H H' hp fun b hb => hk b (hl b hb).2 fun hx => ?_,fun b hb => ?_⟩
   ·exact h.2.2 i j x z hij hi hj b hx hb
   ·have:=hl b hb; omega
 ·by_cases e1:i = j1
  ·subst e1;rw [List.getElem?_set_self hlt] at h1;injection h1 with h1;subst h1;rw [List.getElem?_set_ne hne] at h2;intro hb2;rcases hyo b hb with hx | ⟨hx,_⟩
   ·exact h.2.2 i j2 x z2 hne hi h2 b hx hb2
   ·have:=(h.lt j2 h2 b hb2).2; omega
  ·rw [List.getElem?_set_ne e1] at h1;by_cases e2:i = j2
   ·subst e2;rw [List.getElem?_set_self hlt] at h2;injection h2 with h2;subst h2;intro hb2;rcases hyo b hb2 with hx | ⟨hx,_⟩
    ·exact h.2.2 i j1 x z1 (fun e => e1 e) hi h1 b hx hb
    ·have:=(h.lt j1 h1 b hb).2; omega
   ·rw [List.getElem?_set_ne e2] at h2;exact h.2.2 j1 j2 z1 z2 hne h1 h2 b hb
theorem Star.more {H0 H H':Heap} {L:List It} (h:Star H0 H L) (he:Ext H H') (y:It) (hy:y.P H') (hyo:∀ b,b ∈ y.o → H.n ≤ b ∧ b < H'.n):Star H0 H' (L ++ [y]):=by
 have hll:(L ++ [y]).length = L.length + 1:=by simp
 have get:∀ j z,(L ++ [y])[j]? = some z → (j < L.length ∧ L[j]? = some z) ∨ (j = L.length ∧ z = y):=fun j z hj => by
  by_cases hl:j < L.length
  ·rw [List.getElem?_append_left hl] at hj;exact .inl ⟨hl,hj⟩
  ·have hlt:=(List.getElem?_eq_some_iff.1 hj).1;have:j = L.length:=by omega
   subst this;rw [List.getElem?_append_right (Nat.le_refl _)] at hj;simp at hj;exact .inr ⟨rfl,hj.symm⟩
 refine ⟨h.1.trans he,fun j z hj => ?_,fun j1 j2 z1 z2 hne h1 h2 b hb => ?_⟩
 ·rcases get j z hj with ⟨_,hj⟩ | ⟨_,rfl⟩
  ·obtain ⟨hp,hl⟩:=h.2.1 j z hj;exact ⟨z.loc H H' hp fun b hb => he.2 b (hl b hb).2 (by simp),fun b hb => by have:=hl b hb; have:=he.1; omega⟩
  ·exact ⟨hy,fun b hb => by have:=hyo b hb; have:=h.1.1; omega⟩
 ·intro hb2;rcases get j1 z1 h1 with ⟨_,g1⟩ | ⟨e1,f1⟩
  ·rcases get j2 z2 h2 with ⟨_,g2⟩ | ⟨e2,f2⟩
   ·exact h.2.2 j1 j2 z1 z2 hne g1 g2 b hb hb2
   ·subst f2;have:=(h.lt j1 g1 b hb).2; have:=(hyo b hb2).1; omega
  ·subst f1;rcases get j2 z2 h2 with ⟨_,g2⟩ | ⟨e2,f2⟩
   ·have:=(h.lt j2 g2 b hb2).2; have:=(hyo b hb).1; omega
   ·omega
theorem Star.push {H0 H:Heap} {L:List It} (h:Star H0 H L) (k:Blk):Star H0 (H.push k) (L ++ [itBlk H.n k]) :=
 h.more ((Ext.refl H).push k) _ (get_push_eq _ _ _ rfl) fun b hb => by have hb:=List.mem_singleton.1 hb; subst hb; simp
theorem Star.rest {H0 H H':Heap} {L:List It} (h:Star H0 H L) (he:Ext H H'):Star H0 H' L :=
 ⟨h.1.trans he,fun j z hj => by
  obtain ⟨hp,hl⟩:=h.2.1 j z hj;exact ⟨z.loc H H' hp fun b hb => he.2 b (hl b hb).2 (by simp),fun b hb => by have:=hl b hb; have:=he.1; omega⟩,h.2.2⟩
theorem Star.take {H0 H:Heap} {L:List It} (h:Star H0 H L) (n:Nat):Star H0 H (L.take n):=by
 have get:∀ j z,(L.take n)[j]? = some z → L[j]? = some z:=fun j z hj => by
  rw [List.getElem?_take] at hj;split at hj
  ·exact hj
  ·cases hj
 exact ⟨h.1,fun j z hj => h.2.1 j z (get j z hj),fun j1 j2 z1 z2 hne h1 h2 => h.2.2 j1 j2 z1 z2 hne (get j1 z1 h1) (get j2 z2 h2)⟩
theorem Star.more_row {α:Type} {enc:α → List Value} {H0 H H':Heap} {L:List It} (h:Star H0 H L) (he:Ext H H') {o:Option Nat} {m:Nat} {s:Value} {l:List α} (ho:OwnO H' o m s enc l) (hb:∀ b,o = some b → H.n ≤ b ∧ b < H'.n):Star H0 H' (L ++ [itRow o m s enc l]) :=
 h.more he _ ho fun b h => hb b (Option.mem_toList.1 h)
theorem OwnO.bare {α:Type} (enc:α → List Value) (H:Heap) (m:Nat):OwnO H none m bareV enc []:=.inl ⟨rfl,rfl,.inr (.inl rfl)⟩
theorem OwnO.nil {α:Type} (enc:α → List Value) (H:Heap) (m:Nat):OwnO H none m (.slice none 0 0) enc []:=.inl ⟨rfl,rfl,.inl rfl⟩
theorem OwnO.lt {α:Type} {enc:α → List Value} {H:Heap} {o:Option Nat} {m:Nat} {s:Value} {l:List α} (h:OwnO H o m s enc l):∀ b,o = some b → b < H.n:=fun b hb => by
 rcases h with ⟨h,_⟩ | ⟨c,h,_,hc⟩
 ·rw [h] at hb; cases hb
 ·rw [h] at hb; injection hb with hb; subst hb; exact Heap.get_lt hc
theorem Star.append {α:Type} {enc:α → List Value} {H0 H:Heap} {L:List It} (h:Star H0 H L) (i:Nat) {o:Option Nat} {m bytes:Nat} {s b:Value} {l l2:List α} (he:∀ x,(enc x).length = m) (hi:L[i]? = some (itRow o m s enc l))
  (hl:lenV b = some l2.length) (hf:firstV m l2.length b H = some (rows enc l2)) (h31:l.length + l2.length ≤ 2 ^ 31) (hby:bytes ≤ 2 ^ 10) :
  ∃ s' o' H',apR m bytes s b H = .ok s' H' ∧ Star H0 H' (L.set i (itRow o' m s' enc (l ++ l2))):=by
 by_cases h0:l2.length = 0
 ·have e2:=List.length_eq_zero_iff.1 h0;subst e2;obtain ⟨a,n,c,rfl⟩:=(h.row i hi).shape;refine ⟨.slice a n c,o,H,?_,?_⟩
  ·unfold apR appendK;dsimp only;rw [hl];rfl
  ·rw [List.append_nil];have:L.set i (itRow o m (.slice a n c) enc l) = L:=by
    obtain ⟨hlt,hx⟩:=List.getElem?_eq_some_iff.1 hi;rw [← hx,List.set_getElem_self]
   rw [this];exact h
 ·obtain ⟨s',H',e1,e2,e3,e4⟩:=apR_ownO (bytes:=bytes) he (h.row i hi) hl hf h0 h31 hby;exact ⟨s',_,H',e1,h.step i hi (by omega) (fun c hc hs => e4 c hc fun h => hs (Option.mem_toList.2 h)) _ e2 fun b hb => .inr (by have hb:=List.mem_singleton.1 hb; omega)⟩
theorem Star.append1 {α:Type} {enc:α → List Value} {H0 H:Heap} {L:List It} (h:Star H0 H L) (i:Nat) {o:Option Nat} {m bytes:Nat} {s:Value} {l:List α} (he:∀ x,(enc x).length = m) (hi:L[i]? = some (itRow o m s enc l)) (x:α) (hl:l.length < 2 ^ 31) (hby:bytes ≤ 2 ^ 10) :
  ∃ s' o' H',apR m bytes s (.slice (some ⟨H.n,0,none⟩) 1 1) (H.push ⟨enc x,m,false⟩) = .ok s' H' ∧ Star H0 H' (L.set i (itRow o' m s' enc (l ++ [x]))):=by
 obtain ⟨s',H',e1,e2,e3,e4⟩:=ap1_ownO (bytes:=bytes) he (h.row i hi) (h.row i hi).lt x hl hby;exact ⟨s',_,H',e1,h.step i hi (by omega) (fun c hc hs => e4 c hc fun h => hs (Option.mem_toList.2 h)) _ e2 fun b hb => .inr (by have hb:=List.mem_singleton.1 hb; omega)⟩
end Go.Sw
end
section
namespace Go.Sw
open Go.RowKit
section
variable {α:Type} {enc:α → List Value}
def itBox (c:Nat) (pre:List Value) (o:Option Nat) (m:Nat) (enc:α → List Value) (l:List α):It :=
  ⟨c :: o.toList,fun H => o ≠ some c ∧ ∃ s,H.get c = some ⟨pre ++ [s],1,false⟩ ∧ OwnO H o m s enc l,
   fun H H' ⟨h0,s,h1,h2⟩ hk => ⟨h0,s,by rw [hk c (by simp)]; exact h1,h2.up fun b hb => hk b (List.mem_cons_of_mem _ (Option.mem_toList.2 hb))⟩⟩
theorem repeat_rows (enc:α → List Value) (d:α):∀ n,repeatCells (enc d) n = rows enc (List.replicate n d)
 | 0 => rfl
 | n + 1 => by rw [repeatCells,repeat_rows enc d n,List.replicate_succ,rows_cons]
theorem azR_eq {m bytes:Nat} (he:∀ x,(enc x).length = m) (base:Option Addr) (l c:Nat) (d:α) (z:List Value) (hz:z = enc d) (k:IntKind) (n:Nat) (hn:n ≤ 2 ^ 31) (H:Heap) :
  azR m bytes z (.slice base l c) (.int k n) H = apR m bytes (.slice base l c) (lv enc (List.replicate n d)) H:=by
 subst hz;have hf:=lv_first he (List.replicate n d) H;rw [List.length_replicate] at hf;unfold azR apR;dsimp only;rw [if_pos ⟨by omega,by omega⟩,Int.toNat_natCast,show lenV (lv enc (List.replicate n d)) = some n by rw [lv,List.length_replicate]; rfl];dsimp only;rw [appendK_N,hf,repeat_rows]
theorem Star.drop_last {H0 H:Heap} {L:List It} {x:It} (h:Star H0 H (L ++ [x])):Star H0 H L:=by
 have:=h.take L.length;simpa using this
theorem Star.split {H0 H:Heap} {L:List It} (h:Star H0 H L) (i:Nat) {c:Nat} {pre:List Value} {o:Option Nat} {m:Nat} {l:List α} (hi:L[i]? = some (itBox c pre o m enc l)) :
  ∃ s,Star H0 H (L.set i (itRow o m s enc l) ++ [itBlk c ⟨pre ++ [s],1,false⟩]):=by
 have hlt:i < L.length:=(List.getElem?_eq_some_iff.1 hi).1;obtain ⟨hne,s,h1,h2⟩:=h.at i hi;have hc:=h.lt i hi c (by simp [itBox]);refine ⟨s,h.1,fun j z hj => ?_,fun j1 j2 z1 z2 hj12 g1 g2 b hb hb2 => ?_⟩
 ·by_cases hjl:j < L.length
  ·rw [List.getElem?_append_left (by simpa using hjl)] at hj;by_cases hij:i = j
   ·subst hij;rw [List.getElem?_set_self hlt] at hj;injection hj with hj; subst hj;exact ⟨h2,fun b hb => h.lt i hi b (List.mem_cons_of_mem _ hb)⟩
   ·rw [List.getElem?_set_ne hij] at hj;exact h.2.1 j z hj
  ·have hl2:=(List.getElem?_eq_some_iff.1 hj).1;simp at hl2;have:j = L.length:=by omega
   subst this;rw [List.getElem?_append_right (by simp)] at hj;simp at hj; subst hj;exact ⟨h1,fun b hb => by have:=List.mem_singleton.1 hb; subst this; exact hc⟩
 ·have key:∀ (j:Nat) z,(L.set i (itRow o m s enc l) ++ [itBlk c ⟨pre ++ [s],1,false⟩])[j]? = some z → (j < L.length ∧ j ≠ i ∧ L[j]? = some z) ∨ (j = i ∧ z = itRow o m s enc l) ∨ (j = L.length ∧ z = itBlk c ⟨pre ++ [s],1,false⟩):=by
   intro j z hj;by_cases hjl:j < L.length
   ·rw [List.getElem?_append_left (by simpa using hjl)] at hj;by_cases hij:i = j
    ·subst hij;rw [List.getElem?_set_self hlt] at hj;injection hj with hj; exact .inr (.inl ⟨rfl,hj.symm⟩)
    ·rw [List.getElem?_set_ne hij] at hj;exact .inl ⟨hjl,fun e => hij e.symm,hj⟩
   ·have hl2:=(List.getElem?_eq_some_iff.1 hj).1;simp at hl2;have:j = L.length:=by omega
    subst this;rw [List.getElem?_append_right (by simp)] at hj;simp at hj; exact .inr (.inr ⟨rfl,hj.symm⟩)
  have inbox:∀ b,b ∈ (itRow o m s enc l).o → b ∈ (itBox c pre o m enc l).o:=fun b hb => List.mem_cons_of_mem _ hb;have inbox2:∀ b,b ∈ (itBlk c ⟨pre ++ [s],1,false⟩).o → b ∈ (itBox c pre o m enc l).o:=fun b hb => by have:=List.mem_singleton.1 hb; subst this; exact List.mem_cons_self ..
  have apart:∀ b,b ∈ (itRow o m s enc l).o → b ∈ (itBlk c ⟨pre ++ [s],1,false⟩).o → False:=fun b hb hb' => by
   have:=List.mem_singleton.1 hb'; subst this;exact hne (Option.mem_toList.1 hb)
  rcases key j1 z1 g1 with ⟨_,n1,e1⟩ | ⟨q1,rfl⟩ | ⟨q1,rfl⟩ <;> rcases key j2 z2 g2 with ⟨_,n2,e2⟩ | ⟨q2,rfl⟩ | ⟨q2,rfl⟩
  ·exact h.2.2 j1 j2 z1 z2 hj12 e1 e2 b hb hb2
  ·exact h.2.2 j1 i z1 _ n1 e1 hi b hb (inbox b hb2)
  ·exact h.2.2 j1 i z1 _ n1 e1 hi b hb (inbox2 b hb2)
  ·exact h.2.2 j2 i z2 _ n2 e2 hi b hb2 (inbox b hb)
  ·omega
  ·exact apart b hb hb2
  ·exact h.2.2 j2 i z2 _ n2 e2 hi b hb2 (inbox2 b hb)
  ·exact apart b hb2 hb
  ·omega
theorem Star.join {H0 H:Heap} {L:List It} (h:Star H0 H L) (i j n:Nat) {c:Nat} {pre:List Value} {s:Value} {o:Option Nat} {m:Nat} {l:List α} (hin:i < n) (hnj:n ≤ j)
  (hi:L[i]? = some (itRow o m s enc l)) (hj:L[j]? = some (itBlk c ⟨pre ++ [s],1,false⟩)):Star H0 H ((L.take n).set i (itBox c pre o m enc l)):=by
 have hjl:=(List.getElem?_eq_some_iff.1 hj).1;have hne:o ≠ some c:=fun e => h.2.2 i j _ _ (by omega) hi hj c (Option.mem_toList.2 e) (List.mem_singleton.2 rfl);have key:∀ (k:Nat) z,((L.take n).set i (itBox c pre o m enc l))[k]? = some z → (k < n ∧ k ≠ i ∧ L[k]? = some z) ∨ (k = i ∧ z = itBox c pre o m enc l):=by
  intro k z hk;have hkl:=(List.getElem?_eq_some_iff.1 hk).1;simp at hkl;by_cases hik:i = k
  ·subst hik;rw [List.getElem?_set_self (by simp; omega)] at hk;injection hk with hk; exact .inr ⟨rfl,hk.symm⟩
  ·rw [List.getElem?_set_ne hik,List.getElem?_take_of_lt (by omega)] at hk;exact .inl ⟨by omega,fun e => hik e.symm,hk⟩
 have boxIn:∀ b,b ∈ (itBox c pre o m enc l).o → b ∈ (itRow o m s enc l).o ∨ b ∈ (itBlk c ⟨pre ++ [s],1,false⟩).o:=fun b hb => by
  rcases List.mem_cons.1 hb with rfl | hb
  ·exact .inr (List.mem_singleton.2 rfl)
  ·exact .inl hb
 refine ⟨h.1,fun k z hk => ?_,fun j1 j2 z1 z2 hj12 g1 g2 b hb hb2 => ?_⟩
 ·rcases key k z hk with ⟨_,_,e⟩ | ⟨_,rfl⟩
  ·exact h.2.1 k z e
  ·refine ⟨⟨hne,s,h.at j hj,h.at i hi⟩,fun b hb => ?_⟩;rcases boxIn b hb with hb | hb
   ·exact h.lt i hi b hb
   ·exact h.lt j hj b hb
 ·rcases key j1 z1 g1 with ⟨m1,n1,e1⟩ | ⟨q1,rfl⟩ <;> rcases key j2 z2 g2 with ⟨m2,n2,e2⟩ | ⟨q2,rfl⟩
  ·exact h.2.2 j1 j2 z1 z2 hj12 e1 e2 b hb hb2
  ·rcases boxIn b hb2 with hb2 | hb2
   ·exact h.2.2 j1 i z1 _ n1 e1 hi b hb hb2
   ·exact h.2.2 j1 j z1 _ (by omega) e1 hj b hb hb2
  ·rcases boxIn b hb with hb | hb
   ·exact h.2.2 j2 i z2 _ n2 e2 hi b hb2 hb
   ·exact h.2.2 j2 j z2 _ (by omega) e2 hj b hb2 hb
  ·omega
theorem Star.box {H0 H:Heap} {L:List It} (h:Star H0 H L) (i:Nat) {c:Nat} {pre:List Value} {o:Option Nat} {m:Nat} {l:List α} (hi:L[i]? = some (itBox c pre o m enc l)) :
  o ≠ some c ∧ ∃ s,H.get c = some ⟨pre ++ [s],1,false⟩ ∧ OwnO H o m s enc l:=h.at i hi
theorem Star.setBlk {H0 H:Heap} {L:List It} (h:Star H0 H L) (i:Nat) {c:Nat} {k:Blk} (hi:L[i]? = some (itBlk c k)) (k':Blk):Star H0 (H.set c (some k')) (L.set i (itBlk c k')) :=
 h.step i hi (by simp) (fun d _ hd => get_set_ne _ _ _ _ fun e => hd (List.mem_singleton.2 e)) _ (by
  show (H.set c (some k')).get c = some k';rw [get_set_eq];rw [h.get i hi]; rfl) fun b hb => .inl hb
theorem Star.setRow {H0 H:Heap} {L:List It} (h:Star H0 H L) (i:Nat) {b m:Nat} {s:Value} {l:List α} (hi:L[i]? = some (itRow (some b) m s enc l)) (l':List α) (hl:l'.length = l.length) :
  Star H0 (H.set b (some ⟨rows enc l',m,false⟩)) (L.set i (itRow (some b) m s enc l')):=by
 have hr:=h.row i hi;rcases hr with ⟨h0,_⟩ | ⟨b',h0,h1,h2⟩
 ·cases h0
 ·injection h0 with h0;subst h0;refine h.step i hi (by simp) (fun d _ hd => get_set_ne _ _ _ _ fun e => hd (show d ∈ [b] from List.mem_singleton.2 e)) _ ?_ fun b hb => .inl hb;exact .inr ⟨b,rfl,by rw [hl]; exact h1,by rw [get_set_eq]; rw [h2]; rfl⟩
theorem Star.setBox {H0 H:Heap} {L:List It} (h:Star H0 H L) (i:Nat) {c b m:Nat} {pre:List Value} {l:List α} (hi:L[i]? = some (itBox c pre (some b) m enc l)) (l':List α) (hl:l'.length = l.length) :
  Star H0 (H.set b (some ⟨rows enc l',m,false⟩)) (L.set i (itBox c pre (some b) m enc l')):=by
 obtain ⟨hne,s,h1,h2⟩:=h.box i hi;rcases h2 with ⟨h0,_⟩ | ⟨b',h0,h2,h3⟩
 ·cases h0
 ·injection h0 with h0;subst h0;refine h.step i hi (by simp) (fun d _ hd => get_set_ne _ _ _ _ fun e => hd (show d ∈ [c,b] from by rw [e]; simp)) _ ?_ fun b hb => .inl hb;refine ⟨hne,s,by rw [get_set_ne _ _ _ _ fun e => hne (by rw [e])]; exact h1,.inr ⟨b,rfl,by rw [hl]; exact h2,by rw [get_set_eq]; rw [h3]; rfl⟩⟩
theorem Star.appendRow {H0 H:Heap} {L:List It} (h:Star H0 H L) (i j:Nat) {o o2:Option Nat} {m bytes:Nat} {s s2:Value} {l l2:List α} (he:∀ x,(enc x).length = m) (hi:L[i]? = some (itRow o m s enc l)) (hj:L[j]? = some (itRow o2 m s2 enc l2))
  (h31:l.length + l2.length ≤ 2 ^ 31) (hby:bytes ≤ 2 ^ 10):∃ s' o' H',apR m bytes s s2 H = .ok s' H' ∧ Star H0 H' (L.set i (itRow o' m s' enc (l ++ l2))) :=
 h.append i he hi (h.row j hj).own0.lenV ((h.row j hj).own0.first he) h31 hby
theorem Star.fzRow {H0 H:Heap} {L:List It} (h:Star H0 H L) (i:Nat) {o:Option Nat} {m:Nat} {s:Value} {l:List α} (he:∀ x,(enc x).length = m) (hi:L[i]? = some (itRow o m s enc l)) (hs:∀ x,x ∈ l → ∀ v,v ∈ enc x → Still v) (d:Nat) :
  ∃ M,fzV H0.n H (d + 2) s = some (lv enc l,M):=(h.own i hi).freeze he hs d
end
theorem fz_tuple {n0:Nat} {H:Heap} {d:Nat} {l r:List Value} {L:List Nat} (h:mapF (fzV n0 H d) l = some (r,L)):fzV n0 H (d + 1) (.tuple l.toArray) = some (.tuple r.toArray,L):=by simp [fzV,h]
theorem mapF_nil {f:Value → Option (Value × List Nat)}:mapF f [] = some ([],[]):=rfl
end Go.Sw
end
section
namespace Go.Sw
open Go.RowKit
end Go.Sw
end
section
namespace Go.Sw
open Go.RowKit
end Go.Sw
end
section
namespace Go.Sw
open Go.RowKit
theorem OwnO.full {α:Type} {enc:α → List Value} {H:Heap} {o:Option Nat} {m:Nat} {s:Value} {l:List α} (h:OwnO H o m s enc l) (hl:l ≠ []):∃ b,o = some b ∧ s = .slice (some ⟨b,0,none⟩) l.length l.length ∧ H.get b = some ⟨rows enc l,m,false⟩:=by
 rcases h with ⟨_,h,_⟩ | ⟨b,h0,h1,h2⟩
 ·exact absurd h hl
 ·exact ⟨b,h0,h1,h2⟩
theorem OwnO.base {α:Type} {enc:α → List Value} {H:Heap} {o:Option Nat} {m:Nat} {s:Value} {l:List α} (h:OwnO H o m s enc l):∃ a c,s = .slice a l.length c:=by
 rcases h with ⟨_,rfl,rfl | rfl | rfl⟩ | ⟨b,_,rfl,_⟩ <;> exact ⟨_,_,rfl⟩
theorem Star.insertRow {α:Type} {enc:α → List Value} {H0 H:Heap} {L:List It} (h:Star H0 H L) (i j:Nat) {o o2:Option Nat} {m bytes:Nat} {s s2:Value} {l l2:List α} (he:∀ x,(enc x).length = m) (hij:i ≠ j) (hi:L[i]? = some (itRow o m s enc l)) (hj:L[j]? = some (itRow o2 m s2 enc l2))
  {p:Nat} (hp:p ≤ l.length) (h31:l.length + l2.length ≤ 2 ^ 31) (hby:bytes ≤ 2 ^ 10) :
  ∃ s' o' H',insertV m bytes [s,.int .i64 (p:Nat),s2] H = .ok s' H' ∧ Star H0 H' (L.set i (itRow o' m s' enc (l.take p ++ (l2 ++ l.drop p)))):=by
 have hs:=h.row i hi;have hs2:=h.row j hj;obtain ⟨a,c,e1⟩:=hs.base;subst e1;have hl2:=hs2.lenL;have same:L.set i (itRow o m (.slice a l.length c) enc l) = L:=by
  obtain ⟨hlt,hx⟩:=List.getElem?_eq_some_iff.1 hi;rw [← hx,List.set_getElem_self]
 by_cases h0:l2 = []
 ·subst h0;refine ⟨_,o,H,?_,by rw [List.nil_append,List.take_append_drop,same]; exact h⟩;unfold insertV;dsimp only;rw [hl2];dsimp only [List.length_nil];rw [if_pos ⟨by omega,by omega⟩]
 ·obtain ⟨q,hq⟩:∃ q,l2.length = q + 1:=⟨l2.length - 1,by have:=List.length_pos_iff.2 h0; omega⟩
  by_cases h1:p = l.length
  ·subst h1;obtain ⟨s',o',H',e2,g⟩:=h.appendRow (bytes:=bytes) i j he hi hj h31 hby;refine ⟨s',o',H',?_,by rw [List.take_length,List.drop_length,List.append_nil]; exact g⟩;unfold insertV;dsimp only;rw [hl2,hq];dsimp only;rw [if_pos rfl];exact e2
  ·have hne:l ≠ []:=fun e => by subst e; simp at hp h1; exact h1 hp
   obtain ⟨b,rfl,e3,hb⟩:=hs.full hne;obtain ⟨b2,rfl,rfl,hb2⟩:=hs2.full h0;have hbb:b2 ≠ b:=fun e => by
    subst e;exact h.ne i j hij hi hj (b:=b2) (by simp [itRow]) (by simp [itRow])
   injection e3 with ea _ ec;subst ea ec;have r1:=rows_length he l;have r2:=rows_length he l2;have hbn:=Heap.get_lt hb;refine ⟨.slice (some ⟨H.n,0,none⟩) (l.length + l2.length) (l.length + l2.length),some H.n,(H.set b none).push ⟨rows enc (l.take p ++ (l2 ++ l.drop p)),m,false⟩,?_,?_⟩
   ·unfold insertV;dsimp only;rw [hl2,hq];dsimp only;rw [if_neg (by omega),hb,hb2];dsimp only;rw [← hq];rw [if_pos ⟨by omega,by omega,Nat.le_refl _,h31,hby,rfl,rfl,by rw [r1]; omega,hbb,rfl,by rw [r2]; omega⟩];congr 2;have t1:((rows enc l).drop 0).take (l.length * m) = rows enc l:=by rw [List.drop_zero,List.take_of_length_le (by rw [r1]; exact Nat.le_refl _)]
    have t2:((rows enc l2).drop 0).take (l2.length * m) = rows enc l2:=by rw [List.drop_zero,List.take_of_length_le (by rw [r2]; exact Nat.le_refl _)]
    rw [Int.toNat_natCast,t1,t2,rows_append,rows_append,rows_take he];have:(rows enc l).drop (p * m) = rows enc (l.drop p):=by
     have e:rows enc l = rows enc (l.take p) ++ rows enc (l.drop p):=by rw [← rows_append,List.take_append_drop]
     rw [e,List.drop_append_of_le_length (by rw [rows_length he]; simp; rw [Nat.min_eq_left hp]; exact Nat.le_refl _),List.drop_of_length_le (by rw [rows_length he]; simp; rw [Nat.min_eq_left hp]; exact Nat.le_refl _),List.nil_append]
    rw [this]
   ·refine h.step i hi (by simp) (fun c hc hs => ?_) _ (.inr ⟨H.n,rfl,?_,get_push_eq _ _ _ (by simp)⟩) fun c hc => .inr ?_
    ·rw [get_push_lt _ _ _ (by simpa using hc),get_set_ne];intro e;subst e;exact hs (by simp [itRow])
    ·simp; omega
    ·have hc:=List.mem_singleton.1 hc;simp;omega
end Go.Sw
end
section
namespace Go.Sw
open Go.RowKit
end Go.Sw
end
