/-
  Functions' forms, and what is proved of them, part 2.
-/
import Derived.Test.YtanfippcmdialaaGreatSwW1
import Derived.Test.YtanfippcmdialaaGreatSwLib9
import Derived.Test.YtanfippcmdialaaGreatSwCfg
set_option linter.unusedSimpArgs false
set_option linter.unusedVariables false
set_option linter.unusedSectionVars false
section
namespace Go.Sw
open Go.RowKit
theorem mapO_len {α β:Type} {f:α → Option β}:∀ {l:List α} {r:List β},mapO f l = some r → r.length = l.length
 | [],r,h => by injection h with h; subst h; rfl
 | x :: l,r,h => by
  simp only [mapO] at h;obtain ⟨y,_,h⟩:=Option.bind_eq_some_iff.1 h;obtain ⟨r',h1,rfl⟩:=Option.map_eq_some_iff.1 h;simp [mapO_len h1]
theorem mapO_get {α β:Type} {f:α → Option β}:∀ {l:List α} {r:List β} {i:Nat} {y:β},mapO f l = some r → r[i]? = some y → ∃ x,l[i]? = some x ∧ f x = some y
 | [],r,i,y,h,hy => by injection h with h; subst h; simp at hy
 | x :: l,r,i,y,h,hy => by
  simp only [mapO] at h;obtain ⟨z,h0,h⟩:=Option.bind_eq_some_iff.1 h;obtain ⟨r',h1,rfl⟩:=Option.map_eq_some_iff.1 h;cases i with
  | zero => simp at hy; subst hy; exact ⟨x,by simp,h0⟩
  | succ i => simp at hy; simpa using mapO_get h1 hy
structure Pt where
 first:Int
 last:Int
 vals:List Int
def listS (b:List Int) (i n z:Int):Option (List Int):=(rowsS b i n z).map fun r => (cutRows r z.toNat n.toNat).map num
def trimS (b:List Int) (i z:Int):Option (List Pt) :=
 (uS b i 2).bind fun f => (uS b (i + 2) 2).bind fun n =>
  if f + n ≤ 65536 then (listS b (i + 4) n z).map fun vs => if n = 0 then [] else [⟨f,f + n - 1,vs⟩] else none
def segP (b:List Int) (z:Int) (each:Bool) (row:List Int):Option Pt :=
 (uS row 2 2).bind fun f => (uS row 0 2).bind fun l =>
  if f ≤ l then (if each then (uS row 4 2).bind fun i => (listS b i (l - f + 1) z).map fun vs => ⟨f,l,vs⟩ else (uS row 4 z).map fun x => ⟨f,l,[x]⟩) else none
def segS (b:List Int) (z:Int) (each:Bool):Option (List Pt) :=
 (takeS b 2 (if each then 6 else 4 + z) 2).bind (mapO (segP b z each))
def oneP (z:Int) (row:List Int):Option Pt:=(uS row 0 2).bind fun i => (uS row 2 z).map fun x => ⟨i,i,[x]⟩
def oneS (b:List Int) (z:Int):Option (List Pt):=(takeS b 2 (2 + z) 1).bind (mapO (oneP z))
def risesS:List Pt → Bool
 | [] => true
 | [_] => true
 | p :: q :: l => decide (p.last < q.first) && risesS (q :: l)
def partsS (b:List Int) (glyphs z fmt:Int):Option (List Pt) :=
 if fmt = 0 then (listS b 2 glyphs z).map fun vs => [⟨0,glyphs - 1,vs⟩] else
 if fmt = 2 then segS b z false else
 if fmt = 4 then segS b z true else
 if fmt = 6 then oneS b z else
 if fmt = 8 then trimS b 2 z else
 if fmt = 10 then (uS b 2 2).bind fun u => if u = 1 ∨ u = 2 ∨ u = 4 then trimS b 4 u else none
 else none
def lookS (b:List Int) (glyphs z:Int):Option (Int × List Pt) :=
 (uS b 0 2).bind fun fmt => (partsS b glyphs z fmt).bind fun ps => if risesS ps then some (fmt,ps) else none
def Pt.num (p:Pt) (id:Int):Option Int:=p.vals[(min (id - p.first) ((p.vals.length:Int) - 1)).toNat]?
def getS (ps:List Pt) (id:Int):Option Int:=(ps.find? fun p => decide (id ≤ p.last)).bind fun p => if p.first ≤ id then p.num id else none
def mostS (ps:List Pt):Int:=ps.foldl (fun m p => p.vals.foldl max m) (-1)
theorem ζg4 {α:Type} (q:α → Bool):∀ (l:List α) (i:Nat),IsFirst l.length (fun j => (l[j]?).elim false q) i → l.find? q = l[i]?
 | [],i,h => by simp
 | x :: l,0,h => by
  have:=h.2.2 0 (Nat.le_refl _) (by simp);simp at this;simp [this]
 | x :: l,i + 1,h => by
  have h0:=h.2.1 0 (by omega);simp at h0;rw [List.find?_cons,h0];simp only [List.getElem?_cons_succ];exact ζg4 q l i ⟨by simpa using h.1,fun j hj => by simpa using h.2.1 (j + 1) (by omega),fun j h1 h2 => by simpa using h.2.2 (j + 1) (by omega) (by simpa using h2)⟩
def Pt.ok (p:Pt):Prop:=0 ≤ p.first ∧ p.first ≤ p.last ∧ p.last < 65536 ∧ p.vals ≠ [] ∧ (p.vals.length:Int) ≤ 65536 ∧ ∀ x,x ∈ p.vals → 0 ≤ x ∧ x < 4294967296
theorem num_lt4 {l:List Int} (h:Byt l) (hl:l.length ≤ 4):0 ≤ num l ∧ num l < 4294967296:=by
 have:=ζf2 l h;have h4:l.length = 0 ∨ l.length = 1 ∨ l.length = 2 ∨ l.length = 3 ∨ l.length = 4:=by omega
 rcases h4 with e | e | e | e | e <;> rw [e] at this <;> omega
theorem ζ8d {r:List Int} (hb:Byt r) (z n:Nat) {l:List Int} (h:l ∈ cutRows r z n):Byt l ∧ l.length ≤ z:=by
 obtain ⟨i,_,rfl⟩:=List.mem_map.1 h;exact ⟨fun x hx => hb x (List.mem_of_mem_drop (List.mem_of_mem_take hx)),by simp; omega⟩
theorem rowsS_n {b:List Int} {i n z:Int} {r:List Int} (h:rowsS b i n z = some r):0 ≤ n ∧ 0 ≤ z ∧ 0 ≤ i ∧ i ≤ b.length ∧ n * z ≤ b.length - i ∧ r = (b.drop i.toNat).take (n * z).toNat:=by
 unfold rowsS at h;split at h
 ·rename_i hc;unfold pieceS at h;split at h
  ·rename_i hd;injection h with h;exact ⟨hc.1,hc.2.1,hd.1,hd.2.2.1,hd.2.2.2,h.symm⟩
  ·cases h
 ·cases h
theorem ζcd {b:List Int} (hb:Byt b) {i n z:Int} {vs:List Int} (hz:z ≤ 4) (h:listS b i n z = some vs):0 ≤ n ∧ (vs.length:Int) = n ∧ ∀ x,x ∈ vs → 0 ≤ x ∧ x < 4294967296:=by
 unfold listS at h;obtain ⟨r,hr,rfl⟩:=Option.map_eq_some_iff.1 h;have h1:=rowsS_n hr;have h2:=(hb.piece (ζ20 hr)).1;refine ⟨h1.1,by simp; omega,fun x hx => ?_⟩;obtain ⟨l,hl,rfl⟩:=List.mem_map.1 hx;obtain ⟨h3,h4⟩:=ζ8d h2 _ _ hl;exact num_lt4 h3 (by omega)
theorem ζ47 {b:List Int} (hb:Byt b) {i need:Int} {keys:Nat} {rows:List (List Int)} (h:takeS b i need keys = some rows):∃ z n:Int,uS b i 2 = some z ∧ uS b (i + 2) 2 = some n ∧ need ≤ z ∧ (rows.length:Int) ≤ n ∧ ∀ row,row ∈ rows → Byt row ∧ (row.length:Int) = z:=by
 unfold takeS at h;split at h
 ·rename_i z n h1 h2;split at h
  ·rename_i hc;obtain ⟨r,hr,rfl⟩:=Option.map_eq_some_iff.1 h;have hn:=rowsS_n hr;have hrb:=(hb.piece (ζ20 hr)).1;have hrl:(r.length:Int) = n * z:=ζ2x (ζ20 hr);refine ⟨z,n,h1,h2,hc.2,?_,fun row hrow => ?_⟩
   ·unfold endRows;split <;> simp <;> omega
   ·have hm:row ∈ cutRows r z.toNat n.toNat:=by
     unfold endRows at hrow;split at hrow
     ·obtain ⟨i,hi,rfl⟩:=List.mem_map.1 hrow;exact List.mem_map.2 ⟨i,List.mem_range.2 (by have:=List.mem_range.1 hi; omega),rfl⟩
     ·exact hrow
    refine ⟨(ζ8d hrb _ _ hm).1,?_⟩;obtain ⟨j,hj,rfl⟩:=List.mem_map.1 hm;have hj:=List.mem_range.1 hj;obtain ⟨z',rfl⟩:=Int.eq_ofNat_of_zero_le hn.2.1;obtain ⟨n',rfl⟩:=Int.eq_ofNat_of_zero_le hn.1;have hrl:r.length = n' * z':=by exact_mod_cast hrl
    simp only [Int.toNat_natCast] at hj ⊢;have:z' * j + z' ≤ r.length:=by
     rw [hrl,← Nat.mul_succ,Nat.mul_comm];exact Nat.mul_le_mul_right _ hj
    simp; omega
  ·cases h
 ·cases h
theorem trimS_ok {b:List Int} (hb:Byt b) {i z:Int} (hz:z ≤ 4) {ps:List Pt} (h:trimS b i z = some ps):∀ p,p ∈ ps → p.ok:=by
 unfold trimS at h;obtain ⟨f,hf,h⟩:=Option.bind_eq_some_iff.1 h;obtain ⟨n,hn,h⟩:=Option.bind_eq_some_iff.1 h;split at h
 ·rename_i hc;obtain ⟨vs,hv,rfl⟩:=Option.map_eq_some_iff.1 h;have hs:=ζcd hb hz hv;have hf:=uS_two hb hf;have hn:=uS_two hb hn;intro p hp;split at hp
  ·simp at hp
  ·simp at hp;subst hp;exact ⟨by simp; omega,by simp; omega,by simp; omega,fun e => by simp at e; simp [e] at hs; omega,by simp; omega,hs.2.2⟩
 ·cases h
theorem segP_ok {b row:List Int} (hb:Byt b) (hr:Byt row) {z:Int} (hz:z = 2 ∨ z = 4) {each:Bool} {p:Pt} (h:segP b z each row = some p):p.ok:=by
 unfold segP at h;obtain ⟨f,hf,h⟩:=Option.bind_eq_some_iff.1 h;obtain ⟨l,hl,h⟩:=Option.bind_eq_some_iff.1 h;have hf:=uS_two hr hf;have hl:=uS_two hr hl;split at h
 ·split at h
  ·obtain ⟨i,hi,h⟩:=Option.bind_eq_some_iff.1 h;obtain ⟨vs,hv,rfl⟩:=Option.map_eq_some_iff.1 h;have hs:=ζcd hb (by omega) hv;exact ⟨by simp; omega,by simpa,by simp; omega,fun e => by simp at e; simp [e] at hs; omega,by simp; omega,hs.2.2⟩
  ·obtain ⟨x,hx,rfl⟩:=Option.map_eq_some_iff.1 h;refine ⟨by simp; omega,by simpa,by simp; omega,by simp,by simp,fun y hy => ?_⟩;simp at hy;subst hy;rcases hz with rfl | rfl
   ·have:=uS_two hr hx; omega
   ·have:=uS_four hr hx; omega
 ·cases h
theorem oneP_ok {row:List Int} (hr:Byt row) {z:Int} (hz:z = 2 ∨ z = 4) {p:Pt} (h:oneP z row = some p):p.ok:=by
 unfold oneP at h;obtain ⟨i,hi,h⟩:=Option.bind_eq_some_iff.1 h;obtain ⟨x,hx,rfl⟩:=Option.map_eq_some_iff.1 h;have hi:=uS_two hr hi;refine ⟨by simp; omega,by simp,by simp; omega,by simp,by simp,fun y hy => ?_⟩;simp at hy;subst hy;rcases hz with rfl | rfl
 ·have:=uS_two hr hx; omega
 ·have:=uS_four hr hx; omega
theorem mapO_all {α β:Type} {f:α → Option β} {l:List α} {r:List β} (h:mapO f l = some r) {P:β → Prop} (hp:∀ x y,x ∈ l → f x = some y → P y):∀ y,y ∈ r → P y:=by
 intro y hy;obtain ⟨i,hi⟩:=List.mem_iff_getElem?.1 hy;obtain ⟨x,hx,hf⟩:=mapO_get h hi;exact hp x y (List.mem_of_getElem? hx) hf
theorem ζn0 {b:List Int} (hb:Byt b) {glyphs z fmt:Int} (hg:1 ≤ glyphs) (hg2:glyphs ≤ 65535) (hz:z = 2 ∨ z = 4) {ps:List Pt} (h:partsS b glyphs z fmt = some ps):∀ p,p ∈ ps → p.ok:=by
 unfold partsS at h;split at h
 ·obtain ⟨vs,hv,rfl⟩:=Option.map_eq_some_iff.1 h;have hs:=ζcd hb (by omega) hv;intro p hp;simp at hp;subst hp;exact ⟨by simp,by simp; omega,by simp; omega,fun e => by simp at e; simp [e] at hs; omega,by simp; omega,hs.2.2⟩
 split at h
 ·obtain ⟨rows,h1,h2⟩:=Option.bind_eq_some_iff.1 h;obtain ⟨_,_,_,_,_,_,hr⟩:=ζ47 hb h1;exact mapO_all h2 fun x y hx hy => segP_ok hb (hr x hx).1 hz hy
 split at h
 ·obtain ⟨rows,h1,h2⟩:=Option.bind_eq_some_iff.1 h;obtain ⟨_,_,_,_,_,_,hr⟩:=ζ47 hb h1;exact mapO_all h2 fun x y hx hy => segP_ok hb (hr x hx).1 hz hy
 split at h
 ·obtain ⟨rows,h1,h2⟩:=Option.bind_eq_some_iff.1 h;obtain ⟨_,_,_,_,_,_,hr⟩:=ζ47 hb h1;exact mapO_all h2 fun x y hx hy => oneP_ok (hr x hx).1 hz hy
 split at h
 ·exact trimS_ok hb (by omega) h
 split at h
 ·obtain ⟨u,_,h⟩:=Option.bind_eq_some_iff.1 h;split at h
  ·exact trimS_ok hb (by omega) h
  ·cases h
 ·cases h
theorem lookS_ok {b:List Int} (hb:Byt b) {glyphs z fmt:Int} (hg:1 ≤ glyphs) (hg2:glyphs ≤ 65535) (hz:z = 2 ∨ z = 4) {ps:List Pt} (h:lookS b glyphs z = some (fmt,ps)):uS b 0 2 = some fmt ∧ (∀ p,p ∈ ps → p.ok) ∧ risesS ps = true:=by
 unfold lookS at h;obtain ⟨f,hf,h⟩:=Option.bind_eq_some_iff.1 h;obtain ⟨qs,hq,h⟩:=Option.bind_eq_some_iff.1 h;split at h
 ·rename_i hr;injection h with h; injection h with h1 h2;subst h1 h2;exact ⟨hf,ζn0 hb hg hg2 hz hq,hr⟩
 ·cases h
theorem segS_len {b:List Int} (hb:Byt b) {z:Int} {each:Bool} {ps:List Pt} (h:segS b z each = some ps):ps.length < 65536:=by
 obtain ⟨rows,h1,h2⟩:=Option.bind_eq_some_iff.1 h;obtain ⟨_,n,_,hn,_,hlen,_⟩:=ζ47 hb h1;have:=uS_two hb hn;have:=mapO_len h2;omega
theorem oneS_len {b:List Int} (hb:Byt b) {z:Int} {ps:List Pt} (h:oneS b z = some ps):ps.length < 65536:=by
 obtain ⟨rows,h1,h2⟩:=Option.bind_eq_some_iff.1 h;obtain ⟨_,n,_,hn,_,hlen,_⟩:=ζ47 hb h1;have:=uS_two hb hn;have:=mapO_len h2;omega
theorem ζix {b:List Int} {i z:Int} {ps:List Pt} (h:trimS b i z = some ps):ps.length < 65536:=by
 obtain ⟨f,_,h⟩:=Option.bind_eq_some_iff.1 h;obtain ⟨n,_,h⟩:=Option.bind_eq_some_iff.1 h;split at h
 ·obtain ⟨vs,_,rfl⟩:=Option.map_eq_some_iff.1 h;split <;> simp
 ·cases h
theorem ζf0 {b:List Int} (hb:Byt b) {g z:Int} {x:Int × List Pt} (h:lookS b g z = some x):x.2.length < 2 ^ 31:=by
 unfold lookS at h;obtain ⟨f,_,h⟩:=Option.bind_eq_some_iff.1 h;obtain ⟨ps,h1,h⟩:=Option.bind_eq_some_iff.1 h;split at h
 ·injection h with h;subst h;dsimp only;unfold partsS at h1;split at h1
  ·obtain ⟨vs,_,rfl⟩:=Option.map_eq_some_iff.1 h1;simp
  split at h1
  ·have:=segS_len hb h1; omega
  split at h1
  ·have:=segS_len hb h1; omega
  split at h1
  ·have:=oneS_len hb h1; omega
  split at h1
  ·have:=ζix h1; omega
  split at h1
  ·obtain ⟨u,_,h1⟩:=Option.bind_eq_some_iff.1 h1;split at h1
   ·have:=ζix h1; omega
   ·cases h1
  ·cases h1
 ·cases h
theorem ζcm:∀ {ps:List Pt},risesS ps = true → (∀ p,p ∈ ps → p.ok) → ∀ (i j:Nat) (p q:Pt),i < j → ps[i]? = some p → ps[j]? = some q → p.last < q.first
 | [],_,_,i,j,p,q,_,hp,_ => by simp at hp
 | [_],_,_,i,j,p,q,hij,hp,hq => by
  have h1:=(List.getElem?_eq_some_iff.1 hq).1;simp at h1;omega
 | a :: b :: l,h,hok,i,j,p,q,hij,hp,hq => by
  simp only [risesS,Bool.and_eq_true,decide_eq_true_eq] at h;obtain ⟨j,rfl⟩:∃ j',j = j' + 1:=⟨j - 1,by omega⟩
  have hq:(b :: l)[j]? = some q:=by simpa using hq
  have hok':∀ p,p ∈ b :: l → p.ok:=fun p hp => hok p (by simp at hp ⊢; exact .inr hp);cases i with
  | succ i => exact ζcm h.2 hok' i j p q (by omega) (by simpa using hp) hq
  | zero =>
   simp at hp;subst hp;cases j with
   | zero => simp at hq; subst hq; exact h.1
   | succ j =>
    have h1:=ζcm h.2 hok' 0 (j + 1) b q (by omega) (by simp) hq;have h2:=hok b (by simp);have:=h2.2.1;omega
theorem ζkv {ps:List Pt} (id:Int) (i:Nat) (h:IsFirst ps.length (fun j => (ps[j]?).elim false fun p => decide (id ≤ p.last)) i):getS ps id = (ps[i]?).bind fun p => if p.first ≤ id then p.num id else none:=by
 unfold getS;rw [ζg4 _ ps i h]
theorem Pt.num_some {p:Pt} (h:p.ok) {id:Int} (hf:p.first ≤ id):∃ x,p.num id = some x ∧ 0 ≤ x ∧ x < 4294967296:=by
 obtain ⟨h1,h2,h3,h4,h5,h6⟩:=h;have hl:0 < p.vals.length:=List.length_pos_iff.2 h4;unfold Pt.num;have hi:(min (id - p.first) ((p.vals.length:Int) - 1)).toNat < p.vals.length:=by omega
 exact ⟨p.vals[(min (id - p.first) ((p.vals.length:Int) - 1)).toNat],List.getElem?_eq_getElem hi,h6 _ (List.getElem_mem _)⟩
end Go.Sw
end
section
namespace Go.Sw
open Go.RowKit
theorem ζ2w {b:List Int} {i n:Int} {r:List Int}:pieceS b i n = some r ↔ (0 ≤ i ∧ 0 ≤ n ∧ i ≤ b.length ∧ n ≤ b.length - i) ∧ r = (b.drop i.toNat).take n.toNat:=by
 unfold pieceS;split
 ·rename_i h;constructor
  ·intro e; injection e with e; exact ⟨h,e.symm⟩
  ·rintro ⟨_,rfl⟩; rfl
 ·rename_i h;constructor
  ·intro e; cases e
  ·rintro ⟨h',_⟩; exact absurd h' h
theorem uS_sub {b r:List Int} {p z:Int} (h:pieceS b p z = some r) {x y:Int} (hx:0 ≤ x) (hy:0 ≤ y) (hxy:x + y ≤ z):uS r x y = uS b (p + x) y:=by
 obtain ⟨⟨h1,h2,h3,h4⟩,rfl⟩:=ζ2w.1 h;have hl:((b.drop p.toNat).take z.toNat).length = z.toNat:=by simp; omega
 unfold uS;rw [ζ2w.2 ⟨by rw [hl]; omega,rfl⟩,ζ2w.2 ⟨by omega,rfl⟩,List.drop_take,List.take_take,List.drop_drop];rw [show min y.toNat (z.toNat - x.toNat) = y.toNat by omega,show p.toNat + x.toNat = (p + x).toNat by omega]
theorem ζa0 {b:List Int} {i n z:Int} {r:List Int} (hz:0 < z):rowsS b i n z = some r ↔ (0 ≤ i ∧ 0 ≤ n ∧ i ≤ b.length ∧ n * z ≤ b.length - i) ∧ r = (b.drop i.toNat).take (n * z).toNat:=by
 unfold rowsS;have k:n ≤ (b.length:Int) / z ↔ n * z ≤ b.length:=Int.le_ediv_iff_mul_le hz;split
 ·rename_i h;rw [ζ2w];constructor
  ·rintro ⟨h1,h2⟩; exact ⟨⟨h1.1,h.1,h1.2.2.1,h1.2.2.2⟩,h2⟩
  ·rintro ⟨h1,h2⟩; exact ⟨⟨h1.1,Int.mul_nonneg h.1 (by omega),h1.2.2.1,h1.2.2.2⟩,h2⟩
 ·rename_i h;constructor
  ·intro e; cases e
  ·rintro ⟨h1,_⟩;exact absurd ⟨h1.2.1,by omega,.inr (k.2 (by omega))⟩ h
theorem ζiq {s i n z:Int} (hz:0 < z):rowsB s i n z = true ↔ 0 ≤ i ∧ 0 ≤ n ∧ i ≤ s ∧ n * z ≤ s - i:=by
 unfold rowsB;have k:n ≤ (s - i) / z ↔ n * z ≤ s - i:=Int.le_ediv_iff_mul_le hz;rw [decide_eq_true_eq,k];constructor
 ·rintro ⟨h1,h2,h3,h4,h5⟩; exact ⟨h1,h2,h4,by rcases h5 with h5 | h5 <;> omega⟩
 ·rintro ⟨h1,h2,h3,h4⟩; exact ⟨h1,h2,by omega,h3,.inr h4⟩
theorem ζhj {b:List Int} {i n z:Int} (hz:0 < z):(listS b i n z).isSome = rowsB b.length i n z:=by
 rw [Bool.eq_iff_iff,ζiq hz,listS,Option.isSome_map,Option.isSome_iff_exists];constructor
 ·rintro ⟨r,hr⟩; exact ((ζa0 hz).1 hr).1
 ·intro h; exact ⟨_,(ζa0 hz).2 ⟨h,rfl⟩⟩
theorem ζmt {b:List Int} {i n z:Int} {vs:List Int} (hz:0 < z) (h:listS b i n z = some vs) (j:Nat) (hj:(j:Int) < n):vs[j]? = uS b (i + j * z) z:=by
 unfold listS at h;obtain ⟨r,hr,rfl⟩:=Option.map_eq_some_iff.1 h;obtain ⟨⟨h1,h2,h3,h4⟩,rfl⟩:=(ζa0 hz).1 hr;obtain ⟨i,rfl⟩:=Int.eq_ofNat_of_zero_le h1;obtain ⟨n,rfl⟩:=Int.eq_ofNat_of_zero_le h2;obtain ⟨z,rfl⟩:=Int.eq_ofNat_of_zero_le (Int.le_of_lt hz);have hj':j < n:=by omega
 have e:j * z + z ≤ n * z:=by
  rw [← Nat.succ_mul]; exact Nat.mul_le_mul_right _ hj'
 have h4':n * z ≤ b.length - i:=by omega
 simp only [Int.toNat_natCast];rw [List.getElem?_map,ζ5d _ _ _ _ hj',Option.map_some];unfold uS;rw [ζ2w.2 ⟨⟨by omega,by omega,by
  have:((j * z:Nat):Int) = (j:Int) * z:=by simp
  omega,by
  have:((j * z:Nat):Int) = (j:Int) * z:=by simp
  omega⟩,rfl⟩,Option.map_some]
 congr 2;rw [show ((n:Int) * z).toNat = n * z by rw [← Int.natCast_mul,Int.toNat_natCast],show ((i:Int) + j * z).toNat = i + j * z by rw [← Int.natCast_mul,← Int.natCast_add,Int.toNat_natCast],Int.toNat_natCast];rw [List.drop_take,List.take_take,List.drop_drop,Nat.mul_comm z j];rw [show min z (n * z - j * z) = z by omega]
def gU (b:List Int) (i n:Int):Int:=(uS b i n).getD (-1)
theorem gU_two {b:List Int} (hb:Byt b) (i:Int):-1 ≤ gU b i 2 ∧ gU b i 2 < 65536:=by
 unfold gU;cases h:uS b i 2 with
 | none => simp
 | some x => have:=uS_two hb h; simp; omega
structure RP where
 first:Int
 last:Int
 pos:Int
 size:Int
 step:Int
theorem gU_some {b:List Int} {i n x:Int} (h:uS b i n = some x):gU b i n = x:=by unfold gU; rw [h]; rfl
theorem row_two {b row:List Int} {p z:Int} (h:pieceS b p z = some row) {x:Int} (hx:0 ≤ x) {y:Int} (hy:0 ≤ y) (hxy:x + y ≤ z):uS row x y = uS b (p + x) y ∧ ∃ n,uS b (p + x) y = some n:=by
 refine ⟨uS_sub h hx hy hxy,?_⟩;obtain ⟨⟨h1,h2,h3,h4⟩,_⟩:=ζ2w.1 h;unfold uS;rw [ζ2w.2 ⟨by omega,rfl⟩];exact ⟨_,rfl⟩
end Go.Sw
end
section
namespace Go.Sw
open Go.RowKit
def bytesOf (n:Int):Nat → List Int
 | 0 => []
 | k + 1 => (n / 256 ^ k) % 256 :: bytesOf n k
@[simp] theorem ζo (n:Int):∀ k,(bytesOf n k).length = k
 | 0 => rfl
 | k + 1 => by simp [bytesOf,ζo n k]
theorem ζ1o (n:Int):∀ k,Byt (bytesOf n k)
 | 0 => fun x hx => by simp [bytesOf] at hx
 | k + 1 => fun x hx => by
  simp only [bytesOf,List.mem_cons] at hx;rcases hx with rfl | hx
  ·omega
  ·exact ζ1o n k x hx
theorem num_cons (x:Int) (l:List Int):num (x :: l) = x * 256 ^ l.length + num l:=by
 have h:∀ (l:List Int) (a:Int),l.foldl (fun x y => 256 * x + y) a = a * 256 ^ l.length + l.foldl (fun x y => 256 * x + y) 0:=by
  intro l
  induction l with
  | nil => intro a; simp
  | cons y l ih =>
   intro a;simp only [List.foldl_cons,List.length_cons];rw [ih,ih (256 * 0 + y),Int.pow_succ];simp only [Int.mul_zero,Int.zero_add,Int.add_mul];rw [Int.mul_comm 256 a,Int.mul_assoc a 256,Int.mul_comm 256 (256 ^ l.length)];omega
 unfold num;rw [List.foldl_cons,h];simp
theorem num_mod (n:Int):∀ k,num (bytesOf n k) = n % 256 ^ k
 | 0 => by simp [bytesOf,num,Int.emod_one]
 | k + 1 => by
  rw [bytesOf,num_cons,num_mod n k,ζo,Int.pow_succ];have h1:=Int.emod_add_mul_ediv n (256 ^ k);have h2:=Int.emod_add_mul_ediv (n / 256 ^ k) 256;have hp:(0:Int) < 256 ^ k:=Int.pow_pos (by decide);have h3:n % (256 ^ k * 256) = n - 256 ^ k * 256 * (n / (256 ^ k * 256)):=by
   have:=Int.emod_add_mul_ediv n (256 ^ k * 256);omega
  rw [h3,← Int.ediv_ediv_of_nonneg (Int.le_of_lt hp),Int.mul_assoc];generalize n / 256 ^ k / 256 = d at h2 ⊢;generalize n / 256 ^ k = c at h1 h2 ⊢;generalize (256:Int) ^ k = p at *;have h4:c % 256 = c - 256 * d:=by omega
  rw [h4,Int.sub_mul];have:p * (256 * d) = 256 * d * p:=Int.mul_comm _ _;have:p * c = c * p:=Int.mul_comm _ _;omega
theorem ζju {n:Int} {k:Nat} (h0:0 ≤ n) (h1:n < 256 ^ k):num (bytesOf n k) = n:=by
 rw [num_mod,Int.emod_eq_of_lt h0 h1]
theorem ζip (p m q:List Int) (i k:Int) (hi:i = p.length) (hk:k = m.length):pieceS (p ++ (m ++ q)) i k = some m:=by
 subst hi hk;rw [ζ2w];refine ⟨⟨by omega,by omega,by simp; omega,by simp; omega⟩,?_⟩;simp
theorem uS_at (p q:List Int) {n:Int} {k:Nat} (i z:Int) (hi:i = p.length) (hz:z = k) (h0:0 ≤ n) (h1:n < 256 ^ k):uS (p ++ (bytesOf n k ++ q)) i z = some n:=by
 unfold uS;rw [ζip p (bytesOf n k) q i z hi (by simpa using hz),Option.map_some,ζju h0 h1]
theorem Byt.app {a b:List Int} (ha:Byt a) (hb:Byt b):Byt (a ++ b):=fun x hx => by
 rcases List.mem_append.1 hx with h | h
 ·exact ha x h
 ·exact hb x h
theorem Byt.flat {l:List (List Int)} (h:∀ r,r ∈ l → Byt r):Byt l.flatten:=fun x hx => by
 obtain ⟨r,hr,hx⟩:=List.mem_flatten.1 hx;exact h r hr x hx
theorem Byt.nil:Byt []:=fun x hx => by cases hx
theorem flat_len {z:Nat}:∀ {rs:List (List Int)},(∀ r,r ∈ rs → r.length = z) → rs.flatten.length = rs.length * z
 | [],_ => by simp
 | r :: rs,h => by
  have h1:=h r (by simp);have h2:=flat_len (rs:=rs) fun q hq => h q (by simp [hq]);simp only [List.flatten_cons,List.length_append,List.length_cons,h1,h2,Nat.succ_mul];omega
structure Pr where
 id:Int
 x:Int
def Pr.ok (p:Pr):Prop:=0 ≤ p.id ∧ p.id < 65536 ∧ 0 ≤ p.x ∧ p.x < 65536
def Pr.pt (p:Pr):Pt:=⟨p.id,p.id,[p.x]⟩
end Go.Sw
end
section
namespace Go.Sw
open Go.RowKit
structure En where
 next:Int
 flags:Int
 a:Int
 b:Int
theorem ζae {α β:Type} (f:α → Option β):∀ (l m:List α),mapO f (l ++ m) = (mapO f l).bind fun x => (mapO f m).map fun y => x ++ y
 | [],m => by
  simp only [List.nil_append,mapO,Option.bind_some];cases mapO f m <;> rfl
 | x :: l,m => by
  simp only [List.cons_append,mapO,ζae f l m];cases f x with
  | none => rfl
  | some y =>
   simp only [Option.bind_some];cases mapO f l with
   | none => rfl
   | some r =>
    simp only [Option.bind_some,Option.map_some];cases mapO f m <;> rfl
theorem ζ9t {β:Type} (f:Nat → Option β) (n:Nat):mapO f (List.range (n + 1)) = (mapO f (List.range n)).bind fun r => (f n).map fun y => r ++ [y]:=by
 rw [List.range_succ,ζae];congr 1;funext r;simp only [mapO];cases f n <;> rfl
theorem ζdz {β:Type} {f:Nat → Option β} {n m:Nat} (h:n ≤ m) {r:List β} (hr:mapO f (List.range m) = some r):mapO f (List.range n) = some (r.take n):=by
 obtain ⟨d,rfl⟩:=Nat.exists_eq_add_of_le h;rw [List.range_add,ζae] at hr;obtain ⟨x,hx,hr⟩:=Option.bind_eq_some_iff.1 hr;obtain ⟨y,hy,rfl⟩:=Option.map_eq_some_iff.1 hr;have:=mapO_len hx;rw [hx,List.take_left' (by simpa using this)]
def needL (l:List Int):Int:=l.foldl (fun m x => max m (x + 1)) 0
theorem ζkt (l:List Int):∀ m:Int,l.foldl (fun m x => max m (x + 1)) m = max m (l.foldl (fun m x => max m (x + 1)) (0:Int)) ∨ m < 0:=by
 induction l with
 | nil => intro m; simp; omega
 | cons x l ih =>
  intro m;rcases Int.lt_or_le m 0 with h | h
  ·exact .inr h
  ·left;simp only [List.foldl_cons];rcases ih (max m (x + 1)) with h1 | h1
   ·rcases ih (max 0 (x + 1)) with h2 | h2
    ·rw [h1,h2]; omega
    ·omega
   ·omega
theorem ζgi (l:List Int) (x:Int):needL (l ++ [x]) = max (needL l) (x + 1):=by simp [needL]
theorem ζ5p:∀ l:List Int,0 ≤ needL l:=fun l => by
 have:∀ (l:List Int) (m:Int),m ≤ l.foldl (fun m x => max m (x + 1)) m:=by
  intro l
  induction l with
  | nil => intro m; exact Int.le_refl _
  | cons x l ih => intro m; exact Int.le_trans (by omega) (ih (max m (x + 1)))
 exact this l 0
theorem ζ5o (l m:List Int):needL (l ++ m) = max (needL l) (needL m):=by
 unfold needL;rw [List.foldl_append];have h0:=ζ5p l;unfold needL at h0;rcases ζkt m (l.foldl (fun m x => max m (x + 1)) 0) with h | h
 ·exact h
 ·omega
theorem needL_le {l:List Int} {x:Int} (h:x ∈ l):x < needL l:=by
  obtain ⟨a,b,rfl⟩:=List.append_of_mem h;rw [ζ5o,needL_append' (x:=x) (b:=b)];omega
where needL_append' {x:Int} {b:List Int}:needL (x :: b) = max (x + 1) (needL b):=by
        have:=ζ5o [x] b;rw [List.singleton_append] at this;rw [this];have:needL [x] = max 0 (x + 1):=rfl;have:=ζ5p b;omega
theorem needL_lt {l:List Int} {n:Int} (hn:0 ≤ n) (h:∀ x,x ∈ l → x < n):needL l ≤ n:=by
 induction l with
 | nil => exact hn
 | cons x l ih =>
  have h1:=h x (by simp);have h2:=ih fun y hy => h y (by simp [hy]);have:=ζ5o [x] l;rw [List.singleton_append] at this;rw [this];have:needL [x] = max 0 (x + 1):=rfl;omega
def rowK (rv:List Int) (n:Int) (k:Nat):Option (List Int):=listS rv (2 * n * k) n 2
def entOf (w:Int) (r:List Int):En:=⟨gU r 0 2,gU r 2 2,if 0 < w then gU r 4 2 else 0,if 1 < w then gU r 6 2 else 0⟩
def entK (ev:List Int) (w:Int) (k:Nat):Option En:=(pieceS ev ((4 + 2 * w) * k) (4 + 2 * w)).map (entOf w)
def rowsTo (rv:List Int) (n:Int) (m:Nat):Option (List (List Int)):=mapO (rowK rv n) (List.range m)
def entsTo (ev:List Int) (w:Int) (m:Nat):Option (List En):=mapO (entK ev w) (List.range m)
def needR (rs:List (List Int)):Int:=needL rs.flatten
def needE (es:List En):Int:=max 2 (needL (es.map En.next))
def closeS (rv ev:List Int) (n w:Int):Nat → Nat → Option (List (List Int) × List En)
 | 0,_ => none
 | f + 1,s => (rowsTo rv n s).bind fun rs => (entsTo ev w (needR rs).toNat).bind fun es => if (needE es).toNat ≤ s then some (rs,es) else closeS rv ev n w f (needE es).toNat
def closeA (rv ev:List Int) (n w:Int) (s:Nat):Option (List (List Int) × List En):=closeS rv ev n w (65538 - s) s
theorem ζme {ev:List Int} (hb:Byt ev) {w:Int} {k:Nat} {e:En} (h:entK ev w k = some e):-1 ≤ e.next ∧ e.next < 65536:=by
 unfold entK at h;obtain ⟨r,hr,rfl⟩:=Option.map_eq_some_iff.1 h;exact gU_two (hb.piece hr).1 0
theorem needE_le {ev:List Int} (hb:Byt ev) {w:Int} {m:Nat} {es:List En} (h:entsTo ev w m = some es):2 ≤ needE es ∧ needE es ≤ 65536:=by
 refine ⟨by unfold needE; omega,?_⟩;have:needL (es.map En.next) ≤ 65536:=needL_lt (by omega) fun x hx => by
  obtain ⟨e,he,rfl⟩:=List.mem_map.1 hx;obtain ⟨i,hi⟩:=List.getElem?_of_mem he;obtain ⟨k,_,hk⟩:=mapO_get h hi;exact (ζme hb hk).2
 unfold needE;omega
theorem ζdp {rv ev:List Int} (hb:Byt ev) {n w:Int}:∀ (f g s:Nat),65537 - s ≤ f → 65537 - s ≤ g → s ≤ 65536 → closeS rv ev n w f s = closeS rv ev n w g s
 | 0,_,s,h1,_,h3 => by omega
 | _ + 1,0,s,_,h2,h3 => by omega
 | f + 1,g + 1,s,h1,h2,h3 => by
  simp only [closeS];cases rowsTo rv n s with
  | none => rfl
  | some rs =>
   simp only [Option.bind_some];cases he:entsTo ev w (needR rs).toNat with
   | none => rfl
   | some es =>
    simp only [Option.bind_some];have:=needE_le hb he;split
    ·rfl
    ·exact ζdp hb f g _ (by omega) (by omega) (by omega)
theorem ζm9 {rv ev:List Int} (hb:Byt ev) {n w:Int} {s:Nat} (hs:s ≤ 65536):closeA rv ev n w s =
  (rowsTo rv n s).bind fun rs => (entsTo ev w (needR rs).toNat).bind fun es => if (needE es).toNat ≤ s then some (rs,es) else closeA rv ev n w (needE es).toNat:=by
 unfold closeA;rw [show 65538 - s = (65537 - s) + 1 by omega];simp only [closeS];cases rowsTo rv n s with
 | none => rfl
 | some rs =>
  simp only [Option.bind_some];cases he:entsTo ev w (needR rs).toNat with
  | none => rfl
  | some es =>
   simp only [Option.bind_some];have:=needE_le hb he;split
   ·rfl
   ·exact ζdp hb _ _ _ (by omega) (by omega) (by omega)
structure Mach where
 classes:Int
 tab:Int × List Pt
 rows:List (List Int)
 ents:List En
def machS (b:List Int) (g w:Int):Option Mach :=
 (uS b 0 4).bind fun n => if 4 ≤ n ∧ n ≤ 65535 then
  (uS b 4 4).bind fun i => (restS b i).bind fun tb => (lookS tb g 2).bind fun tab =>
  (uS b 8 4).bind fun j => (restS b j).bind fun rv => (uS b 12 4).bind fun k => (restS b k).bind fun ev =>
  (closeA rv ev n w 2).map fun x => ⟨n,tab,x.1,x.2⟩
 else none
def classS (m:Mach) (id:Int):Int:=if id = 65535 then 2 else match getS m.tab.2 id with | some c => if c < m.classes then c else 1 | none => 1
def stepS (m:Mach) (s c:Int):Option En:=if 0 ≤ s ∧ s < m.rows.length ∧ 0 ≤ c ∧ c < m.classes then (m.rows[s.toNat]?).bind fun r => (r[c.toNat]?).bind fun x => m.ents[x.toNat]? else none
structure Mach.ok (m:Mach):Prop where
 cl:4 ≤ m.classes ∧ m.classes ≤ 65535
 pts:∀ p,p ∈ m.tab.2 → p.ok
 rise:risesS m.tab.2 = true
 plen:m.tab.2.length < 2 ^ 31
 two:2 ≤ m.rows.length ∧ m.rows.length ≤ 65536
 row:∀ r,r ∈ m.rows → (r.length:Int) = m.classes ∧ ∀ x,x ∈ r → 0 ≤ x ∧ x < m.ents.length
 ent:∀ e,e ∈ m.ents → 0 ≤ e.next ∧ e.next < m.rows.length ∧ 0 ≤ e.flags ∧ e.flags < 65536 ∧ 0 ≤ e.a ∧ e.a < 65536 ∧ 0 ≤ e.b ∧ e.b < 65536
 elen:m.ents.length ≤ 65536
theorem piece_gU {b r:List Int} (hb:Byt b) {p z:Int} (h:pieceS b p z = some r) {i:Int} (h0:0 ≤ i) (hi:i + 2 ≤ z):uS r i 2 = some (gU r i 2) ∧ 0 ≤ gU r i 2 ∧ gU r i 2 < 65536:=by
 obtain ⟨e,x,hx⟩:=row_two h h0 (y:=2) (by omega) hi;rw [hx] at e;rw [gU_some e];have:=uS_two (hb.piece h).1 e;exact ⟨e,this⟩
theorem entK_ok {ev:List Int} (hb:Byt ev) {w:Int} (hw:0 ≤ w ∧ w ≤ 2) {k:Nat} {e:En} (h:entK ev w k = some e):0 ≤ e.next ∧ 0 ≤ e.flags ∧ e.flags < 65536 ∧ 0 ≤ e.a ∧ e.a < 65536 ∧ 0 ≤ e.b ∧ e.b < 65536:=by
 unfold entK at h;obtain ⟨r,hr,rfl⟩:=Option.map_eq_some_iff.1 h;have g:=fun i h0 h1 => (piece_gU hb hr (i:=i) h0 h1).2;unfold entOf;dsimp only;have g0:=g 0 (by omega) (by omega);have g2:=g 2 (by omega) (by omega);refine ⟨g0.1,g2.1,g2.2,?_⟩;by_cases h1:0 < w
 ·have g4:=g 4 (by omega) (by omega);rw [if_pos h1];by_cases h2:1 < w
  ·have g6:=g 6 (by omega) (by omega);rw [if_pos h2];omega
  ·rw [if_neg h2]; omega
 ·rw [if_neg h1,if_neg (by omega)]; omega
theorem ζi3 {rv ev:List Int} (hr:Byt rv) (hb:Byt ev) {n w:Int} (hn:0 ≤ n) (hw:0 ≤ w ∧ w ≤ 2):∀ (f s:Nat) x,2 ≤ s → s ≤ 65536 → closeS rv ev n w f s = some x →
  (2 ≤ x.1.length ∧ x.1.length ≤ 65536) ∧ (∀ r,r ∈ x.1 → (r.length:Int) = n ∧ ∀ y,y ∈ r → 0 ≤ y ∧ y < x.2.length) ∧ (∀ e,e ∈ x.2 → e.next < x.1.length) ∧ (∀ e,e ∈ x.2 → ∃ k,entK ev w k = some e) ∧ x.2.length ≤ 65536 ∧
  rowsTo rv n x.1.length = some x.1 ∧ entsTo ev w x.2.length = some x.2 ∧ (x.2.length:Int) = needR x.1 ∧ needE x.2 ≤ x.1.length
 | 0,_,_,_,_,h => by cases h
 | f + 1,s,x,h2,h3,h => by
  simp only [closeS] at h;obtain ⟨rs,e1,h⟩:=Option.bind_eq_some_iff.1 h;obtain ⟨es,e2,h⟩:=Option.bind_eq_some_iff.1 h;have hE:=needE_le hb e2;split at h
  ·rename_i hs;injection h with h;subst h;dsimp only;have l1:rs.length = s:=by rw [mapO_len e1,List.length_range]
   have l2:es.length = (needR rs).toNat:=by rw [mapO_len e2,List.length_range]
   have hnn:=ζ5p rs.flatten;have hrow:∀ r,r ∈ rs → (r.length:Int) = n ∧ ∀ y,y ∈ r → 0 ≤ y ∧ y < 65536:=fun r hrm => by
    obtain ⟨i,hi⟩:=List.getElem?_of_mem hrm;obtain ⟨k,_,hk⟩:=mapO_get e1 hi;unfold rowK listS at hk;obtain ⟨q,hq,rfl⟩:=Option.map_eq_some_iff.1 hk;have hqb:=(hr.piece (ζ20 hq)).1;refine ⟨by simp; omega,fun y hy => ?_⟩;obtain ⟨c,hc,rfl⟩:=List.mem_map.1 hy;obtain ⟨h5,h6⟩:=ζ8d hqb _ _ hc;have:=ζf2 c h5;have hp:(256:Int) ^ c.length ≤ 256 ^ 2:=by
     have:c.length ≤ 2:=h6
     match hcl:c.length,this with
     | 0,_ => decide
     | 1,_ => decide
     | 2,_ => decide
    omega
   refine ⟨⟨by omega,by omega⟩,fun r hrm => ⟨(hrow r hrm).1,fun y hy => ⟨((hrow r hrm).2 y hy).1,?_⟩⟩,fun e he => ?_,fun e he => ?_,?_,by rw [l1]; exact e1,by rw [l2]; exact e2,by unfold needR at l2 ⊢; omega,by omega⟩
   ·have:y < needL rs.flatten:=needL_le (List.mem_flatten.2 ⟨r,hrm,hy⟩);rw [l2]; unfold needR; omega
   ·have:e.next < needL (es.map En.next):=needL_le (List.mem_map.2 ⟨e,he,rfl⟩);unfold needE at hs;omega
   ·obtain ⟨i,hi⟩:=List.getElem?_of_mem he;obtain ⟨k,_,hk⟩:=mapO_get e2 hi;exact ⟨_,hk⟩
   ·rw [l2];have:needL rs.flatten ≤ 65536:=needL_lt (by omega) fun y hy => by
     obtain ⟨r,hrm,hy⟩:=List.mem_flatten.1 hy;exact ((hrow r hrm).2 y hy).2
    unfold needR;omega
  ·exact ζi3 hr hb hn hw f _ x (by omega) (by omega) h
theorem Byt.rest {b r:List Int} (hb:Byt b) {i:Int} (h:restS b i = some r):Byt r:=by
 unfold restS at h;split at h
 ·injection h with h;subst h;exact fun x hx => hb x (List.mem_of_mem_drop hx)
 ·cases h
theorem machS_ok {b:List Int} (hb:Byt b) {g w:Int} (h1:1 ≤ g) (h2:g ≤ 65535) (hw:0 ≤ w ∧ w ≤ 2) {m:Mach} (h:machS b g w = some m):m.ok:=by
 unfold machS at h;obtain ⟨n,_,h⟩:=Option.bind_eq_some_iff.1 h;split at h;rotate_left
 ·cases h
 rename_i hn;obtain ⟨i,_,h⟩:=Option.bind_eq_some_iff.1 h;obtain ⟨tb,htb,h⟩:=Option.bind_eq_some_iff.1 h;obtain ⟨tab,htab,h⟩:=Option.bind_eq_some_iff.1 h;obtain ⟨j,_,h⟩:=Option.bind_eq_some_iff.1 h;obtain ⟨rv,hrv,h⟩:=Option.bind_eq_some_iff.1 h;obtain ⟨k,_,h⟩:=Option.bind_eq_some_iff.1 h;obtain ⟨ev,hev,h⟩:=Option.bind_eq_some_iff.1 h;obtain ⟨x,hx,rfl⟩:=Option.map_eq_some_iff.1 h;have hl:=lookS_ok (hb.rest htb) h1 h2 (.inl rfl) htab;have hpl:=ζf0 (hb.rest htb) htab;obtain ⟨c1,c2,c3,c4,c5,_⟩:=ζi3 (hb.rest hrv) (hb.rest hev) (by omega) hw _ _ x (by omega) (by omega) hx;refine ⟨hn,hl.2.1,hl.2.2,hpl,c1,c2,fun e he => ?_,c5⟩;obtain ⟨k,hk⟩:=c4 e he;have:=entK_ok (hb.rest hev) hw hk;exact ⟨this.1,c3 e he,this.2⟩
end Go.Sw
end
section
set_option maxRecDepth 100000
set_option linter.unusedVariables false
namespace Go.Sw
noncomputable section
def ζ1l (k:Nat) (call:Caller) (a8:Value) (h:Heap):Res Value :=
 kSeq (pieceK (C k) call F.ζ1g [1,1,1,1]) (kDone Prog (resOf Prog F.ζ1g)) .normal [(8,a8)] h
def ζ6z (k:Nat) (call:Caller):Env → Heap → Res (AExit × Env):=loopB (C k) call F.ζ1g [1,1,1,1,0,1,0,0]
def ζ8u (k:Nat) (call:Caller):Kont Value:=kBlock 1 (kSeq (pieceK (C k) call F.ζ1g [1,1,1,1,1]) (kDone Prog (resOf Prog F.ζ1g)))
def ζ1g (k:Nat) (call:Caller) (a0 a1 a2:Value) (h:Heap):Res Value :=
 (boxR a0 h).bind fun v1 h2 =>
 (loadR Prog 113 v1 h2).bind fun v3 h4 =>
 (buildR Prog 267 [(0,v3),(1,a1),(2,a2)] h4).bind fun v5 h6 =>
 (allocR Prog 267 h6).bind fun v7 h8 =>
 (storeR Prog 267 v7 v5 h8).bind fun _v9 h10 =>
 (loadR Prog 113 v1 h10).bind fun v11 h12 =>
 (call F.ζ8 [v11,(.int .i64 0)] h12).bind fun v13 h14 =>
 (buildR Prog 270 [(0,v13)] h14).bind fun v15 h16 =>
 (boxR v15 h16).bind fun v17 h18 =>
 (nilR v17 h18).bind fun v19 h20 =>
 (fieldAddrR Prog 270 v19 0 h20).bind fun v21 h22 =>
 (loadR Prog 3 v21 h22).bind fun v23 h24 =>
 (binR Prog .eql 3 v23 (.int .i64 0) h24).bind fun v25 h26 =>
 condV (some v25) (
 (binR Prog .sub 3 a1 (.int .i64 1) h26).bind fun v27 h28 =>
 (loadR Prog 113 v1 h28).bind fun v29 h30 =>
 (call F.ζ2b [v29,(.int .i64 2),a1,a2] h30).bind fun v31 h32 =>
 (buildR Prog 273 [(0,(.int .i64 0)),(1,v27),(2,v31)] h32).bind fun v33 h34 =>
 (buildSliceR Prog 268 1 [(0,v33)] h34).bind fun v35 h36 =>
 (nilR v17 h36).bind fun v37 h38 =>
 (fieldAddrR Prog 270 v37 1 h38).bind fun v39 h40 =>
 (storeR Prog 268 v39 v35 h40).bind fun _v41 h42 =>
 ζ1l k call v17 h42)
 (
 (binR Prog .eql 3 v23 (.int .i64 2) h26).bind fun v43 h44 =>
 condV (some v43) (
 (loadR Prog 267 v7 h44).bind fun v45 h46 =>
 (call F.ζ5 [v45,(.bool false)] h46).bind fun v47 h48 =>
 (nilR v17 h48).bind fun v49 h50 =>
 (fieldAddrR Prog 270 v49 1 h50).bind fun v51 h52 =>
 (storeR Prog 268 v51 v47 h52).bind fun _v53 h54 =>
 ζ1l k call v17 h54)
 (
 (binR Prog .eql 3 v23 (.int .i64 4) h44).bind fun v55 h56 =>
 condV (some v55) (
 (loadR Prog 267 v7 h56).bind fun v57 h58 =>
 (call F.ζ5 [v57,(.bool true)] h58).bind fun v59 h60 =>
 (nilR v17 h60).bind fun v61 h62 =>
 (fieldAddrR Prog 270 v61 1 h62).bind fun v63 h64 =>
 (storeR Prog 268 v63 v59 h64).bind fun _v65 h66 =>
 ζ1l k call v17 h66)
 (
 (binR Prog .eql 3 v23 (.int .i64 6) h56).bind fun v67 h68 =>
 condV (some v67) (
 (loadR Prog 267 v7 h68).bind fun v69 h70 =>
 (call F.ζp [v69] h70).bind fun v71 h72 =>
 (nilR v17 h72).bind fun v73 h74 =>
 (fieldAddrR Prog 270 v73 1 h74).bind fun v75 h76 =>
 (storeR Prog 268 v75 v71 h76).bind fun _v77 h78 =>
 ζ1l k call v17 h78)
 (
 (binR Prog .eql 3 v23 (.int .i64 8) h68).bind fun v79 h80 =>
 condV (some v79) (
 (loadR Prog 267 v7 h80).bind fun v81 h82 =>
 (call F.ζ10 [v81,(.int .i64 2),a2] h82).bind fun v83 h84 =>
 (nilR v17 h84).bind fun v85 h86 =>
 (fieldAddrR Prog 270 v85 1 h86).bind fun v87 h88 =>
 (storeR Prog 268 v87 v83 h88).bind fun _v89 h90 =>
 ζ1l k call v17 h90)
 (
 (binR Prog .eql 3 v23 (.int .i64 10) h80).bind fun v91 h92 =>
 condV (some v91) (
 (loadR Prog 113 v1 h92).bind fun v93 h94 =>
 (call F.ζ8 [v93,(.int .i64 2)] h94).bind fun v95 h96 =>
 (binR Prog .eql 3 v95 (.int .i64 1) h96).bind fun v97 h98 =>
 ((bif wantVal v97 false then Res.ok v95 h98 else Res.ok undef h98)).bind fun v99 h100 =>
 ((bif wantVal v97 false then binR Prog .eql 3 v99 (.int .i64 2) h100 else Res.ok undef h100)).bind fun v101 h102 =>
 (condV (some v97) (Res.ok (.bool true) h102) (Res.ok v101 h102)).bind fun v103 h104 =>
 ((bif wantVal v103 false then Res.ok v95 h104 else Res.ok undef h104)).bind fun v105 h106 =>
 ((bif wantVal v103 false then binR Prog .eql 3 v105 (.int .i64 4) h106 else Res.ok undef h106)).bind fun v107 h108 =>
 (condV (some v103) (Res.ok (.bool true) h108) (Res.ok v107 h108)).bind fun v109 h110 =>
 (call F.ζ1n [v109] h110).bind fun v111 h112 =>
 (loadR Prog 267 v7 h112).bind fun v113 h114 =>
 (call F.ζ10 [v113,(.int .i64 4),v95] h114).bind fun v115 h116 =>
 (nilR v17 h116).bind fun v117 h118 =>
 (fieldAddrR Prog 270 v117 1 h118).bind fun v119 h120 =>
 (storeR Prog 268 v119 v115 h120).bind fun _v121 h122 =>
 ζ1l k call v17 h122)
 (
 (call F.ζ6e [] h92).bind fun v123 h124 =>
 ζ1l k call v17 h124))))))
theorem ζgd (k:Nat) (a0 a1 a2:Value) (h:Heap):R (T k) F.ζ1g [a0,a1,a2] h = nrm .fz h (ζ1g k (R (T k)) a0 a1 a2 h) :=
 (R_body (t:=T k) (T_scott k) (by kernel_rfl) (by kernel_rfl) _ _).trans (by kernel_rfl)
theorem ζb5 (k:Nat) (call:Caller) (a8:Value) (h:Heap):ζ1l k call a8 h =
 (loopN (ζ6z k call) loopFuel [(8,a8),(10,(.int .i64 1))] h).bind fun r125 h126 =>
 ζ8u k call r125.1 r125.2 h126:=by kernel_rfl
theorem ζ7d (k:Nat) (call:Caller) (a8 a10:Value) (h:Heap):ζ6z k call [(8,a8),(10,a10)] h =
 (nilR a8 h).bind fun v127 h128 =>
 (fieldAddrR Prog 270 v127 1 h128).bind fun v129 h130 =>
 (loadR Prog 268 v129 h130).bind fun v131 h132 =>
 (builtinV Prog .len [268] [v131] h132).bind fun v133 h134 =>
 (binR Prog .lss 3 a10 v133 h134).bind fun v135 h136 =>
 condV (some v135) (
 (nilR a8 h136).bindN fun v137 h138 =>
 (fieldAddrR Prog 270 v137 1 h138).bindN fun v139 h140 =>
 (loadR Prog 268 v139 h140).bindN fun v141 h142 =>
 (binR Prog .sub 3 a10 (.int .i64 1) h142).bindN fun v143 h144 =>
 (indexAddrR Prog 268 v141 v143 h144).bindN fun v145 h146 =>
 (fieldAddrR Prog 273 v145 1 h146).bindN fun v147 h148 =>
 (loadR Prog 3 v147 h148).bindN fun v149 h150 =>
 (nilR a8 h150).bindN fun v151 h152 =>
 (fieldAddrR Prog 270 v151 1 h152).bindN fun v153 h154 =>
 (loadR Prog 268 v153 h154).bindN fun v155 h156 =>
 (indexAddrR Prog 268 v155 a10 h156).bindN fun v157 h158 =>
 (fieldAddrR Prog 273 v157 0 h158).bindN fun v159 h160 =>
 (loadR Prog 3 v159 h160).bindN fun v161 h162 =>
 (binR Prog .lss 3 v149 v161 h162).bindN fun v163 h164 =>
 (call F.ζ1n [v163] h164).bindT (fun p167 h168 => .panic p167 h168) fun v165 h166 =>
 (binR Prog .add 3 a10 (.int .i64 1) h166).bind fun v169 h170 =>
 .ok (.normal,[(8,a8),(10,v169)]) h170)
 (
 .ok ((.exit 1),[(8,a8),(10,a10),(93,v135)]) h136) :=
 (loopB_eq _ _).trans (by kernel_rfl)
theorem ζac (k:Nat) (call:Caller) (a8 a10 a93:Value) (h:Heap):ζ8u k call (.exit 1) [(8,a8),(10,a10),(93,a93)] h =
 .ok a8 h:=by kernel_rfl
def ζ1v (k:Nat) (call:Caller) (a0:Value) (h:Heap):Res Value :=
 (boxR a0 h).bind fun v1 h2 =>
 .ok (.func (.func F.ζ3h) #[] #[v1]) h2
theorem ζaa (k:Nat) (a0:Value) (h:Heap):R (T k) F.ζ1v [a0] h = nrm .no h (ζ1v k (R (T k)) a0 h) :=
 (R_body (t:=T k) (T_scott k) (by kernel_rfl) (by kernel_rfl) _ _).trans (by kernel_rfl)
def ζ70 (k:Nat) (call:Caller):Env → Heap → Res (AExit × Env):=loopB (C k) call F.ζ2b [1,1,1,0,1,0,0]
def ζ8v (k:Nat) (call:Caller):Kont Value:=kBlock 0 (kSeq (pieceK (C k) call F.ζ2b [1,1,1,1]) (kDone Prog (resOf Prog F.ζ2b)))
def ζ2b (k:Nat) (call:Caller) (a0 a1 a2 a3:Value) (h:Heap):Res Value :=
 (boxR a0 h).bind fun v1 h2 =>
 (loadR Prog 113 v1 h2).bind fun v3 h4 =>
 (call F.ζl [v3,a1,a2,a3] h4).bind fun v5 h6 =>
 (allocR Prog 113 h6).bind fun v7 h8 =>
 (storeR Prog 113 v7 v5 h8).bind fun _v9 h10 =>
 (makeSliceV Prog 30 a2 a2 h10).bind fun v11 h12 =>
 (builtinV Prog .len [30] [v11] h12).bind fun v13 h14 =>
 (loopN (ζ70 k call) loopFuel [(3,a3),(9,v7),(10,v11),(20,v13),(21,(.int .i64 0))] h14).bind fun r15 h16 =>
 ζ8v k call r15.1 r15.2 h16
theorem ζge (k:Nat) (a0 a1 a2 a3:Value) (h:Heap):R (T k) F.ζ2b [a0,a1,a2,a3] h = nrm .fz h (ζ2b k (R (T k)) a0 a1 a2 a3 h) :=
 (R_body (t:=T k) (T_scott k) (by kernel_rfl) (by kernel_rfl) _ _).trans (by kernel_rfl)
theorem ζ7e (k:Nat) (call:Caller) (a3 a9 a10 a20 a21:Value) (h:Heap):ζ70 k call [(3,a3),(9,a9),(10,a10),(20,a20),(21,a21)] h =
 (binR Prog .lss 3 a21 a20 h).bind fun v17 h18 =>
 condV (some v17) (
 (loadR Prog 113 a9 h18).bind fun v19 h20 =>
 (binR Prog .mul 3 a3 a21 h20).bind fun v21 h22 =>
 (call F.ζ1t [v19,v21,a3] h22).bind fun v23 h24 =>
 (indexAddrR Prog 30 a10 a21 h24).bind fun v25 h26 =>
 (storeR Prog 3 v25 v23 h26).bind fun _v27 h28 =>
 (binR Prog .add 3 a21 (.int .i64 1) h28).bind fun v29 h30 =>
 .ok (.normal,[(3,a3),(9,a9),(10,a10),(20,a20),(21,v29)]) h30)
 (
 .ok ((.exit 0),[(3,a3),(9,a9),(10,a10),(20,a20),(21,a21),(22,v17)]) h18) :=
 (loopB_eq _ _).trans (by kernel_rfl)
theorem ζad (k:Nat) (call:Caller) (a3 a9 a10 a20 a21 a22:Value) (h:Heap):ζ8v k call (.exit 0) [(3,a3),(9,a9),(10,a10),(20,a20),(21,a21),(22,a22)] h =
 .ok a10 h:=by kernel_rfl
def ζ3m (k:Nat) (call:Caller) (a1 a2 a5:Value) (h:Heap):Res Value :=
 kSeq (pieceK (C k) call F.ζ5 [1,1,1]) (kDone Prog (resOf Prog F.ζ5)) .normal [(1,a1),(2,a2),(5,a5)] h
def ζ3n (k:Nat) (call:Caller) (a1 a2 a5 a13:Value) (h:Heap):Res Value :=
 kSeq (pieceK (C k) call F.ζ5 [1,1,1]) (kDone Prog (resOf Prog F.ζ5)) .normal [(1,a1),(2,a2),(5,a5),(13,a13)] h
def ζ18 (k:Nat) (call:Caller):Env → Heap → Res (AExit × Env):=loopB (C k) call F.ζ5 [1,1,1,1,0,1,0,0]
def ζ1m (k:Nat) (call:Caller):Kont Value:=kBlock 0 (kSeq (pieceK (C k) call F.ζ5 [1,1,1,1,1]) (kDone Prog (resOf Prog F.ζ5)))
def ζ2c (k:Nat) (call:Caller) (a1 a2 a6 a9 a17 a18 a19:Value) (h:Heap):Res (AExit × Env) :=
 kSeq (pieceK (C k) call F.ζ5 [1,1,1,1,0,1,0,0,1,1,0,0,1,1,1,1]) (kBlock 1 (kSeq (pieceK (C k) call F.ζ5 [1,1,1,1,0,1,0,0,1,1,1]) (kRound (ownOf (C k) F.ζ5 [1,1,1,1,0,1,0,0])))) .normal [(1,a1),(2,a2),(6,a6),(9,a9),(17,a17),(18,a18),(19,a19)] h
def ζ5 (k:Nat) (call:Caller) (a0 a1:Value) (h:Heap):Res Value :=
 (boxR a0 h).bind fun v1 h2 =>
 (fieldAddrR Prog 267 v1 2 h2).bind fun v3 h4 =>
 (loadR Prog 3 v3 h4).bind fun v5 h6 =>
 (binR Prog .add 3 (.int .i64 4) v5 h6).bind fun v7 h8 =>
 condV (some a1) (
 ζ3m k call a1 v1 (.int .i64 6) h8)
 (
 ζ3n k call a1 v1 v7 a1 h8)
theorem ζ71 (k:Nat) (a0 a1:Value) (h:Heap):R (T k) F.ζ5 [a0,a1] h = nrm .fz h (ζ5 k (R (T k)) a0 a1 h) :=
 (R_body (t:=T k) (T_scott k) (by kernel_rfl) (by kernel_rfl) _ _).trans (by kernel_rfl)
theorem ζ5m (k:Nat) (call:Caller) (a1 a2 a5:Value) (h:Heap):ζ3m k call a1 a2 a5 h =
 (fieldAddrR Prog 267 a2 0 h).bind fun v9 h10 =>
 (loadR Prog 113 v9 h10).bind fun v11 h12 =>
 (call F.ζ1y [v11,(.int .i64 2),a5,(.int .i64 2)] h12).bind fun v13 h14 =>
 (builtinV Prog .len [287] [v13] h14).bind fun v15 h16 =>
 (loopN (ζ18 k call) loopFuel [(1,a1),(2,a2),(6,(.slice none 0 0)),(17,v13),(18,v15),(19,(.int .i64 0))] h16).bind fun r17 h18 =>
 ζ1m k call r17.1 r17.2 h18:=by kernel_rfl
theorem ζ5n (k:Nat) (call:Caller) (a1 a2 a5 a13:Value) (h:Heap):ζ3n k call a1 a2 a5 a13 h =
 (fieldAddrR Prog 267 a2 0 h).bind fun v19 h20 =>
 (loadR Prog 113 v19 h20).bind fun v21 h22 =>
 (call F.ζ1y [v21,(.int .i64 2),a5,(.int .i64 2)] h22).bind fun v23 h24 =>
 (builtinV Prog .len [287] [v23] h24).bind fun v25 h26 =>
 (loopN (ζ18 k call) loopFuel [(1,a1),(2,a2),(6,(.slice none 0 0)),(17,v23),(18,v25),(19,(.int .i64 0))] h26).bind fun r27 h28 =>
 ζ1m k call r27.1 r27.2 h28:=by kernel_rfl
theorem ζ2v (k:Nat) (call:Caller) (a1 a2 a6 a17 a18 a19:Value) (h:Heap):ζ18 k call [(1,a1),(2,a2),(6,a6),(17,a17),(18,a18),(19,a19)] h =
 (binR Prog .lss 3 a19 a18 h).bind fun v29 h30 =>
 condV (some v29) (
 (indexAddrR Prog 287 a17 a19 h30).bind fun v31 h32 =>
 (loadR Prog 113 v31 h32).bind fun v33 h34 =>
 (allocR Prog 113 h34).bind fun v35 h36 =>
 (storeR Prog 113 v35 v33 h36).bind fun _v37 h38 =>
 (loadR Prog 113 v35 h38).bindN fun v39 h40 =>
 (call F.ζ8 [v39,(.int .i64 2)] h40).bindT (fun p43 h44 => (loadR Prog 113 v35 h40).bindN fun v45 h46 => (allocR Prog 273 h46).bindN fun v47 h48 => chkR ((okVal (loadR Prog 113 v35 h38) v45 && true) && true) (.panic p43 h44)) fun v41 h42 =>
 (loadR Prog 113 v35 h42).bindN fun v49 h50 =>
 (call F.ζ8 [v49,(.int .i64 0)] h50).bindT (fun p53 h54 => (allocR Prog 273 h50).bindN fun v55 h56 => chkR ((okVal (loadR Prog 113 v35 h38) v49 && true) && true) (.panic p53 h54)) fun v51 h52 =>
 (buildR Prog 273 [(0,v41),(1,v51)] h52).bindN fun v57 h58 =>
 (allocR Prog 273 h58).bindN fun v59 h60 =>
 (storeR Prog 273 v59 v57 h60).bindN fun _v61 h62 =>
 chkR ((okVal (loadR Prog 113 v35 h38) v49 && true) && true) (
 (fieldAddrR Prog 273 v59 0 h62).bind fun v63 h64 =>
 (loadR Prog 3 v63 h64).bind fun v65 h66 =>
 (fieldAddrR Prog 273 v59 1 h66).bind fun v67 h68 =>
 (loadR Prog 3 v67 h68).bind fun v69 h70 =>
 (binR Prog .leq 3 v65 v69 h70).bind fun v71 h72 =>
 (call F.ζ1n [v71] h72).bind fun v73 h74 =>
 condV (some a1) (
 (fieldAddrR Prog 267 a2 0 h74).bindN fun v75 h76 =>
 (loadR Prog 113 v75 h76).bindN fun v77 h78 =>
 (loadR Prog 113 v35 h78).bindN fun v79 h80 =>
 (call F.ζ8 [v79,(.int .i64 4)] h80).bindT (fun p83 h84 => (fieldAddrR Prog 273 v59 1 h80).bindN fun v85 h86 => (loadR Prog 3 v85 h86).bindN fun v87 h88 => (fieldAddrR Prog 273 v59 0 h88).bindN fun v89 h90 => (loadR Prog 3 v89 h90).bindN fun v91 h92 => (binR Prog .sub 3 v87 v91 h92).bindN fun v93 h94 => (binR Prog .add 3 v93 (.int .i64 1) h94).bindN fun v95 h96 => (fieldAddrR Prog 267 a2 2 h96).bindN fun v97 h98 => (loadR Prog 3 v97 h98).bindN fun v99 h100 => chkR ((okVal (loadR Prog 3 v85 h74) v87 && true) && ((okVal (loadR Prog 3 v89 h74) v91 && true) && ((okVal (loadR Prog 3 v97 h74) v99 && true) && true))) (.panic p83 h84)) fun v81 h82 =>
 (fieldAddrR Prog 273 v59 1 h82).bindN fun v101 h102 =>
 (loadR Prog 3 v101 h102).bindN fun v103 h104 =>
 (fieldAddrR Prog 273 v59 0 h104).bindN fun v105 h106 =>
 (loadR Prog 3 v105 h106).bindN fun v107 h108 =>
 (binR Prog .sub 3 v103 v107 h108).bindN fun v109 h110 =>
 (binR Prog .add 3 v109 (.int .i64 1) h110).bindN fun v111 h112 =>
 (fieldAddrR Prog 267 a2 2 h112).bindN fun v113 h114 =>
 (loadR Prog 3 v113 h114).bindN fun v115 h116 =>
 (call F.ζ2b [v77,v81,v111,v115] h116).bindT (fun p119 h120 => chkR ((okVal (loadR Prog 113 v75 h82) v77 && true) && ((okVal (loadR Prog 3 v101 h74) v103 && true) && ((okVal (loadR Prog 3 v105 h74) v107 && true) && ((okVal (loadR Prog 3 v113 h74) v115 && true) && true)))) (.panic p119 h120)) fun v117 h118 =>
 (fieldAddrR Prog 273 v59 2 h118).bindN fun v121 h122 =>
 (storeR Prog 30 v121 v117 h122).bindN fun _v123 h124 =>
 chkR ((okVal (loadR Prog 113 v75 h82) v77 && true) && ((okVal (loadR Prog 3 v101 h74) v103 && true) && ((okVal (loadR Prog 3 v105 h74) v107 && true) && ((okVal (loadR Prog 3 v113 h74) v115 && true) && true)))) (
 ζ2c k call a1 a2 a6 v59 a17 a18 a19 h124))
 (
 (loadR Prog 113 v35 h74).bind fun v125 h126 =>
 (fieldAddrR Prog 267 a2 2 h126).bind fun v127 h128 =>
 (loadR Prog 3 v127 h128).bind fun v129 h130 =>
 (call F.ζ1t [v125,(.int .i64 4),v129] h130).bind fun v131 h132 =>
 (buildSliceR Prog 30 1 [(0,v131)] h132).bind fun v133 h134 =>
 (fieldAddrR Prog 273 v59 2 h134).bind fun v135 h136 =>
 (storeR Prog 30 v135 v133 h136).bind fun _v137 h138 =>
 ζ2c k call a1 a2 a6 v59 a17 a18 a19 h138)))
 (
 .ok ((.exit 0),[(1,a1),(2,a2),(6,a6),(17,a17),(18,a18),(19,a19),(20,v29)]) h30) :=
 (loopB_eq _ _).trans (by kernel_rfl)
theorem ζ2u (k:Nat) (call:Caller) (a1 a2 a6 a9 a17 a18 a19:Value) (h:Heap):ζ2c k call a1 a2 a6 a9 a17 a18 a19 h =
 (loadR Prog 273 a9 h).bind fun v139 h140 =>
 (buildSliceR Prog 268 1 [(0,v139)] h140).bind fun v141 h142 =>
 (builtinV Prog .append [268,268] [a6,v141] h142).bind fun v143 h144 =>
 (binR Prog .add 3 a19 (.int .i64 1) h144).bind fun v145 h146 =>
 .ok (.normal,[(1,a1),(2,a2),(6,v143),(17,a17),(18,a18),(19,v145)]) h146:=by kernel_rfl
theorem ζ5a (k:Nat) (call:Caller) (a1 a2 a6 a17 a18 a19 a20:Value) (h:Heap):ζ1m k call (.exit 0) [(1,a1),(2,a2),(6,a6),(17,a17),(18,a18),(19,a19),(20,a20)] h =
 .ok a6 h:=by kernel_rfl
def ζ48 (k:Nat) (call:Caller):Env → Heap → Res (AExit × Env):=loopB (C k) call F.ζp [1,1,0,1,0,0]
def ζ3x (k:Nat) (call:Caller):Kont Value:=kBlock 0 (kSeq (pieceK (C k) call F.ζp [1,1,1]) (kDone Prog (resOf Prog F.ζp)))
def ζp (k:Nat) (call:Caller) (a0:Value) (h:Heap):Res Value :=
 (boxR a0 h).bind fun v1 h2 =>
 (fieldAddrR Prog 267 v1 0 h2).bind fun v3 h4 =>
 (loadR Prog 113 v3 h4).bind fun v5 h6 =>
 (fieldAddrR Prog 267 v1 2 h6).bind fun v7 h8 =>
 (loadR Prog 3 v7 h8).bind fun v9 h10 =>
 (binR Prog .add 3 (.int .i64 2) v9 h10).bind fun v11 h12 =>
 (call F.ζ1y [v5,(.int .i64 2),v11,(.int .i64 1)] h12).bind fun v13 h14 =>
 (builtinV Prog .len [287] [v13] h14).bind fun v15 h16 =>
 (loopN (ζ48 k call) loopFuel [(1,v1),(3,(.slice none 0 0)),(12,v13),(13,v15),(14,(.int .i64 0))] h16).bind fun r17 h18 =>
 ζ3x k call r17.1 r17.2 h18
theorem ζ80 (k:Nat) (a0:Value) (h:Heap):R (T k) F.ζp [a0] h = nrm .fz h (ζp k (R (T k)) a0 h) :=
 (R_body (t:=T k) (T_scott k) (by kernel_rfl) (by kernel_rfl) _ _).trans (by kernel_rfl)
theorem ζ3b (k:Nat) (call:Caller) (a1 a3 a12 a13 a14:Value) (h:Heap):ζ48 k call [(1,a1),(3,a3),(12,a12),(13,a13),(14,a14)] h =
 (binR Prog .lss 3 a14 a13 h).bind fun v19 h20 =>
 condV (some v19) (
 (indexAddrR Prog 287 a12 a14 h20).bind fun v21 h22 =>
 (loadR Prog 113 v21 h22).bind fun v23 h24 =>
 (allocR Prog 113 h24).bind fun v25 h26 =>
 (storeR Prog 113 v25 v23 h26).bind fun _v27 h28 =>
 (loadR Prog 113 v25 h28).bind fun v29 h30 =>
 (call F.ζ8 [v29,(.int .i64 0)] h30).bind fun v31 h32 =>
 (loadR Prog 113 v25 h32).bind fun v33 h34 =>
 (fieldAddrR Prog 267 a1 2 h34).bind fun v35 h36 =>
 (loadR Prog 3 v35 h36).bind fun v37 h38 =>
 (call F.ζ1t [v33,(.int .i64 2),v37] h38).bind fun v39 h40 =>
 (buildSliceR Prog 30 1 [(0,v39)] h40).bind fun v41 h42 =>
 (buildR Prog 273 [(0,v31),(1,v31),(2,v41)] h42).bind fun v43 h44 =>
 (buildSliceR Prog 268 1 [(0,v43)] h44).bind fun v45 h46 =>
 (builtinV Prog .append [268,268] [a3,v45] h46).bind fun v47 h48 =>
 (binR Prog .add 3 a14 (.int .i64 1) h48).bind fun v49 h50 =>
 .ok (.normal,[(1,a1),(3,v47),(12,a12),(13,a13),(14,v49)]) h50)
 (
 .ok ((.exit 0),[(1,a1),(3,a3),(12,a12),(13,a13),(14,a14),(15,v19)]) h20) :=
 (loopB_eq _ _).trans (by kernel_rfl)
theorem ζ66 (k:Nat) (call:Caller) (a1 a3 a12 a13 a14 a15:Value) (h:Heap):ζ3x k call (.exit 0) [(1,a1),(3,a3),(12,a12),(13,a13),(14,a14),(15,a15)] h =
 .ok a3 h:=by kernel_rfl
def ζ10 (k:Nat) (call:Caller) (a0 a1 a2:Value) (h:Heap):Res Value :=
 (boxR a0 h).bind fun v1 h2 =>
 (fieldAddrR Prog 267 v1 0 h2).bindN fun v3 h4 =>
 (loadR Prog 113 v3 h4).bindN fun v5 h6 =>
 (call F.ζ8 [v5,a1] h6).bindT (fun p9 h10 => (fieldAddrR Prog 267 v1 0 h6).bindN fun v11 h12 => (loadR Prog 113 v11 h12).bindN fun v13 h14 => (binR Prog .add 3 a1 (.int .i64 2) h14).bindN fun v15 h16 => chkR ((okVal (loadR Prog 113 v11 h2) v13 && true) && true) (.panic p9 h10)) fun v7 h8 =>
 (fieldAddrR Prog 267 v1 0 h8).bindN fun v17 h18 =>
 (loadR Prog 113 v17 h18).bindN fun v19 h20 =>
 (binR Prog .add 3 a1 (.int .i64 2) h20).bindN fun v21 h22 =>
 (call F.ζ8 [v19,v21] h22).bindT (fun p25 h26 => chkR ((okVal (loadR Prog 113 v17 h2) v19 && true) && true) (.panic p25 h26)) fun v23 h24 =>
 chkR ((okVal (loadR Prog 113 v17 h2) v19 && true) && true) (
 (binR Prog .add 3 v7 v23 h24).bind fun v27 h28 =>
 (binR Prog .leq 3 v27 (.int .i64 65536) h28).bind fun v29 h30 =>
 (call F.ζ1n [v29] h30).bind fun v31 h32 =>
 (fieldAddrR Prog 267 v1 0 h32).bind fun v33 h34 =>
 (loadR Prog 113 v33 h34).bind fun v35 h36 =>
 (binR Prog .add 3 a1 (.int .i64 4) h36).bind fun v37 h38 =>
 (call F.ζ2b [v35,v37,v23,a2] h38).bind fun v39 h40 =>
 (binR Prog .eql 3 v23 (.int .i64 0) h40).bind fun v41 h42 =>
 condV (some v41) (
 .ok (.slice none 0 0) h42)
 (
 (binR Prog .add 3 v7 v23 h42).bind fun v43 h44 =>
 (binR Prog .sub 3 v43 (.int .i64 1) h44).bind fun v45 h46 =>
 (buildR Prog 273 [(0,v7),(1,v45),(2,v39)] h46).bind fun v47 h48 =>
 (buildSliceR Prog 268 1 [(0,v47)] h48).bind fun v49 h50 =>
 .ok v49 h50))
theorem ζ7h (k:Nat) (a0 a1 a2:Value) (h:Heap):R (T k) F.ζ10 [a0,a1,a2] h = nrm .fz h (ζ10 k (R (T k)) a0 a1 a2 h) :=
 (R_body (t:=T k) (T_scott k) (by kernel_rfl) (by kernel_rfl) _ _).trans (by kernel_rfl)
def ζ33 (k:Nat) (call:Caller) (a0 a1:Value) (h:Heap):Res Value :=
 (boxR a0 h).bind fun v1 h2 =>
 (fieldAddrR Prog 273 v1 2 h2).bind fun v3 h4 =>
 (loadR Prog 30 v3 h4).bind fun v5 h6 =>
 (fieldAddrR Prog 273 v1 0 h6).bind fun v7 h8 =>
 (loadR Prog 3 v7 h8).bind fun v9 h10 =>
 (binR Prog .sub 3 a1 v9 h10).bind fun v11 h12 =>
 (fieldAddrR Prog 273 v1 2 h12).bind fun v13 h14 =>
 (loadR Prog 30 v13 h14).bind fun v15 h16 =>
 (builtinV Prog .len [30] [v15] h16).bind fun v17 h18 =>
 (binR Prog .sub 3 v17 (.int .i64 1) h18).bind fun v19 h20 =>
 (builtinV Prog .min [3,3] [v11,v19] h20).bind fun v21 h22 =>
 (indexAddrR Prog 30 v5 v21 h22).bind fun v23 h24 =>
 (loadR Prog 3 v23 h24).bind fun v25 h26 =>
 .ok v25 h26
theorem ζcf (k:Nat) (a0 a1:Value) (h:Heap):R (T k) F.ζ33 [a0,a1] h = nrm .gc h (ζ33 k (R (T k)) a0 a1 h) :=
 (R_body (t:=T k) (T_scott k) (by kernel_rfl) (by kernel_rfl) _ _).trans (by kernel_rfl)
def ζ14 (k:Nat) (call:Caller) (a0 a1:Value) (h:Heap):Res Value :=
 (boxR a0 h).bind fun v1 h2 =>
 (boxR a1 h2).bind fun v3 h4 =>
 (loadR Prog 111 v1 h4).bind fun v5 h6 =>
 (nilR v5 h6).bind fun v7 h8 =>
 (fieldAddrR Prog 270 v7 1 h8).bind fun v9 h10 =>
 (loadR Prog 268 v9 h10).bind fun v11 h12 =>
 (builtinV Prog .len [268] [v11] h12).bind fun v13 h14 =>
 (call F.ζ3z [v13,(.func (.func F.ζ17) #[] #[v1,v3])] h14).bind fun v15 h16 =>
 (loadR Prog 111 v1 h16).bindN fun v17 h18 =>
 (nilR v17 h18).bindN fun v19 h20 =>
 (fieldAddrR Prog 270 v19 1 h20).bindN fun v21 h22 =>
 (loadR Prog 268 v21 h22).bindN fun v23 h24 =>
 (builtinV Prog .len [268] [v23] h24).bindN fun v25 h26 =>
 (binR Prog .eql 3 v15 v25 h26).bindN fun v27 h28 =>
 ((bif wantVal v27 false then loadR Prog 111 v1 h28 else Res.ok undef h28)).bindN fun v29 h30 =>
 ((bif wantVal v27 false then nilR v29 h30 else Res.ok undef h30)).bindN fun v31 h32 =>
 ((bif wantVal v27 false then fieldAddrR Prog 270 v31 1 h32 else Res.ok undef h32)).bindN fun v33 h34 =>
 ((bif wantVal v27 false then loadR Prog 268 v33 h34 else Res.ok undef h34)).bindN fun v35 h36 =>
 ((bif wantVal v27 false then Res.ok v15 h36 else Res.ok undef h36)).bindN fun v37 h38 =>
 ((bif wantVal v27 false then indexAddrR Prog 268 v35 v37 h38 else Res.ok undef h38)).bindN fun v39 h40 =>
 ((bif wantVal v27 false then fieldAddrR Prog 273 v39 0 h40 else Res.ok undef h40)).bindN fun v41 h42 =>
 ((bif wantVal v27 false then loadR Prog 3 v41 h42 else Res.ok undef h42)).bindN fun v43 h44 =>
 ((bif wantVal v27 false then loadR Prog 3 v3 h44 else Res.ok undef h44)).bindN fun v45 h46 =>
 ((bif wantVal v27 false then binR Prog .gtr 3 v43 v45 h46 else Res.ok undef h46)).bindN fun v47 h48 =>
 (condV (some v27) (Res.ok (.bool true) h48) (Res.ok v47 h48)).bindN fun v49 h50 =>
 condV (some v49) (
 .ok (.tuple #[(.int .i64 0),(.bool false)]) h50)
 (
 (loadR Prog 111 v1 h50).bindN fun v51 h52 =>
 (nilR v51 h52).bindN fun v53 h54 =>
 (fieldAddrR Prog 270 v53 1 h54).bindN fun v55 h56 =>
 (loadR Prog 268 v55 h56).bindN fun v57 h58 =>
 (indexAddrR Prog 268 v57 v15 h58).bindN fun v59 h60 =>
 (loadR Prog 273 v59 h60).bindN fun v61 h62 =>
 (loadR Prog 3 v3 h62).bindN fun v63 h64 =>
 (call F.ζ33 [v61,v63] h64).bindT (fun p67 h68 => .panic p67 h68) fun v65 h66 =>
 .ok (.tuple #[v65,(.bool true)]) h66)
theorem ζab (k:Nat) (a0 a1:Value) (h:Heap):R (T k) F.ζ14 [a0,a1] h = nrm .gc h (ζ14 k (R (T k)) a0 a1 h) :=
 (R_body (t:=T k) (T_scott k) (by kernel_rfl) (by kernel_rfl) _ _).trans (by kernel_rfl)
def ζ1t (k:Nat) (call:Caller) (a0 a1 a2:Value) (h:Heap):Res Value :=
 (boxR a0 h).bind fun v1 h2 =>
 (binR Prog .eql 3 a2 (.int .i64 1) h2).bind fun v3 h4 =>
 condV (some v3) (
 (loadR Prog 113 v1 h4).bind fun v5 h6 =>
 (call F.ζ3j [v5,a1] h6).bind fun v7 h8 =>
 .ok v7 h8)
 (
 (binR Prog .eql 3 a2 (.int .i64 2) h4).bind fun v9 h10 =>
 condV (some v9) (
 (loadR Prog 113 v1 h10).bind fun v11 h12 =>
 (call F.ζ8 [v11,a1] h12).bind fun v13 h14 =>
 .ok v13 h14)
 (
 (loadR Prog 113 v1 h10).bind fun v15 h16 =>
 (call F.ζb [v15,a1] h16).bind fun v17 h18 =>
 .ok v17 h18))
theorem ζdg (k:Nat) (a0 a1 a2:Value) (h:Heap):R (T k) F.ζ1t [a0,a1,a2] h = nrm .gc h (ζ1t k (R (T k)) a0 a1 a2 h) :=
 (R_body (t:=T k) (T_scott k) (by kernel_rfl) (by kernel_rfl) _ _).trans (by kernel_rfl)
def ζ17 (k:Nat) (call:Caller) (a0 a1 a2:Value) (h:Heap):Res Value :=
 (loadR Prog 111 a1 h).bindN fun v1 h2 =>
 (nilR v1 h2).bindN fun v3 h4 =>
 (fieldAddrR Prog 270 v3 1 h4).bindN fun v5 h6 =>
 (loadR Prog 268 v5 h6).bindN fun v7 h8 =>
 (indexAddrR Prog 268 v7 a0 h8).bindN fun v9 h10 =>
 (fieldAddrR Prog 273 v9 1 h10).bindN fun v11 h12 =>
 (loadR Prog 3 v11 h12).bindN fun v13 h14 =>
 (loadR Prog 3 a2 h14).bindN fun v15 h16 =>
 (binR Prog .geq 3 v13 v15 h16).bindN fun v17 h18 =>
 .ok v17 h18
theorem ζ7z (k:Nat) (a0 a1 a2:Value) (h:Heap):R (T k) F.ζ17 [a0,a1,a2] h = nrm .gc h (ζ17 k (R (T k)) a0 a1 a2 h) :=
 (R_body (t:=T k) (T_scott k) (by kernel_rfl) (by kernel_rfl) _ _).trans (by kernel_rfl)
def ζ99 (k:Nat) (call:Caller):Env → Heap → Res (AExit × Env):=loopB (C k) call F.ζ1z [1,1,0,1,0,0]
def ζ8n (k:Nat) (call:Caller):Kont Value:=kBlock 0 (kSeq (pieceK (C k) call F.ζ1z [1,1,1]) (kDone Prog (resOf Prog F.ζ1z)))
def ζ1z (k:Nat) (call:Caller) (a0:Value) (h:Heap):Res Value :=
 (nilR a0 h).bind fun v1 h2 =>
 (fieldAddrR Prog 270 v1 1 h2).bind fun v3 h4 =>
 (loadR Prog 268 v3 h4).bind fun v5 h6 =>
 (builtinV Prog .len [268] [v5] h6).bind fun v7 h8 =>
 (loopN (ζ99 k call) loopFuel [(3,(.int .i64 (-1))),(11,v5),(12,v7),(13,(.int .i64 0))] h8).bind fun r9 h10 =>
 ζ8n k call r9.1 r9.2 h10
end
end Go.Sw
end
section
namespace Go.Sw
open Go.RowKit
theorem ζch (k:Nat) {H:Heap} {v:Value} {b:List Int} (hv:Sl H 1 v encB b) (hb:Byt b) (i z:Int) (hz:z = 1 ∨ z = 2 ∨ z = 4) (hl:b.length < 2 ^ 62):R (T k) F.ζ1t [.agg #[v],.int .i64 i,.int .i64 z] H = orF (uS b i z) (.int .i64) H:=by
 rw [ζdg];have hx:Ext H (H.push ⟨[v],1,false⟩):=(Ext.refl H).push _;refine gc_orF ?_ fun _ _ => .int _ _;rcases hz with rfl | rfl | rfl
 ·simp -implicitDefEqProofs [ζ1t];exact Cp.callL (U8_run k (hv.up hx) hb i hl) hx fun n hn => .ok hx rfl
 ·simp -implicitDefEqProofs [ζ1t];exact Cp.callL (U16_run k (hv.up hx) hb i hl) hx fun n hn => .ok hx rfl
 ·simp -implicitDefEqProofs [ζ1t];exact Cp.callL (U32_run k (hv.up hx) hb i hl) hx fun n hn => .ok hx rfl
theorem repeat_I:∀ n,repeatCells [Value.int .i64 0] n = rows encI (List.replicate n 0)
 | 0 => rfl
 | n + 1 => by
  have:=repeat_I n;simp only [repeatCells,List.replicate_succ] at this ⊢;simp [rows,this]
theorem uS_cut {r:List Int} {z n j:Nat} (hr:r.length = n * z) (hj:j < n):uS r ((z:Int) * j) z = some (num ((r.drop (z * j)).take z)):=by
 have:z * j + z ≤ r.length:=by
  rw [hr,← Nat.mul_succ,Nat.mul_comm];exact Nat.mul_le_mul_right _ hj
 have e1:((z:Int) * j) = ((z * j:Nat):Int):=by simp
 unfold uS;rw [e1,pieceS,if_pos (by omega),Int.toNat_natCast,Int.toNat_natCast];rfl
theorem list_run (k:Nat) {H:Heap} {v:Value} {b:List Int} (hv:Sl H 1 v encB b) (hb:Byt b) (i n z:Int) (hz:z = 1 ∨ z = 2 ∨ z = 4) (hl:b.length < 2 ^ 31):R (T k) F.ζ2b [.agg #[v],.int .i64 i,.int .i64 n,.int .i64 z] H = orF (listS b i n z) (lv encI) H:=by
 rw [ζge];have hx1:Ext H (H.push ⟨[v],1,false⟩):=(Ext.refl H).push _;refine fz_orF ?_ fun _ _ => (Flat.I _).alive;simp -implicitDefEqProofs [ζ2b];unfold listS;refine Cp.callM (Rows_run k (hv.up hx1) i n z (by omega)) hx1 fun r hr => ?_;have hn:=rowsS_n hr;have hp:=ζ20 hr;have hs:=ζ34 hv hp;have hrb:=(hb.piece hp).1;have hrl:=ζ2x hp;obtain ⟨n,rfl⟩:=Int.eq_ofNat_of_zero_le hn.1;obtain ⟨z,rfl⟩:=Int.eq_ofNat_of_zero_le hn.2.1;have hrl:r.length = n * z:=by exact_mod_cast hrl
 have hnl:n ≤ 2 ^ 31:=by
  have h1:n * 1 ≤ n * z:=Nat.mul_le_mul_left n (by omega);have h2:(n:Int) * z ≤ b.length:=by omega
  have h3:n * z ≤ b.length:=by exact_mod_cast h2
  omega
 simp only [Int.toNat_natCast];generalize subV 1 v i.toNat ((n:Int) * z).toNat = rv at hs;have hx2:Ext H ((H.push ⟨[v],1,false⟩).push ⟨[rv],1,false⟩):=hx1.push _
 obtain ⟨x,e',H1,hr',rfl,rfl,ho,hx⟩:=loop_up (body:=ζ70 k (R (T k))) n
  (fun j e H' => e = [(3,.int .i64 z),(9,.pointer (some ⟨H.n + 1,0,none⟩)),(10,.slice (some ⟨H.n + 2,0,none⟩) n n),(20,.int .i64 n),(21,.int .i64 j)] ∧
   Own H H' 1 (.slice (some ⟨H.n + 2,0,none⟩) n n) encI (((cutRows r z n).map num).take j ++ List.replicate (n - j) 0) ∧ Ext H H' ∧ H'.get (H.n + 1) = some ⟨[rv],1,false⟩)
  (fun x e H' => x = .exit 0 ∧ e = [(3,.int .i64 z),(9,.pointer (some ⟨H.n + 1,0,none⟩)),(10,.slice (some ⟨H.n + 2,0,none⟩) n n),(20,.int .i64 n),(21,.int .i64 n),(22,.bool false)] ∧
   Own H H' 1 (.slice (some ⟨H.n + 2,0,none⟩) n n) encI ((cutRows r z n).map num) ∧ Ext H H')
  (e0:=[(3,.int .i64 z),(9,.pointer (some ⟨H.n + 1,0,none⟩)),(10,.slice (some ⟨H.n + 2,0,none⟩) n n),(20,.int .i64 n),(21,.int .i64 0)])
  (H0:=((H.push ⟨[v],1,false⟩).push ⟨[rv],1,false⟩).push ⟨repeatCells [Value.int .i64 0] n,1,false⟩)
  ⟨rfl,.inr ⟨H.n + 2,by simp,by omega,by rw [ζd _ _ _ (by simp),repeat_I]; simp⟩,hx2.push _,by rw [ζ1p _ _ _ (by simp),ζd _ _ _ (by simp)]⟩ (by omega)
  (fun j e H' hj ⟨he,ho,hx,hg⟩ => by
   subst he;have hlt:(j:Int) < n:=by omega
   have hnum:=ζch k (hs.up hx) hrb ((z:Int) * j) z hz (by omega);rw [uS_cut hrl hj,orF_some] at hnum;have hz4:(z:Int) * j ≤ 4 * 2147483648:=Int.mul_le_mul (by omega) (by omega) (by omega) (by omega);have hz0:0 ≤ (z:Int) * j:=Int.mul_nonneg (by omega) (by omega);have hlen:((cutRows r z n).map num).length = n:=by simp
   have hy:((cutRows r z n).map num)[j]? = some (num ((r.drop (z * j)).take z)):=by rw [List.getElem?_map,ζ5d _ _ _ _ hj]; rfl
   obtain ⟨b,H2,e1,h1,h2,h3,h4,h5,h6⟩:=ho.set encI_len j 0 1 0 (num ((r.drop (z * j)).take z)) (.int .i64 (num ((r.drop (z * j)).take z))) (fill_get _ _ hlen hj) rfl rfl (by decide) rfl;rw [ζid _ _ hlen hj _ hy] at h4;simp at e1;obtain ⟨rfl,_⟩:=e1;generalize num ((r.drop (z * j)).take z) = y at hnum h3 h4;have hx':Ext H H2:=⟨by rw [h6]; exact hx.n,fun c hc hs => by rw [h5 c (by omega)]; exact hx.2 c hc hs⟩
   refine .inl ⟨_,H2,?_,rfl,h4,hx',by rw [h5 _ (by omega)]; exact hg⟩;simp only [Nat.add_zero,Nat.mul_one] at h3;rw [ζ7e];simp -implicitDefEqProofs (disch:=omega) [-stR_ptr,hlt,hg,hnum,ζev,h3])
  (fun e H' ⟨he,ho,hx,hg⟩ => by
   subst he;refine ⟨.exit 0,_,H',?_,by simp,rfl,rfl,by simpa [List.take_of_length_le] using ho,hx⟩;rw [ζ7e];simp -implicitDefEqProofs)
 obtain ⟨L,hf⟩:=ho.freeze encI_len (ζbv _) 6;simp -implicitDefEqProofs (disch:=omega) [mkR_nat,hr',ζad];exact .ok hx ⟨L,hf⟩
end Go.Sw
end
