/-
  Functions' forms, and what is proved of them, part 2.
-/
import Derived.Test.YtanfippcmdialaaSwW1
import Derived.Test.YtanfippcmdialaaSwLib9
import Derived.Test.YtanfippcmdialaaSwCfg
set_option linter.unusedSimpArgs false
set_option linter.unusedVariables false
set_option linter.unusedSectionVars false
section
namespace Go.Sw
open Go.RowKit
theorem mapO_len {α β:Type} {f:α → Option β}:∀ {l:List α} {r:List β},mapO f l = some r → r.length = l.length
 | [],r,h => by injection h with h; subst h; rfl
 | x :: l,r,h => by
  simp only [mapO] at h;obtain ⟨y,_,h⟩:=Option.bind_eq_some_iff.1 h;obtain ⟨r',h1,rfl⟩:=Option.map_eq_some_iff.1 h;simp [mapO_len h1]
theorem mapO_get {α β:Type} {f:α → Option β}:∀ {l:List α} {r:List β} {i:Nat} {y:β},mapO f l = some r → r[i]? = some y → ∃ x,l[i]? = some x ∧ f x = some y
 | [],r,i,y,h,hy => by injection h with h; subst h; simp at hy
 | x :: l,r,i,y,h,hy => by
  simp only [mapO] at h;obtain ⟨z,h0,h⟩:=Option.bind_eq_some_iff.1 h;obtain ⟨r',h1,rfl⟩:=Option.map_eq_some_iff.1 h;cases i with
  | zero => simp at hy; subst hy; exact ⟨x,by simp,h0⟩
  | succ i => simp at hy; simpa using mapO_get h1 hy
structure Pt where
 first:Int
 last:Int
 vals:List Int
def listS (b:List Int) (i n z:Int):Option (List Int):=(rowsS b i n z).map fun r => (cutRows r z.toNat n.toNat).map num
def trimS (b:List Int) (i z:Int):Option (List Pt) :=
 (uS b i 2).bind fun f => (uS b (i + 2) 2).bind fun n =>
  if f + n ≤ 65536 then (listS b (i + 4) n z).map fun vs => if n = 0 then [] else [⟨f,f + n - 1,vs⟩] else none
def segP (b:List Int) (z:Int) (each:Bool) (row:List Int):Option Pt :=
 (uS row 2 2).bind fun f => (uS row 0 2).bind fun l =>
  if f ≤ l then (if each then (uS row 4 2).bind fun i => (listS b i (l - f + 1) z).map fun vs => ⟨f,l,vs⟩ else (uS row 4 z).map fun x => ⟨f,l,[x]⟩) else none
def segS (b:List Int) (z:Int) (each:Bool):Option (List Pt) :=
 (takeS b 2 (if each then 6 else 4 + z) 2).bind (mapO (segP b z each))
def oneP (z:Int) (row:List Int):Option Pt:=(uS row 0 2).bind fun i => (uS row 2 z).map fun x => ⟨i,i,[x]⟩
def oneS (b:List Int) (z:Int):Option (List Pt):=(takeS b 2 (2 + z) 1).bind (mapO (oneP z))
def risesS:List Pt → Bool
 | [] => true
 | [_] => true
 | p :: q :: l => decide (p.last < q.first) && risesS (q :: l)
def partsS (b:List Int) (glyphs z fmt:Int):Option (List Pt) :=
 if fmt = 0 then (listS b 2 glyphs z).map fun vs => [⟨0,glyphs - 1,vs⟩] else
 if fmt = 2 then segS b z false else
 if fmt = 4 then segS b z true else
 if fmt = 6 then oneS b z else
 if fmt = 8 then trimS b 2 z else
 if fmt = 10 then (uS b 2 2).bind fun u => if u = 1 ∨ u = 2 ∨ u = 4 then trimS b 4 u else none
 else none
def lookS (b:List Int) (glyphs z:Int):Option (Int × List Pt) :=
 (uS b 0 2).bind fun fmt => (partsS b glyphs z fmt).bind fun ps => if risesS ps then some (fmt,ps) else none
def Pt.num (p:Pt) (id:Int):Option Int:=p.vals[(min (id - p.first) ((p.vals.length:Int) - 1)).toNat]?
def getS (ps:List Pt) (id:Int):Option Int:=(ps.find? fun p => decide (id ≤ p.last)).bind fun p => if p.first ≤ id then p.num id else none
theorem ζmt {α:Type} (q:α → Bool):∀ (l:List α) (i:Nat),IsFirst l.length (fun j => (l[j]?).elim false q) i → l.find? q = l[i]?
 | [],i,h => by simp
 | x :: l,0,h => by
  have:=h.2.2 0 (Nat.le_refl _) (by simp);simp at this;simp [this]
 | x :: l,i + 1,h => by
  have h0:=h.2.1 0 (by omega);simp at h0;rw [List.find?_cons,h0];simp only [List.getElem?_cons_succ];exact ζmt q l i ⟨by simpa using h.1,fun j hj => by simpa using h.2.1 (j + 1) (by omega),fun j h1 h2 => by simpa using h.2.2 (j + 1) (by omega) (by simpa using h2)⟩
def Pt.ok (p:Pt):Prop:=0 ≤ p.first ∧ p.first ≤ p.last ∧ p.last < 65536 ∧ p.vals ≠ [] ∧ (p.vals.length:Int) ≤ 65536 ∧ ∀ x,x ∈ p.vals → 0 ≤ x ∧ x < 4294967296
theorem num_lt4 {l:List Int} (h:Byt l) (hl:l.length ≤ 4):0 ≤ num l ∧ num l < 4294967296:=by
 have:=ζix l h;have h4:l.length = 0 ∨ l.length = 1 ∨ l.length = 2 ∨ l.length = 3 ∨ l.length = 4:=by omega
 rcases h4 with e | e | e | e | e <;> rw [e] at this <;> omega
theorem ζem {r:List Int} (hb:Byt r) (z n:Nat) {l:List Int} (h:l ∈ cutRows r z n):Byt l ∧ l.length ≤ z:=by
 obtain ⟨i,_,rfl⟩:=List.mem_map.1 h;exact ⟨fun x hx => hb x (List.mem_of_mem_drop (List.mem_of_mem_take hx)),by simp; omega⟩
theorem rowsS_n {b:List Int} {i n z:Int} {r:List Int} (h:rowsS b i n z = some r):0 ≤ n ∧ 0 ≤ z ∧ 0 ≤ i ∧ i ≤ b.length ∧ n * z ≤ b.length - i ∧ r = (b.drop i.toNat).take (n * z).toNat:=by
 unfold rowsS at h;split at h
 ·rename_i hc;unfold pieceS at h;split at h
  ·rename_i hd;injection h with h;exact ⟨hc.1,hc.2.1,hd.1,hd.2.2.1,hd.2.2.2,h.symm⟩
  ·cases h
 ·cases h
theorem ζ9i {b:List Int} (hb:Byt b) {i n z:Int} {vs:List Int} (hz:z ≤ 4) (h:listS b i n z = some vs):0 ≤ n ∧ (vs.length:Int) = n ∧ ∀ x,x ∈ vs → 0 ≤ x ∧ x < 4294967296:=by
 unfold listS at h;obtain ⟨r,hr,rfl⟩:=Option.map_eq_some_iff.1 h;have h1:=rowsS_n hr;have h2:=(hb.piece (ζ3c hr)).1;refine ⟨h1.1,by simp; omega,fun x hx => ?_⟩;obtain ⟨l,hl,rfl⟩:=List.mem_map.1 hx;obtain ⟨h3,h4⟩:=ζem h2 _ _ hl;exact num_lt4 h3 (by omega)
theorem ζ5s {b:List Int} (hb:Byt b) {i need:Int} {keys:Nat} {rows:List (List Int)} (h:takeS b i need keys = some rows):∃ z n:Int,uS b i 2 = some z ∧ uS b (i + 2) 2 = some n ∧ need ≤ z ∧ (rows.length:Int) ≤ n ∧ ∀ row,row ∈ rows → Byt row ∧ (row.length:Int) = z:=by
 unfold takeS at h;split at h
 ·rename_i z n h1 h2;split at h
  ·rename_i hc;obtain ⟨r,hr,rfl⟩:=Option.map_eq_some_iff.1 h;have hn:=rowsS_n hr;have hrb:=(hb.piece (ζ3c hr)).1;have hrl:(r.length:Int) = n * z:=ζ3l (ζ3c hr);refine ⟨z,n,h1,h2,hc.2,?_,fun row hrow => ?_⟩
   ·unfold endRows;split <;> simp <;> omega
   ·have hm:row ∈ cutRows r z.toNat n.toNat:=by
     unfold endRows at hrow;split at hrow
     ·obtain ⟨i,hi,rfl⟩:=List.mem_map.1 hrow;exact List.mem_map.2 ⟨i,List.mem_range.2 (by have:=List.mem_range.1 hi; omega),rfl⟩
     ·exact hrow
    refine ⟨(ζem hrb _ _ hm).1,?_⟩;obtain ⟨j,hj,rfl⟩:=List.mem_map.1 hm;have hj:=List.mem_range.1 hj;obtain ⟨z',rfl⟩:=Int.eq_ofNat_of_zero_le hn.2.1;obtain ⟨n',rfl⟩:=Int.eq_ofNat_of_zero_le hn.1;have hrl:r.length = n' * z':=by exact_mod_cast hrl
    simp only [Int.toNat_natCast] at hj ⊢;have:z' * j + z' ≤ r.length:=by
     rw [hrl,← Nat.mul_succ,Nat.mul_comm];exact Nat.mul_le_mul_right _ hj
    simp; omega
  ·cases h
 ·cases h
theorem trimS_ok {b:List Int} (hb:Byt b) {i z:Int} (hz:z ≤ 4) {ps:List Pt} (h:trimS b i z = some ps):∀ p,p ∈ ps → p.ok:=by
 unfold trimS at h;obtain ⟨f,hf,h⟩:=Option.bind_eq_some_iff.1 h;obtain ⟨n,hn,h⟩:=Option.bind_eq_some_iff.1 h;split at h
 ·rename_i hc;obtain ⟨vs,hv,rfl⟩:=Option.map_eq_some_iff.1 h;have hs:=ζ9i hb hz hv;have hf:=uS_two hb hf;have hn:=uS_two hb hn;intro p hp;split at hp
  ·simp at hp
  ·simp at hp;subst hp;exact ⟨by simp; omega,by simp; omega,by simp; omega,fun e => by simp at e; simp [e] at hs; omega,by simp; omega,hs.2.2⟩
 ·cases h
theorem segP_ok {b row:List Int} (hb:Byt b) (hr:Byt row) {z:Int} (hz:z = 2 ∨ z = 4) {each:Bool} {p:Pt} (h:segP b z each row = some p):p.ok:=by
 unfold segP at h;obtain ⟨f,hf,h⟩:=Option.bind_eq_some_iff.1 h;obtain ⟨l,hl,h⟩:=Option.bind_eq_some_iff.1 h;have hf:=uS_two hr hf;have hl:=uS_two hr hl;split at h
 ·split at h
  ·obtain ⟨i,hi,h⟩:=Option.bind_eq_some_iff.1 h;obtain ⟨vs,hv,rfl⟩:=Option.map_eq_some_iff.1 h;have hs:=ζ9i hb (by omega) hv;exact ⟨by simp; omega,by simpa,by simp; omega,fun e => by simp at e; simp [e] at hs; omega,by simp; omega,hs.2.2⟩
  ·obtain ⟨x,hx,rfl⟩:=Option.map_eq_some_iff.1 h;refine ⟨by simp; omega,by simpa,by simp; omega,by simp,by simp,fun y hy => ?_⟩;simp at hy;subst hy;rcases hz with rfl | rfl
   ·have:=uS_two hr hx; omega
   ·have:=uS_four hr hx; omega
 ·cases h
theorem oneP_ok {row:List Int} (hr:Byt row) {z:Int} (hz:z = 2 ∨ z = 4) {p:Pt} (h:oneP z row = some p):p.ok:=by
 unfold oneP at h;obtain ⟨i,hi,h⟩:=Option.bind_eq_some_iff.1 h;obtain ⟨x,hx,rfl⟩:=Option.map_eq_some_iff.1 h;have hi:=uS_two hr hi;refine ⟨by simp; omega,by simp,by simp; omega,by simp,by simp,fun y hy => ?_⟩;simp at hy;subst hy;rcases hz with rfl | rfl
 ·have:=uS_two hr hx; omega
 ·have:=uS_four hr hx; omega
theorem mapO_all {α β:Type} {f:α → Option β} {l:List α} {r:List β} (h:mapO f l = some r) {P:β → Prop} (hp:∀ x y,x ∈ l → f x = some y → P y):∀ y,y ∈ r → P y:=by
 intro y hy;obtain ⟨i,hi⟩:=List.mem_iff_getElem?.1 hy;obtain ⟨x,hx,hf⟩:=mapO_get h hi;exact hp x y (List.mem_of_getElem? hx) hf
theorem ζp3 {b:List Int} (hb:Byt b) {glyphs z fmt:Int} (hg:1 ≤ glyphs) (hg2:glyphs ≤ 65535) (hz:z = 2 ∨ z = 4) {ps:List Pt} (h:partsS b glyphs z fmt = some ps):∀ p,p ∈ ps → p.ok:=by
 unfold partsS at h;split at h
 ·obtain ⟨vs,hv,rfl⟩:=Option.map_eq_some_iff.1 h;have hs:=ζ9i hb (by omega) hv;intro p hp;simp at hp;subst hp;exact ⟨by simp,by simp; omega,by simp; omega,fun e => by simp at e; simp [e] at hs; omega,by simp; omega,hs.2.2⟩
 split at h
 ·obtain ⟨rows,h1,h2⟩:=Option.bind_eq_some_iff.1 h;obtain ⟨_,_,_,_,_,_,hr⟩:=ζ5s hb h1;exact mapO_all h2 fun x y hx hy => segP_ok hb (hr x hx).1 hz hy
 split at h
 ·obtain ⟨rows,h1,h2⟩:=Option.bind_eq_some_iff.1 h;obtain ⟨_,_,_,_,_,_,hr⟩:=ζ5s hb h1;exact mapO_all h2 fun x y hx hy => segP_ok hb (hr x hx).1 hz hy
 split at h
 ·obtain ⟨rows,h1,h2⟩:=Option.bind_eq_some_iff.1 h;obtain ⟨_,_,_,_,_,_,hr⟩:=ζ5s hb h1;exact mapO_all h2 fun x y hx hy => oneP_ok (hr x hx).1 hz hy
 split at h
 ·exact trimS_ok hb (by omega) h
 split at h
 ·obtain ⟨u,_,h⟩:=Option.bind_eq_some_iff.1 h;split at h
  ·exact trimS_ok hb (by omega) h
  ·cases h
 ·cases h
theorem lookS_ok {b:List Int} (hb:Byt b) {glyphs z fmt:Int} (hg:1 ≤ glyphs) (hg2:glyphs ≤ 65535) (hz:z = 2 ∨ z = 4) {ps:List Pt} (h:lookS b glyphs z = some (fmt,ps)):uS b 0 2 = some fmt ∧ (∀ p,p ∈ ps → p.ok) ∧ risesS ps = true:=by
 unfold lookS at h;obtain ⟨f,hf,h⟩:=Option.bind_eq_some_iff.1 h;obtain ⟨qs,hq,h⟩:=Option.bind_eq_some_iff.1 h;split at h
 ·rename_i hr;injection h with h; injection h with h1 h2;subst h1 h2;exact ⟨hf,ζp3 hb hg hg2 hz hq,hr⟩
 ·cases h
theorem segS_len {b:List Int} (hb:Byt b) {z:Int} {each:Bool} {ps:List Pt} (h:segS b z each = some ps):ps.length < 65536:=by
 obtain ⟨rows,h1,h2⟩:=Option.bind_eq_some_iff.1 h;obtain ⟨_,n,_,hn,_,hlen,_⟩:=ζ5s hb h1;have:=uS_two hb hn;have:=mapO_len h2;omega
theorem oneS_len {b:List Int} (hb:Byt b) {z:Int} {ps:List Pt} (h:oneS b z = some ps):ps.length < 65536:=by
 obtain ⟨rows,h1,h2⟩:=Option.bind_eq_some_iff.1 h;obtain ⟨_,n,_,hn,_,hlen,_⟩:=ζ5s hb h1;have:=uS_two hb hn;have:=mapO_len h2;omega
theorem ζpa {b:List Int} {i z:Int} {ps:List Pt} (h:trimS b i z = some ps):ps.length < 65536:=by
 obtain ⟨f,_,h⟩:=Option.bind_eq_some_iff.1 h;obtain ⟨n,_,h⟩:=Option.bind_eq_some_iff.1 h;split at h
 ·obtain ⟨vs,_,rfl⟩:=Option.map_eq_some_iff.1 h;split <;> simp
 ·cases h
theorem ζos {b:List Int} (hb:Byt b) {g z:Int} {x:Int × List Pt} (h:lookS b g z = some x):x.2.length < 2 ^ 31:=by
 unfold lookS at h;obtain ⟨f,_,h⟩:=Option.bind_eq_some_iff.1 h;obtain ⟨ps,h1,h⟩:=Option.bind_eq_some_iff.1 h;split at h
 ·injection h with h;subst h;dsimp only;unfold partsS at h1;split at h1
  ·obtain ⟨vs,_,rfl⟩:=Option.map_eq_some_iff.1 h1;simp
  split at h1
  ·have:=segS_len hb h1; omega
  split at h1
  ·have:=segS_len hb h1; omega
  split at h1
  ·have:=oneS_len hb h1; omega
  split at h1
  ·have:=ζpa h1; omega
  split at h1
  ·obtain ⟨u,_,h1⟩:=Option.bind_eq_some_iff.1 h1;split at h1
   ·have:=ζpa h1; omega
   ·cases h1
  ·cases h1
 ·cases h
theorem ζgv:∀ {ps:List Pt},risesS ps = true → (∀ p,p ∈ ps → p.ok) → ∀ (i j:Nat) (p q:Pt),i < j → ps[i]? = some p → ps[j]? = some q → p.last < q.first
 | [],_,_,i,j,p,q,_,hp,_ => by simp at hp
 | [_],_,_,i,j,p,q,hij,hp,hq => by
  have h1:=(List.getElem?_eq_some_iff.1 hq).1;simp at h1;omega
 | a :: b :: l,h,hok,i,j,p,q,hij,hp,hq => by
  simp only [risesS,Bool.and_eq_true,decide_eq_true_eq] at h;obtain ⟨j,rfl⟩:∃ j',j = j' + 1:=⟨j - 1,by omega⟩
  have hq:(b :: l)[j]? = some q:=by simpa using hq
  have hok':∀ p,p ∈ b :: l → p.ok:=fun p hp => hok p (by simp at hp ⊢; exact .inr hp);cases i with
  | succ i => exact ζgv h.2 hok' i j p q (by omega) (by simpa using hp) hq
  | zero =>
   simp at hp;subst hp;cases j with
   | zero => simp at hq; subst hq; exact h.1
   | succ j =>
    have h1:=ζgv h.2 hok' 0 (j + 1) b q (by omega) (by simp) hq;have h2:=hok b (by simp);have:=h2.2.1;omega
theorem ζqy {ps:List Pt} (id:Int) (i:Nat) (h:IsFirst ps.length (fun j => (ps[j]?).elim false fun p => decide (id ≤ p.last)) i):getS ps id = (ps[i]?).bind fun p => if p.first ≤ id then p.num id else none:=by
 unfold getS;rw [ζmt _ ps i h]
theorem Pt.num_some {p:Pt} (h:p.ok) {id:Int} (hf:p.first ≤ id):∃ x,p.num id = some x ∧ 0 ≤ x ∧ x < 4294967296:=by
 obtain ⟨h1,h2,h3,h4,h5,h6⟩:=h;have hl:0 < p.vals.length:=List.length_pos_iff.2 h4;unfold Pt.num;have hi:(min (id - p.first) ((p.vals.length:Int) - 1)).toNat < p.vals.length:=by omega
 exact ⟨p.vals[(min (id - p.first) ((p.vals.length:Int) - 1)).toNat],List.getElem?_eq_getElem hi,h6 _ (List.getElem_mem _)⟩
end Go.Sw
end
section
namespace Go.Sw
open Go.RowKit
theorem ζ4j {b:List Int} {i n:Int} {r:List Int}:pieceS b i n = some r ↔ (0 ≤ i ∧ 0 ≤ n ∧ i ≤ b.length ∧ n ≤ b.length - i) ∧ r = (b.drop i.toNat).take n.toNat:=by
 unfold pieceS;split
 ·rename_i h;constructor
  ·intro e; injection e with e; exact ⟨h,e.symm⟩
  ·rintro ⟨_,rfl⟩; rfl
 ·rename_i h;constructor
  ·intro e; cases e
  ·rintro ⟨h',_⟩; exact absurd h' h
theorem uS_sub {b r:List Int} {p z:Int} (h:pieceS b p z = some r) {x y:Int} (hx:0 ≤ x) (hy:0 ≤ y) (hxy:x + y ≤ z):uS r x y = uS b (p + x) y:=by
 obtain ⟨⟨h1,h2,h3,h4⟩,rfl⟩:=ζ4j.1 h;have hl:((b.drop p.toNat).take z.toNat).length = z.toNat:=by simp; omega
 unfold uS;rw [ζ4j.2 ⟨by rw [hl]; omega,rfl⟩,ζ4j.2 ⟨by omega,rfl⟩,List.drop_take,List.take_take,List.drop_drop];rw [show min y.toNat (z.toNat - x.toNat) = y.toNat by omega,show p.toNat + x.toNat = (p + x).toNat by omega]
theorem ζgw {b:List Int} {i n z:Int} {r:List Int} (hz:0 < z):rowsS b i n z = some r ↔ (0 ≤ i ∧ 0 ≤ n ∧ i ≤ b.length ∧ n * z ≤ b.length - i) ∧ r = (b.drop i.toNat).take (n * z).toNat:=by
 unfold rowsS;have k:n ≤ (b.length:Int) / z ↔ n * z ≤ b.length:=Int.le_ediv_iff_mul_le hz;split
 ·rename_i h;rw [ζ4j];constructor
  ·rintro ⟨h1,h2⟩; exact ⟨⟨h1.1,h.1,h1.2.2.1,h1.2.2.2⟩,h2⟩
  ·rintro ⟨h1,h2⟩; exact ⟨⟨h1.1,Int.mul_nonneg h.1 (by omega),h1.2.2.1,h1.2.2.2⟩,h2⟩
 ·rename_i h;constructor
  ·intro e; cases e
  ·rintro ⟨h1,_⟩;exact absurd ⟨h1.2.1,by omega,.inr (k.2 (by omega))⟩ h
theorem ζet {s i n z:Int} (hz:0 < z):rowsB s i n z = true ↔ 0 ≤ i ∧ 0 ≤ n ∧ i ≤ s ∧ n * z ≤ s - i:=by
 unfold rowsB;have k:n ≤ (s - i) / z ↔ n * z ≤ s - i:=Int.le_ediv_iff_mul_le hz;rw [decide_eq_true_eq,k];constructor
 ·rintro ⟨h1,h2,h3,h4,h5⟩; exact ⟨h1,h2,h4,by rcases h5 with h5 | h5 <;> omega⟩
 ·rintro ⟨h1,h2,h3,h4⟩; exact ⟨h1,h2,by omega,h3,.inr h4⟩
theorem ζaf {b:List Int} {i n z:Int} (hz:0 < z):(listS b i n z).isSome = rowsB b.length i n z:=by
 rw [Bool.eq_iff_iff,ζet hz,listS,Option.isSome_map,Option.isSome_iff_exists];constructor
 ·rintro ⟨r,hr⟩; exact ((ζgw hz).1 hr).1
 ·intro h; exact ⟨_,(ζgw hz).2 ⟨h,rfl⟩⟩
theorem ζor {b:List Int} {i n z:Int} {vs:List Int} (hz:0 < z) (h:listS b i n z = some vs) (j:Nat) (hj:(j:Int) < n):vs[j]? = uS b (i + j * z) z:=by
 unfold listS at h;obtain ⟨r,hr,rfl⟩:=Option.map_eq_some_iff.1 h;obtain ⟨⟨h1,h2,h3,h4⟩,rfl⟩:=(ζgw hz).1 hr;obtain ⟨i,rfl⟩:=Int.eq_ofNat_of_zero_le h1;obtain ⟨n,rfl⟩:=Int.eq_ofNat_of_zero_le h2;obtain ⟨z,rfl⟩:=Int.eq_ofNat_of_zero_le (Int.le_of_lt hz);have hj':j < n:=by omega
 have e:j * z + z ≤ n * z:=by
  rw [← Nat.succ_mul]; exact Nat.mul_le_mul_right _ hj'
 have h4':n * z ≤ b.length - i:=by omega
 simp only [Int.toNat_natCast];rw [List.getElem?_map,ζ45 _ _ _ _ hj',Option.map_some];unfold uS;rw [ζ4j.2 ⟨⟨by omega,by omega,by
  have:((j * z:Nat):Int) = (j:Int) * z:=by simp
  omega,by
  have:((j * z:Nat):Int) = (j:Int) * z:=by simp
  omega⟩,rfl⟩,Option.map_some]
 congr 2;rw [show ((n:Int) * z).toNat = n * z by rw [← Int.natCast_mul,Int.toNat_natCast],show ((i:Int) + j * z).toNat = i + j * z by rw [← Int.natCast_mul,← Int.natCast_add,Int.toNat_natCast],Int.toNat_natCast];rw [List.drop_take,List.take_take,List.drop_drop,Nat.mul_comm z j];rw [show min z (n * z - j * z) = z by omega]
theorem ζt3 {b:List Int} {i:Int} {n z:Nat} {r:List Int} (h:rowsS b i n z = some r) {j:Nat} (hj:j < n):pieceS b (i + z * j) z = some ((r.drop (z * j)).take z):=by
 have hn:=rowsS_n h;obtain ⟨i',hi'⟩:=Int.eq_ofNat_of_zero_le hn.2.2.1;have e:z * j + z ≤ n * z:=by
  rw [← Nat.mul_succ,Nat.mul_comm]; exact Nat.mul_le_mul_right _ (by omega)
 have e1:((z * j:Nat):Int) = (z:Int) * j:=by simp
 have e2:((n * z:Nat):Int) = (n:Int) * z:=by simp
 rw [ζ4j];refine ⟨⟨by omega,by omega,by omega,by omega⟩,?_⟩;rw [hn.2.2.2.2.2,hi',show ((n:Int) * z).toNat = n * z by rw [← e2,Int.toNat_natCast],show ((i':Int) + z * j).toNat = i' + z * j by rw [← e1,← Int.natCast_add,Int.toNat_natCast]];simp only [Int.toNat_natCast];rw [List.drop_take,List.take_take,List.drop_drop];rw [show min z (n * z - z * j) = z by omega]
theorem ζh8 {b:List Int} {i need:Int} {keys:Nat} {rows:List (List Int)} (h:takeS b i need keys = some rows) :
  ∃ z n:Int,uS b i 2 = some z ∧ uS b (i + 2) 2 = some n ∧ need ≤ z ∧ 0 ≤ z ∧ (rows.length:Int) ≤ n ∧ ∀ (j:Nat) row,rows[j]? = some row → pieceS b (i + 10 + z * j) z = some row:=by
 unfold takeS at h;split at h
 ·rename_i z n h1 h2;split at h
  ·rename_i hc;obtain ⟨r,hr,rfl⟩:=Option.map_eq_some_iff.1 h;have hn:=rowsS_n hr;refine ⟨z,n,h1,h2,hc.2,hn.2.1,?_,fun j row hrow => ?_⟩
   ·unfold endRows;split <;> simp <;> omega
   ·have hm:(cutRows r z.toNat n.toNat)[j]? = some row:=by
     unfold endRows at hrow;split at hrow
     ·have hlt:=(List.getElem?_eq_some_iff.1 hrow).1;simp at hlt;rw [ζ45 _ _ _ _ (by omega)] at hrow;rw [ζ45 _ _ _ _ (by omega)];exact hrow
     ·exact hrow
    have hlt:=(List.getElem?_eq_some_iff.1 hm).1;simp at hlt;rw [ζ45 _ _ _ _ (by omega)] at hm;injection hm with hm;obtain ⟨z',rfl⟩:=Int.eq_ofNat_of_zero_le hn.2.1;obtain ⟨n',rfl⟩:=Int.eq_ofNat_of_zero_le hn.1;obtain ⟨i',hi'⟩:=Int.eq_ofNat_of_zero_le hn.2.2.1;simp only [Int.toNat_natCast] at hlt hm;have e:z' * j + z' ≤ n' * z':=by
     rw [← Nat.mul_succ,Nat.mul_comm]; exact Nat.mul_le_mul_right _ (by omega)
    have e1:((z' * j:Nat):Int) = (z':Int) * j:=by simp
    have e2:((n' * z':Nat):Int) = (n':Int) * z':=by simp
    rw [ζ4j];refine ⟨⟨by omega,by omega,by omega,by omega⟩,?_⟩;rw [← hm,hn.2.2.2.2.2,hi',show ((n':Int) * z').toNat = n' * z' by rw [← e2,Int.toNat_natCast],show ((i':Int) + z' * j).toNat = i' + z' * j by rw [← e1,← Int.natCast_add,Int.toNat_natCast]];simp only [Int.toNat_natCast];rw [List.drop_take,List.take_take,List.drop_drop];rw [show min z' (n' * z' - z' * j) = z' by omega]
  ·cases h
 ·cases h
def gU (b:List Int) (i n:Int):Int:=(uS b i n).getD (-1)
theorem gU_two {b:List Int} (hb:Byt b) (i:Int):-1 ≤ gU b i 2 ∧ gU b i 2 < 65536:=by
 unfold gU;cases h:uS b i 2 with
 | none => simp
 | some x => have:=uS_two hb h; simp; omega
structure RP where
 first:Int
 last:Int
 pos:Int
 size:Int
 step:Int
def posS (i z:Int) (n:Nat):List Int:=(List.range n).map fun j => i + 10 + z * (j:Nat)
theorem posS_get (i z:Int) (n j:Nat) (h:j < n):(posS i z n)[j]? = some (i + 10 + z * j):=by simp [posS,h]
@[simp] theorem posS_len (i z:Int) (n:Nat):(posS i z n).length = n:=by simp [posS]
def segR (b:List Int) (z:Int) (each:Bool) (p:Int):Option RP :=
 if each then (if rowsB b.length (gU b (p + 4) 2) (gU b p 2 - gU b (p + 2) 2 + 1) z then some ⟨gU b (p + 2) 2,gU b p 2,gU b (p + 4) 2,z,z⟩ else none)
 else some ⟨gU b (p + 2) 2,gU b p 2,p + 4,z,0⟩
def refSegS (b:List Int) (z:Int) (each:Bool):Option (List RP) :=
 (takeS b 2 (if each then 6 else 4 + z) 2).bind fun rows => mapO (segR b z each) (posS 2 (gU b 2 2) rows.length)
def oneR (b:List Int) (z:Int) (p:Int):RP:=⟨gU b p 2,gU b p 2,p + 2,z,0⟩
def refOneS (b:List Int) (z:Int):Option (List RP) :=
 (takeS b 2 (2 + z) 1).map fun rows => (posS 2 (gU b 2 2) rows.length).map (oneR b z)
def refTrimS (b:List Int) (i z:Int):Option (List RP) :=
 (uS b i 2).bind fun f => (uS b (i + 2) 2).bind fun n =>
  if f + n ≤ 65536 ∧ rowsB b.length (i + 4) n z = true then some (if n = 0 then [] else [⟨f,f + n - 1,i + 4,z,z⟩]) else none
def refPartsS (b:List Int) (glyphs z fmt:Int):Option (List RP) :=
 if fmt = 0 then (if rowsB b.length 2 glyphs z then some [⟨0,glyphs - 1,2,z,z⟩] else none) else
 if fmt = 2 then refSegS b z false else
 if fmt = 4 then refSegS b z true else
 if fmt = 6 then refOneS b z else
 if fmt = 8 then refTrimS b 2 z else
 if fmt = 10 then (uS b 2 2).bind fun u => if u = 1 ∨ u = 2 ∨ u = 4 then refTrimS b 4 u else none
 else none
def goodR:List RP → Bool
 | [] => true
 | [r] => decide (r.first ≤ r.last)
 | r :: q :: l => decide (r.first ≤ r.last) && decide (r.last < q.first) && goodR (q :: l)
def refReadS (b:List Int) (glyphs z:Int):Option (List RP) :=
 (refPartsS b glyphs z (gU b 0 2)).bind fun rs => if goodR rs then some rs else none
def refGetS (b:List Int) (rs:List RP) (id:Int):Option Int :=
 (rs.find? fun r => decide (r.first ≤ id ∧ id ≤ r.last)).map fun r => gU b (r.pos + (id - r.first) * r.step) r.size
def PR (b:List Int) (p:Pt) (r:RP):Prop:=p.first = r.first ∧ p.last = r.last ∧ (∀ id,r.first ≤ id → id ≤ r.last → p.num id = uS b (r.pos + (id - r.first) * r.step) r.size) ∧ ((r.step = 0 ∧ p.vals.length = 1) ∨ (r.step ≠ 0 ∧ (p.vals.length:Int) = r.last - r.first + 1))
def Rel (b:List Int):List Pt → List RP → Prop
 | [],[] => True
 | p :: ps,r :: rs => PR b p r ∧ Rel b ps rs
 | _,_ => False
def Bad (rs:List RP):Prop:=∃ r,r ∈ rs ∧ r.last < r.first
theorem Bad.good {rs:List RP} (h:Bad rs):goodR rs = false:=by
 obtain ⟨r,hr,hlt⟩:=h
 induction rs with
 | nil => cases hr
 | cons a l ih =>
  rcases List.mem_cons.1 hr with rfl | hr
  ·cases l with
   | nil => simp [goodR]; omega
   | cons q l => simp only [goodR,Bool.and_eq_false_iff,decide_eq_false_iff_not]; exact .inl (.inl (by omega))
  ·have:=ih hr;cases l with
   | nil => cases hr
   | cons q l => simp only [goodR,this,Bool.and_false]
theorem mapO_rel {b:List Int} {f:List Int → Option Pt} {g:Int → Option RP}:∀ (rows:List (List Int)) (ps:List Int),rows.length = ps.length →
  (∀ (j:Nat) row p,rows[j]? = some row → ps[j]? = some p → (∀ x,f row = some x → ∃ r,g p = some r ∧ PR b x r) ∧ (f row = none → g p = none ∨ ∃ r,g p = some r ∧ r.last < r.first)) →
  (∀ xs,mapO f rows = some xs → ∃ rs,mapO g ps = some rs ∧ Rel b xs rs) ∧ (mapO f rows = none → ∀ rs,mapO g ps = some rs → Bad rs)
 | [],[],_,_ => ⟨fun xs h => ⟨[],rfl,by injection h with h; subst h; trivial⟩,fun h => by cases h⟩
 | [],_ :: _,h,_ => by simp at h
 | _ :: _,[],h,_ => by simp at h
 | row :: rows,p :: ps,h,hs => by
  have h0:=hs 0 row p (by simp) (by simp);have ih:=mapO_rel rows ps (by simpa using h) fun j r q h1 h2 => hs (j + 1) r q (by simpa using h1) (by simpa using h2);constructor
  ·intro xs hx;simp only [mapO] at hx;obtain ⟨x,e1,hx⟩:=Option.bind_eq_some_iff.1 hx;obtain ⟨xs',e2,rfl⟩:=Option.map_eq_some_iff.1 hx;obtain ⟨r,g1,p1⟩:=h0.1 x e1;obtain ⟨rs,g2,p2⟩:=ih.1 xs' e2;exact ⟨r :: rs,by simp [mapO,g1,g2],p1,p2⟩
  ·intro hn rs hr;simp only [mapO] at hr;obtain ⟨r,e1,hr⟩:=Option.bind_eq_some_iff.1 hr;obtain ⟨rs',e2,rfl⟩:=Option.map_eq_some_iff.1 hr;cases hf:f row with
   | none =>
    rcases h0.2 hf with h1 | ⟨r',h1,h2⟩
    ·rw [h1] at e1; cases e1
    ·rw [h1] at e1; injection e1 with e1; subst e1;exact ⟨r',by simp,h2⟩
   | some x =>
    simp only [mapO,hf,Option.bind_some,Option.map_eq_none_iff] at hn;obtain ⟨q,hq,hlt⟩:=ih.2 hn rs' e2;exact ⟨q,by simp [hq],hlt⟩
theorem ζow {α β:Type} (f:α → β):∀ l:List α,mapO (fun x => some (f x)) l = some (l.map f)
 | [] => rfl
 | x :: l => by simp [mapO,ζow f l]
theorem gU_some {b:List Int} {i n x:Int} (h:uS b i n = some x):gU b i n = x:=by unfold gU; rw [h]; rfl
theorem row_two {b row:List Int} {p z:Int} (h:pieceS b p z = some row) {x:Int} (hx:0 ≤ x) {y:Int} (hy:0 ≤ y) (hxy:x + y ≤ z):uS row x y = uS b (p + x) y ∧ ∃ n,uS b (p + x) y = some n:=by
 refine ⟨uS_sub h hx hy hxy,?_⟩;obtain ⟨⟨h1,h2,h3,h4⟩,_⟩:=ζ4j.1 h;unfold uS;rw [ζ4j.2 ⟨by omega,rfl⟩];exact ⟨_,rfl⟩
theorem list_num {b:List Int} {i f l z:Int} {vs:List Int} (hz:0 < z) (h:listS b i (l - f + 1) z = some vs) (hlen:(vs.length:Int) = l - f + 1):PR b ⟨f,l,vs⟩ ⟨f,l,i,z,z⟩:=by
 refine ⟨rfl,rfl,fun id h1 h2 => ?_,.inr ⟨by dsimp only; omega,hlen⟩⟩;dsimp only at h1 h2 ⊢;unfold Pt.num;dsimp only;rw [hlen,show min (id - f) (l - f + 1 - 1) = id - f by omega];have:=ζor hz h (id - f).toNat (by omega);rw [this];congr 2;rw [show (((id - f).toNat:Nat):Int) = id - f by omega]
theorem seg_rel {b row:List Int} {p z s:Int} {each:Bool} (hb:Byt b) (hz:z = 2 ∨ z = 4) (hrow:pieceS b p s = some row) (hs:(if each then 6 else 4 + z) ≤ s) :
  (∀ x,segP b z each row = some x → ∃ r,segR b z each p = some r ∧ PR b x r) ∧ (segP b z each row = none → segR b z each p = none ∨ ∃ r,segR b z each p = some r ∧ r.last < r.first):=by
 have hs6:6 ≤ s:=by cases each <;> simp at hs <;> omega
 obtain ⟨e2,f,hf⟩:=row_two hrow (x:=2) (y:=2) (by omega) (by omega) (by omega);obtain ⟨e0,l,hl⟩:=row_two hrow (x:=0) (y:=2) (by omega) (by omega) (by omega);obtain ⟨e4,a,ha⟩:=row_two hrow (x:=4) (y:=2) (by omega) (by omega) (by omega);rw [Int.add_zero] at e0 hl;unfold segP segR;rw [e2,e0,hf,hl,gU_some hf,gU_some hl];simp only [Option.bind_some];cases each with
 | false =>
  simp at hs;obtain ⟨ez,x,hx⟩:=row_two hrow (x:=4) (y:=z) (by omega) (by omega) (by omega);simp only [Bool.false_eq_true,if_false];by_cases h:f ≤ l
  ·rw [if_pos h,ez,hx];refine ⟨fun y hy => ?_,fun hn => by cases hn⟩;injection hy with hy;subst hy;refine ⟨_,rfl,rfl,rfl,fun id h1 h2 => ?_,.inl ⟨rfl,rfl⟩⟩;dsimp only at h1 h2 ⊢;rw [Int.mul_zero,Int.add_zero,hx];unfold Pt.num;simp;rw [show (min (id - f) 0).toNat = 0 by omega];rfl
  ·rw [if_neg h];exact ⟨fun y hy => (by cases hy),fun _ => .inr ⟨_,rfl,by dsimp only; omega⟩⟩
 | true =>
  simp only [if_true];rw [e4,ha,gU_some ha];simp only [Option.bind_some];have hbl:=ζaf (b:=b) (i:=a) (n:=l - f + 1) (z:=z) (by omega);by_cases h:f ≤ l
  ·rw [if_pos h];cases hv:listS b a (l - f + 1) z with
   | none =>
    rw [hv] at hbl;rw [if_neg (by rw [← hbl]; simp)];exact ⟨fun y hy => (by cases hy),fun _ => .inl rfl⟩
   | some vs =>
    rw [hv] at hbl;rw [if_pos (by rw [← hbl]; rfl)];refine ⟨fun y hy => ?_,fun hn => by cases hn⟩;injection hy with hy;subst hy;exact ⟨_,rfl,list_num (by omega) hv (ζ9i hb (by omega) hv).2.1⟩
  ·rw [if_neg h];refine ⟨fun y hy => (by cases hy),fun _ => ?_⟩;split
   ·exact .inr ⟨_,rfl,by dsimp only; omega⟩
   ·exact .inl rfl
def Alike (b:List Int) (o:Option (List Pt)) (q:Option (List RP)):Prop:=(∀ xs,o = some xs → ∃ rs,q = some rs ∧ Rel b xs rs) ∧ (o = none → ∀ rs,q = some rs → Bad rs)
theorem Alike.none {b:List Int}:Alike b none none:=⟨fun xs h => (by cases h),fun _ rs h => by cases h⟩
theorem Alike.one {b:List Int} {p:Pt} {r:RP} (h:PR b p r):Alike b (some [p]) (some [r]):=⟨fun xs h' => ⟨_,rfl,by injection h' with h'; subst h'; exact ⟨h,trivial⟩⟩,fun h => by cases h⟩
theorem segs_rel {b:List Int} (hb:Byt b) {z:Int} (hz:z = 2 ∨ z = 4) (each:Bool):Alike b (segS b z each) (refSegS b z each):=by
 unfold segS refSegS;cases h:takeS b 2 (if each then 6 else 4 + z) 2 with
 | none => exact .none
 | some rows =>
  obtain ⟨s,n,h1,h2,h3,h4,h5,h6⟩:=ζh8 h;simp only [Option.bind_some];rw [gU_some h1];refine mapO_rel rows _ (by simp) fun j row p hr hp => ?_;have hlt:=(List.getElem?_eq_some_iff.1 hr).1;rw [posS_get _ _ _ _ hlt] at hp;injection hp with hp;subst hp;exact seg_rel hb hz (h6 j row hr) h3
theorem ones_rel {b:List Int} {z:Int} (hz:z = 2 ∨ z = 4):Alike b (oneS b z) (refOneS b z):=by
 unfold oneS refOneS;cases h:takeS b 2 (2 + z) 1 with
 | none => exact .none
 | some rows =>
  obtain ⟨s,n,h1,h2,h3,h4,h5,h6⟩:=ζh8 h;simp only [Option.bind_some,Option.map_some];rw [gU_some h1,← ζow];refine mapO_rel rows _ (by simp) fun j row p hr hp => ?_;have hlt:=(List.getElem?_eq_some_iff.1 hr).1;rw [posS_get _ _ _ _ hlt] at hp;injection hp with hp;subst hp;have hp:=h6 j row hr;obtain ⟨e0,f,hf⟩:=row_two hp (x:=0) (y:=2) (by omega) (by omega) (by omega);obtain ⟨e2,x,hx⟩:=row_two hp (x:=2) (y:=z) (by omega) (by omega) (by omega);rw [Int.add_zero] at e0 hf;unfold oneP oneR;rw [e0,e2,hf,hx,gU_some hf];refine ⟨fun y hy => ?_,fun hn => by cases hn⟩;simp at hy;subst hy;refine ⟨_,rfl,rfl,rfl,fun id h1 h2 => ?_,.inl ⟨rfl,rfl⟩⟩;dsimp only at h1 h2 ⊢;rw [Int.mul_zero,Int.add_zero,hx];unfold Pt.num;simp;rw [show (min (id - f) 0).toNat = 0 by omega];rfl
theorem ζpb {b:List Int} (hb:Byt b) {i z:Int} (hz:z = 1 ∨ z = 2 ∨ z = 4):Alike b (trimS b i z) (refTrimS b i z):=by
 unfold trimS refTrimS;cases h1:uS b i 2 with
 | none => exact .none
 | some f =>
  cases h2:uS b (i + 2) 2 with
  | none => exact .none
  | some n =>
   simp only [Option.bind_some];have hbl:=ζaf (b:=b) (i:=i + 4) (n:=n) (z:=z) (by omega);by_cases h:f + n ≤ 65536
   ·rw [if_pos h];cases hv:listS b (i + 4) n z with
    | none =>
     rw [hv] at hbl;rw [if_neg (by rw [← hbl]; simp)];exact .none
    | some vs =>
     rw [hv] at hbl;rw [if_pos ⟨h,by rw [← hbl]; rfl⟩];simp only [Option.map_some];by_cases h0:n = 0
     ·rw [if_pos h0,if_pos h0];exact ⟨fun xs hx => ⟨[],rfl,by injection hx with hx; subst hx; trivial⟩,fun h => by cases h⟩
     ·rw [if_neg h0,if_neg h0];have hlen:=(ζ9i hb (by omega) hv).2.1;exact .one (list_num (by omega) (by rw [show f + n - 1 - f + 1 = n by omega]; exact hv) (by omega))
   ·rw [if_neg h,if_neg (fun hc => h hc.1)];exact .none
theorem ζsv {b:List Int} (hb:Byt b) {g z:Int} (fmt:Int) (hz:z = 2 ∨ z = 4):Alike b (partsS b g z fmt) (refPartsS b g z fmt):=by
 unfold partsS refPartsS;split
 ·have hbl:=ζaf (b:=b) (i:=2) (n:=g) (z:=z) (by omega);cases hv:listS b 2 g z with
  | none =>
   rw [hv] at hbl;rw [if_neg (by rw [← hbl]; simp)];exact .none
  | some vs =>
   rw [hv] at hbl;rw [if_pos (by rw [← hbl]; rfl)];have hlen:=(ζ9i hb (by omega) hv).2.1;exact .one (list_num (by omega) (by rw [show g - 1 - 0 + 1 = g by omega]; exact hv) (by omega))
 split
 ·exact segs_rel hb hz false
 split
 ·exact segs_rel hb hz true
 split
 ·exact ones_rel hz
 split
 ·exact ζpb hb (by omega)
 split
 ·cases h:uS b 2 2 with
  | none => exact .none
  | some u =>
   simp only [Option.bind_some];by_cases hu:u = 1 ∨ u = 2 ∨ u = 4
   ·rw [if_pos hu,if_pos hu]; exact ζpb hb hu
   ·rw [if_neg hu,if_neg hu]; exact .none
 ·exact .none
theorem Rel.good {b:List Int}:∀ {ps:List Pt} {rs:List RP},Rel b ps rs → (∀ p,p ∈ ps → p.ok) → goodR rs = risesS ps
 | [],[],_,_ => rfl
 | [],_ :: _,h,_ => by cases h
 | _ :: _,[],h,_ => by cases h
 | [p],[r],h,hok => by
  have h1:=(hok p (by simp)).2.1;have h2:=h.1;rw [h2.1,h2.2.1] at h1;simp [goodR,risesS,h1]
 | [p],_ :: _ :: _,h,_ => by cases h.2
 | _ :: _ :: _,[_],h,_ => by cases h.2
 | p :: p' :: ps,r :: r' :: rs,h,hok => by
  have ih:=Rel.good (ps:=p' :: ps) (rs:=r' :: rs) h.2 fun q hq => hok q (by simp at hq ⊢; exact .inr hq);have h1:=(hok p (by simp)).2.1;have h2:=h.1;have h3:=h.2.1;rw [h2.1,h2.2.1] at h1;rw [← h2.2.1] at h1;simp only [goodR,risesS,ih,← h2.2.1,← h3.1,decide_eq_true h1,Bool.true_and]
theorem look_ref {b:List Int} (hb:Byt b) {g z:Int} (h1:1 ≤ g) (h2:g ≤ 65535) (hz:z = 2 ∨ z = 4) :
  (∀ x,lookS b g z = some x → ∃ rs,refReadS b g z = some rs ∧ Rel b x.2 rs) ∧ (lookS b g z = none → refReadS b g z = none):=by
 unfold lookS refReadS;cases h:uS b 0 2 with
 | none =>
  have:gU b 0 2 = -1:=by unfold gU; rw [h]; rfl
  rw [this];exact ⟨fun x hx => (by cases hx),fun _ => rfl⟩
 | some fmt =>
  rw [gU_some h];have hr:=ζsv hb (g:=g) fmt hz;simp only [Option.bind_some];cases hp:partsS b g z fmt with
  | none =>
   refine ⟨fun x hx => by simp at hx,fun _ => ?_⟩;cases hq:refPartsS b g z fmt with
   | none => rfl
   | some rs =>
    have:=(hr.2 hp rs hq).good;simp [this]
  | some ps =>
   obtain ⟨rs,hq,hrel⟩:=hr.1 ps hp;have hg:=hrel.good (ζp3 hb h1 h2 hz hp);rw [hq];simp only [Option.bind_some,hg];cases risesS ps with
   | true => exact ⟨fun x hx => by simp at hx; subst hx; exact ⟨rs,rfl,hrel⟩,fun hn => by simp at hn⟩
   | false => exact ⟨fun x hx => by simp at hx,fun _ => rfl⟩
theorem get_ref {b:List Int} {id:Int}:∀ {ps:List Pt} {rs:List RP},Rel b ps rs → (∀ p,p ∈ ps → p.ok) → risesS ps = true → getS ps id = refGetS b rs id
 | [],[],_,_,_ => rfl
 | [],_ :: _,h,_,_ => by cases h
 | _ :: _,[],h,_,_ => by cases h
 | p :: ps,r :: rs,h,hok,hr => by
  have hp:=hok p (by simp);have hrs:risesS ps = true:=by
   cases ps with
   | nil => rfl
   | cons q l => simp only [risesS,Bool.and_eq_true] at hr; exact hr.2
  have ih:=get_ref (id:=id) h.2 (fun q hq => hok q (by simp [hq])) hrs;obtain ⟨e1,e2,e3,_⟩:=h.1;unfold getS refGetS at ih ⊢;rw [List.find?_cons,List.find?_cons];by_cases hl:id ≤ p.last
  ·rw [decide_eq_true hl];dsimp only;rw [Option.bind_some];by_cases hf:p.first ≤ id
   ·rw [if_pos hf,decide_eq_true (by rw [← e1,← e2]; exact ⟨hf,hl⟩)];dsimp only;rw [Option.map_some];obtain ⟨x,hx,_⟩:=Pt.num_some hp hf;have:=e3 id (by rw [← e1]; exact hf) (by rw [← e2]; exact hl);rw [hx] at this ⊢;rw [gU_some this.symm]
   ·rw [if_neg hf,decide_eq_false (by rw [← e1]; exact fun hc => hf hc.1)];dsimp only;rw [← ih];cases hfd:ps.find? (fun p => decide (id ≤ p.last)) with
    | none => rfl
    | some q =>
     have hq:=List.mem_of_find?_eq_some hfd;obtain ⟨j,hj⟩:=List.getElem?_of_mem hq;have:=ζgv hr hok 0 (j + 1) p q (by omega) (by simp) (by simpa using hj);rw [Option.bind_some,if_neg (by have:=hp.2.1; omega)]
  ·rw [decide_eq_false hl,decide_eq_false (by rw [← e2]; exact fun hc => hl hc.2)];exact ih
end Go.Sw
end
section
namespace Go.Sw
open Go.RowKit
def bytesOf (n:Int):Nat → List Int
 | 0 => []
 | k + 1 => (n / 256 ^ k) % 256 :: bytesOf n k
@[simp] theorem ζel (n:Int):∀ k,(bytesOf n k).length = k
 | 0 => rfl
 | k + 1 => by simp [bytesOf,ζel n k]
theorem ζ1q (n:Int):∀ k,Byt (bytesOf n k)
 | 0 => fun x hx => by simp [bytesOf] at hx
 | k + 1 => fun x hx => by
  simp only [bytesOf,List.mem_cons] at hx;rcases hx with rfl | hx
  ·omega
  ·exact ζ1q n k x hx
theorem Byt.app {a b:List Int} (ha:Byt a) (hb:Byt b):Byt (a ++ b):=fun x hx => by
 rcases List.mem_append.1 hx with h | h
 ·exact ha x h
 ·exact hb x h
theorem Byt.flat {l:List (List Int)} (h:∀ r,r ∈ l → Byt r):Byt l.flatten:=fun x hx => by
 obtain ⟨r,hr,hx⟩:=List.mem_flatten.1 hx;exact h r hr x hx
theorem Byt.nil:Byt []:=fun x hx => by cases hx
theorem flat_len {z:Nat}:∀ {rs:List (List Int)},(∀ r,r ∈ rs → r.length = z) → rs.flatten.length = rs.length * z
 | [],_ => by simp
 | r :: rs,h => by
  have h1:=h r (by simp);have h2:=flat_len (rs:=rs) fun q hq => h q (by simp [hq]);simp only [List.flatten_cons,List.length_append,List.length_cons,h1,h2,Nat.succ_mul];omega
structure Pr where
 id:Int
 x:Int
def Pr.ok (p:Pr):Prop:=0 ≤ p.id ∧ p.id < 65536 ∧ 0 ≤ p.x ∧ p.x < 65536
end Go.Sw
end
section
set_option maxRecDepth 100000
set_option linter.unusedVariables false
namespace Go.Sw
noncomputable section
def ζ73 (k:Nat) (call:Caller):Env → Heap → Res (AExit × Env):=loopB (C k) call F.ζ7 [1,0,1,0,0]
def ζ9o (k:Nat) (call:Caller):Kont Value:=kBlock 0 (kSeq (pieceK (C k) call F.ζ7 [1,1]) (kDone Prog (resOf Prog F.ζ7)))
def ζ4n (k:Nat) (call:Caller):Env → Heap → Res (AExit × Env):=loopB (C k) call F.ζ7 [1,0,1,0,0,1,0,0,1,0,1,0,0]
def ζ9p (k:Nat) (call:Caller):Kont (AExit × Env):=kBlock 2 (kSeq (pieceK (C k) call F.ζ7 [1,0,1,0,0,1,0,0,1,1]) (kBlock 1 (kSeq (pieceK (C k) call F.ζ7 [1,0,1,0,0,1,1]) (kRound (ownOf (C k) F.ζ7 [1,0,1,0,0])))))
def ζ7 (k:Nat) (call:Caller) (a0 a1 a2:Value) (h:Heap):Res Value :=
 (binR Prog .sub 3 a2 (.int .i64 1) h).bind fun v1 h2 =>
 (loopN (ζ73 k call) loopFuel [(0,a0),(1,a1),(7,v1)] h2).bind fun r3 h4 =>
 ζ9o k call r3.1 r3.2 h4
theorem ζka (k:Nat) (a0 a1 a2:Value) (h:Heap):R (T k) F.ζ7 [a0,a1,a2] h = nrm .no h (ζ7 k (R (T k)) a0 a1 a2 h) :=
 (R_body (t:=T k) (T_scott k) (by kernel_rfl) (by kernel_rfl) _ _).trans (by kernel_rfl)
theorem ζ8f (k:Nat) (call:Caller) (a0 a1 a7:Value) (h:Heap):ζ73 k call [(0,a0),(1,a1),(7,a7)] h =
 (binR Prog .geq 3 a7 (.int .i64 0) h).bind fun v5 h6 =>
 condV (some v5) (
 (loopN (ζ4n k call) loopFuel [(0,a0),(1,a1),(7,a7),(8,a1),(9,(.int .i64 0))] h6).bind fun r7 h8 =>
 ζ9p k call r7.1 r7.2 h8)
 (
 .ok ((.exit 0),[(0,a0),(1,a1),(7,a7),(13,v5)]) h6) :=
 (loopB_eq _ _).trans (by kernel_rfl)
theorem ζ8g (k:Nat) (call:Caller) (a0 a1 a7 a8 a9:Value) (h:Heap):ζ4n k call [(0,a0),(1,a1),(7,a7),(8,a8),(9,a9)] h =
 (binR Prog .lss 3 a9 a7 h).bind fun v9 h10 =>
 condV (some v9) (
 (binR Prog .quo 3 a8 (.int .i64 256) h10).bind fun v11 h12 =>
 (binR Prog .add 3 a9 (.int .i64 1) h12).bind fun v13 h14 =>
 .ok (.normal,[(0,a0),(1,a1),(7,a7),(8,v11),(9,v13)]) h14)
 (
 .ok ((.exit 2),[(0,a0),(1,a1),(7,a7),(8,a8),(9,a9),(19,v9)]) h10) :=
 (loopB_eq _ _).trans (by kernel_rfl)
theorem ζez (k:Nat) (call:Caller) (a0 a1 a7 a13:Value) (h:Heap):ζ9o k call (.exit 0) [(0,a0),(1,a1),(7,a7),(13,a13)] h =
 .ok a0 h:=by kernel_rfl
theorem ζf0 (k:Nat) (call:Caller) (a0 a1 a7 a8 a9 a19:Value) (h:Heap):ζ9p k call (.exit 2) [(0,a0),(1,a1),(7,a7),(8,a8),(9,a9),(19,a19)] h =
 (binR Prog .rem 3 a8 (.int .i64 256) h).bind fun v15 h16 =>
 (convR Prog 3 5 v15 h16).bind fun v17 h18 =>
 (buildSliceR Prog 31 1 [(0,v17)] h18).bind fun v19 h20 =>
 (builtinV Prog .append [31,31] [a0,v19] h20).bind fun v21 h22 =>
 (binR Prog .sub 3 a7 (.int .i64 1) h22).bind fun v23 h24 =>
 .ok (.normal,[(0,v21),(1,a1),(7,v23)]) h24:=by kernel_rfl
end
end Go.Sw
end
section
namespace Go.Sw
open Go.RowKit
theorem Put_in (k:Nat) (s:Value) (n:Int) (i:Nat) (h0:0 ≤ n) (hn:n < 2 ^ 62) (hi:i < 2 ^ 62) (H:Heap) :
  loopN (ζ4n k (R (T k))) loopFuel [(0,s),(1,.int .i64 n),(7,.int .i64 i),(8,.int .i64 n),(9,.int .i64 0)] H = .ok (.exit 2,[(0,s),(1,.int .i64 n),(7,.int .i64 i),(8,.int .i64 (n / 256 ^ i)),(9,.int .i64 i),(19,.bool false)]) H:=by
 obtain ⟨x,e',H1,hr,rfl,rfl,rfl⟩:=loop_up (body:=ζ4n k (R (T k))) i
  (fun j e H' => H' = H ∧ e = [(0,s),(1,.int .i64 n),(7,.int .i64 i),(8,.int .i64 (n / 256 ^ j)),(9,.int .i64 j)])
  (fun x e H' => H' = H ∧ x = .exit 2 ∧ e = [(0,s),(1,.int .i64 n),(7,.int .i64 i),(8,.int .i64 (n / 256 ^ i)),(9,.int .i64 i),(19,.bool false)])
  (e0:=[(0,s),(1,.int .i64 n),(7,.int .i64 i),(8,.int .i64 n),(9,.int .i64 0)]) (H0:=H) ⟨rfl,by simp⟩ (by omega)
  (fun j e H' hj ⟨hH,he⟩ => by
   subst he hH;have hlt:(j:Int) < i:=by omega
   have q0:0 ≤ n / 256 ^ j:=Int.ediv_nonneg h0 (Int.pow_nonneg (by decide));have q1:n / 256 ^ j ≤ n:=Int.ediv_le_self _ h0;have hq:(n / 256 ^ j).tdiv 256 = n / 256 ^ (j + 1):=by
    rw [Int.tdiv_eq_ediv_of_nonneg q0,Int.pow_succ,Int.ediv_ediv_of_nonneg (Int.pow_nonneg (by decide))]
   have q:=fun H => bin_quo Prog 3 H .i64 (n / 256 ^ j) 256 (by decide);rw [hq] at q;have q2:0 ≤ n / 256 ^ (j + 1):=Int.ediv_nonneg h0 (Int.pow_nonneg (by decide));have q3:n / 256 ^ (j + 1) ≤ n:=Int.ediv_le_self _ h0;generalize n / 256 ^ (j + 1) = m at q q2 q3 ⊢;generalize n / 256 ^ j = m0 at q ⊢;refine .inl ⟨_,H',?_,rfl,rfl⟩;rw [ζ8g];simp -implicitDefEqProofs (disch:=omega) [hlt,q])
  (fun e H' ⟨hH,he⟩ => by
   subst he hH;refine ⟨.exit 2,_,H',?_,by simp,rfl,rfl,rfl⟩;rw [ζ8g];simp -implicitDefEqProofs (disch:=omega))
 exact hr
theorem Put_star (k:Nat) {H0 H:Heap} {L:List It} (h:Star H0 H L) (i:Nat) {o:Option Nat} {s:Value} {b:List Int} (hi:L[i]? = some (itRow o 1 s encB b)) (n zi:Int) (z:Nat) (hzi:zi = z) (h0:0 ≤ n) (hn:n < 2 ^ 62) (hz:z ≤ 8) (hl:b.length < 2 ^ 30) :
  ∃ s' o' H',R (T k) F.ζ7 [s,.int .i64 n,.int .i64 zi] H = .ok s' H' ∧ Star H0 H' (L.set i (itRow o' 1 s' encB (b ++ bytesOf n z))):=by
 subst hzi;rw [ζka];have hlt:i < L.length:=(List.getElem?_eq_some_iff.1 hi).1;have hself:L.set i (itRow o 1 s encB b) = L:=by
  obtain ⟨hlt,hx⟩:=List.getElem?_eq_some_iff.1 hi;rw [← hx,List.set_getElem_self]
 obtain ⟨x,e',H1,hr,s',o',rfl,⟨a,c,rfl⟩,ho⟩:=loopDec (body:=ζ73 k (R (T k)))
  (fun m e H' => ∃ s o acc,e = [(0,s),(1,.int .i64 n),(7,.int .i64 ((m:Int) - 1))] ∧ Star H0 H' (L.set i (itRow o 1 s encB acc)) ∧ acc ++ bytesOf n m = b ++ bytesOf n z ∧ m ≤ z)
  (fun x e H' => ∃ s' o',x = .exit 0 ∧ (∃ a c,e = [(0,s'),(1,.int .i64 n),(7,a),(13,c)]) ∧ Star H0 H' (L.set i (itRow o' 1 s' encB (b ++ bytesOf n z))))
  (e0:=[(0,s),(1,.int .i64 n),(7,.int .i64 ((z:Int) - 1))]) (H0:=H) z ⟨s,o,b,rfl,by rw [hself]; exact h,rfl,Nat.le_refl _⟩ (by omega)
  (fun m e H' ⟨s,o,acc,he,ho,ha,hmz⟩ => by
   subst he;cases m with
   | zero =>
    refine .inr ⟨.exit 0,_,H',?_,by simp,s,o,rfl,⟨.int .i64 ((0:Nat) - 1),.bool false,rfl⟩,by simpa [bytesOf] using (by simpa [bytesOf] using ha) ▸ ho⟩;rw [ζ8f];simp -implicitDefEqProofs
   | succ m =>
    have hin:=Put_in k s n m h0 hn (by omega) H';have q0:0 ≤ n / 256 ^ m:=Int.ediv_nonneg h0 (Int.pow_nonneg (by decide));have hacc:acc.length < 2 ^ 31:=by
     have:=congrArg List.length ha;simp [ζel] at this;omega
    obtain ⟨s2,o2,H2,e1,o1⟩:=ho.append1 (bytes:=1) i encB_len (List.getElem?_set_self hlt) ((n / 256 ^ m) % 256) hacc (by decide);rw [List.set_set] at o1;have hrem:=fun H => bin_rem Prog 3 H .i64 (n / 256 ^ m) 256 (by decide);rw [Int.tmod_eq_emod_of_nonneg q0] at hrem;have hb:0 ≤ (n / 256 ^ m) % 256 ∧ (n / 256 ^ m) % 256 < 256:=by omega
    refine .inl ⟨m,_,H2,?_,by omega,s2,o2,acc ++ [(n / 256 ^ m) % 256],rfl,o1,by rw [List.append_assoc]; exact ha,by omega⟩;rw [ζ8f];have hge:(m:Int) ≥ 0:=by omega
    rw [show (((m + 1:Nat):Int) - 1) = (m:Int) by omega];generalize (n / 256 ^ m) % 256 = y at e1 hrem hb;simp -implicitDefEqProofs (disch:=omega) [hge,hin,ζf0,hrem,e1])
 refine ⟨s',o',H1,?_,ho⟩;simp -implicitDefEqProofs (disch:=omega) [ζ7,hr,ζez,nrm_no]
end Go.Sw
end
section
namespace Go.Sw
open Go.RowKit
theorem Star.cut1 {H0 H:Heap} {L:List It} (h:Star H0 H L) (i:Nat) {o:Option Nat} {s:Value} {b:List Int} (hi:L[i]? = some (itRow o 1 s encB b)) (a n:Nat) (hn:0 < n) (hfit:a + n ≤ b.length) (k1 k2:IntKind) :
  ∃ c,o = some c ∧ s = .slice (some ⟨c,0,none⟩) b.length b.length ∧ slS 1 s (some (.int k1 (a:Nat))) (some (.int k2 ((a + n:Nat):Int))) none H = .ok (.slice (some ⟨c,a,none⟩) n (b.length - a)) H:=by
 obtain ⟨c,rfl,rfl,hc⟩:=(h.row i hi).full (fun e => by subst e; simp at hfit; omega);refine ⟨c,rfl,rfl,?_⟩;unfold slS;dsimp only [boundOf];rw [if_pos (Int.natCast_nonneg _),if_pos (Int.natCast_nonneg _)];simp only [Int.toNat_natCast];rw [if_pos ⟨Nat.le_refl _,hfit,by omega,by simp⟩];have:openOk H c 1 none = true:=by unfold openOk; rw [hc]; simp
 rw [if_pos this,Nat.mul_one,Nat.zero_add,Nat.add_sub_cancel_left]
theorem Star.copy1 {H0 H:Heap} {L:List It} (h:Star H0 H L) (i j:Nat) {c:Nat} {o2:Option Nat} {s s2:Value} {b r:List Int} (hi:L[i]? = some (itRow (some c) 1 s encB b)) (hj:L[j]? = some (itRow o2 1 s2 encB r)) (a n cap:Nat) (hr:r.length = n) (hn:0 < n) (hfit:a + n ≤ b.length) :
  ∃ H',cpR 1 (.slice (some ⟨c,a,none⟩) n cap) s2 H = .ok (.int .i64 n) H' ∧ Star H0 H' (L.set i (itRow (some c) 1 s encB (b.take a ++ (r ++ b.drop (a + n))))):=by
 obtain ⟨c',e1,e2,hc⟩:=(h.row i hi).full (fun e => by subst e; simp at hfit; omega);injection e1 with e1;subst e1;have hown2:=(h.row j hj).own0;have hl2:=hown2.lenV;have hf2:=hown2.first encB_len;have hrl:(rows encB r).length = n:=by rw [ζk encB_len,hr,Nat.mul_one]
 have hbl:(rows encB b).length = b.length:=by rw [ζk encB_len,Nat.mul_one]
 have hsp:splice (rows encB b) a (rows encB r) = rows encB (b.take a ++ (r ++ b.drop (a + n))):=by
  unfold splice;have t1:=ζ8w encB_len b a;rw [Nat.mul_one] at t1;have t2:(rows encB b).drop (a + n) = rows encB (b.drop (a + n)):=by
   have e:rows encB b = rows encB (b.take (a + n)) ++ rows encB (b.drop (a + n)):=by rw [← ζ3n,List.take_append_drop]
   have hl:(rows encB (b.take (a + n))).length = a + n:=by rw [ζk encB_len,Nat.mul_one,List.length_take]; omega
   rw [e,List.drop_append_of_le_length (by omega),List.drop_of_length_le (by omega),List.nil_append]
  rw [t1,hrl,t2,ζ3n,ζ3n]
 refine ⟨_,?_,h.setRow i hi (b.take a ++ (r ++ b.drop (a + n))) (by simp; omega)⟩;unfold cpR;dsimp only;rw [hl2];dsimp only;rw [hr,Nat.min_self];rw [hr] at hf2;rw [hf2];dsimp only;rw [if_neg (by intro e; rw [List.isEmpty_iff] at e; rw [e] at hrl; simp at hrl; omega)];unfold putCells;rw [hc];dsimp only;rw [if_pos (by rw [hrl,hbl]; simp; omega)];simp only [Res.bind];rw [hsp,show min (n:Int) n = n by omega]
end Go.Sw
end
section
namespace Go.Sw
open Go.RowKit
structure En where
 next:Int
 flags:Int
 a:Int
 b:Int
theorem ζhi {α β:Type} (f:α → Option β):∀ (l m:List α),mapO f (l ++ m) = (mapO f l).bind fun x => (mapO f m).map fun y => x ++ y
 | [],m => by
  simp only [List.nil_append,mapO,Option.bind_some];cases mapO f m <;> rfl
 | x :: l,m => by
  simp only [List.cons_append,mapO,ζhi f l m];cases f x with
  | none => rfl
  | some y =>
   simp only [Option.bind_some];cases mapO f l with
   | none => rfl
   | some r =>
    simp only [Option.bind_some,Option.map_some];cases mapO f m <;> rfl
theorem ζ9j {β:Type} (f:Nat → Option β) (n:Nat):mapO f (List.range (n + 1)) = (mapO f (List.range n)).bind fun r => (f n).map fun y => r ++ [y]:=by
 rw [List.range_succ,ζhi];congr 1;funext r;simp only [mapO];cases f n <;> rfl
theorem ζhj {β:Type} {f:Nat → Option β} {n m:Nat} (h:n ≤ m) {r:List β} (hr:mapO f (List.range m) = some r):mapO f (List.range n) = some (r.take n):=by
 obtain ⟨d,rfl⟩:=Nat.exists_eq_add_of_le h;rw [List.range_add,ζhi] at hr;obtain ⟨x,hx,hr⟩:=Option.bind_eq_some_iff.1 hr;obtain ⟨y,hy,rfl⟩:=Option.map_eq_some_iff.1 hr;have:=mapO_len hx;rw [hx,List.take_left' (by simpa using this)]
theorem mapO_at {β:Type} {f:Nat → Option β} {n:Nat} {r:List β} (hr:mapO f (List.range n) = some r) {i:Nat} (hi:i < n):∃ y,f i = some y ∧ r[i]? = some y:=by
 have hl:=mapO_len hr;have hlt:i < r.length:=by rw [hl,List.length_range]; exact hi
 obtain ⟨x,hx,hf⟩:=mapO_get hr (List.getElem?_eq_getElem hlt);rw [List.getElem?_range hi] at hx;injection hx with hx;subst hx;exact ⟨_,hf,List.getElem?_eq_getElem hlt⟩
theorem ζbj {β:Type} {f:Nat → Option β}:∀ {n:Nat},(∀ i,i < n → (f i).isSome = true) → ∃ r,mapO f (List.range n) = some r
 | 0,_ => ⟨[],rfl⟩
 | n + 1,h => by
  obtain ⟨r,hr⟩:=ζbj (n:=n) fun i hi => h i (by omega);obtain ⟨y,hy⟩:=Option.isSome_iff_exists.1 (h n (by omega));exact ⟨r ++ [y],by rw [ζ9j,hr,Option.bind_some,hy,Option.map_some]⟩
def needL (l:List Int):Int:=l.foldl (fun m x => max m (x + 1)) 0
theorem ζqv (l:List Int):∀ m:Int,l.foldl (fun m x => max m (x + 1)) m = max m (l.foldl (fun m x => max m (x + 1)) (0:Int)) ∨ m < 0:=by
 induction l with
 | nil => intro m; simp; omega
 | cons x l ih =>
  intro m;rcases Int.lt_or_le m 0 with h | h
  ·exact .inr h
  ·left;simp only [List.foldl_cons];rcases ih (max m (x + 1)) with h1 | h1
   ·rcases ih (max 0 (x + 1)) with h2 | h2
    ·rw [h1,h2]; omega
    ·omega
   ·omega
theorem ζjr (l:List Int) (x:Int):needL (l ++ [x]) = max (needL l) (x + 1):=by simp [needL]
theorem ζ7z:∀ l:List Int,0 ≤ needL l:=fun l => by
 have:∀ (l:List Int) (m:Int),m ≤ l.foldl (fun m x => max m (x + 1)) m:=by
  intro l
  induction l with
  | nil => intro m; exact Int.le_refl _
  | cons x l ih => intro m; exact Int.le_trans (by omega) (ih (max m (x + 1)))
 exact this l 0
theorem ζ5y (l m:List Int):needL (l ++ m) = max (needL l) (needL m):=by
 unfold needL;rw [List.foldl_append];have h0:=ζ7z l;unfold needL at h0;rcases ζqv m (l.foldl (fun m x => max m (x + 1)) 0) with h | h
 ·exact h
 ·omega
theorem needL_le {l:List Int} {x:Int} (h:x ∈ l):x < needL l:=by
  obtain ⟨a,b,rfl⟩:=List.append_of_mem h;rw [ζ5y,needL_append' (x:=x) (b:=b)];omega
where needL_append' {x:Int} {b:List Int}:needL (x :: b) = max (x + 1) (needL b):=by
        have:=ζ5y [x] b;rw [List.singleton_append] at this;rw [this];have:needL [x] = max 0 (x + 1):=rfl;have:=ζ7z b;omega
theorem needL_lt {l:List Int} {n:Int} (hn:0 ≤ n) (h:∀ x,x ∈ l → x < n):needL l ≤ n:=by
 induction l with
 | nil => exact hn
 | cons x l ih =>
  have h1:=h x (by simp);have h2:=ih fun y hy => h y (by simp [hy]);have:=ζ5y [x] l;rw [List.singleton_append] at this;rw [this];have:needL [x] = max 0 (x + 1):=rfl;omega
def rowK (rv:List Int) (n:Int) (k:Nat):Option (List Int):=listS rv (2 * n * k) n 2
def entOf (w:Int) (r:List Int):En:=⟨gU r 0 2,gU r 2 2,if 0 < w then gU r 4 2 else 0,if 1 < w then gU r 6 2 else 0⟩
def entK (ev:List Int) (w:Int) (k:Nat):Option En:=(pieceS ev ((4 + 2 * w) * k) (4 + 2 * w)).map (entOf w)
def rowsTo (rv:List Int) (n:Int) (m:Nat):Option (List (List Int)):=mapO (rowK rv n) (List.range m)
def entsTo (ev:List Int) (w:Int) (m:Nat):Option (List En):=mapO (entK ev w) (List.range m)
def needR (rs:List (List Int)):Int:=needL rs.flatten
def needE (es:List En):Int:=max 2 (needL (es.map En.next))
def closeS (rv ev:List Int) (n w:Int):Nat → Nat → Option (List (List Int) × List En)
 | 0,_ => none
 | f + 1,s => (rowsTo rv n s).bind fun rs => (entsTo ev w (needR rs).toNat).bind fun es => if (needE es).toNat ≤ s then some (rs,es) else closeS rv ev n w f (needE es).toNat
def closeA (rv ev:List Int) (n w:Int) (s:Nat):Option (List (List Int) × List En):=closeS rv ev n w (65538 - s) s
theorem ζsc {ev:List Int} (hb:Byt ev) {w:Int} {k:Nat} {e:En} (h:entK ev w k = some e):-1 ≤ e.next ∧ e.next < 65536:=by
 unfold entK at h;obtain ⟨r,hr,rfl⟩:=Option.map_eq_some_iff.1 h;exact gU_two (hb.piece hr).1 0
theorem needE_le {ev:List Int} (hb:Byt ev) {w:Int} {m:Nat} {es:List En} (h:entsTo ev w m = some es):2 ≤ needE es ∧ needE es ≤ 65536:=by
 refine ⟨by unfold needE; omega,?_⟩;have:needL (es.map En.next) ≤ 65536:=needL_lt (by omega) fun x hx => by
  obtain ⟨e,he,rfl⟩:=List.mem_map.1 hx;obtain ⟨i,hi⟩:=List.getElem?_of_mem he;obtain ⟨k,_,hk⟩:=mapO_get h hi;exact (ζsc hb hk).2
 unfold needE;omega
theorem ζl7 {rv ev:List Int} (hb:Byt ev) {n w:Int}:∀ (f g s:Nat),65537 - s ≤ f → 65537 - s ≤ g → s ≤ 65536 → closeS rv ev n w f s = closeS rv ev n w g s
 | 0,_,s,h1,_,h3 => by omega
 | _ + 1,0,s,_,h2,h3 => by omega
 | f + 1,g + 1,s,h1,h2,h3 => by
  simp only [closeS];cases rowsTo rv n s with
  | none => rfl
  | some rs =>
   simp only [Option.bind_some];cases he:entsTo ev w (needR rs).toNat with
   | none => rfl
   | some es =>
    simp only [Option.bind_some];have:=needE_le hb he;split
    ·rfl
    ·exact ζl7 hb f g _ (by omega) (by omega) (by omega)
theorem ζoc {rv ev:List Int} (hb:Byt ev) {n w:Int} {s:Nat} (hs:s ≤ 65536):closeA rv ev n w s =
  (rowsTo rv n s).bind fun rs => (entsTo ev w (needR rs).toNat).bind fun es => if (needE es).toNat ≤ s then some (rs,es) else closeA rv ev n w (needE es).toNat:=by
 unfold closeA;rw [show 65538 - s = (65537 - s) + 1 by omega];simp only [closeS];cases rowsTo rv n s with
 | none => rfl
 | some rs =>
  simp only [Option.bind_some];cases he:entsTo ev w (needR rs).toNat with
  | none => rfl
  | some es =>
   simp only [Option.bind_some];have:=needE_le hb he;split
   ·rfl
   ·exact ζl7 hb _ _ _ (by omega) (by omega) (by omega)
structure Mach where
 classes:Int
 tab:Int × List Pt
 rows:List (List Int)
 ents:List En
def machS (b:List Int) (g w:Int):Option Mach :=
 (uS b 0 4).bind fun n => if 4 ≤ n ∧ n ≤ 65535 then
  (uS b 4 4).bind fun i => (restS b i).bind fun tb => (lookS tb g 2).bind fun tab =>
  (uS b 8 4).bind fun j => (restS b j).bind fun rv => (uS b 12 4).bind fun k => (restS b k).bind fun ev =>
  (closeA rv ev n w 2).map fun x => ⟨n,tab,x.1,x.2⟩
 else none
def classS (m:Mach) (id:Int):Int:=if id = 65535 then 2 else match getS m.tab.2 id with | some c => if c < m.classes then c else 1 | none => 1
def stepS (m:Mach) (s c:Int):Option En:=if 0 ≤ s ∧ s < m.rows.length ∧ 0 ≤ c ∧ c < m.classes then (m.rows[s.toNat]?).bind fun r => (r[c.toNat]?).bind fun x => m.ents[x.toNat]? else none
structure Mach.ok (m:Mach):Prop where
 cl:4 ≤ m.classes ∧ m.classes ≤ 65535
 pts:∀ p,p ∈ m.tab.2 → p.ok
 rise:risesS m.tab.2 = true
 plen:m.tab.2.length < 2 ^ 31
 two:2 ≤ m.rows.length ∧ m.rows.length ≤ 65536
 row:∀ r,r ∈ m.rows → (r.length:Int) = m.classes ∧ ∀ x,x ∈ r → 0 ≤ x ∧ x < m.ents.length
 ent:∀ e,e ∈ m.ents → 0 ≤ e.next ∧ e.next < m.rows.length ∧ 0 ≤ e.flags ∧ e.flags < 65536 ∧ 0 ≤ e.a ∧ e.a < 65536 ∧ 0 ≤ e.b ∧ e.b < 65536
 elen:m.ents.length ≤ 65536
theorem piece_gU {b r:List Int} (hb:Byt b) {p z:Int} (h:pieceS b p z = some r) {i:Int} (h0:0 ≤ i) (hi:i + 2 ≤ z):uS r i 2 = some (gU r i 2) ∧ 0 ≤ gU r i 2 ∧ gU r i 2 < 65536:=by
 obtain ⟨e,x,hx⟩:=row_two h h0 (y:=2) (by omega) hi;rw [hx] at e;rw [gU_some e];have:=uS_two (hb.piece h).1 e;exact ⟨e,this⟩
theorem entK_ok {ev:List Int} (hb:Byt ev) {w:Int} (hw:0 ≤ w ∧ w ≤ 2) {k:Nat} {e:En} (h:entK ev w k = some e):0 ≤ e.next ∧ 0 ≤ e.flags ∧ e.flags < 65536 ∧ 0 ≤ e.a ∧ e.a < 65536 ∧ 0 ≤ e.b ∧ e.b < 65536:=by
 unfold entK at h;obtain ⟨r,hr,rfl⟩:=Option.map_eq_some_iff.1 h;have g:=fun i h0 h1 => (piece_gU hb hr (i:=i) h0 h1).2;unfold entOf;dsimp only;have g0:=g 0 (by omega) (by omega);have g2:=g 2 (by omega) (by omega);refine ⟨g0.1,g2.1,g2.2,?_⟩;by_cases h1:0 < w
 ·have g4:=g 4 (by omega) (by omega);rw [if_pos h1];by_cases h2:1 < w
  ·have g6:=g 6 (by omega) (by omega);rw [if_pos h2];omega
  ·rw [if_neg h2]; omega
 ·rw [if_neg h1,if_neg (by omega)]; omega
theorem ζlx {rv ev:List Int} (hr:Byt rv) (hb:Byt ev) {n w:Int} (hn:0 ≤ n) (hw:0 ≤ w ∧ w ≤ 2):∀ (f s:Nat) x,2 ≤ s → s ≤ 65536 → closeS rv ev n w f s = some x →
  (2 ≤ x.1.length ∧ x.1.length ≤ 65536) ∧ (∀ r,r ∈ x.1 → (r.length:Int) = n ∧ ∀ y,y ∈ r → 0 ≤ y ∧ y < x.2.length) ∧ (∀ e,e ∈ x.2 → e.next < x.1.length) ∧ (∀ e,e ∈ x.2 → ∃ k,entK ev w k = some e) ∧ x.2.length ≤ 65536 ∧
  rowsTo rv n x.1.length = some x.1 ∧ entsTo ev w x.2.length = some x.2 ∧ (x.2.length:Int) = needR x.1 ∧ needE x.2 ≤ x.1.length
 | 0,_,_,_,_,h => by cases h
 | f + 1,s,x,h2,h3,h => by
  simp only [closeS] at h;obtain ⟨rs,e1,h⟩:=Option.bind_eq_some_iff.1 h;obtain ⟨es,e2,h⟩:=Option.bind_eq_some_iff.1 h;have hE:=needE_le hb e2;split at h
  ·rename_i hs;injection h with h;subst h;dsimp only;have l1:rs.length = s:=by rw [mapO_len e1,List.length_range]
   have l2:es.length = (needR rs).toNat:=by rw [mapO_len e2,List.length_range]
   have hnn:=ζ7z rs.flatten;have hrow:∀ r,r ∈ rs → (r.length:Int) = n ∧ ∀ y,y ∈ r → 0 ≤ y ∧ y < 65536:=fun r hrm => by
    obtain ⟨i,hi⟩:=List.getElem?_of_mem hrm;obtain ⟨k,_,hk⟩:=mapO_get e1 hi;unfold rowK listS at hk;obtain ⟨q,hq,rfl⟩:=Option.map_eq_some_iff.1 hk;have hqb:=(hr.piece (ζ3c hq)).1;refine ⟨by simp; omega,fun y hy => ?_⟩;obtain ⟨c,hc,rfl⟩:=List.mem_map.1 hy;obtain ⟨h5,h6⟩:=ζem hqb _ _ hc;have:=ζix c h5;have hp:(256:Int) ^ c.length ≤ 256 ^ 2:=by
     have:c.length ≤ 2:=h6
     match hcl:c.length,this with
     | 0,_ => decide
     | 1,_ => decide
     | 2,_ => decide
    omega
   refine ⟨⟨by omega,by omega⟩,fun r hrm => ⟨(hrow r hrm).1,fun y hy => ⟨((hrow r hrm).2 y hy).1,?_⟩⟩,fun e he => ?_,fun e he => ?_,?_,by rw [l1]; exact e1,by rw [l2]; exact e2,by unfold needR at l2 ⊢; omega,by omega⟩
   ·have:y < needL rs.flatten:=needL_le (List.mem_flatten.2 ⟨r,hrm,hy⟩);rw [l2]; unfold needR; omega
   ·have:e.next < needL (es.map En.next):=needL_le (List.mem_map.2 ⟨e,he,rfl⟩);unfold needE at hs;omega
   ·obtain ⟨i,hi⟩:=List.getElem?_of_mem he;obtain ⟨k,_,hk⟩:=mapO_get e2 hi;exact ⟨_,hk⟩
   ·rw [l2];have:needL rs.flatten ≤ 65536:=needL_lt (by omega) fun y hy => by
     obtain ⟨r,hrm,hy⟩:=List.mem_flatten.1 hy;exact ((hrow r hrm).2 y hy).2
    unfold needR;omega
  ·exact ζlx hr hb hn hw f _ x (by omega) (by omega) h
theorem Byt.rest {b r:List Int} (hb:Byt b) {i:Int} (h:restS b i = some r):Byt r:=by
 unfold restS at h;split at h
 ·injection h with h;subst h;exact fun x hx => hb x (List.mem_of_mem_drop hx)
 ·cases h
theorem machS_ok {b:List Int} (hb:Byt b) {g w:Int} (h1:1 ≤ g) (h2:g ≤ 65535) (hw:0 ≤ w ∧ w ≤ 2) {m:Mach} (h:machS b g w = some m):m.ok:=by
 unfold machS at h;obtain ⟨n,_,h⟩:=Option.bind_eq_some_iff.1 h;split at h;rotate_left
 ·cases h
 rename_i hn;obtain ⟨i,_,h⟩:=Option.bind_eq_some_iff.1 h;obtain ⟨tb,htb,h⟩:=Option.bind_eq_some_iff.1 h;obtain ⟨tab,htab,h⟩:=Option.bind_eq_some_iff.1 h;obtain ⟨j,_,h⟩:=Option.bind_eq_some_iff.1 h;obtain ⟨rv,hrv,h⟩:=Option.bind_eq_some_iff.1 h;obtain ⟨k,_,h⟩:=Option.bind_eq_some_iff.1 h;obtain ⟨ev,hev,h⟩:=Option.bind_eq_some_iff.1 h;obtain ⟨x,hx,rfl⟩:=Option.map_eq_some_iff.1 h;have hl:=lookS_ok (hb.rest htb) h1 h2 (.inl rfl) htab;have hpl:=ζos (hb.rest htb) htab;obtain ⟨c1,c2,c3,c4,c5,_⟩:=ζlx (hb.rest hrv) (hb.rest hev) (by omega) hw _ _ x (by omega) (by omega) hx;refine ⟨hn,hl.2.1,hl.2.2,hpl,c1,c2,fun e he => ?_,c5⟩;obtain ⟨k,hk⟩:=c4 e he;have:=entK_ok (hb.rest hev) hw hk;exact ⟨this.1,c3 e he,this.2⟩
end Go.Sw
end
section
namespace Go.Sw
open Go.RowKit
section
variable {α β γ δ:Type} {E:Heap → Prop} {o:Option β} {f:β → Value} {r:Res Value} {H:Heap} {Q:δ → γ → Heap → Prop}
theorem Cp.call {K:Value → Heap → Res γ} {g:β → Option δ} (hr:r = orF o f H) (hE:E H) (hk:∀ b,o = some b → Cp failV E (K (f b) H) (g b) Q):Cp failV E (r.bind K) (o.bind g) Q:=by
 subst hr;cases o with
 | none => exact ⟨H,rfl,hE⟩
 | some b => exact hk b rfl
theorem Cp.callM {K:Value → Heap → Res γ} {g:β → δ} (hr:r = orF o f H) (hE:E H) (hk:∀ b,o = some b → Cp failV E (K (f b) H) (some (g b)) Q):Cp failV E (r.bind K) (o.map g) Q:=by
 subst hr;cases o with
 | none => exact ⟨H,rfl,hE⟩
 | some b => exact hk b rfl
theorem Cp.callL {Q:β → γ → Heap → Prop} {K:Value → Heap → Res γ} (hr:r = orF o f H) (hE:E H) (hk:∀ b,o = some b → Cp failV E (K (f b) H) (some b) Q):Cp failV E (r.bind K) o Q:=by
 subst hr;cases o with
 | none => exact ⟨H,rfl,hE⟩
 | some b => exact hk b rfl
theorem Cp.callT {G:Value → Heap → Res γ} {K:Value → Heap → Res γ} {g:β → Option δ} (hr:r = orF o f H) (hp:o = none → ∃ H',G failV H = .panic failV H' ∧ E H') (hk:∀ b,o = some b → Cp failV E (K (f b) H) (g b) Q):Cp failV E (r.bindT G K) (o.bind g) Q:=by
 subst hr;cases o with
 | none => exact hp rfl
 | some b => exact hk b rfl
theorem Cp.callTM {G:Value → Heap → Res γ} {K:Value → Heap → Res γ} {g:β → δ} (hr:r = orF o f H) (hp:o = none → ∃ H',G failV H = .panic failV H' ∧ E H') (hk:∀ b,o = some b → Cp failV E (K (f b) H) (some (g b)) Q):Cp failV E (r.bindT G K) (o.map g) Q:=by
 subst hr;cases o with
 | none => exact hp rfl
 | some b => exact hk b rfl
theorem Cp.need {k:Nat} {p:Prop} [Decidable p] {K:Value → Heap → Res γ} {g:Option δ} (hE:E H) (hk:p → Cp failV E (K (.tuple #[]) H) g Q):Cp failV E ((R (T k) F.ζ2x [.bool (decide p)] H).bind K) (if p then g else none) Q:=by
 by_cases h:p
 ·rw [if_pos h,decide_eq_true h,ζio];exact hk h
 ·rw [if_neg h,decide_eq_false h,ζgf];exact ⟨H,rfl,hE⟩
end
section
variable {β:Type} {H:Heap} {r:Res Value} {o:Option β} {f:β → Value}
theorem gc_orF (h:Cp failV (Ext H) r o fun b v _ => v = f b) (ha:∀ b,o = some b → Alive H (f b)):nrm .gc H r = orF o f H:=by
 rw [ζst h ha Flat.fail.alive];cases o <;> rfl
theorem fz_orF (h:Cp failV (Ext H) r o fun b v H' => ∃ L,fzV H.n H' fzDepth v = some (f b,L)) (ha:∀ b,o = some b → Alive H (f b)):nrm .fz H r = orF o f H:=by
 rw [ζss h ha Flat.fail.alive];cases o <;> rfl
end
end Go.Sw
end
