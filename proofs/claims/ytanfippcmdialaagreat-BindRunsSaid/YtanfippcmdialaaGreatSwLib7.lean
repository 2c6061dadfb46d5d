/-
  A speaking function, run by itself, answers true.
-/
import Derived.Test.YtanfippcmdialaaGreatSwLib6
section
namespace Go.Sw
open Go.RowKit
def V1(cells:List Value)(h:A2):Res Value:=.ok (.pointer (some ⟨h.n,0,none⟩)) (h.push ⟨cells,1,false⟩)
def ldA(n:Nat)(a:Value)(h:A2):Res Value :=
 match a with
 | .pointer (some ⟨b,off,none⟩)=>opt ((A01 h b off n).map fun cs=>.agg cs.toArray) h
 | .func (.via _ _ _ true) cs _=>if n≤cs.size then .ok (.agg (cs.extract 0 n)) h else .stuck
 | _=>.stuck
def ld1(a:Value)(h:A2):Res Value :=
 match a with
 | .pointer (some ⟨b,off,none⟩)=>opt ((h.get b).bind fun k=>k.cells[off]?) h
 | .func (.via _ _ _ true) cs _=>opt cs[0]? h
 | _=>.stuck
def stR(n:Nat)(a v:Value)(h:A2):Res Value :=
 match a with
 | .pointer (some ⟨b,off,none⟩)=>if v.cells.size == n && storable v then (Q8 h b off v.cells.toList).bind fun _ h'=>.ok undef h' else .stuck
 | _=>.stuck
def faR(off n:Nat)(a:Value)(h:A2):Res Value :=
 match a with
 | .pointer (some ⟨b,o,none⟩)=>.ok (.pointer (some ⟨b,o+off,none⟩)) h
 | .func (.via _ _ _ true) cs _=>if off+n≤cs.size then .ok (boxV (cs.extract off (off+n))) h else .stuck
 | _=>.stuck
def fvA(off n:Nat)(x:Value)(h:A2):Res Value :=
 match x with
 | .agg cs=>.ok (.agg (cs.extract off (off+n))) h
 | _=>.stuck
def fv1(off:Nat)(x:Value)(h:A2):Res Value :=
 match x with
 | .agg cs=>opt cs[off]? h
 | _=>.stuck
def ixS(n:Nat)(x ix:Value)(h:A2):Res Value :=
 match ix with
 | .int _ i=>
  match x with
  | .slice (some ⟨b,off,none⟩) len _=>if 0≤i∧i<len then .ok (.pointer (some ⟨b,off+i.toNat*n,none⟩)) h else .stuck
  | .func (.via len _ _ false) cs _=>if 0≤i∧i<len∧i.toNat*n+n≤cs.size then .ok (boxV (cs.extract (i.toNat*n) (i.toNat*n+n))) h else .stuck
  | _=>.stuck
 | _=>.stuck
def ixA(len n:Nat)(x ix:Value)(h:A2):Res Value :=
 match ix with
 | .int _ i=>
  match x with
  | .pointer (some ⟨b,off,none⟩)=>if 0≤i∧i<len then .ok (.pointer (some ⟨b,off+i.toNat*n,none⟩)) h else .stuck
  | .func (.via _ _ _ true) cs _=>if 0≤i∧i<len∧i.toNat*n+n≤cs.size then .ok (boxV (cs.extract (i.toNat*n) (i.toNat*n+n))) h else .stuck
  | _=>.stuck
 | _=>.stuck
def slS (size:Nat) (x:Value) (lo hi mx:Option Value) (H:A2):Res Value :=
 match x with
 | .slice a len cap=>
  match E5 mx cap,E5 hi len,E5 lo 0 with
  | some m,some h,some l=>
   if m≤cap∧h≤m∧l≤h∧(mx.isSome→hi.isSome) then
    match a with
    | none=>.ok (.slice none 0 0) H
    | some ⟨b,off,none⟩=>if A3v H b size mx then .ok (.slice (some ⟨b,off+l*size,none⟩) (h - l) (m - l)) H else .stuck
    | some ⟨_,_,some _⟩=>.ok A2j H
   else .stuck
  | _,_,_=>.stuck
 | .func (.via len _ _ false) cs _=>
  match E5 mx len,E5 hi len,E5 lo 0 with
  | some m,some h,some l=>
   if m≤len∧h≤m∧l≤h∧(mx.isSome→hi.isSome)∧h*size≤cs.size then .ok (listV (h - l) (cs.extract (l*size) (h*size))) H else .stuck
  | _,_,_=>.stuck
 | _=>.stuck
def lnS(x:Value)(h:A2):Res Value :=
 match x with
 | .slice _ n _=>.ok (.int .i64 n) h
 | .func (.via n _ _ false) _ _=>.ok (.int .i64 n) h
 | _=>.stuck
def apR(size bytes:Nat)(a b:Value)(h:A2):Res Value :=
 match a with
 | .slice base sLen sCap=>match lenV b with
  | some n=>A10 size bytes size n base sLen sCap b h
  | none=>.stuck
 | _=>.stuck
def azR(size bytes:Nat)(z:List Value)(a b:Value)(h:A2):Res Value :=
 match a,b with
 | .slice base sLen sCap,.int _ m=>if 0≤m∧m≤2 ^ 31 then A2x size bytes size m.toNat base sLen sCap (some (D5 z m.toNat)) h else .stuck
 | _,_=>.stuck
def mkR(size bytes:Nat)(z:List Value)(l c:Value)(h:A2):Res Value :=
 match l,c with
 | .int _ n,.int _ m=>if 0≤n∧n=m∧n≤2 ^ 31∧bytes≤2 ^ 10 then .ok (.slice (some ⟨h.n,0,none⟩) n.toNat n.toNat) (h.push ⟨D5 z n.toNat,size,false⟩) else .stuck
 | _,_=>.stuck
def bdR(places:List (Nat × Nat)):List (Nat × Value)→List Value→A2→Res Value
 | [],z,h=>.ok (.agg z.toArray) h
 | (i,v) :: ps,z,h=>
  match places[i]? with
  | some (off,size)=>if storable v && v.cells.size == size && Nat.ble (off+size) z.length then bdR places ps (K4 z off v.cells.toList) h else .stuck
  | none=>.stuck
def beR(size len:Nat):List (Nat × Value)→List Value→A2→Res Value
 | [],z,h=>bif Nat.beq len 0 then .ok U8 h else .ok (.slice (some ⟨h.n,0,none⟩) len len) (h.push ⟨z,size,false⟩)
 | (i,v) :: ps,z,h=>if storable v && v.cells.size == size && Nat.ble (i*size+size) z.length then beR size len ps (K4 z (i*size) v.cells.toList) h else .stuck
def baR(size:Nat):List (Nat × Value)→List Value→A2→Res Value
 | [],z,h=>.ok (.agg z.toArray) h
 | (i,v) :: ps,z,h=>if storable v && v.cells.size == size && Nat.ble (i*size+size) z.length then baR size ps (K4 z (i*size) v.cells.toList) h else .stuck
section
variable {P:Program} {t e:TypeId}
theorem A07{z:Value}(hz:Z1 P t=some z)(h:A2):D1 P t h=V1 z.cells.toList h:=by
 unfold D1; rw[hz]; rfl
theorem X8 {n:Nat} (h1:A20 P t=some true) (h2:M3 P t=some n) (a:Value) (h:A2):A3 P t a h=ldA n a h:=by
 unfold A3 A5g ldA;rw[h1,h2];cases a with
 | pointer p=>
  cases p with
  | none=>rfl
  | some q=>
   obtain⟨b,o,s⟩:=q;cases s with
   | none=>dsimp only; try (split <;> rfl)
   | some s=>rfl
 | func fn xs ys=>
  cases fn with
  | via n' p g t=>
   cases t with
   | true=>dsimp only; try (split <;> rfl)
   | false=>rfl
  | _=>rfl
 | _=>rfl
theorem Q4 (h1:A20 P t=some false) (a:Value) (h:A2):A3 P t a h=ld1 a h:=by
 unfold A3 A5g ld1;rw[h1];cases a with
 | pointer p=>
  cases p with
  | none=>rfl
  | some q=>
   obtain⟨b,o,s⟩:=q;cases s with
   | none=>dsimp only; try (split <;> rfl)
   | some s=>rfl
 | func fn xs ys=>
  cases fn with
  | via n' p g t=>
   cases t with
   | true=>dsimp only; try (split <;> rfl)
   | false=>rfl
  | _=>rfl
 | _=>rfl
theorem S9 {n:Nat} (h2:M3 P t=some n) (a v:Value) (h:A2):B4 P t a v h=stR n a v h:=by
 unfold B4 A6f stR;rw[h2];cases a with
 | pointer p=>
  cases p with
  | none=>rfl
  | some q=>
   obtain⟨b,o,s⟩:=q;cases s with
   | none=>dsimp only; split <;> rfl
   | some s=>rfl
 | _=>rfl
theorem D7t {i:Nat} {f:Field} {n:Nat} (h1:A2d P t i=some f) (h2:M3 P f.type=some (n+1)) (a:Value) (h:A2):A1 P t a i h=faR f.offset (n+1) a h:=by
 unfold A1 A30 faR;rw[h1];cases a with
 | pointer p=>
  cases p with
  | none=>rfl
  | some q=>
   obtain⟨b,o,s⟩:=q;cases s <;> simp only[h2] <;> rfl
 | func fn xs ys=>
  cases fn with
  | via n' p g t=>
   cases t with
   | true=>simp only[h2]; split <;> rfl
   | false=>rfl
  | _=>rfl
 | _=>rfl
theorem D32{i:Nat}{f:Field}(h1:A2d P t i=some f)(h2:A20 P f.type=some false)(x:Value)(h:A2):A31 P t x i h=fv1 f.offset x h:=by
 unfold A31 A9n fv1;rw[h1];cases x <;> first | rfl | (simp only[A5r,h2])
theorem A0w {n:Nat} (h1:P.underlying t=some (.slice e)) (h2:M3 P e=some n) (x i:Value) (h:A2):A9 P t x i h=ixS n x i h:=by
 unfold A9 A1z ixS;cases i with
 | int k i=>
  simp only[h1];cases x with
  | slice a len cap=>
   cases a with
   | none=>rfl
   | some q=>
    obtain⟨b,o,s⟩:=q;cases s with
    | none=>simp only[h2]; split <;> rfl
    | some s=>rfl
  | func fn xs ys=>
   cases fn with
   | via n' p g t=>
    cases t with
    | true=>rfl
    | false=>simp only[h2]; split <;> rfl
   | _=>rfl
  | _=>rfl
 | _=>rfl
theorem D38 {n len:Nat} (h1:P.underlying t=some (.array len e)) (h2:M3 P e=some n) (x i:Value) (h:A2):A9 P t x i h=ixA len n x i h:=by
 unfold A9 A1z ixA;cases i with
 | int k i=>
  simp only[h1];cases x with
  | pointer a=>
   cases a with
   | none=>rfl
   | some q=>
    obtain⟨b,o,s⟩:=q;cases s with
    | none=>simp only[h2]; split <;> rfl
    | some s=>rfl
  | func fn xs ys=>
   cases fn with
   | via n' p g t=>
    cases t with
    | false=>rfl
    | true=>simp only[h2]; split <;> rfl
   | _=>rfl
  | _=>rfl
 | _=>rfl
theorem B2l {n:Nat} (h1:P.underlying t=some (.slice e)) (h2:M3 P e=some n) (x:Value) (lo hi mx:Option Value) (h:A2):A06 P t x lo hi mx h=slS n x lo hi mx h:=by
 unfold A06 B05 slS;simp only[h1];cases x with
 | slice a len cap=>
  simp only[h2];cases E5 mx cap <;> cases E5 hi len <;> cases E5 lo 0 <;> try rfl
  dsimp only;split
  ·cases a with
   | none=>rfl
   | some q=>
    obtain⟨b,o,s⟩:=q;cases s with
    | none=>dsimp only; split <;> rfl
    | some s=>rfl
  ·rfl
 | func fn xs ys=>
  cases fn with
  | via n' p g t=>
   cases t with
   | true=>rfl
   | false=>
    simp only[h2];cases E5 mx n' <;> cases E5 hi n' <;> cases E5 lo 0 <;> try rfl
    dsimp only;split <;> rfl
  | _=>rfl
 | _=>rfl
theorem A0x(h1:P.underlying t=some (.slice e))(x:Value)(h:A2):A6 P .len [t] [x] h=lnS x h:=by
 unfold A6 D03 lnS;simp only[h1];cases x with
 | func fn xs ys=>
  cases fn with
  | via n' p g t=>cases t <;> rfl
  | _=>rfl
 | _=>rfl
def cpR (size:Nat) (d s:Value) (h:A2):Res Value :=
 match d with
 | .slice base dLen _=>match lenV s with
  | some sn=>match S4 size (min sn dLen) s h with
   | none=>.stuck
   | some cs=>if cs.isEmpty then .ok (.int .i64 (min sn dLen)) h else
    match base with
    | some ⟨b,off,none⟩=>(Q8 h b off cs).bind fun _ H'=>.ok (.int .i64 (min sn dLen)) H'
    | _=>.stuck
  | none=>.stuck
 | _=>.stuck
theorem D7s{u:TypeId}{size:Nat}(h1:P.underlying t=some (.slice e))(h2:M3 P e=some size)(d s:Value)(h:A2):A6 P .copy [t,u] [d,s] h=cpR size d s h:=by
 show A7r P [t,u] [d,s] h=_;unfold A7r cpR;cases d with
 | slice base dLen c=>
  dsimp only;rw[h1];dsimp only;rw[h2];cases lenV s <;> rfl
 | _=>rfl
theorem D7n{size:Nat}{i:TypeInfo}{z:Value}(h1:P.underlying t=some (.slice e))(h2:M3 P e=some size)(h3:P.info? e=some i)(h4:Z1 P e=some z)(h5:z.cells.size=size)(a b:Value)(h:A2) :
  A6 P .append [t,t] [a,b] h=apR size i.bytes a b h:=by
 unfold A6 A2y apR;cases a with
 | slice base l c=>
  simp only[A55,h1,h2,h3,h4];cases lenV b with
  | none=>rfl
  | some n=>dsimp only; rw[h5]
 | _=>rfl
theorem D7o{x:TypeId}{size:Nat}{i:TypeInfo}{z:Value}{kt:IntKind}(h0:P.underlying x=some (.int kt))(h1:P.underlying t=some (.slice e))(h2:M3 P e=some size)(h3:P.info? e=some i)(h4:Z1 P e=some z)(h5:z.cells.size=size)(a b:Value)(h:A2) :
  A6 P .append [t,x] [a,b] h=azR size i.bytes z.cells.toList a b h:=by
 unfold A6 A2y azR;cases a with
 | slice base l c=>
  have ht:A55 P t x=none:=by unfold A55; rw[h0,h1]
  simp only[ht,h0,h1];cases b with
  | int k m=>simp only[h2,h3,h4,h5]
  | _=>rfl
 | _=>rfl
theorem D9t{size:Nat}{i:TypeInfo}{z:Value}(h1:P.underlying t=some (.slice e))(h2:M3 P e=some size)(h3:P.info? e=some i)(h4:Z1 P e=some z)(h5:(z.cells.size == size)=true)(l c:Value)(h:A2) :
  Q5 P t l c h=mkR size i.bytes z.cells.toList l c h:=by
 unfold Q5 mkR;simp only[h1];cases l <;> try rfl
 cases c <;> try rfl
 simp only[h2,h3,A62,h4,Option.bind_some];rw[if_pos h5]
theorem E3k(off:Nat):∀ (l:List Value) (k:Nat) (c:Array Value),off+k+l.length≤c.size→((l.zipIdx k).foldl (fun cs (x,j)=>cs.setIfInBounds (off+j) x) c).toList=K4 c.toList (off+k) l
 | [],k,c,_=>by simp[K4]
 | x :: l,k,c,h=>by
  rw[List.zipIdx_cons,List.foldl_cons,E3k off l (k+1) _ (by simp at h ⊢; omega)];simp only[List.length_cons] at h;have hl:off+k<c.toList.length:=by simp; omega
  rw[Array.toList_setIfInBounds,List.set_eq_take_append_cons_drop,if_pos hl];unfold K4;have ht:(c.toList.take (off+k)).length=off+k:=by simp; omega
  rw[List.take_append,List.drop_append,ht,show off+(k+1) - (off+k)=1 by omega,show off+(k+1)+l.length - (off+k)=l.length+1 by omega];rw[List.take_of_length_le (by rw[ht]; omega),List.drop_of_length_le (l:=List.take (off+k) c.toList) (by rw[ht]; omega)];simp[List.drop_drop,Nat.add_assoc,Nat.add_comm,Nat.add_left_comm]
theorem A9o {β:Type} (place:Nat→Option (Nat × Nat)) (k:List Value→Res β) (H:A2) (go:List (Nat × Value)→List Value→Res β) (hnil:∀ z,go [] z=k z)
  (hcons:∀ i v ps z,go ((i,v) :: ps) z=match place i with
   | some (off,size)=>if storable v && v.cells.size == size && Nat.ble (off+size) z.length then go ps (K4 z off v.cells.toList) else .stuck
   | none=>.stuck):∀ (ps:List (Nat × Value)) (c:Array Value),
  ((opt (Z8 ps) H).bind fun ps _=>match Instr.fill place c ps with | some r=>k r.toList | none=>.stuck)=go ps c.toList
 | [],c=>by rw[hnil]; rfl
 | (i, v) :: ps,c=>by
  rw[hcons];simp only[Z8];cases hp:place i with
  | none=>
   dsimp only;split
   ·cases Z8 ps with
    | none=>rfl
    | some r=>simp only[Option.map_some,opt,Res.bind,Instr.fill,hp]
   ·rfl
  | some q=>
   obtain⟨off,size⟩:=q;dsimp only;cases hs:storable v with
   | false=>rfl
   | true=>
    simp only[if_true,Bool.true_and];by_cases hz:v.cells.size=size
    ·by_cases hb:off+size≤c.size
     ·have hb1:Nat.ble (off+size) c.toList.length=true:=Nat.ble_eq_true_of_le (by simpa using hb);rw[if_pos (by rw[hb1]; simpa using hz)];have hf:(v.cells.zipIdx.foldl (fun cs (x,j)=>cs.setIfInBounds (off+j) x) c).toList=K4 c.toList off v.cells.toList:=by
       rw[B8p,E3k off v.cells.toList 0 c (by simp[hz]; exact hb)]; rfl
      have ih:=A9o place k H go hnil hcons ps (v.cells.zipIdx.foldl (fun cs (x,j)=>cs.setIfInBounds (off+j) x) c);rw[hf] at ih;rw[← ih];cases Z8 ps with
      | none=>rfl
      | some r=>
       simp only[Option.map_some,opt,Res.bind,Instr.fill,hp];rw[if_neg (by simp[hz]; exact hb)]
     ·have hb1:Nat.ble (off+size) c.toList.length=false:=by
       cases hb2:Nat.ble (off+size) c.toList.length with
       | false=>rfl
       | true=>have:=Nat.le_of_ble_eq_true hb2; simp at this; omega
      rw[if_neg (by rw[hb1]; simp)];cases Z8 ps with
      | none=>rfl
      | some r=>
       simp only[Option.map_some,opt,Res.bind,Instr.fill,hp];rw[if_pos (by simp[hz]; omega)]
    ·rw [if_neg (by simp[hz])];cases Z8 ps with
     | none=>rfl
     | some r=>
      simp only[Option.map_some,opt,Res.bind,Instr.fill,hp];rw[if_pos (by simp[hz])]
theorem D7r{fs:Array Field}{places:List (Nat × Nat)}{z:Value}(h1:P.underlying t=some (.struct fs))(h2:A3x P t=some places)(h3:Z1 P t=some z)(ps:List (Nat × Value))(h:A2) :
  E0 P t ps h=bdR places ps z.cells.toList h:=by
 have:=A9o (β:=Value) (places[·]?) (fun l=>.ok (.agg l.toArray) h) h (fun ps z=>bdR places ps z h) (fun z=>rfl) (fun i v ps z=>by
  show bdR places ((i,v) :: ps) z h=_;rw[bdR]) ps z.cells
 rw[← this];unfold E0 A9k;simp only[h1,h2,h3,Option.bind_some];cases Z8 ps with
 | none=>rfl
 | some r=>
  simp only[opt,Res.bind];cases Instr.fill (fun x=>places[x]?) z.cells r with
  | none=>rfl
  | some q=>simp only[Option.map_some,Array.toArray_toList]
theorem A1e{size n:Nat}{z:List Value}(h1:P.underlying t=some (.slice e))(h2:M3 P e=some size)(h3:A62 P e n=some z)(h4:Nat.ble (n*size) (2 ^ 24)=true)(ps:List (Nat × Value))(h:A2) :
  B9 P t n ps h=beR size n ps z h:=by
 have:=A9o (β:=Value) (fun i=>some (i*size,size)) (fun l=>bif Nat.beq n 0 then .ok U8 h else .ok (.slice (some ⟨h.n,0,none⟩) n n) (h.push ⟨l,size,false⟩)) h (fun ps z=>beR size n ps z h) (fun z=>rfl) (fun i v ps z=>by
  show beR size n ((i,v) :: ps) z h=_;rw[beR]) ps z.toArray
 rw[show z.toArray.toList=z from rfl] at this;rw[← this];unfold B9 U3;simp only[h1,h2,h3,h4,if_true];cases hp:Z8 ps with
 | none=>rfl
 | some r=>rfl
theorem G1{i off n:Nat}{ft:TypeId}(h1:(A2d P t i).map (fun f=>(f.offset,f.type))=some (off,ft))(h2:M3 P ft=some (n+1))(a:Value)(h:A2):A1 P t a i h=faR off (n+1) a h:=by
 obtain⟨f,hf,he⟩:=Option.map_eq_some_iff.1 h1;injection he with e1 e2;subst e1 e2;exact D7t hf h2 a h
theorem D33{i off:Nat}{ft:TypeId}(h1:(A2d P t i).map (fun f=>(f.offset,f.type))=some (off,ft))(h2:A20 P ft=some false)(x:Value)(h:A2):A31 P t x i h=fv1 off x h:=by
 obtain⟨f,hf,he⟩:=Option.map_eq_some_iff.1 h1;injection he with e1 e2;subst e1 e2;exact D32 hf h2 x h
def A9d(P:Program)(t:TypeId):Bool:=match P.underlying t with
 | some (.struct _)=>true
 | _=>false
theorem Z4{places:List (Nat × Nat)}{z:Value}(h1:A9d P t=true)(h2:A3x P t=some places)(h3:Z1 P t=some z)(ps:List (Nat × Value))(h:A2):E0 P t ps h=bdR places ps z.cells.toList h:=by
 unfold A9d at h1;split at h1
 ·rename_i fs hu; exact D7r hu h2 h3 ps h
 ·cases h1
theorem A54{size bytes:Nat}{z:Value}(h1:P.underlying t=some (.slice e))(h2:M3 P e=some size)(h3:(P.info? e).map (·.bytes)=some bytes)(h4:Z1 P e=some z)(h5:z.cells.size=size)(a b:Value)(h:A2) :
  A6 P .append [t,t] [a,b] h=apR size bytes a b h:=by
 obtain⟨i,hi,he⟩:=Option.map_eq_some_iff.1 h3;rw[← he];exact D7n h1 h2 hi h4 h5 a b h
theorem D7p{x:TypeId}{size bytes:Nat}{z:Value}{kt:IntKind}(h0:P.underlying x=some (.int kt))(h1:P.underlying t=some (.slice e))(h2:M3 P e=some size)(h3:(P.info? e).map (·.bytes)=some bytes)(h4:Z1 P e=some z)(h5:z.cells.size=size)(a b:Value)(h:A2) :
  A6 P .append [t,x] [a,b] h=azR size bytes z.cells.toList a b h:=by
 obtain⟨i,hi,he⟩:=Option.map_eq_some_iff.1 h3;rw[← he];exact D7o h0 h1 h2 hi h4 h5 a b h
theorem D9u{size bytes:Nat}{z:Value}(h1:P.underlying t=some (.slice e))(h2:M3 P e=some size)(h3:(P.info? e).map (·.bytes)=some bytes)(h4:Z1 P e=some z)(h5:(z.cells.size == size)=true)(l c:Value)(h:A2) :
  Q5 P t l c h=mkR size bytes z.cells.toList l c h:=by
 obtain⟨i,hi,he⟩:=Option.map_eq_some_iff.1 h3;rw[← he];exact D9t h1 h2 hi h4 h5 l c h
def A1m(P:Program):Nat→List Field→List IntKind→Bool
 | _,[],[]=>true
 | i,f :: fs,k :: ks=>!(f.name == "_") && (Nat.beq f.offset i && ((match P.underlying f.type with | some (.int k')=>k' == k | _=>false) && A1m P (i+1) fs ks))
 | _,_,_=>false
def B3v(P:Program)(t:TypeId)(ks:List IntKind):Bool:=(match P.underlying t with | some (.struct fs)=>A1m P 0 fs.toList ks | _=>false) && (!P.stoodInHeld t && !(P.eqGuardType P.depth t))
def A32:List IntKind→List Int→List Value
 | k :: ks,a :: l=>.int k a :: A32 ks l
 | _,_=>[]
theorem E5x {d:Nat}:∀ (fs:List Field) (ks:List IntKind) (i:Nat) (p q:List Value) (xs ys:List Int),A1m P i fs ks=true→xs.length=ks.length→ys.length=ks.length→p.length=i→q.length=i →
  eqFields P (eqV P (d+1)) (p++A32 ks xs).toArray (q++A32 ks ys).toArray fs=some (xs == ys)
 | [],[],i,p,q,xs,ys,_,hx,hy,_,_=>by
  have e1:=List.length_eq_zero_iff.1 hx;have e2:=List.length_eq_zero_iff.1 hy;subst e1 e2;rfl
 | [],k :: ks,i,p,q,xs,ys,h,_,_,_,_=>by simp[A1m] at h
 | f :: fs,[],i,p,q,xs,ys,h,_,_,_,_=>by simp[A1m] at h
 | f :: fs,k :: ks,i,p,q,x :: xs,y :: ys,h,hx,hy,hp,hq=>by
  simp only[A1m,Bool.and_eq_true,Bool.not_eq_true'] at h;obtain⟨h1,h2,h3,h4⟩:=h;have h2:=Nat.eq_of_beq_eq_true h2;split at h3
  ·rename_i k' hu;have h3:k'=k:=by simpa using h3
   subst h3;have hag:A20 P f.type=some false:=by unfold A20; rw[hu]; rfl
   have part:∀ (l:List Value) (z:Int) (zs:List Int),l.length=i→A5r P f.type (l++A32 (k' :: ks) (z :: zs)).toArray f.offset=some (.int k' z):=by
    intro l z zs hl;unfold A5r;rw[hag];simp only[A32,h2];rw[List.getElem?_toArray,List.getElem?_append_right (by omega),hl];simp
   simp only[eqFields];rw[h1,part p x xs hp,part q y ys hq];have he:eqV P (d+1) f.type (.int k' x) (.int k' y)=some (x == y):=by unfold eqV; rw[hu]; simp
   simp only[he,Bool.false_eq_true,if_false];have ih:=E5x (d:=d) fs ks (i+1) (p++[Value.int k' x]) (q++[Value.int k' y]) xs ys h4 (by simpa using hx) (by simpa using hy) (by simp[hp]) (by simp[hq]);simp only[List.append_assoc,List.singleton_append] at ih;show (match some (x == y) with | some true=>eqFields P (eqV P (d+1)) (p++(Value.int k' x :: A32 ks xs)).toArray (q++(Value.int k' y :: A32 ks ys)).toArray fs | r=>r)=_;rw[ih,List.cons_beq_cons];cases x == y <;> rfl
  ·cases h3
 | f :: fs,k :: ks,i,p,q,[],ys,h,hx,_,_,_=>by simp at hx
 | f :: fs,k :: ks,i,p,q,x :: xs,[],h,_,hy,_,_=>by simp at hy
theorem B74{ks:List IntKind}(hb:B3v P t ks=true)(xs ys:List Int)(hx:xs.length=ks.length)(hy:ys.length=ks.length)(h:A2):A5 P .neq t (.agg (A32 ks xs).toArray) (.agg (A32 ks ys).toArray) h=.ok (.bool (!(xs == ys))) h:=by
 unfold B3v at hb;simp only[Bool.and_eq_true,Bool.not_eq_true'] at hb;obtain⟨h1,h2,h3⟩:=hb;split at h1
 ·rename_i fs hu;have:=E5x (P:=P) (d:=6) fs.toList ks 0 [] [] xs ys h1 hx hy rfl rfl;simp only[List.nil_append] at this;unfold A5 A0n L3 eqV;simp only[h3,h2,hu,this];rfl
 ·cases h1
end
end Go.Sw
end
section
namespace Go.Sw
open Go.RowKit
@[simp] theorem g0(a:Value)(l:List Value):(a :: l)[0]?=some a:=rfl
@[simp] theorem gS(a:Value)(l:List Value)(n:Nat):(a :: l)[n+1]?=l[n]?:=rfl
@[simp] theorem gN(n:Nat):([]:List Value)[n]?=none:=rfl
@[simp] theorem gp0(a:Nat × Nat)(l:List (Nat × Nat)):(a :: l)[0]?=some a:=rfl
@[simp] theorem gpS(a:Nat × Nat)(l:List (Nat × Nat))(n:Nat):(a :: l)[n+1]?=l[n]?:=rfl
@[simp] theorem A02(h:A2)(k:Blk):(h.push k).n=h.n+1:=rfl
@[simp] theorem hn_set(h:A2)(b:Nat)(x:Option Blk):(h.set b x).n=h.n:=A2.n_set h b x
theorem ζd(h:A2)(k:Blk)(b:Nat)(hb:b=h.n):(h.push k).get b=some k:=by rw[A2.get_push,if_pos hb]
theorem E43(h:A2)(k:Blk)(b:Nat)(hb:¬ b=h.n):(h.push k).get b=h.get b:=by rw[A2.get_push,if_neg hb]
theorem A65(h:A2)(k:Blk)(b:Nat)(hb:b<h.n):(h.push k).get b=h.get b:=E43 h k b (by omega)
theorem A6j(h:A2)(b c:Nat)(x:Option Blk)(hc:¬ c=b):(h.set b x).get c=h.get c:=by
 unfold A2.set;split
 ·unfold A2.get;dsimp only;split
  ·rw[List.getElem?_set_ne (by omega)]
  ·rfl
 ·rfl
@[simp] theorem B5b(h:A2)(b:Nat)(x:Option Blk)(hb:(h.get b).isSome=true):(h.set b x).get b=x:=by
 obtain⟨k,hk⟩:=Option.isSome_iff_exists.1 hb;rw[A2.get_set hk,if_pos rfl]
attribute [simp] A2.get_push
@[simp] theorem ζtg(h:A2)(k k':Blk)(b:Nat):(h.push k).set b (some k')=if b=h.n then h.push k' else (h.set b (some k')).push k:=by
 by_cases hb:b=h.n
 ·subst hb;rw[if_pos rfl];unfold A2.set A2.push;dsimp only;rw[if_pos (by omega)];simp
 ·rw[if_neg hb];unfold A2.set A2.push;dsimp only;by_cases h1:b<h.n
  ·rw[if_pos h1,if_pos (by omega)];rw[show h.n+1 - 1 - b=(h.n - 1 - b)+1 by omega];rfl
  ·rw[if_neg h1,if_neg (by omega)]
@[simp] theorem newP_ok(cells:List Value)(h:A2):V1 cells h=.ok (.pointer (some ⟨h.n,0,none⟩)) (h.push ⟨cells,1,false⟩):=rfl
@[simp] theorem boxR_int(k:IntKind)(n:Int)(h:A2):K9 (.int k n) h=V1 [.int k n] h:=rfl
@[simp] theorem ζuf(b:Bool)(h:A2):K9 (.bool b) h=V1 [.bool b] h:=rfl
@[simp] theorem boxR_ptr(a:Option Addr)(h:A2):K9 (.pointer a) h=V1 [.pointer a] h:=rfl
@[simp] theorem ζu7(a:Option Addr)(l c:Nat)(h:A2):K9 (.slice a l c) h=V1 [.slice a l c] h:=rfl
@[simp] theorem ζuh(n:Nat)(cs:Array Value)(h:A2):K9 (listV n cs) h=V1 [listV n cs] h:=rfl
@[simp] theorem boxR_box(cs:Array Value)(h:A2):K9 (boxV cs) h=V1 [boxV cs] h:=rfl
@[simp] theorem ζug(f:Fn)(a b:Array Value)(h:A2):K9 (.func f a b) h=V1 [.func f a b] h:=rfl
@[simp] theorem boxR_agg(cs:Array Value)(h:A2):K9 (.agg cs) h=V1 cs.toList h:=rfl
@[simp] theorem ζtp(k:IntKind)(n:Int):storable (.int k n)=true:=rfl
@[simp] theorem ζth(b:Bool):storable (.bool b)=true:=rfl
@[simp] theorem ζtq(a:Option Addr):storable (.pointer a)=true:=rfl
@[simp] theorem ζt9(a:Option Addr)(l c:Nat):storable (.slice a l c)=true:=rfl
@[simp] theorem ζtj(n:Nat)(cs:Array Value):storable (listV n cs)=true:=rfl
@[simp] theorem ζto(cs:Array Value):storable (boxV cs)=true:=rfl
@[simp] theorem ζti(f:Fn)(a b:Array Value):storable (.func f a b)=true:=rfl
@[simp] theorem ζtn(cs:Array Value):storable (.agg cs)=true:=rfl
@[simp] theorem ζt8(t:TypeId)(v:Value):storable (.iface t v)=true:=rfl
@[simp] theorem ζuk(k:IntKind)(n:Int):(Value.int k n).cells=#[.int k n]:=rfl
@[simp] theorem ζu8(b:Bool):(Value.bool b).cells=#[.bool b]:=rfl
@[simp] theorem ζul(a:Option Addr):(Value.pointer a).cells=#[.pointer a]:=rfl
@[simp] theorem ζty(a:Option Addr)(l c:Nat):(Value.slice a l c).cells=#[.slice a l c]:=rfl
@[simp] theorem ζua(n:Nat)(cs:Array Value):(listV n cs).cells=#[listV n cs]:=rfl
@[simp] theorem ζuj(cs:Array Value):(boxV cs).cells=#[boxV cs]:=rfl
@[simp] theorem ζu9(f:Fn)(a b:Array Value):(Value.func f a b).cells=#[.func f a b]:=rfl
@[simp] theorem ζui(cs:Array Value):(Value.agg cs).cells=cs:=rfl
@[simp] theorem ld1_box(cs:Array Value)(h:A2):ld1 (boxV cs) h=opt cs[0]? h:=rfl
@[simp] theorem A4a(b off:Nat)(h:A2):ld1 (.pointer (some ⟨b,off,none⟩)) h=opt ((h.get b).bind fun k=>k.cells[off]?) h:=rfl
@[simp] theorem D02(n:Nat)(cs:Array Value)(h:A2):ldA n (boxV cs) h=if n≤cs.size then .ok (.agg (cs.extract 0 n)) h else .stuck:=rfl
theorem B59(h:A2)(b off n:Nat):A01 h b off n=(h.get b).bind fun k=>if off+n≤k.cells.length then some ((k.cells.drop off).take n) else none:=by
 unfold A01;congr 1;funext k;by_cases hh:off+n≤k.cells.length
 ·rw[if_pos hh,if_pos (Nat.ble_eq_true_of_le hh)]
 ·rw[if_neg hh,if_neg];intro hb; exact hh (Nat.le_of_ble_eq_true hb)
@[simp] theorem A9u(n b off:Nat)(h:A2):ldA n (.pointer (some ⟨b,off,none⟩)) h=opt (((h.get b).bind fun k=>if off+n≤k.cells.length then some ((k.cells.drop off).take n) else none).map fun cs=>.agg cs.toArray) h:=by
 show opt ((A01 h b off n).map _) h=_;rw[B59]
@[simp] theorem faR_ptr(off n b o:Nat)(h:A2):faR off n (.pointer (some ⟨b,o,none⟩)) h=.ok (.pointer (some ⟨b,o+off,none⟩)) h:=rfl
@[simp] theorem faR_box(off n:Nat)(cs:Array Value)(h:A2):faR off n (boxV cs) h=if off+n≤cs.size then .ok (boxV (cs.extract off (off+n))) h else .stuck:=rfl
@[simp] theorem fvA_agg(off n:Nat)(cs:Array Value)(h:A2):fvA off n (.agg cs) h=.ok (.agg (cs.extract off (off+n))) h:=rfl
@[simp] theorem fv1_agg(off:Nat)(cs:Array Value)(h:A2):fv1 off (.agg cs) h=opt cs[off]? h:=rfl
@[simp] theorem nilR_ptr(a:Addr)(h:A2):G8 (.pointer (some a)) h=.ok (.pointer (some a)) h:=rfl
@[simp] theorem nilR_box(cs:Array Value)(h:A2):G8 (boxV cs) h=.ok (boxV cs) h:=rfl
@[simp] theorem ζun(a:Option Addr)(n c:Nat)(h:A2):lnS (.slice a n c) h=.ok (.int .i64 n) h:=rfl
@[simp] theorem lnS_list(n:Nat)(cs:Array Value)(h:A2):lnS (listV n cs) h=.ok (.int .i64 n) h:=rfl
@[simp] theorem ζs6(vs:Array Value)(i:Nat)(h:A2):B5 (.tuple vs) i h=opt vs[i]? h:=rfl
@[simp] theorem ζtl(t:TypeId)(v:Value)(h:A2):B01 (.iface t v) h=.panic (.iface t v) h:=rfl
@[simp] theorem ζuo{α:Type}(H:A2):(opt (none:Option α) H)=.stuck:=rfl
@[simp] theorem Res.ζu6{α β:Type}(f:α→A2→Res β):(Res.stuck:Res α).bind f=.stuck:=rfl
@[simp] theorem Res.ζtu{α β:Type}(f:α→A2→Res β):(Res.stuck:Res α).bindN f=.stuck:=rfl
@[simp] theorem Res.ζtt{α β:Type}(v:Value)(H:A2)(f:α→A2→Res β):(Res.panic v H:Res α).bindN f=.stuck:=rfl
@[simp] theorem Res.ζtx{α β:Type}(g:Value→A2→Res β)(f:α→A2→Res β):(Res.stuck:Res α).bindT g f=.stuck:=rfl
@[simp] theorem bdR_nil(places:List (Nat × Nat))(z:List Value)(h:A2):bdR places [] z h=.ok (.agg z.toArray) h:=rfl
@[simp] theorem bdR_cons (places:List (Nat × Nat)) (i:Nat) (v:Value) (ps:List (Nat × Value)) (z:List Value) (h:A2) :
  bdR places ((i,v) :: ps) z h=match places[i]? with
   | some (off,size)=>if storable v=true∧v.cells.size=size∧off+size≤z.length then bdR places ps (K4 z off v.cells.toList) h else .stuck
   | none=>.stuck:=by
 rw[bdR];cases places[i]? with
 | none=>rfl
 | some q=>
  obtain⟨off,size⟩:=q;dsimp only;by_cases hc:storable v=true∧v.cells.size=size∧off+size≤z.length
  ·rw[if_pos hc,if_pos (by rw[hc.1,hc.2.1,Nat.ble_eq_true_of_le hc.2.2]; simp)]
  ·rw[if_neg hc,if_neg];intro hb;simp only[Bool.and_eq_true,beq_iff_eq] at hb;exact hc ⟨hb.1.1,hb.1.2,Nat.le_of_ble_eq_true hb.2⟩
@[simp] theorem baR_nil(size:Nat)(z:List Value)(h:A2):baR size [] z h=.ok (.agg z.toArray) h:=rfl
@[simp] theorem beR_nil(size len:Nat)(z:List Value)(h:A2):beR size (len+1) [] z h=.ok (.slice (some ⟨h.n,0,none⟩) (len+1) (len+1)) (h.push ⟨z,size,false⟩):=rfl
@[simp] theorem B0u(size:Nat)(z:List Value)(h:A2):beR size 0 [] z h=.ok U8 h:=rfl
@[simp] theorem beR_cons(size len i:Nat)(v:Value)(ps:List (Nat × Value))(z:List Value)(h:A2) :
  beR size len ((i,v) :: ps) z h=if storable v=true∧v.cells.size=size∧i*size+size≤z.length then beR size len ps (K4 z (i*size) v.cells.toList) h else .stuck:=by
 rw[beR];by_cases hc:storable v=true∧v.cells.size=size∧i*size+size≤z.length
 ·rw[if_pos hc,if_pos (by rw[hc.1,hc.2.1,Nat.ble_eq_true_of_le hc.2.2]; simp)]
 ·rw[if_neg hc,if_neg];intro hb;simp only[Bool.and_eq_true,beq_iff_eq] at hb;exact hc ⟨hb.1.1,hb.1.2,Nat.le_of_ble_eq_true hb.2⟩
@[simp] theorem Q3(n b off:Nat)(v:Value)(h:A2):stR n (.pointer (some ⟨b,off,none⟩)) v h=if storable v=true∧v.cells.size=n then (Q8 h b off v.cells.toList).bind fun _ h'=>.ok undef h' else .stuck:=by
 unfold stR;dsimp only;by_cases hc:storable v=true∧v.cells.size=n
 ·rw[if_pos hc,if_pos (by rw[hc.1,hc.2]; simp)]
 ·rw[if_neg hc,if_neg];intro hb;simp only[Bool.and_eq_true,beq_iff_eq] at hb;exact hc ⟨hb.2,hb.1⟩
@[simp] theorem D3h(h:A2)(b off:Nat)(vs:List Value):Q8 h b off vs=match h.get b with
  | some k=>if off+vs.length≤k.cells.length∧k.ro=false then .ok () (h.set b (some ⟨K4 k.cells off vs,k.esz,k.ro⟩)) else .stuck
  | none=>.stuck:=by
 unfold Q8;cases h.get b with
 | none=>rfl
 | some k=>
  dsimp only;by_cases hh:off+vs.length≤k.cells.length∧k.ro=false
  ·rw[if_pos hh,if_pos (by rw[Nat.ble_eq_true_of_le hh.1,hh.2]; rfl)]
  ·rw[if_neg hh,if_neg];intro hb;simp only[Bool.and_eq_true,Bool.not_eq_true'] at hb;exact hh ⟨Nat.le_of_ble_eq_true hb.1,hb.2⟩
@[simp] theorem ζu3(z vs:List Value):K4 z 0 vs=vs++z.drop vs.length:=by simp[K4]
@[simp] theorem ζu2(a:Value)(z:List Value)(n:Nat)(vs:List Value):K4 (a :: z) (n+1) vs=a :: K4 z n vs:=by
 unfold K4;simp[Nat.add_right_comm]
attribute [simp] wrap_i64 B1z
theorem D10{k:IntKind}{n:Int}(h1:k.min≤n)(h2:n≤k.max):k.wrap n=n:=by
 unfold IntKind.wrap;unfold IntKind.min at h1;unfold IntKind.max at h2;cases k <;> simp[IntKind.signed,IntKind.bits] at h1 h2 ⊢ <;> omega
@[simp] theorem wrap_u8{n:Int}(h1:0≤n)(h2:n≤255):IntKind.u8.wrap n=n:=D10 (by simpa[IntKind.min,IntKind.signed] using h1) (by simpa[IntKind.max,IntKind.signed,IntKind.bits] using h2)
end Go.Sw
end
section
namespace Go.Sw
abbrev Gs:=Option (Nat × List Int)
def A0g(H:A2):A2:=⟨H.n+1,none :: H.l⟩
def B4q(P:Program)(t:TypeId):Bool :=
 match P.underlying t with
 | some (.map k e)=>(match P.underlying k with | some (.int .i64)=>true | _=>false) && (match Z1 P e with | some (.agg xs)=>Nat.beq xs.size 0 | _=>false)
 | _=>false
def B43:Op→Bool
 | .makeMap ..=>true | .lookup ..=>true | .mapUpdate ..=>true | _=>false
def B06(P:Program)(e:Env)(H:A2)(gs:Gs):Op→Res (Value × Gs)
 | .makeMap _ none=>match gs with | none=>.ok (.map (some H.n),some (H.n,[])) (A0g H) | some _=>.stuck
 | .lookup t x k true=>match P1 e x,P1 e k,gs with
  | some (.map (some b)),some (.int .i64 n),some (b',ks)=>bif Nat.beq b b' && B4q P t then .ok (.tuple #[.agg #[],.bool (decide (n ∈ ks))],some (b',ks)) H else .stuck
  | _,_,_=>.stuck
 | .mapUpdate t x k v=>match P1 e x,P1 e k,P1 e v,gs with
  | some (.map (some b)),some (.int .i64 n),some (.agg xs),some (b',ks)=>bif Nat.beq b b' && B4q P t && Nat.beq xs.size 0 && !(decide (n ∈ ks)) then .ok (undef,some (b',n :: ks)) H else .stuck
  | _,_,_,_=>.stuck
 | _=>.stuck
def stepM(c:Cfg)(call:A8)(e:Env)(H:A2)(gs:Gs)(op:Op):Res (Value × Gs) :=
 bif B43 op then B06 c.P e H gs op else (stepOp c call e H op).bind fun v H'=>.ok (v,gs) H'
def runOpsM (c:Cfg) (call:A8) (nt:Nat) (ops:Array Oper):List Oper→Env→A2→Gs→Res (Env × Gs)
 | [],e,H,gs=>.ok (e,gs) H
 | o :: os,e,H,gs=>bif A38 nt o.dst then (match Y4 ops e o with
   | none=>(.stuck:Res (Value × Gs))
   | some b=>cond b (stepM c call e H gs o.op) (.ok (undef,gs) H)).bind fun v H'=>runOpsM c call nt ops os (U1 e o.dst v.1) H' v.2 else .stuck
def B7q(r:(D0 × Env) × Gs)(H:A2)(k:Env→A2→Gs→Res ((D0 × Env) × Gs)):Res ((D0 × Env) × Gs) :=
 match r.1.1 with
 | .normal=>k r.1.2 H r.2
 | _=>.ok r H
def execM(c:Cfg)(call:A8)(draw:Array Oper→Env→A2→Res Env)(nt:Nat)(kp:Nat→List Nat):Code→Env→A2→Gs→Res ((D0 × Env) × Gs)
 | .skip,e,H,gs=>.ok ((.normal,e),gs) H
 | .exit id,e,H,gs=>.ok ((.exit id,e),gs) H
 | .ret,e,H,gs=>.ok ((.ret,e),gs) H
 | .region id ops false,e,H,gs=>(runOpsM c call nt ops ops.toList e H gs).bind fun q H'=>.ok ((.normal,Env.keep (kp id) q.1),q.2) H'
 | .region id ops true,e,H,gs=>(exec c call draw nt kp (.region id ops true) e H).bind fun q H'=>.ok (q,gs) H'
 | .seq a b,e,H,gs=>(execM c call draw nt kp a e H gs).bind fun r H'=>B7q r H' (execM c call draw nt kp b)
 | .cond x a b,e,H,gs=>condV (P1 e x) (execM c call draw nt kp a e H gs) (execM c call draw nt kp b e H gs)
 | .block id a,e,H,gs=>(execM c call draw nt kp a e H gs).bind fun r H'=>.ok (A03 id r.1,r.2) H'
 | _,_,_,_=>.stuck
def rangeM (body:Env→A2→Gs→Res (D0 × Gs)) (ps:List Tmp) (e:Env):List (List Int)→A2→Gs→Res (D0 × Env)
 | [],H,_=>.ok (.normal,e) H
 | x :: xs,H,gs=>bif Nat.beq x.length ps.length then (body (A36 e ps x) H gs).bind fun r H'=>
   match r.1 with
   | .normal=>rangeM body ps e xs H' r.2
   | y=>.ok (y,e) H'
  else .stuck
def roundM(c:Cfg)(call:A8)(draw:A2h)(nt:Nat)(kp:Nat→List Nat)(x y:Code)(e:Env)(H:A2)(gs:Gs):Res (D0 × Gs) :=
 (execM c call draw nt kp x e H gs).bind fun r H'=>match r.1.1 with
  | .normal=>(execM c call draw nt kp y r.1.2 H' r.2).bind fun q H'=>.ok (q.1.1,q.2) H'
  | _=>.stuck
def execF (c:Cfg) (call:A8) (draw:A2h) (nt:Nat) (kp:Nat→List Nat):Code→Env→A2→Gs→Res (D0 × Env)
 | .seq a b,e,H,gs=>bif G6 a then (execM c call draw nt kp a e H gs).bind fun r H'=>(match r.1.1 with
   | .normal=>execF c call draw nt kp b r.1.2 H' r.2
   | y=>.ok (y,r.1.2) H')
  else (execF c call draw nt kp a e H gs).bind fun r H'=>A5x r H' (exec c call draw nt kp b)
 | .block id a,e,H,gs=>(execF c call draw nt kp a e H gs).bind fun r H'=>.ok (A03 id r) H'
 | .rangeFunc f ps x y,e,H,gs=>(opt ((P1 e f).bind fun v=>c.it v H) H).bind fun l H=>
  bif G6 x && G6 y && ps.toList.all (fun p=>Nat.blt p nt) then rangeM (roundM c call draw nt kp x y) ps.toList (Env.keep (kp (A0i y)) e) l H gs else .stuck
 | _,_,_,_=>.stuck
def bodyF(c:Cfg)(call:A8)(f:FuncId)(args:List Value)(H:A2):Res Value :=
 match c.P.funcs[f]? with
 | some fn=>
  match fn.body with
  | some code=>bif Nat.ble args.length fn.ntmps then (execF c call (runDraw c call fn.ntmps) fn.ntmps (c.kp f) code (Env.of 0 args) H none).bind fun r H'=>A4h c.P fn.results.toList r H' else .stuck
  | none=>.stuck
 | none=>.stuck
theorem A7.stepM(c:Cfg)(e:Env)(H:A2)(gs:Gs)(op:Op):A7 fun call=>Go.Sw.stepM c call e H gs op :=
 A7.bif _ (A7.const _) (A7.bind (A7.stepOp c e H op) fun _ _=>A7.const _)
theorem A7.runOpsM (c:Cfg) (nt:Nat) (ops:Array Oper):∀ (os:List Oper) (e:Env) (H:A2) (gs:Gs),A7 fun call=>Go.Sw.runOpsM c call nt ops os e H gs
 | [],_,_,_=>A7.const _
 | o :: os,e,H,gs=>A7.bif _ (A7.bind (by
   cases Y4 ops e o with
   | none=>exact A7.const _
   | some b=>cases b with
    | false=>exact A7.const _
    | true=>exact A7.stepM c e H gs o.op) fun v H'=>A7.runOpsM c nt ops os _ H' v.2) (A7.const _)
theorem A7.execM(c:Cfg)(nt:Nat)(kp:Nat→List Nat):∀ (code:Code) (e:Env) (H:A2) (gs:Gs),A7 fun call=>Go.Sw.execM c call (Go.Sw.runDraw c call nt) nt kp code e H gs
 | .skip,_,_,_=>A7.const _
 | .exit _,_,_,_=>A7.const _
 | .ret,_,_,_=>A7.const _
 | .region id ops d,e,H,gs=>by
  cases d with
  | false=>exact A7.bind (A7.runOpsM c nt ops _ e H gs) fun _ _=>A7.const _
  | true=>exact A7.bind (A7.exec c nt kp (.region id ops true) e H) fun _ _=>A7.const _
 | .seq a b,e,H,gs=>A7.bind (A7.execM c nt kp a e H gs) fun r H'=>by
  unfold B7q;split
  ·exact A7.execM c nt kp b r.1.2 H' r.2
  ·exact A7.const _
 | .cond x a b,e,H,gs=>A7.condV _ (A7.execM c nt kp a e H gs) (A7.execM c nt kp b e H gs)
 | .block _ a,e,H,gs=>A7.bind (A7.execM c nt kp a e H gs) fun _ _=>A7.const _
 | .label _,_,_,_=>A7.const _
 | .loop _,_,_,_=>A7.const _
 | .scope _,_,_,_=>A7.const _
 | .rangeFunc ..,_,_,_=>A7.const _
 | .goto _,_,_,_=>A7.const _
 | .refuse _,_,_,_=>A7.const _
theorem A7.rangeM {F:A8→Env→A2→Gs→Res (D0 × Gs)} (hF:∀ e H gs,A7 fun call=>F call e H gs) (ps:List Tmp) (e:Env):∀ (l:List (List Int)) (H:A2) (gs:Gs),A7 fun call=>Go.Sw.rangeM (F call) ps e l H gs
 | [],_,_=>A7.const _
 | x :: xs,H,gs=>A7.bif _ (A7.bind (hF _ H gs) fun r H'=>by
   split
   ·exact A7.rangeM hF ps e xs H' r.2
   ·exact A7.const _) (A7.const _)
theorem A7.roundM(c:Cfg)(nt:Nat)(kp:Nat→List Nat)(x y:Code)(e:Env)(H:A2)(gs:Gs):A7 fun call=>Go.Sw.roundM c call (Go.Sw.runDraw c call nt) nt kp x y e H gs :=
 A7.bind (A7.execM c nt kp x e H gs) fun r H'=>by
  split
  ·exact A7.bind (A7.execM c nt kp y r.1.2 H' r.2) fun _ _=>A7.const _
  ·exact A7.const _
theorem A7.execF (c:Cfg) (nt:Nat) (kp:Nat→List Nat):∀ (code:Code) (e:Env) (H:A2) (gs:Gs),A7 fun call=>Go.Sw.execF c call (Go.Sw.runDraw c call nt) nt kp code e H gs
 | .seq a b,e,H,gs=>A7.bif _ (A7.bind (A7.execM c nt kp a e H gs) fun r H'=>by
   split
   ·exact A7.execF c nt kp b r.1.2 H' r.2
   ·exact A7.const _) (A7.bind (A7.execF c nt kp a e H gs) fun r H'=>by
   unfold A5x;split
   ·exact A7.exec c nt kp b r.2 H'
   ·exact A7.const _)
 | .block _ a,e,H,gs=>A7.bind (A7.execF c nt kp a e H gs) fun _ _=>A7.const _
 | .rangeFunc f ps x y,e,H,gs=>A7.bind (A7.const _) fun l H'=>A7.bif _ (A7.rangeM (fun e H gs=>A7.roundM c nt kp x y e H gs) _ _ l H' gs) (A7.const _)
 | .skip,_,_,_=>A7.const _
 | .exit _,_,_,_=>A7.const _
 | .ret,_,_,_=>A7.const _
 | .region ..,_,_,_=>A7.const _
 | .cond ..,_,_,_=>A7.const _
 | .label _,_,_,_=>A7.const _
 | .loop _,_,_,_=>A7.const _
 | .scope _,_,_,_=>A7.const _
 | .goto _,_,_,_=>A7.const _
 | .refuse _,_,_,_=>A7.const _
theorem A7.bodyF(c:Cfg)(f:FuncId)(args:List Value)(H:A2):A7 fun call=>Go.Sw.bodyF c call f args H:=by
 unfold Go.Sw.bodyF;split
 ·split
  ·exact A7.bif _ (A7.bind (A7.execF c _ _ _ _ _ _) fun _ _=>A7.const _) (A7.const _)
  ·exact A7.const _
 ·exact A7.const _
end Go.Sw
end
section
namespace Go.Sw
open Go.RowKit
def lenL:Value→Option Nat
 | .slice _ n _=>some n
 | .func (.via n _ _ false) _ _=>some n
 | _=>none
theorem D71{v:Value}{n:Nat}(h:lenL v=some n):lenV v=some n:=by
 unfold lenL at h;split at h <;> first | exact h | cases h
def A0f(size bytes:Nat)(args:List Value)(H:A2):Res Value :=
 match args with
 | [a]=>match lenL a with
  | some 0=>.ok A2j H
  | some (_+1)=>apR size bytes U8 a H
  | none=>.stuck
 | _=>.stuck
def A79 (size bytes:Nat) (args:List Value) (H:A2):Res Value :=
 match args with
 | [.slice base n cap,.int .i64 i,v]=>
  match lenL v with
  | none=>.stuck
  | some 0=>if 0≤i∧i≤n then .ok (.slice base n cap) H else .stuck
  | some (_+1)=>
   if i=n then apR size bytes (.slice base n cap) v H else
   match base,v with
   | some ⟨b,off,none⟩,.slice (some ⟨c,voff,none⟩) m _=>
    match H.get b,H.get c with
    | some k,some kc=>
     if 0≤i∧i<n∧n≤cap∧n+m≤2 ^ 31∧bytes≤2 ^ 10∧k.ro=false∧k.esz=size∧off+cap*size≤k.cells.length∧c≠b∧kc.ro=false∧voff+m*size≤kc.cells.length then
      .ok (.slice (some ⟨H.n,0,none⟩) (n+m) (n+m)) ((H.set b none).push ⟨((k.cells.drop off).take (n*size)).take (i.toNat*size)++((kc.cells.drop voff).take (m*size)++((k.cells.drop off).take (n*size)).drop (i.toNat*size)),size,false⟩)
     else .stuck
    | _,_=>.stuck
   | _,_=>.stuck
 | _=>.stuck
def A9e(f l:Int)(vals:List Value):Option (List (List Int)) :=
 if 0≤f∧l<4294967296∧vals.length<1152921504606846976 then (List.range (l - f+1).toNat).mapM fun i=>match vals[min i (vals.length - 1)]? with | some (.int .i64 x)=>some [f+(i:Nat),x] | _=>none
 else none
def A1d:Nat→List Value→Option (List (List Int))
 | 0,[]=>some []
 | n+1,.int .i64 f :: .int .i64 l :: .func (.via m _ _ false) vs _ :: r=>bif Nat.beq m vs.size then (A9e f l vs.toList).bind fun a=>(A1d n r).map (a ++ ·) else none
 | _,_=>none
def B6t (g:Nat) (v:Value) (H:A2):Option (List (List Int)) :=
 match v with
 | .func (.func f) xs ys=>bif Nat.beq f g && Nat.beq xs.size 0 then (match ys.toList with
  | [.pointer (some ⟨b,0,none⟩)]=>match H.get b with
   | some ⟨[.func (.via _ _ _ true) ts _],_,_⟩=>match ts.toList with
    | [_,.func (.via n _ _ false) ps _]=>if n<1152921504606846976 then A1d n ps.toList else none
    | _=>none
   | _=>none
  | _=>none) else none
 | _=>none
def A3j(P:Program)(t:TypeId)(size bytes:Nat)(a:Value)(H:A2):Res Value :=
 (A5 P .eql t a (.slice none 0 0) H).bind fun v1 h2=>
 condV (some v1) (.ok (.slice none 0 0) h2) ((Res.ok U8 h2).bind fun v3 h4=>(apR size bytes v3 a h4).bind fun v5 h6=>.ok v5 h6)
theorem A75 {c:Cfg} (hit:∀ v H,c.it v H=none) {call:A8} (hN:Y2 c.P) (hmix:c.P.follows .mixedOrders=true) (hc:N7 c.P call) {f:FuncId} {args:List Value} {H:A2} {r:Res Value} (hr:bodyK c call f args H=r) (hne:r≠.stuck) :
  (∃ fn,c.P.funcs[f]?=some fn∧fn.body.isSome=true∧(fn.name == "runtime.NumGoroutine")=false) ∧
  ∀ w0 μ w args',HR w0 μ H w→VRs μ args args'→Calls c.P f args'.toArray w fun e w'=>Z3 w0 μ r e w':=by
 rw[← hr] at hne ⊢;unfold bodyK at hne ⊢;cases hf:c.P.funcs[f]? with
 | none=>rw[hf] at hne; exact absurd rfl hne
 | some fn=>
  rw[hf] at hne;dsimp only at hne ⊢;cases hb:fn.body with
  | none=>rw[hb] at hne; exact absurd rfl hne
  | some code=>
   rw[hb] at hne;dsimp only at hne ⊢;cases hl:Nat.ble args.length fn.ntmps with
   | false=>rw[hl] at hne; exact absurd rfl hne
   | true=>
    rw[hl] at hne;simp only[cond_true,Y7,A80] at hne ⊢;have:=A9j (draw:=fun nt=>runDraw c call nt) hN hmix hit hc (fun nt=>A77 hc nt) hf hb (Nat.le_of_ble_eq_true hl) hne;rw[hf] at this;exact this
theorem B10 {c:Cfg} (hit:∀ v H,c.it v H=none:=by intro _ _; rfl) (hN:Y2 c.P) (hmix:c.P.follows .mixedOrders=true) {f:FuncId} {t e:TypeId} {size bytes:Nat} (hu:c.P.underlying t=some (.slice e)) (hform:∀ call a H,bodyK c call f [a] H=A3j c.P t size bytes a H) :
  A68 c.P f fun _ args H=>A0f size bytes args H:=by
 intro call hc args H hne
 -- its text, of a value that is nil or isn't
 have heq:∀ (x:Value) (b:Bool),eqV c.P L3 t x (.slice none 0 0)=some b→(∀ o,A0n c.P .eql t x (.slice none 0 0)=o→o=(eqV c.P L3 t x (.slice none 0 0)).map .bool)→A3j c.P t size bytes x H=(if b then .ok (.slice none 0 0) H else (apR size bytes U8 x H).bind fun v5 h6=>.ok v5 h6):=by
  intro x b hx hb;unfold A3j A5;rw[hb _ rfl,hx];cases b <;> rfl
 have hbind:∀ r:Res Value,(r.bind fun v5 h6=>.ok v5 h6)=r:=fun r=>by cases r <;> rfl
 have hlist:∀ n p g cs ys,A0n c.P .eql t (.func (.via n p g false) cs ys) (.slice none 0 0)=(eqV c.P L3 t (.func (.via n p g false) cs ys) (.slice none 0 0)).map .bool:=fun _ _ _ _ _=>rfl;have hsl:∀ a l k,A0n c.P .eql t (.slice a l k) (.slice none 0 0)=(eqV c.P L3 t (.slice a l k) (.slice none 0 0)).map .bool:=fun _ _ _=>rfl;have e1:∀ n p g cs ys,eqV c.P L3 t (.func (.via (n+1) p g false) cs ys) (.slice none 0 0)=some false:=fun n p g cs ys=>by
  unfold L3 eqV; rw[hu]
 have e2:∀ p cs ys,eqV c.P L3 t (.func (.via 0 p 1 false) cs ys) (.slice none 0 0)=some false:=fun p cs ys=>by
  unfold L3 eqV; rw[hu]; rfl
 have e3:∀ p cs ys,eqV c.P L3 t (.func (.via 0 p 2 false) cs ys) (.slice none 0 0)=some true:=fun p cs ys=>by
  unfold L3 eqV; rw[hu]; rfl
 have e4:∀ b off l k,eqV c.P L3 t (.slice (some ⟨b,off,none⟩) l k) (.slice none 0 0)=some false:=fun b off l k=>by
  unfold L3 eqV; rw[hu]; rfl
 have ap0:∀ x,lenV x=some 0→apR size bytes U8 x H=.ok U8 H:=fun x hx=>by
  unfold apR U8 A10;dsimp only;rw[hx];rfl
 have hnil:A3j c.P t size bytes (A5o true) H=.ok (.slice none 0 0) H:=by
  rw[heq (A5o true) true (e3 _ _ _) (fun o ho=>by rw[← ho]; exact hlist _ _ _ _ _)]; rfl
 have hnone:A3j c.P t size bytes (A5o false) H=.ok U8 H:=by
  rw[heq (A5o false) false (e2 _ _ _) (fun o ho=>by rw[← ho]; exact hlist _ _ _ _ _)];simp only[Bool.false_eq_true,if_false,hbind];exact ap0 _ rfl
 have hex:∃ fn,c.P.funcs[f]?=some fn∧fn.body.isSome=true∧(fn.name == "runtime.NumGoroutine")=false :=
  (A75 hit hN hmix hc (hform call (A5o true) H) (by rw[hnil]; simp)).1
 refine⟨hex,fun w0 μ w args' hH hargs=>?_⟩;dsimp only at hne ⊢;unfold A0f at hne ⊢;split at hne;rotate_left
 ·exact absurd rfl hne
 rename_i a;obtain⟨a',r',rfl,ha,hr⟩:=hargs.cons_inv;have:=hr.nil_inv;subst this;split at hne
 ·
  rename_i hl;have hshape:∃ x k,a'=.slice x 0 k∧(x=none→k=0):=by
   unfold lenL at hl;split at hl
   ·injection hl with hl; subst hl;cases ha with
    | nilSlice=>exact⟨_,_,rfl,fun _=>rfl⟩
    | slice=>exact⟨_,_,rfl,fun h=>by cases h⟩
    | bare x=>exact⟨_,_,rfl,fun h=>by cases h⟩
    | unsure x=>exact⟨_,_,rfl,fun _=>rfl⟩
   ·injection hl with hl; subst hl;cases ha with
    | list=>exact⟨_,_,rfl,fun h=>by cases h⟩
    | empty _ _ _ _ x k hn hs=>exact⟨_,_,rfl,fun h=>(hn h).1⟩
   ·cases hl
  obtain⟨x,k,rfl,hk⟩:=hshape;cases x with
  | none=>
   have hk:=hk rfl;subst hk;have hv:VR μ (A5o true) (.slice none 0 0):=.empty _ _ _ _ _ _ (fun _=>⟨rfl,by decide⟩) fun _=>rfl;refine ((A75 hit hN hmix hc (hform call (A5o true) H) (by rw[hnil]; simp)).2 w0 μ w _ hH (VRs.cons hv VRs.nil)).mono fun e w' he=>?_;rw[hnil] at he;obtain⟨μ',v',h1,h2,h3,rfl⟩:=he;cases h3;exact⟨μ',_,h1,h2,.unsure _,rfl⟩
  | some q=>
   have hv:VR μ (A5o false) (.slice (some q) 0 k):=.empty _ _ _ _ _ _ (fun h=>by cases h) fun h=>by cases h
   refine ((A75 hit hN hmix hc (hform call (A5o false) H) (by rw[hnone]; simp)).2 w0 μ w _ hH (VRs.cons hv VRs.nil)).mono fun e w' he=>?_;rw[hnone] at he;obtain⟨μ',v',h1,h2,h3,rfl⟩:=he;cases h3;exact⟨μ',_,h1,h2,.unsure _,rfl⟩
 ·rename_i n hl;have hform2:A3j c.P t size bytes a H=apR size bytes U8 a H:=by
   unfold lenL at hl;split at hl
   ·injection hl with hl; subst hl;cases ha with
    | slice=>rw[heq _ false (e4 _ _ _ _) (fun o ho=>by rw[← ho]; exact hsl _ _ _)]; simp[hbind]
   ·injection hl with hl; subst hl;rw[heq _ false (e1 _ _ _ _ _) (fun o ho=>by rw[← ho]; exact hlist _ _ _ _ _)]; simp[hbind]
   ·cases hl
  have hb:=A75 hit hN hmix hc (hform call a H) (by rw[hform2]; exact hne);rw[hform2] at hb;exact hb.2 w0 μ w _ hH (VRs.cons ha VRs.nil)
 ·exact absurd rfl hne
end Go.Sw
end
