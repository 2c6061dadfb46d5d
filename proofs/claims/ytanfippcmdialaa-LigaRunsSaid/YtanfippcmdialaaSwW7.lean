/-
  Functions' forms, and what is proved of them, part 7.
-/
import Derived.Test.YtanfippcmdialaaSwW6
import Derived.Test.YtanfippcmdialaaSwW5
import Derived.Test.YtanfippcmdialaaSwCfg
set_option linter.unusedSimpArgs false
set_option linter.unusedVariables false
set_option linter.unusedSectionVars false
section
namespace Go.Sw
open Go.RowKit
theorem ζmv (r:RP):∀ a:List RP,goodR (a ++ [r]) = (goodR a && decide (r.first ≤ r.last) && match a.getLast? with | some q => decide (q.last < r.first) | none => true)
 | [] => by simp [goodR]
 | [x] => by
  simp only [List.singleton_append,goodR,List.getLast?_singleton];cases decide (x.first ≤ x.last) <;> cases decide (x.last < r.first) <;> cases decide (r.first ≤ r.last) <;> rfl
 | x :: y :: t => by
  have ih:=ζmv r (y :: t);simp only [List.cons_append] at ih ⊢;simp only [goodR,ih,List.getLast?_cons_cons];simp only [Bool.and_assoc]
abbrev tabRV (b:List Int) (rs:List RP):Value:=.agg #[lv encB b,lv encRP rs]
def tabRO (b:List Int) (o:Option (List RP)):Value:=match o with | some rs => tabRV b rs | none => tabRV [] []
theorem Flat.tabRV (b:List Int) (rs:List RP):Flat (tabRV b rs):=.aggL (.cons (Flat.B _) (.cons (Flat.RPs _) .nil))
theorem ζro (b:List Int) (o:Option (List RP)):Flat (tabRO b o):=by
 unfold tabRO;split
 ·exact Flat.tabRV _ _
 ·exact Flat.tabRV _ _
theorem ζrb (k:Nat) (b:List Int) (hb:Byt b) (g z:Int) (hg:1 ≤ g ∧ g ≤ 65535) (hz:z = 2 ∨ z = 4) (hl:b.length < 2 ^ 31) (H:Heap) :
  R (T k) F.ζx [lv encB b,.int .i64 g,.int .i64 z] H = .ok (.tuple #[tabRO b (refReadS b g z),.bool (refReadS b g z).isSome]) H:=by
 have hx0:Ext H (H.push ⟨[.slice none 0 0,.slice none 0 0],1,false⟩):=(Ext.refl H).push _;obtain ⟨v,e,hp⟩:=ζq2 k b hb g z hg hz hl (H.push ⟨[.slice none 0 0,.slice none 0 0],1,false⟩);obtain ⟨l,ok,rfl,ho,hll⟩:=hp.val;rw [ζid]
 obtain ⟨x,e',H1,hr,rfl,rfl,rfl⟩:=loop_up (body:=ζ63 k (R (T k))) l.length
  (fun j e H' => H' = H.push ⟨[.slice none 0 0,.slice none 0 0],1,false⟩ ∧ e = [(0,lv encB b),(6,.pointer (some ⟨H.n,0,none⟩)),(8,lv encRP l),(9,.bool (ok && goodR (l.take j))),(10,.int .i64 j)])
  (fun x e H' => H' = H.push ⟨[.slice none 0 0,.slice none 0 0],1,false⟩ ∧ x = .exit 0 ∧ e = [(0,lv encB b),(6,.pointer (some ⟨H.n,0,none⟩)),(8,lv encRP l),(9,.bool (ok && goodR l)),(10,.int .i64 l.length),(21,.bool false)])
  (e0:=[(0,lv encB b),(6,.pointer (some ⟨H.n,0,none⟩)),(8,lv encRP l),(9,.bool ok),(10,.int .i64 0)]) (H0:=H.push ⟨[.slice none 0 0,.slice none 0 0],1,false⟩) ⟨rfl,by simp [goodR]⟩ (by omega)
  (fun j e H' hj ⟨hH,he⟩ => by
   subst he hH;have hlt:(j:Int) < l.length:=by omega
   obtain ⟨r,hr⟩:∃ r,l[j]? = some r:=⟨_,List.getElem?_eq_getElem hj⟩
   have i1:=fun H' => ixS_lvN ζ7l l .i64 j r hr H';refine .inl ⟨_,_,?_,rfl,rfl⟩;rw [ζ7j,ζ1v hr,ζmv];by_cases h1:r.last < r.first
   ·have h1':¬ r.first ≤ r.last:=by omega
    simp -implicitDefEqProofs (disch:=omega) [hlt,i1,h1,h1',ζ7h]
   ·have h1':r.first ≤ r.last:=by omega
    cases j with
    | zero =>
     simp -implicitDefEqProofs (disch:=omega) at i1 hlt;simp -implicitDefEqProofs (disch:=omega) [hlt,i1,h1,h1',ζ7i,goodR]
    | succ j =>
     obtain ⟨q,hq⟩:∃ q,l[j]? = some q:=⟨_,List.getElem?_eq_getElem (by omega)⟩
     have i2:=fun H' => ixS_lvN ζ7l l .i64 j q hq H';have hlast:(l.take (j + 1)).getLast? = some q:=by rw [ζ1v hq]; simp
     rw [hlast];have hj0:(0:Int) < (j:Int) + 1:=by omega
     simp -implicitDefEqProofs (disch:=omega) at i1 hlt;by_cases h2:r.first ≤ q.last
     ·have h2':¬ q.last < r.first:=by omega
      simp -implicitDefEqProofs (disch:=omega) [hlt,i1,i2,h1,h1',h2,h2',hj0,ζ7h]
     ·have h2':q.last < r.first:=by omega
      simp -implicitDefEqProofs (disch:=omega) [hlt,i1,i2,h1,h1',h2,h2',hj0,ζ7i])
  (fun e H' ⟨hH,he⟩ => by
   subst he hH;refine ⟨.exit 0,_,_,?_,by simp,rfl,rfl,rfl⟩;rw [ζ7j,List.take_length];simp -implicitDefEqProofs)
 have hread:refReadS b g z = if (ok && goodR l) = true then some l else none:=by
  unfold refReadS;rw [ho];cases ok <;> simp
 rw [hread];cases hgood:(ok && goodR l) with
 | false =>
  rw [hgood] at hr;refine nrm_fz (v:=.tuple #[.agg #[.slice none 0 0,.slice none 0 0],.bool false]) (L:=[]) (H':=H.push ⟨[.slice none 0 0,.slice none 0 0],1,false⟩) ?_ rfl hx0 (Flat.tupleL (.cons (ζro b none) (.cons (.bool _) .nil))).alive;simp -implicitDefEqProofs [ζx,e,hr,ζ6r]
 | true =>
  rw [hgood] at hr;refine nrm_fz (v:=.tuple #[tabRV b l,.bool true]) (L:=[]) (H':=H.push ⟨[lv encB b,lv encRP l],1,false⟩) ?_ rfl ((Ext.refl H).push _) (Flat.tupleL (.cons (Flat.tabRV b l) (.cons (.bool _) .nil))).alive;simp -implicitDefEqProofs [ζx,e,hr,ζ6r]
def RP.ok (r:RP):Prop:=-1 ≤ r.first ∧ r.first ≤ 65536 ∧ -1 ≤ r.last ∧ r.last ≤ 65536 ∧ -1 ≤ r.pos ∧ r.pos < 2 ^ 35 ∧ 0 ≤ r.step ∧ r.step ≤ 4 ∧ 0 ≤ r.size ∧ r.size ≤ 4
theorem ζnb {b:List Int} (hb:Byt b) {i need:Int} {keys:Nat} {rows:List (List Int)} (h:takeS b i need keys = some rows) (hi:0 ≤ i ∧ i ≤ 65536):∀ p,p ∈ posS i (gU b i 2) rows.length → 0 ≤ p ∧ p < 2 ^ 34:=by
 obtain ⟨s,n,h1,h2,h3,h4,h5,h6⟩:=ζh8 h;have hs:=uS_two hb h1;have hn:=uS_two hb h2;rw [gU_some h1];intro p hp;obtain ⟨j,hj⟩:=List.getElem?_of_mem hp;have hjl:=(List.getElem?_eq_some_iff.1 hj).1;rw [posS_len] at hjl;rw [posS_get _ _ _ _ hjl] at hj;injection hj with hj;have h7:=Int.mul_nonneg hs.1 (show (0:Int) ≤ (j:Int) by omega);have h8:s * (j:Int) ≤ 65536 * 65536:=Int.mul_le_mul (by omega) (by omega) (by omega) (by omega);omega
theorem ζne {b:List Int} (hb:Byt b) {i z:Int} (hi:0 ≤ i ∧ i ≤ 4) (hz:z = 1 ∨ z = 2 ∨ z = 4) {rs:List RP} (h:refTrimS b i z = some rs):∀ r,r ∈ rs → r.ok:=by
 unfold refTrimS at h;obtain ⟨f,hf,h⟩:=Option.bind_eq_some_iff.1 h;obtain ⟨n,hn,h⟩:=Option.bind_eq_some_iff.1 h;have hf:=uS_two hb hf;have hn:=uS_two hb hn;split at h
 ·rename_i hc;injection h with h;subst h;intro r hr;split at hr
  ·cases hr
  ·rw [List.mem_singleton] at hr;subst hr;refine ⟨?_,?_,?_,?_,?_,?_,?_,?_,?_,?_⟩ <;> dsimp only <;> omega
 ·cases h
theorem ζq5 {b:List Int} (hb:Byt b) {g z fmt:Int} (hg:1 ≤ g ∧ g ≤ 65535) (hz:z = 2 ∨ z = 4) {rs:List RP} (h:refPartsS b g z fmt = some rs):∀ r,r ∈ rs → r.ok:=by
 have seg:∀ each rs,refSegS b z each = some rs → ∀ r,r ∈ rs → r.ok:=fun each rs h => by
  unfold refSegS at h;obtain ⟨rows,h1,h2⟩:=Option.bind_eq_some_iff.1 h;refine mapO_all h2 fun p r hp hr => ?_;have hpb:=ζnb hb h1 (by omega) p hp;have g0:=gU_two hb p;have g2:=gU_two hb (p + 2);have g4:=gU_two hb (p + 4);unfold segR at hr;split at hr
  ·split at hr
   ·injection hr with hr;subst hr;refine ⟨?_,?_,?_,?_,?_,?_,?_,?_,?_,?_⟩ <;> dsimp only <;> omega
   ·cases hr
  ·injection hr with hr;subst hr;refine ⟨?_,?_,?_,?_,?_,?_,?_,?_,?_,?_⟩ <;> dsimp only <;> omega
 unfold refPartsS at h;split at h
 ·split at h
  ·injection h with h;subst h;intro r hr;rw [List.mem_singleton] at hr;subst hr;refine ⟨?_,?_,?_,?_,?_,?_,?_,?_,?_,?_⟩ <;> dsimp only <;> omega
  ·cases h
 split at h
 ·exact seg _ _ h
 split at h
 ·exact seg _ _ h
 split at h
 ·unfold refOneS at h;obtain ⟨rows,h1,rfl⟩:=Option.map_eq_some_iff.1 h;intro r hr;obtain ⟨p,hp,rfl⟩:=List.mem_map.1 hr;have hpb:=ζnb hb h1 (by omega) p hp;have g0:=gU_two hb p;unfold oneR;refine ⟨?_,?_,?_,?_,?_,?_,?_,?_,?_,?_⟩ <;> dsimp only <;> omega
 split at h
 ·exact ζne hb (by omega) (by omega) h
 split at h
 ·obtain ⟨u,_,h⟩:=Option.bind_eq_some_iff.1 h;split at h
  ·rename_i hu;exact ζne hb (by omega) hu h
  ·cases h
 ·cases h
theorem ζrd {b:List Int} (hb:Byt b) {g z:Int} (hg:1 ≤ g ∧ g ≤ 65535) (hz:z = 2 ∨ z = 4) {rs:List RP} (h:refReadS b g z = some rs):∀ r,r ∈ rs → r.ok:=by
 unfold refReadS at h;obtain ⟨qs,h1,h⟩:=Option.bind_eq_some_iff.1 h;split at h
 ·injection h with h;subst h;exact ζq5 hb hg hz h1
 ·cases h
theorem ζq6 {b:List Int} {g z:Int} {rs:List RP} (hb:Byt b) (hg:1 ≤ g ∧ g ≤ 65535) (hz:z = 2 ∨ z = 4) {x:Int × List Pt} (hx:lookS b g z = some x) (h:refReadS b g z = some rs):rs.length < 2 ^ 31:=by
 obtain ⟨rs',h1,h2⟩:=(look_ref hb hg.1 hg.2 hz).1 x hx;rw [h] at h1;injection h1 with h1;subst h1;have:∀ (ps:List Pt) (rs:List RP),Rel b ps rs → rs.length = ps.length:=by
  intro ps
  induction ps with
  | nil => intro rs h; cases rs with | nil => rfl | cons _ _ => cases h
  | cons p ps ih => intro rs h; cases rs with | nil => cases h | cons r rs => simp [ih rs h.2]
 rw [this _ _ h2];exact ζos hb hx
theorem ζsk (k:Nat) (b:List Int) (hb:Byt b) (rs:List RP) (hok:∀ r,r ∈ rs → r.ok) (hrl:rs.length < 2 ^ 31) (hl:b.length < 2 ^ 31) (id:Int) (H:Heap) :
  R (T k) F.ζ28 [tabRV b rs,.int .i64 id] H = .ok (.tuple #[.int .i64 ((refGetS b rs id).getD 0),.bool (refGetS b rs id).isSome]) H:=by
 rw [ζkb];obtain ⟨B,hB⟩:∃ B:Blk,B = ⟨[lv encB b,lv encRP rs],1,false⟩:=⟨_,rfl⟩
 have hx0:Ext H (H.push B):=(Ext.refl H).push _
 obtain ⟨x,e',H1,hr,hx,hq⟩:=loop_up (body:=ζ74 k (R (T k))) rs.length
  (fun j e H' => e = [(1,.int .i64 id),(2,.pointer (some ⟨H.n,0,none⟩)),(6,.int .i64 j)] ∧ Ext (H.push B) H' ∧ refGetS b rs id = refGetS b (rs.drop j) id)
  (fun x e H' => Ext H H' ∧ ((x = .ret ∧ ∃ n,e = [(4,.int .i64 n),(5,.bool true)] ∧ refGetS b rs id = some n) ∨ (x = .exit 0 ∧ (∃ a c,e = [(1,.int .i64 id),(2,.pointer (some ⟨H.n,0,none⟩)),(6,a),(12,c)]) ∧ refGetS b rs id = none)))
  (e0:=[(1,.int .i64 id),(2,.pointer (some ⟨H.n,0,none⟩)),(6,.int .i64 0)]) (H0:=H.push B) ⟨rfl,Ext.refl _,rfl⟩ (by omega)
  (fun j e H' hj ⟨he,hx,hg⟩ => by
   subst he;have hlt:(j:Int) < rs.length:=by omega
   obtain ⟨r,hr⟩:∃ r,rs[j]? = some r:=⟨_,List.getElem?_eq_getElem hj⟩
   have hrok:=hok r (List.mem_of_getElem? hr);obtain ⟨o1,o2,o3,o4,o5,o6,o7,o8,o9,o10⟩:=hrok;have i1:=fun H' => ixS_lvN ζ7l rs .i64 j r hr H';have hget:H'.get H.n = some ⟨[lv encB b,lv encRP rs],1,false⟩:=hx.get (by rw [ζe _ _ _ rfl,hB]);have hne:¬ H.n = H'.n:=by have:=Heap.get_lt hget; omega
   have hx2:Ext H' (H'.push ⟨encRP r,1,false⟩):=(Ext.refl H').push _;have hdrop:rs.drop j = r :: rs.drop (j + 1):=by
    obtain ⟨h1,h2⟩:=List.getElem?_eq_some_iff.1 hr;rw [List.drop_eq_getElem_cons h1,h2]
   rw [hdrop] at hg;unfold refGetS at hg;rw [List.find?_cons] at hg;by_cases h1:r.first ≤ id
   ·by_cases h2:id ≤ r.last
    ·rw [decide_eq_true (show r.first ≤ id ∧ id ≤ r.last from ⟨h1,h2⟩)] at hg;dsimp only at hg;have hm0:0 ≤ (id - r.first) * r.step:=Int.mul_nonneg (by omega) o7;have hm1:(id - r.first) * r.step ≤ 65540 * 4:=Int.mul_le_mul (by omega) (by omega) (by omega) (by omega);have hu:=fun H' => refU_run k (H:=H') (Sl.lv H' 1 b) hb (r.pos + (id - r.first) * r.step) r.size (by omega) (by omega);refine .inr ⟨.ret,_,H'.push ⟨encRP r,1,false⟩,?_,by simp,hx0.trans (hx.trans hx2),.inl ⟨rfl,gU b (r.pos + (id - r.first) * r.step) r.size,rfl,hg⟩⟩;rw [ζ3k];unfold gU;simp -implicitDefEqProofs (disch:=omega) [hlt,i1,hget,hne,h1,h2,hu]
    ·rw [decide_eq_false (fun h => h2 h.2)] at hg;refine .inl ⟨_,H'.push ⟨encRP r,1,false⟩,?_,rfl,hx.trans hx2,hg⟩;rw [ζ3k];simp -implicitDefEqProofs (disch:=omega) [hlt,i1,hget,hne,h1,h2]
   ·rw [decide_eq_false (fun h => h1 h.1)] at hg;refine .inl ⟨_,H'.push ⟨encRP r,1,false⟩,?_,rfl,hx.trans hx2,hg⟩;rw [ζ3k];simp -implicitDefEqProofs (disch:=omega) [hlt,i1,hget,hne,h1])
  (fun e H' ⟨he,hx,hg⟩ => by
   subst he;have hget:H'.get H.n = some ⟨[lv encB b,lv encRP rs],1,false⟩:=hx.get (by rw [ζe _ _ _ rfl,hB]);refine ⟨.exit 0,_,H',?_,by simp,hx0.trans hx,.inr ⟨rfl,⟨.int .i64 rs.length,.bool false,rfl⟩,by rw [hg,List.drop_length]; rfl⟩⟩;rw [ζ3k];simp -implicitDefEqProofs [hget])
 rw [hB] at hr;rcases hq with ⟨rfl,n,rfl,hg⟩ | ⟨rfl,⟨a,c,rfl⟩,hg⟩
 ·rw [hg];refine nrm_gc ⟨H1,?_,hx⟩ (Flat.tupleL (.cons (.int _ _) (.cons (.bool _) .nil))).alive;simp -implicitDefEqProofs [ζ28,hr,ζgc]
 ·rw [hg];refine nrm_gc ⟨H1,?_,hx⟩ (Flat.tupleL (.cons (.int _ _) (.cons (.bool _) .nil))).alive;simp -implicitDefEqProofs [ζ28,hr,ζf4]
end Go.Sw
end
section
namespace Go.Sw
open Go.RowKit
theorem ζ30 {b rv:List Int} {j:Int}:restS b j = some rv ↔ (0 ≤ j ∧ j ≤ b.length) ∧ rv = b.drop j.toNat:=by
 unfold restS;split
 ·rename_i h;exact ⟨fun e => by injection e with e; exact ⟨h,e.symm⟩,fun e => by rw [e.2]⟩
 ·rename_i h;exact ⟨fun e => (by cases e),fun e => absurd e.1 h⟩
theorem ζak {b rv:List Int} {j:Int} (h:restS b j = some rv):(rv.length:Int) = b.length - j:=by
 obtain ⟨h1,rfl⟩:=ζ30.1 h;simp;omega
theorem uS_rest {b rv:List Int} {j:Int} (h:restS b j = some rv) {x:Int} (hx:0 ≤ x) (z:Int):uS rv x z = uS b (j + x) z:=by
 have hl:=ζak h;obtain ⟨h1,rfl⟩:=ζ30.1 h;unfold uS pieceS;by_cases hc:0 ≤ z ∧ x ≤ b.length - j ∧ z ≤ b.length - j - x
 ·rw [if_pos (by omega),if_pos (by omega),List.drop_drop,show j.toNat + x.toNat = (j + x).toNat by omega]
 ·rw [if_neg (by omega),if_neg (by omega)]
def needsS (b:List Int) (i step:Int) (n:Nat):Int:=needL ((List.range n).map fun j => gU b (i + (j:Nat) * step) 2)
theorem rowK_iff {rv:List Int} {n:Int} (hn:0 < n) {k:Nat}:(rowK rv n k).isSome = true ↔ 2 * n * (k + 1) ≤ rv.length:=by
 unfold rowK;rw [ζaf (by omega),ζet (by omega)];have h0:0 ≤ 2 * n * (k:Int):=Int.mul_nonneg (by omega) (by omega);have h1:2 * n * ((k:Int) + 1) = 2 * n * k + 2 * n:=by rw [Int.mul_add]; omega
 constructor
 ·rintro ⟨_,_,_,h⟩; omega
 ·intro h; exact ⟨h0,by omega,by omega,by omega⟩
theorem row_at {b rv:List Int} {j:Int} (h:restS b j = some rv) {n:Int} {k:Nat} {r:List Int} (hn:0 < n) (hr:rowK rv n k = some r):r = (List.range n.toNat).map fun i => gU b (j + (n * k + (i:Nat)) * 2) 2:=by
 have hs:=(rowK_iff (rv:=rv) (k:=k) hn).1 (by rw [hr]; rfl);have hr':=hr;unfold rowK listS at hr';obtain ⟨q,hq,hqr⟩:=Option.map_eq_some_iff.1 hr';have hlen:r.length = n.toNat:=by rw [← hqr]; simp
 have hk0:0 ≤ n * (k:Int):=Int.mul_nonneg (by omega) (by omega);apply List.ext_getElem?;intro i;by_cases hi:i < n.toNat
 ·rw [ζor (by omega) hr i (by omega),List.getElem?_map,List.getElem?_range hi,uS_rest h (by rw [Int.mul_assoc]; omega)];have e:j + (2 * n * (k:Int) + (i:Int) * 2) = j + (n * k + (i:Nat)) * 2:=by rw [Int.mul_assoc,Int.add_mul]; omega
  rw [e];have hlen:=ζak h;have hj:=(ζ30.1 h).1;have h1:2 * n * ((k:Int) + 1) = 2 * (n * k) + 2 * n:=by rw [Int.mul_add,Int.mul_assoc]; omega
  obtain ⟨x,hx⟩:∃ x,uS b (j + (n * k + (i:Nat)) * 2) 2 = some x:=uS_of_in (by unfold inS; exact decide_eq_true (by rw [Int.add_mul]; omega));rw [hx,Option.map_some,gU_some hx]
 ·rw [List.getElem?_eq_none (by omega),List.getElem?_eq_none (by simp; omega)]
theorem ζk0 {b rv:List Int} {j:Int} (h:restS b j = some rv) {n:Int} (hn:0 < n):∀ {s:Nat} {rs:List (List Int)},rowsTo rv n s = some rs → rs.flatten = (List.range (s * n.toNat)).map fun (i:Nat) => gU b (j + (i:Int) * 2) 2
 | 0,rs,hr => by injection hr with hr; subst hr; simp
 | s + 1,rs,hr => by
  unfold rowsTo at hr;rw [ζ9j] at hr;obtain ⟨rs',h1,hr⟩:=Option.bind_eq_some_iff.1 hr;obtain ⟨r,h2,rfl⟩:=Option.map_eq_some_iff.1 hr;rw [List.flatten_append,ζk0 h hn h1,Nat.succ_mul,List.range_add,List.map_append];congr 1;simp only [List.flatten_cons,List.flatten_nil,List.append_nil,row_at h hn h2,List.map_map];apply List.map_congr_left;intro i _;simp only [Function.comp];congr 2;have:((s * n.toNat + i:Nat):Int) = n * s + i:=by
   obtain ⟨m,rfl⟩:=Int.eq_ofNat_of_zero_le (Int.le_of_lt hn);simp [Int.mul_comm]
  rw [this]
theorem ζrh {b rv:List Int} {j:Int} (h:restS b j = some rv) {n:Int} (hn:0 < n) {s:Nat} {rs:List (List Int)} (hr:rowsTo rv n s = some rs):needsS b j 2 (s * n.toNat) = needR rs:=by
 unfold needsS needR;rw [ζk0 h hn hr]
theorem ζri {b rv:List Int} {j:Int} (h:restS b j = some rv) {n:Int} (hn:0 < n) {s:Nat} (hs:0 < s):(rowsTo rv n s).isSome = rowsB b.length j s (2 * n):=by
 have hl:=ζak h;have hj:=(ζ30.1 h).1;rw [Bool.eq_iff_iff,ζet (by omega)];have e:(s:Int) * (2 * n) = 2 * n * s:=Int.mul_comm _ _;constructor
 ·intro hsome;obtain ⟨rs,hrs⟩:=Option.isSome_iff_exists.1 hsome;obtain ⟨y,hy,_⟩:=mapO_at hrs (i:=s - 1) (by omega);have:=(rowK_iff (rv:=rv) (k:=s - 1) hn).1 (by rw [hy]; rfl);rw [show (((s - 1:Nat):Int) + 1) = s by omega] at this;exact ⟨hj.1,by omega,hj.2,by omega⟩
 ·rintro ⟨_,_,_,h4⟩;obtain ⟨r,hr⟩:=ζbj (f:=rowK rv n) (n:=s) fun i hi => by
   rw [rowK_iff hn];have:2 * n * ((i:Int) + 1) ≤ 2 * n * s:=Int.mul_le_mul_of_nonneg_left (by omega) (by omega);omega
  exact Option.isSome_iff_exists.2 ⟨r,hr⟩
theorem entK_iff {ev:List Int} {w:Int} (hw:0 ≤ w) {k:Nat}:(entK ev w k).isSome = true ↔ (4 + 2 * w) * (k + 1) ≤ ev.length:=by
 unfold entK;rw [Option.isSome_map,ζir];unfold inS;rw [decide_eq_true_eq];have h0:0 ≤ (4 + 2 * w) * (k:Int):=Int.mul_nonneg (by omega) (by omega);have h1:(4 + 2 * w) * ((k:Int) + 1) = (4 + 2 * w) * k + (4 + 2 * w):=by rw [Int.mul_add]; omega
 omega
theorem ζqu {b ev:List Int} {q:Int} (h:restS b q = some ev) {w:Int} (hw:0 ≤ w) (s:Nat):(entsTo ev w s).isSome = rowsB b.length q s (4 + 2 * w):=by
 have hl:=ζak h;have hj:=(ζ30.1 h).1;rw [Bool.eq_iff_iff,ζet (by omega)];have e:(s:Int) * (4 + 2 * w) = (4 + 2 * w) * s:=Int.mul_comm _ _;constructor
 ·intro hsome;obtain ⟨rs,hrs⟩:=Option.isSome_iff_exists.1 hsome;refine ⟨hj.1,by omega,hj.2,?_⟩;by_cases h0:s = 0
  ·subst h0; simp; omega
  ·obtain ⟨y,hy,_⟩:=mapO_at hrs (i:=s - 1) (by omega);have:=(entK_iff (ev:=ev) (k:=s - 1) hw).1 (by rw [hy]; rfl);rw [show (((s - 1:Nat):Int) + 1) = s by omega] at this;omega
 ·rintro ⟨_,_,_,h4⟩;obtain ⟨r,hr⟩:=ζbj (f:=entK ev w) (n:=s) fun i hi => by
   rw [entK_iff hw];have:(4 + 2 * w) * ((i:Int) + 1) ≤ (4 + 2 * w) * s:=Int.mul_le_mul_of_nonneg_left (by omega) (by omega);omega
  exact Option.isSome_iff_exists.2 ⟨r,hr⟩
theorem ent_at {b ev:List Int} {q:Int} (h:restS b q = some ev) {w:Int} (hw:0 ≤ w ∧ w ≤ 2) {k:Nat} {e:En} (he:entK ev w k = some e) :
  e = ⟨gU b (q + (k:Int) * (4 + 2 * w)) 2,gU b (q + (k:Int) * (4 + 2 * w) + 2) 2,if 0 < w then gU b (q + (k:Int) * (4 + 2 * w) + 4) 2 else 0,if 1 < w then gU b (q + (k:Int) * (4 + 2 * w) + 6) 2 else 0⟩:=by
 unfold entK at he;obtain ⟨r,hr,rfl⟩:=Option.map_eq_some_iff.1 he;have h0:0 ≤ (4 + 2 * w) * (k:Int):=Int.mul_nonneg (by omega) (by omega);have sub:∀ x,0 ≤ x → x + 2 ≤ 4 + 2 * w → gU r x 2 = gU b (q + (k:Int) * (4 + 2 * w) + x) 2:=fun x hx hx2 => by
  unfold gU;rw [uS_sub hr hx (by omega) hx2,uS_rest h (by omega),Int.mul_comm (k:Int),Int.add_assoc]
 have s0:=sub 0 (by omega) (by omega);rw [Int.add_zero] at s0;unfold entOf;rw [s0,sub 2 (by omega) (by omega)];congr 1
 ·by_cases h1:0 < w
  ·rw [if_pos h1,if_pos h1,sub 4 (by omega) (by omega)]
  ·rw [if_neg h1,if_neg h1]
 ·by_cases h1:1 < w
  ·rw [if_pos h1,if_pos h1,sub 6 (by omega) (by omega)]
  ·rw [if_neg h1,if_neg h1]
theorem ζqt {b ev:List Int} {q:Int} (h:restS b q = some ev) {w:Int} (hw:0 ≤ w ∧ w ≤ 2) {s:Nat} {es:List En} (hr:entsTo ev w s = some es):needsS b q (4 + 2 * w) s = needL (es.map En.next):=by
 unfold needsS;congr 1;apply List.ext_getElem?;intro i;have hl:=mapO_len hr;rw [List.length_range] at hl;by_cases hi:i < s
 ·obtain ⟨y,h1,h2⟩:=mapO_at hr hi;rw [List.getElem?_map,List.getElem?_map,List.getElem?_range hi,h2,Option.map_some,Option.map_some,ent_at h hw h1]
 ·rw [List.getElem?_eq_none (by simp; omega),List.getElem?_eq_none (by simp; omega)]
theorem ζr6 {rv:List Int} {n:Int} {s t:Nat} (hst:s ≤ t) {rs rt:List (List Int)} (h1:rowsTo rv n s = some rs) (h2:rowsTo rv n t = some rt):needR rs ≤ needR rt:=by
 have h3:=ζhj hst h2;have h4:mapO (rowK rv n) (List.range s) = some rs:=h1;rw [h4] at h3;injection h3 with h3;rw [h3];have:=List.take_append_drop s rt;conv => rhs; rw [← this]
 unfold needR;rw [List.flatten_append,ζ5y];omega
structure RMach where
 b:List Int
 cl:Int
 rowsAt:Int
 entsAt:Int
 states:Int
 n:Int
 words:Int
 tb:List Int
 parts:List RP
def rmOf (b:List Int) (g w:Int) (m:Mach):RMach :=
 ⟨b,m.classes,gU b 8 4,gU b 12 4,m.rows.length,m.ents.length,w,b.drop (gU b 4 4).toNat,(refReadS (b.drop (gU b 4 4).toNat) g 2).getD []⟩
def refMachS (b:List Int) (g w:Int):Option RMach:=(machS b g w).map (rmOf b g w)
theorem ζhh {b:List Int} {g w:Int} {m:Mach} (h:machS b g w = some m):∃ i j q tb rv ev x,uS b 0 4 = some m.classes ∧ 4 ≤ m.classes ∧ m.classes ≤ 65535 ∧ uS b 4 4 = some i ∧ restS b i = some tb ∧ lookS tb g 2 = some m.tab ∧
  uS b 8 4 = some j ∧ restS b j = some rv ∧ uS b 12 4 = some q ∧ restS b q = some ev ∧ closeA rv ev m.classes w 2 = some x ∧ m.rows = x.1 ∧ m.ents = x.2:=by
 unfold machS at h;obtain ⟨n,h0,h⟩:=Option.bind_eq_some_iff.1 h;split at h;rotate_left
 ·cases h
 rename_i hn;obtain ⟨i,h1,h⟩:=Option.bind_eq_some_iff.1 h;obtain ⟨tb,h2,h⟩:=Option.bind_eq_some_iff.1 h;obtain ⟨tab,h3,h⟩:=Option.bind_eq_some_iff.1 h;obtain ⟨j,h4,h⟩:=Option.bind_eq_some_iff.1 h;obtain ⟨rv,h5,h⟩:=Option.bind_eq_some_iff.1 h;obtain ⟨k,h6,h⟩:=Option.bind_eq_some_iff.1 h;obtain ⟨ev,h7,h⟩:=Option.bind_eq_some_iff.1 h;obtain ⟨x,h8,rfl⟩:=Option.map_eq_some_iff.1 h;exact ⟨i,j,k,tb,rv,ev,x,h0,hn.1,hn.2,h1,h2,h3,h4,h5,h6,h7,h8,rfl,rfl⟩
end Go.Sw
end
section
namespace Go.Sw
open Go.RowKit
def planRoom (p:Plan) (w:Int) (rm:List Int):List Int :=
 bytesOf (planN p:Int) 4 ++ (bytesOf (16 + rm.length:Int) 4 ++ (bytesOf (16 + rm.length + (ofS p.cls).length:Int) 4 ++ (bytesOf (16 + rm.length + (ofS p.cls).length + (rowsL (planN p) p.rows).length:Int) 4 ++ (rm ++ (ofS p.cls ++ (rowsL (planN p) p.rows ++ entsB w p.ents))))))
theorem ζmd (p:Plan) (w:Int) (room:Nat):planBytes p w room = planRoom p w (List.replicate room 0):=by
 unfold planBytes planRoom;simp [List.append_assoc]
end Go.Sw
end
section
namespace Go.Sw
open Go.RowKit
end Go.Sw
end
section
namespace Go.Sw
open Go.RowKit
end Go.Sw
end
section
set_option maxRecDepth 100000
set_option linter.unusedVariables false
namespace Go.Sw
noncomputable section
def ζg1 (k:Nat) (call:Caller):Env → Heap → Res (AExit × Env):=loopB (C k) call F.ζ51 [1,1,1,0,0,0]
def ζ8r (k:Nat) (call:Caller):Kont Value:=kBlock 0 (kSeq (pieceK (C k) call F.ζ51 [1,1,1,1]) (kDone Prog (resOf Prog F.ζ51)))
def ζ51 (k:Nat) (call:Caller) (a0 a1 a2:Value) (h:Heap):Res Value :=
 (buildR Prog 281 [(0,a0),(1,a1)] h).bind fun v1 h2 =>
 (boxR v1 h2).bind fun v3 h4 =>
 (call F.ζ3g [a1] h4).bind fun v5 h6 =>
 (binR Prog .mul 3 (.int .i64 2) v5 h6).bind fun v7 h8 =>
 (binR Prog .add 3 v7 (.int .i64 128) h8).bind fun v9 h10 =>
 (loopN (ζg1 k call) loopFuel [(2,a2),(8,v3),(9,v9)] h10).bind fun r11 h12 =>
 ζ8r k call r11.1 r11.2 h12
theorem ζpk (k:Nat) (a0 a1 a2:Value) (h:Heap):R (T k) F.ζ51 [a0,a1,a2] h = nrm .no h (ζ51 k (R (T k)) a0 a1 a2 h) :=
 (R_body (t:=T k) (T_scott k) (by kernel_rfl) (by kernel_rfl) _ _).trans (by kernel_rfl)
theorem ζ68 (k:Nat) (call:Caller) (a2 a8 a9:Value) (h:Heap):ζg1 k call [(2,a2),(8,a8),(9,a9)] h =
 (nilR a8 h).bind fun v13 h14 =>
 (fieldAddrR Prog 281 v13 4 h14).bind fun v15 h16 =>
 (loadR Prog 3 v15 h16).bind fun v17 h18 =>
 (binR Prog .lss 3 v17 a9 h18).bind fun v19 h20 =>
 condV (some v19) (
 (call F.ζ2f [a8,a2] h20).bind fun v21 h22 =>
 condV (some v21) (
 (nilR a8 h22).bind fun v23 h24 =>
 (fieldAddrR Prog 281 v23 4 h24).bind fun v25 h26 =>
 (loadR Prog 3 v25 h26).bind fun v27 h28 =>
 .ok (.ret,[(6,v27),(7,(.int .i64 0))]) h28)
 (
 (nilR a8 h22).bind fun v29 h30 =>
 (fieldAddrR Prog 281 v29 5 h30).bind fun v31 h32 =>
 (loadR Prog 3 v31 h32).bind fun v33 h34 =>
 (binR Prog .gtr 3 v33 (.int .i64 64) h34).bind fun v35 h36 =>
 condV (some v35) (
 .ok ((.exit 0),[(2,a2),(8,a8),(9,a9),(35,v35)]) h36)
 (
 .ok (.normal,[(2,a2),(8,a8),(9,a9)]) h36)))
 (
 .ok ((.exit 0),[(2,a2),(8,a8),(9,a9),(23,v19)]) h20) :=
 (loopB_eq _ _).trans (by kernel_rfl)
theorem ζkm (k:Nat) (call:Caller) (a6 a7:Value) (h:Heap):ζ8r k call .ret [(6,a6),(7,a7)] h =
 .ok (.tuple #[a6,a7]) h:=by kernel_rfl
theorem ζj4 (k:Nat) (call:Caller) (a2 a8 a9 a35:Value) (h:Heap):ζ8r k call (.exit 0) [(2,a2),(8,a8),(9,a9),(35,a35)] h =
 (nilR a8 h).bind fun v37 h38 =>
 (fieldAddrR Prog 281 v37 4 h38).bind fun v39 h40 =>
 (loadR Prog 3 v39 h40).bind fun v41 h42 =>
 .ok (.tuple #[v41,(.int .i64 4)]) h42:=by kernel_rfl
theorem ζh9 (k:Nat) (call:Caller) (a2 a8 a9 a23:Value) (h:Heap):ζ8r k call (.exit 0) [(2,a2),(8,a8),(9,a9),(23,a23)] h =
 (nilR a8 h).bind fun v43 h44 =>
 (fieldAddrR Prog 281 v43 4 h44).bind fun v45 h46 =>
 (loadR Prog 3 v45 h46).bind fun v47 h48 =>
 .ok (.tuple #[v47,(.int .i64 4)]) h48:=by kernel_rfl
def ζ5v (k:Nat) (call:Caller) (a0:Value) (h:Heap):Res Value :=
 (boxR a0 h).bind fun v1 h2 =>
 .ok (.func (.func F.ζ25) #[] #[v1]) h2
theorem ζmq (k:Nat) (a0:Value) (h:Heap):R (T k) F.ζ5v [a0] h = nrm .gc h (ζ5v k (R (T k)) a0 h) :=
 (R_body (t:=T k) (T_scott k) (by kernel_rfl) (by kernel_rfl) _ _).trans (by kernel_rfl)
def ζ2f (k:Nat) (call:Caller) (a0 a1:Value) (h:Heap):Res Value :=
 (call F.ζ24 [a0] h).bind fun v1 h2 =>
 (extractR v1 0 h2).bind fun v3 h4 =>
 (extractR v1 1 h4).bind fun v5 h6 =>
 (nilR a0 h6).bindN fun v7 h8 =>
 (fieldAddrR Prog 281 v7 0 h8).bindN fun v9 h10 =>
 (loadR Prog 196 v9 h10).bindN fun v11 h12 =>
 (nilR a0 h12).bindN fun v13 h14 =>
 (fieldAddrR Prog 281 v13 2 h14).bindN fun v15 h16 =>
 (loadR Prog 3 v15 h16).bindN fun v17 h18 =>
 (call F.ζ19 [v11,v17,v3] h18).bindT (fun p21 h22 => (allocR Prog 130 h18).bindN fun v23 h24 => .panic p21 h22) fun v19 h20 =>
 (extractR v19 0 h20).bindN fun v25 h26 =>
 (extractR v19 1 h26).bindN fun v27 h28 =>
 (allocR Prog 130 h28).bindN fun v29 h30 =>
 (storeR Prog 130 v29 v25 h30).bindN fun _v31 h32 =>
 (nilR a0 h32).bind fun v33 h34 =>
 (fieldAddrR Prog 281 v33 4 h34).bind fun v35 h36 =>
 (loadR Prog 3 v35 h36).bind fun v37 h38 =>
 (binR Prog .add 3 v37 (.int .i64 1) h38).bind fun v39 h40 =>
 (nilR a0 h40).bind fun v41 h42 =>
 (fieldAddrR Prog 281 v41 4 h42).bind fun v43 h44 =>
 (storeR Prog 3 v43 v39 h44).bind fun _v45 h46 =>
 (fieldAddrR Prog 130 v29 0 h46).bind fun v47 h48 =>
 (loadR Prog 3 v47 h48).bind fun v49 h50 =>
 (nilR a0 h50).bind fun v51 h52 =>
 (fieldAddrR Prog 281 v51 2 h52).bind fun v53 h54 =>
 (storeR Prog 3 v53 v49 h54).bind fun _v55 h56 =>
 (nilR a0 h56).bindN fun v57 h58 =>
 (fieldAddrR Prog 281 v57 3 h58).bindN fun v59 h60 =>
 (loadR Prog 3 v59 h60).bindN fun v61 h62 =>
 (loadR Prog 130 v29 h62).bindN fun v63 h64 =>
 (callV call a1 [v61,v63] h64).bindT (fun p67 h68 => .panic p67 h68) fun v65 h66 =>
 (extractR v65 0 h66).bindN fun v69 h70 =>
 (extractR v65 1 h70).bindN fun v71 h72 =>
 (fieldAddrR Prog 130 v29 1 h72).bind fun v73 h74 =>
 (loadR Prog 3 v73 h74).bind fun v75 h76 =>
 (binR Prog .and 3 v75 (.int .i64 16384) h76).bind fun v77 h78 =>
 (binR Prog .neq 3 v77 (.int .i64 0) h78).bind fun v79 h80 =>
 condV (some v79) (
 (builtinV Prog .max [3,3] [v69,(.int .i64 0)] h80).bind fun v81 h82 =>
 (nilR a0 h82).bind fun v83 h84 =>
 (fieldAddrR Prog 281 v83 3 h84).bind fun v85 h86 =>
 (storeR Prog 3 v85 v81 h86).bind fun _v87 h88 =>
 (nilR a0 h88).bind fun v89 h90 =>
 (fieldAddrR Prog 281 v89 5 h90).bind fun v91 h92 =>
 (loadR Prog 3 v91 h92).bind fun v93 h94 =>
 (binR Prog .add 3 v93 (.int .i64 1) h94).bind fun v95 h96 =>
 (nilR a0 h96).bind fun v97 h98 =>
 (fieldAddrR Prog 281 v97 5 h98).bind fun v99 h100 =>
 (storeR Prog 3 v99 v95 h100).bind fun _v101 h102 =>
 .ok (.bool false) h102)
 (
 (builtinV Prog .max [3,3] [v71,(.int .i64 0)] h80).bind fun v103 h104 =>
 (nilR a0 h104).bind fun v105 h106 =>
 (fieldAddrR Prog 281 v105 3 h106).bind fun v107 h108 =>
 (storeR Prog 3 v107 v103 h108).bind fun _v109 h110 =>
 (nilR a0 h110).bind fun v111 h112 =>
 (fieldAddrR Prog 281 v111 5 h112).bind fun v113 h114 =>
 (storeR Prog 3 v113 (.int .i64 0) h114).bind fun _v115 h116 =>
 .ok v5 h116)
theorem ζ8s (k:Nat) (a0 a1:Value) (h:Heap):R (T k) F.ζ2f [a0,a1] h = nrm .no h (ζ2f k (R (T k)) a0 a1 h) :=
 (R_body (t:=T k) (T_scott k) (by kernel_rfl) (by kernel_rfl) _ _).trans (by kernel_rfl)
def ζ25 (k:Nat) (call:Caller) (a0 a1 a2:Value) (h:Heap):Res Value :=
 (boxR a1 h).bind fun v1 h2 =>
 (loadR Prog 213 a2 h2).bind fun v3 h4 =>
 (loadR Prog 130 v1 h4).bind fun v5 h6 =>
 (callV call v3 [a0,v5] h6).bind fun v7 h8 =>
 (binR Prog .add 3 a0 (.int .i64 1) h8).bind fun v9 h10 =>
 .ok (.tuple #[a0,v9]) h10
theorem ζi3 (k:Nat) (a0 a1 a2:Value) (h:Heap):R (T k) F.ζ25 [a0,a1,a2] h = nrm .no h (ζ25 k (R (T k)) a0 a1 a2 h) :=
 (R_body (t:=T k) (T_scott k) (by kernel_rfl) (by kernel_rfl) _ _).trans (by kernel_rfl)
def ζ24 (k:Nat) (call:Caller) (a0:Value) (h:Heap):Res Value :=
 (nilR a0 h).bindN fun v1 h2 =>
 (fieldAddrR Prog 281 v1 1 h2).bindN fun v3 h4 =>
 (loadR Prog 25 v3 h4).bindN fun v5 h6 =>
 (nilR a0 h6).bindN fun v7 h8 =>
 (fieldAddrR Prog 281 v7 3 h8).bindN fun v9 h10 =>
 (loadR Prog 3 v9 h10).bindN fun v11 h12 =>
 (call F.ζ3i [v5,v11] h12).bindT (fun p15 h16 => (allocR Prog 57 h12).bindN fun v17 h18 => .panic p15 h16) fun v13 h14 =>
 (extractR v13 0 h14).bindN fun v19 h20 =>
 (extractR v13 1 h20).bindN fun v21 h22 =>
 (allocR Prog 57 h22).bindN fun v23 h24 =>
 (storeR Prog 57 v23 v19 h24).bindN fun _v25 h26 =>
 (unR .not v21 h26).bind fun v27 h28 =>
 condV (some v27) (
 .ok (.tuple #[(.int .i64 0),(.bool true)]) h28)
 (
 (nilR a0 h28).bindN fun v29 h30 =>
 (fieldAddrR Prog 281 v29 0 h30).bindN fun v31 h32 =>
 (loadR Prog 196 v31 h32).bindN fun v33 h34 =>
 (fieldAddrR Prog 57 v23 0 h34).bindN fun v35 h36 =>
 (loadR Prog 3 v35 h36).bindN fun v37 h38 =>
 (call F.ζ1c [v33,v37] h38).bindT (fun p41 h42 => .panic p41 h42) fun v39 h40 =>
 .ok (.tuple #[v39,(.bool false)]) h40)
theorem ζg2 (k:Nat) (a0:Value) (h:Heap):R (T k) F.ζ24 [a0] h = nrm .gc h (ζ24 k (R (T k)) a0 h) :=
 (R_body (t:=T k) (T_scott k) (by kernel_rfl) (by kernel_rfl) _ _).trans (by kernel_rfl)
end
end Go.Sw
end
section
namespace Go.Sw
open Go.RowKit
theorem Star.stEnd {H0 H:Heap} {A B:List It} {c:Nat} {cells:List Value} {e:Nat} (h:Star H0 H (A ++ itBlk c ⟨cells,e,false⟩ :: B)) (off:Nat) {v:Value} (hs:storable v = true) (hc:v.cells = #[v]) (ho:off < cells.length) :
  ∃ H',stR 1 (.pointer (some ⟨c,off,none⟩)) v H = .ok undef H' ∧ Star H0 H' (A ++ itBlk c ⟨cells.set off v,e,false⟩ :: B):=by
 obtain ⟨H',h1,h2,_⟩:=h.stCell A.length (c:=c) (cells:=cells) (e:=e) (by simp) off hs hc ho;exact ⟨H',h1,by simpa using h2⟩
structure Drv where
 st:Int
 pl:Int
 stp:Int
 rest:Int
abbrev drvC (m:Mach) (c:Nat) (d:Drv):List Value:=[machV m,ptrV c,.int .i64 d.st,.int .i64 d.pl,.int .i64 d.stp,.int .i64 d.rest]
def clsS (m:Mach) (l:List Gl) (pl:Int):Int × Bool:=match atG l pl with | some g => (classS m g.id,false) | none => (0,true)
def entS (m:Mach) (l:List Gl) (d:Drv):En:=(stepS m d.st (clsS m l d.pl).1).getD ⟨0,0,0,0⟩
abbrev encE (e:En):Value:=.agg (encEn e).toArray
theorem take_mid {α:Type} (x:α) (B:List α):∀ A:List α,(A ++ x :: B).take (A.length + 1) = A ++ [x]
 | [] => rfl
 | a :: A => by simp [take_mid x B A]
theorem ζrz (n:Nat):n &&& 2 ^ 14 = if n.testBit 14 then 2 ^ 14 else 0:=by
 apply Nat.eq_of_testBit_eq;intro i;rw [Nat.testBit_and,Nat.testBit_two_pow];by_cases h:14 = i
 ·subst h;cases hb:n.testBit 14 <;> simp <;> decide
 ·cases hb:n.testBit 14
  ·simp [h]
  ·simp only [h,decide_false,Bool.and_false,if_true,Nat.testBit_two_pow]
theorem and14 (P:Program) (t:TypeId) (H:Heap) {a:Int} (h0:0 ≤ a) (h1:a < 65536):binR P .and t (.int .i64 a) (.int .i64 16384) H = .ok (.int .i64 (if a / 16384 % 2 = 1 then 16384 else 0)) H:=by
 have e:(BitVec.ofInt 64 a &&& BitVec.ofInt 64 16384).toNat = (if a / 16384 % 2 = 1 then 16384 else 0):=by
  rw [BitVec.toNat_and,BitVec.toNat_ofInt,BitVec.toNat_ofInt];rw [show ((16384:Int) % ((2 ^ 64:Nat):Int)).toNat = 2 ^ 14 from by decide,ζrz,Nat.testBit_eq_decide_div_mod_eq];obtain ⟨n,rfl⟩:=Int.eq_ofNat_of_zero_le h0;rw [show (((n:Int)) % ((2 ^ 64:Nat):Int)).toNat = n by omega];by_cases h:(n:Int) / 16384 % 2 = 1
  ·rw [if_pos h,decide_eq_true (show n / 2 ^ 14 % 2 = 1 by omega)]; rfl
  ·rw [if_neg h,decide_eq_false (show ¬ n / 2 ^ 14 % 2 = 1 by omega)]; rfl
 have e1:binV P .and t (.int .i64 a) (.int .i64 16384) = some (.int .i64 (IntKind.i64.wrap (BitVec.ofInt 64 a &&& BitVec.ofInt 64 16384).toNat)):=rfl;unfold binR;rw [e1,e];by_cases h:a / 16384 % 2 = 1
 ·simp [h]
 ·simp [h]
theorem ζkn (k:Nat) (m:Mach) (hm:m.ok) {H0 H:Heap} {L:List It} (h:Star H0 H L) {c q:Nat} {o:Option Nat} {l:List Gl} {d:Drv} (i:Nat) (hi:L[i]? = some (itLine c o l)) (hq:H.get q = some ⟨drvC m c d,1,false⟩) :
  R (T k) F.ζ24 [ptrV q] H = .ok (.tuple #[.int .i64 (clsS m l d.pl).1,.bool (clsS m l d.pl).2]) H:=by
 rw [ζg2];have hat:=ζjj k h i hi d.pl;have fl:∀ (a:Int) b,Flat (.tuple #[.int .i64 a,.bool b]):=fun a b => .tupleL (.cons (.int _ _) (.cons (.bool _) .nil));unfold clsS;have hqn:¬ q = H.n:=by have:=Heap.get_lt hq; omega
 cases ha:atG l d.pl with
 | none =>
  rw [ha] at hat;refine nrm_gc ⟨H.push ⟨[.int .i64 0,.int .i64 0],1,false⟩,?_,(Ext.refl H).push _⟩ (fl _ _).alive;unfold encA at hat;simp at hat;simp -implicitDefEqProofs (disch:=omega) [ζ24,hq,hat]
 | some g =>
  rw [ha] at hat;have hc:=fun H' => ζrv k m hm g.id H';refine nrm_gc ⟨H.push ⟨encG g,1,false⟩,?_,(Ext.refl H).push _⟩ (fl _ _).alive;unfold encA at hat;simp at hat;simp -implicitDefEqProofs (disch:=omega) [ζ24,hq,hqn,hat,hc]
theorem ζqs {m:Mach} (hm:m.ok) (l:List Gl) (d:Drv):let e:=entS m l d; 0 ≤ e.next ∧ e.next < 65536 ∧ 0 ≤ e.flags ∧ e.flags < 65536 ∧ 0 ≤ e.a ∧ e.a < 65536 ∧ 0 ≤ e.b ∧ e.b < 65536:=by
 dsimp only;unfold entS;cases h:stepS m d.st (clsS m l d.pl).1 with
 | none => simp
 | some x =>
  have hx:x ∈ m.ents:=by
   unfold stepS at h;split at h
   ·obtain ⟨r,_,h⟩:=Option.bind_eq_some_iff.1 h;obtain ⟨y,_,h⟩:=Option.bind_eq_some_iff.1 h;exact List.mem_of_getElem? h
   ·cases h
  have:=hm.ent x hx;have:=hm.two;simp only [Option.getD_some];omega
theorem getS_pos {ps:List Pt} (hok:∀ p,p ∈ ps → p.ok) {id x:Int} (h:getS ps id = some x):0 ≤ x:=by
 unfold getS at h;obtain ⟨p,hp,h⟩:=Option.bind_eq_some_iff.1 h;split at h
 ·exact ((hok p (List.mem_of_find?_eq_some hp)).2.2.2.2.2 x (List.mem_of_getElem? h)).1
 ·cases h
theorem ζnv {m:Mach} (hm:m.ok) (id:Int):0 ≤ classS m id ∧ classS m id < m.classes:=by
 have:=hm.cl;unfold classS;split
 ·omega
 ·split
  ·rename_i c hc;have:=getS_pos hm.pts hc;split <;> omega
  ·omega
theorem ζqo {m:Mach} (hm:m.ok) (l:List Gl) (p:Int):0 ≤ (clsS m l p).1 ∧ (clsS m l p).1 < m.classes:=by
 have:=hm.cl;unfold clsS;split
 ·exact ζnv hm _
 ·dsimp only; omega
theorem entS_mem {m:Mach} (hm:m.ok) (l:List Gl) (d:Drv) (h:0 ≤ d.st ∧ d.st < m.rows.length):entS m l d ∈ m.ents:=by
 have hc:=ζqo hm l d.pl;obtain ⟨r,x,e,_,_,_,he,hs⟩:=ζk8 hm (s:=d.st) (c:=(clsS m l d.pl).1) ⟨h.1,h.2,hc.1,hc.2⟩;unfold entS;rw [hs];exact List.mem_of_getElem? he
variable {σ:Type}
def stepD (m:Mach) (ln:σ → List Gl) (f:σ → Int → En → σ × Int × Int) (x:σ × Drv):(σ × Drv) × Bool :=
 if (entS m (ln x.1) x.2).flags / 16384 % 2 = 1 then (((f x.1 x.2.pl (entS m (ln x.1) x.2)).1,⟨(entS m (ln x.1) x.2).next,max (f x.1 x.2.pl (entS m (ln x.1) x.2)).2.1 0,x.2.stp + 1,x.2.rest + 1⟩),false)
 else (((f x.1 x.2.pl (entS m (ln x.1) x.2)).1,⟨(entS m (ln x.1) x.2).next,max (f x.1 x.2.pl (entS m (ln x.1) x.2)).2.2 0,x.2.stp + 1,0⟩),(clsS m (ln x.1) x.2.pl).2)
end Go.Sw
end
section
namespace Go.Sw
open Go.RowKit
variable {σ:Type}
def runD (m:Mach) (ln:σ → List Gl) (f:σ → Int → En → σ × Int × Int) (most:Int):Nat → σ × Drv → Int × Int × σ
  | 0,x => (x.2.stp,4,x.1)
  | n + 1,x => if x.2.stp < most then
      (if (stepD m ln f x).2 then ((stepD m ln f x).1.2.stp,0,(stepD m ln f x).1.1)
       else if (stepD m ln f x).1.2.rest > 64 then ((stepD m ln f x).1.2.stp,4,(stepD m ln f x).1.1)
       else runD m ln f most n (stepD m ln f x).1)
    else (x.2.stp,4,x.1)
theorem ζta (m:Mach) (ln:σ → List Gl) (f:σ → Int → En → σ × Int × Int) (x:σ × Drv):(stepD m ln f x).1.2.stp = x.2.stp + 1:=by unfold stepD; split <;> rfl
theorem stepD_pl (m:Mach) (ln:σ → List Gl) (f:σ → Int → En → σ × Int × Int) (x:σ × Drv):0 ≤ (stepD m ln f x).1.2.pl:=by unfold stepD; split <;> (dsimp only; omega)
theorem ζrl (m:Mach) (ln:σ → List Gl) (f:σ → Int → En → σ × Int × Int) (x:σ × Drv) (h:0 ≤ x.2.rest):0 ≤ (stepD m ln f x).1.2.rest ∧ (stepD m ln f x).1.2.rest ≤ x.2.rest + 1:=by unfold stepD; split <;> (dsimp only; omega)
end Go.Sw
end
section
set_option maxRecDepth 100000
set_option linter.unusedVariables false
namespace Go.Sw
noncomputable section
def ζ2n (k:Nat) (call:Caller):Env → Heap → Res (AExit × Env):=loopB (C k) call F.ζ5 [1,1,1,1,1,1,1,0,0,0]
def ζ5l (k:Nat) (call:Caller):Kont Value:=kBlock 0 (kSeq (pieceK (C k) call F.ζ5 [1,1,1,1,1,1,1,1]) (kDone Prog (resOf Prog F.ζ5)))
def ζ9z (k:Nat) (call:Caller) (a0 a6 a8 a11 a12 a13:Value) (h:Heap):Res (AExit × Env) :=
 kSeq (pieceK (C k) call F.ζ5 [1,1,1,1,1,1,1,0,0,0,1,0,1,1,1]) (kBlock 1 (kRound (ownOf (C k) F.ζ5 [1,1,1,1,1,1,1,0,0,0]))) .normal [(0,a0),(6,a6),(8,a8),(11,a11),(12,a12),(13,a13)] h
def ζa0 (k:Nat) (call:Caller) (a0 a6 a8 a11 a12 a13 a93:Value) (h:Heap):Res (AExit × Env) :=
 kSeq (pieceK (C k) call F.ζ5 [1,1,1,1,1,1,1,0,0,0,1,0,1,1,1]) (kBlock 1 (kRound (ownOf (C k) F.ζ5 [1,1,1,1,1,1,1,0,0,0]))) .normal [(0,a0),(6,a6),(8,a8),(11,a11),(12,a12),(13,a13),(93,a93)] h
def ζ64 (k:Nat) (call:Caller) (a0 a6 a8 a11 a12 a13:Value) (h:Heap):Res (AExit × Env) :=
 kSeq (pieceK (C k) call F.ζ5 [1,1,1,1,1,1,1,0,0,0,1,0,1,1,1,1]) (kBlock 1 (kRound (ownOf (C k) F.ζ5 [1,1,1,1,1,1,1,0,0,0]))) .normal [(0,a0),(6,a6),(8,a8),(11,a11),(12,a12),(13,a13)] h
def ζ65 (k:Nat) (call:Caller) (a0 a6 a8 a11 a12 a13 a115:Value) (h:Heap):Res (AExit × Env) :=
 kSeq (pieceK (C k) call F.ζ5 [1,1,1,1,1,1,1,0,0,0,1,0,1,1,1,1]) (kBlock 1 (kRound (ownOf (C k) F.ζ5 [1,1,1,1,1,1,1,0,0,0]))) .normal [(0,a0),(6,a6),(8,a8),(11,a11),(12,a12),(13,a13),(115,a115)] h
def ζ5 (k:Nat) (call:Caller) (a0 a1 a2:Value) (h:Heap):Res Value :=
 (allocR Prog 115 h).bind fun v1 h2 =>
 (call F.ζ2 [a0,(.int .i64 0),(.int .i64 4)] h2).bind fun v3 h4 =>
 (call F.ζ2 [a0,(.int .i64 8),(.int .i64 4)] h4).bind fun v5 h6 =>
 (call F.ζ2 [a0,(.int .i64 12),(.int .i64 4)] h6).bind fun v7 h8 =>
 (buildR Prog 115 [(0,a0),(1,v3),(2,v5),(3,v7),(4,(.int .i64 2)),(6,a2)] h8).bind fun v9 h10 =>
 (allocR Prog 115 h10).bind fun v11 h12 =>
 (storeR Prog 115 v11 v9 h12).bind fun _v13 h14 =>
 (call F.ζ2 [a0,(.int .i64 4),(.int .i64 4)] h14).bind fun v15 h16 =>
 (fieldAddrR Prog 115 v11 1 h16).bind fun v17 h18 =>
 (loadR Prog 3 v17 h18).bind fun v19 h20 =>
 (binR Prog .lss 3 v19 (.int .i64 4) h20).bind fun v21 h22 =>
 ((bif wantVal v21 false then fieldAddrR Prog 115 v11 1 h22 else Res.ok undef h22)).bind fun v23 h24 =>
 ((bif wantVal v21 false then loadR Prog 3 v23 h24 else Res.ok undef h24)).bind fun v25 h26 =>
 ((bif wantVal v21 false then binR Prog .gtr 3 v25 (.int .i64 65535) h26 else Res.ok undef h26)).bind fun v27 h28 =>
 (condV (some v21) (Res.ok (.bool true) h28) (Res.ok v27 h28)).bind fun v29 h30 =>
 ((bif wantVal v29 false then fieldAddrR Prog 115 v11 2 h30 else Res.ok undef h30)).bind fun v31 h32 =>
 ((bif wantVal v29 false then loadR Prog 3 v31 h32 else Res.ok undef h32)).bind fun v33 h34 =>
 ((bif wantVal v29 false then binR Prog .lss 3 v33 (.int .i64 0) h34 else Res.ok undef h34)).bind fun v35 h36 =>
 (condV (some v29) (Res.ok (.bool true) h36) (Res.ok v35 h36)).bind fun v37 h38 =>
 ((bif wantVal v37 false then fieldAddrR Prog 115 v11 3 h38 else Res.ok undef h38)).bind fun v39 h40 =>
 ((bif wantVal v37 false then loadR Prog 3 v39 h40 else Res.ok undef h40)).bind fun v41 h42 =>
 ((bif wantVal v37 false then binR Prog .lss 3 v41 (.int .i64 0) h42 else Res.ok undef h42)).bind fun v43 h44 =>
 (condV (some v37) (Res.ok (.bool true) h44) (Res.ok v43 h44)).bind fun v45 h46 =>
 ((bif wantVal v45 false then fieldAddrR Prog 115 v11 2 h46 else Res.ok undef h46)).bind fun v47 h48 =>
 ((bif wantVal v45 false then loadR Prog 3 v47 h48 else Res.ok undef h48)).bind fun v49 h50 =>
 ((bif wantVal v45 false then Res.ok a0 h50 else Res.ok undef h50)).bind fun v51 h52 =>
 ((bif wantVal v45 false then builtinV Prog .len [31] [v51] h52 else Res.ok undef h52)).bind fun v53 h54 =>
 ((bif wantVal v45 false then binR Prog .gtr 3 v49 v53 h54 else Res.ok undef h54)).bind fun v55 h56 =>
 (condV (some v45) (Res.ok (.bool true) h56) (Res.ok v55 h56)).bind fun v57 h58 =>
 ((bif wantVal v57 false then fieldAddrR Prog 115 v11 3 h58 else Res.ok undef h58)).bind fun v59 h60 =>
 ((bif wantVal v57 false then loadR Prog 3 v59 h60 else Res.ok undef h60)).bind fun v61 h62 =>
 ((bif wantVal v57 false then Res.ok a0 h62 else Res.ok undef h62)).bind fun v63 h64 =>
 ((bif wantVal v57 false then builtinV Prog .len [31] [v63] h64 else Res.ok undef h64)).bind fun v65 h66 =>
 ((bif wantVal v57 false then binR Prog .gtr 3 v61 v65 h66 else Res.ok undef h66)).bind fun v67 h68 =>
 (condV (some v57) (Res.ok (.bool true) h68) (Res.ok v67 h68)).bind fun v69 h70 =>
 ((bif wantVal v69 false then Res.ok v15 h70 else Res.ok undef h70)).bind fun v71 h72 =>
 ((bif wantVal v69 false then binR Prog .lss 3 v71 (.int .i64 0) h72 else Res.ok undef h72)).bind fun v73 h74 =>
 (condV (some v69) (Res.ok (.bool true) h74) (Res.ok v73 h74)).bind fun v75 h76 =>
 ((bif wantVal v75 false then Res.ok v15 h76 else Res.ok undef h76)).bind fun v77 h78 =>
 ((bif wantVal v75 false then Res.ok a0 h78 else Res.ok undef h78)).bind fun v79 h80 =>
 ((bif wantVal v75 false then builtinV Prog .len [31] [v79] h80 else Res.ok undef h80)).bind fun v81 h82 =>
 ((bif wantVal v75 false then binR Prog .gtr 3 v77 v81 h82 else Res.ok undef h82)).bind fun v83 h84 =>
 (condV (some v75) (Res.ok (.bool true) h84) (Res.ok v83 h84)).bind fun v85 h86 =>
 condV (some v85) (
 (buildR Prog 115 [] h86).bind fun v87 h88 =>
 (storeR Prog 115 v1 v87 h88).bind fun _v89 h90 =>
 (loadR Prog 115 v1 h90).bind fun v91 h92 =>
 .ok (.tuple #[v91,(.bool false)]) h92)
 (
 (sliceR Prog 31 a0 (some v15) none none h86).bind fun v93 h94 =>
 (call F.ζx [v93,a1,(.int .i64 2)] h94).bind fun v95 h96 =>
 (extractR v95 0 h96).bind fun v97 h98 =>
 (extractR v95 1 h98).bind fun v99 h100 =>
 (allocR Prog 38 h100).bind fun v101 h102 =>
 (storeR Prog 38 v101 v97 h102).bind fun _v103 h104 =>
 (loadR Prog 38 v101 h104).bind fun v105 h106 =>
 (fieldAddrR Prog 115 v11 7 h106).bind fun v107 h108 =>
 (storeR Prog 38 v107 v105 h108).bind fun _v109 h110 =>
 (binR Prog .mul 3 (.int .i64 2) a2 h110).bind fun v111 h112 =>
 (binR Prog .add 3 (.int .i64 4) v111 h112).bind fun v113 h114 =>
 (loopN (ζ2n k call) loopFuel [(0,a0),(6,v1),(8,v11),(11,v99),(12,v113)] h114).bind fun r115 h116 =>
 ζ5l k call r115.1 r115.2 h116)
theorem ζie (k:Nat) (a0 a1 a2:Value) (h:Heap):R (T k) F.ζ5 [a0,a1,a2] h = nrm .fz h (ζ5 k (R (T k)) a0 a1 a2 h) :=
 (R_body (t:=T k) (T_scott k) (by kernel_rfl) (by kernel_rfl) _ _).trans (by kernel_rfl)
theorem ζ1m (k:Nat) (call:Caller) (a0 a6 a8 a11 a12:Value) (h:Heap):ζ2n k call [(0,a0),(6,a6),(8,a8),(11,a11),(12,a12)] h =
 condV (some a11) (
 (loadR Prog 115 a8 h).bind fun v117 h118 =>
 (allocR Prog 115 h118).bind fun v119 h120 =>
 (storeR Prog 115 v119 v117 h120).bind fun _v121 h122 =>
 (builtinV Prog .len [31] [a0] h122).bind fun v123 h124 =>
 (fieldAddrR Prog 115 a8 2 h124).bind fun v125 h126 =>
 (loadR Prog 3 v125 h126).bind fun v127 h128 =>
 (fieldAddrR Prog 115 a8 4 h128).bind fun v129 h130 =>
 (loadR Prog 3 v129 h130).bind fun v131 h132 =>
 (fieldAddrR Prog 115 a8 1 h132).bind fun v133 h134 =>
 (loadR Prog 3 v133 h134).bind fun v135 h136 =>
 (binR Prog .mul 3 (.int .i64 2) v135 h136).bind fun v137 h138 =>
 (call F.ζn [v123,v127,v131,v137] h138).bind fun v139 h140 =>
 condV (some v139) (
 (fieldAddrR Prog 115 a8 5 h140).bindN fun v141 h142 =>
 (loadR Prog 3 v141 h142).bindN fun v143 h144 =>
 (fieldAddrR Prog 115 a8 2 h144).bindN fun v145 h146 =>
 (loadR Prog 3 v145 h146).bindN fun v147 h148 =>
 (fieldAddrR Prog 115 a8 4 h148).bindN fun v149 h150 =>
 (loadR Prog 3 v149 h150).bindN fun v151 h152 =>
 (fieldAddrR Prog 115 a8 1 h152).bindN fun v153 h154 =>
 (loadR Prog 3 v153 h154).bindN fun v155 h156 =>
 (binR Prog .mul 3 v151 v155 h156).bindN fun v157 h158 =>
 (call F.ζ1g [a0,v147,v157,(.int .i64 2)] h158).bindT (fun p161 h162 => .panic p161 h162) fun v159 h160 =>
 (builtinV Prog .max [3,3] [v143,v159] h160).bindN fun v163 h164 =>
 (fieldAddrR Prog 115 a8 5 h164).bindN fun v165 h166 =>
 (storeR Prog 3 v165 v163 h166).bindN fun _v167 h168 =>
 chkR ((okVal (loadR Prog 3 v141 h160) v143 && true) && true) (
 (builtinV Prog .len [31] [a0] h168).bind fun v169 h170 =>
 (fieldAddrR Prog 115 a8 3 h170).bind fun v171 h172 =>
 (loadR Prog 3 v171 h172).bind fun v173 h174 =>
 (fieldAddrR Prog 115 a8 5 h174).bind fun v175 h176 =>
 (loadR Prog 3 v175 h176).bind fun v177 h178 =>
 (call F.ζn [v169,v173,v177,a12] h178).bind fun v179 h180 =>
 ζ9z k call a0 a6 a8 v179 a12 v119 h180))
 (
 ζa0 k call a0 a6 a8 v139 a12 v119 v139 h140))
 (
 .ok ((.exit 0),[(0,a0),(6,a6),(8,a8),(12,a12),(81,a11)]) h) :=
 (loopB_eq _ _).trans (by kernel_rfl)
theorem ζ33 (k:Nat) (call:Caller) (a0 a6 a8 a11 a12 a13:Value) (h:Heap):ζ9z k call a0 a6 a8 a11 a12 a13 h =
 condV (some a11) (
 (fieldAddrR Prog 115 a8 4 h).bindN fun v181 h182 =>
 (loadR Prog 3 v181 h182).bindN fun v183 h184 =>
 (fieldAddrR Prog 115 a8 3 h184).bindN fun v185 h186 =>
 (loadR Prog 3 v185 h186).bindN fun v187 h188 =>
 (fieldAddrR Prog 115 a8 5 h188).bindN fun v189 h190 =>
 (loadR Prog 3 v189 h190).bindN fun v191 h192 =>
 (call F.ζ1g [a0,v187,v191,a12] h192).bindT (fun p195 h196 => .panic p195 h196) fun v193 h194 =>
 (builtinV Prog .max [3,3] [v183,v193] h194).bindN fun v197 h198 =>
 (fieldAddrR Prog 115 a8 4 h198).bindN fun v199 h200 =>
 (storeR Prog 3 v199 v197 h200).bindN fun _v201 h202 =>
 chkR ((okVal (loadR Prog 3 v181 h194) v183 && true) && true) (
 ζ64 k call a0 a6 a8 a11 a12 a13 h202))
 (
 ζ65 k call a0 a6 a8 a11 a12 a13 a11 h):=by kernel_rfl
theorem ζf6 (k:Nat) (call:Caller) (a0 a6 a8 a11 a12 a13 a93:Value) (h:Heap):ζa0 k call a0 a6 a8 a11 a12 a13 a93 h =
 condV (some a11) (
 (fieldAddrR Prog 115 a8 4 h).bindN fun v203 h204 =>
 (loadR Prog 3 v203 h204).bindN fun v205 h206 =>
 (fieldAddrR Prog 115 a8 3 h206).bindN fun v207 h208 =>
 (loadR Prog 3 v207 h208).bindN fun v209 h210 =>
 (fieldAddrR Prog 115 a8 5 h210).bindN fun v211 h212 =>
 (loadR Prog 3 v211 h212).bindN fun v213 h214 =>
 (call F.ζ1g [a0,v209,v213,a12] h214).bindT (fun p217 h218 => .panic p217 h218) fun v215 h216 =>
 (builtinV Prog .max [3,3] [v205,v215] h216).bindN fun v219 h220 =>
 (fieldAddrR Prog 115 a8 4 h220).bindN fun v221 h222 =>
 (storeR Prog 3 v221 v219 h222).bindN fun _v223 h224 =>
 chkR ((okVal (loadR Prog 3 v203 h216) v205 && true) && true) (
 ζ64 k call a0 a6 a8 a11 a12 a13 h224))
 (
 ζ65 k call a0 a6 a8 a11 a12 a13 a11 h):=by kernel_rfl
theorem ζ4d (k:Nat) (call:Caller) (a0 a6 a8 a11 a12 a13:Value) (h:Heap):ζ64 k call a0 a6 a8 a11 a12 a13 h =
 ((bif wantVal a11 true then fieldAddrR Prog 115 a8 4 h else Res.ok undef h)).bind fun v225 h226 =>
 ((bif wantVal a11 true then loadR Prog 3 v225 h226 else Res.ok undef h226)).bind fun v227 h228 =>
 ((bif wantVal a11 true then fieldAddrR Prog 115 a13 4 h228 else Res.ok undef h228)).bind fun v229 h230 =>
 ((bif wantVal a11 true then loadR Prog 3 v229 h230 else Res.ok undef h230)).bind fun v231 h232 =>
 ((bif wantVal a11 true then binR Prog .eql 3 v227 v231 h232 else Res.ok undef h232)).bind fun v233 h234 =>
 (condV (some a11) (Res.ok v233 h234) (Res.ok (.bool false) h234)).bind fun v235 h236 =>
 ((bif wantVal v235 true then fieldAddrR Prog 115 a8 5 h236 else Res.ok undef h236)).bind fun v237 h238 =>
 ((bif wantVal v235 true then loadR Prog 3 v237 h238 else Res.ok undef h238)).bind fun v239 h240 =>
 ((bif wantVal v235 true then fieldAddrR Prog 115 a13 5 h240 else Res.ok undef h240)).bind fun v241 h242 =>
 ((bif wantVal v235 true then loadR Prog 3 v241 h242 else Res.ok undef h242)).bind fun v243 h244 =>
 ((bif wantVal v235 true then binR Prog .eql 3 v239 v243 h244 else Res.ok undef h244)).bind fun v245 h246 =>
 (condV (some v235) (Res.ok v245 h246) (Res.ok (.bool false) h246)).bind fun v247 h248 =>
 condV (some v247) (
 (loadR Prog 115 a8 h248).bind fun v249 h250 =>
 (storeR Prog 115 a6 v249 h250).bind fun _v251 h252 =>
 .ok (.ret,[(6,a6),(7,(.bool true))]) h252)
 (
 .ok (.normal,[(0,a0),(6,a6),(8,a8),(11,a11),(12,a12)]) h248):=by kernel_rfl
theorem ζ7k (k:Nat) (call:Caller) (a0 a6 a8 a11 a12 a13 a115:Value) (h:Heap):ζ65 k call a0 a6 a8 a11 a12 a13 a115 h =
 ((bif wantVal a11 true then fieldAddrR Prog 115 a8 4 h else Res.ok undef h)).bind fun v253 h254 =>
 ((bif wantVal a11 true then loadR Prog 3 v253 h254 else Res.ok undef h254)).bind fun v255 h256 =>
 ((bif wantVal a11 true then fieldAddrR Prog 115 a13 4 h256 else Res.ok undef h256)).bind fun v257 h258 =>
 ((bif wantVal a11 true then loadR Prog 3 v257 h258 else Res.ok undef h258)).bind fun v259 h260 =>
 ((bif wantVal a11 true then binR Prog .eql 3 v255 v259 h260 else Res.ok undef h260)).bind fun v261 h262 =>
 (condV (some a11) (Res.ok v261 h262) (Res.ok (.bool false) h262)).bind fun v263 h264 =>
 ((bif wantVal v263 true then fieldAddrR Prog 115 a8 5 h264 else Res.ok undef h264)).bind fun v265 h266 =>
 ((bif wantVal v263 true then loadR Prog 3 v265 h266 else Res.ok undef h266)).bind fun v267 h268 =>
 ((bif wantVal v263 true then fieldAddrR Prog 115 a13 5 h268 else Res.ok undef h268)).bind fun v269 h270 =>
 ((bif wantVal v263 true then loadR Prog 3 v269 h270 else Res.ok undef h270)).bind fun v271 h272 =>
 ((bif wantVal v263 true then binR Prog .eql 3 v267 v271 h272 else Res.ok undef h272)).bind fun v273 h274 =>
 (condV (some v263) (Res.ok v273 h274) (Res.ok (.bool false) h274)).bind fun v275 h276 =>
 condV (some v275) (
 (loadR Prog 115 a8 h276).bind fun v277 h278 =>
 (storeR Prog 115 a6 v277 h278).bind fun _v279 h280 =>
 .ok (.ret,[(6,a6),(7,(.bool true))]) h280)
 (
 .ok (.normal,[(0,a0),(6,a6),(8,a8),(11,a11),(12,a12)]) h276):=by kernel_rfl
theorem ζ6z (k:Nat) (call:Caller) (a0 a6 a8 a12 a81:Value) (h:Heap):ζ5l k call (.exit 0) [(0,a0),(6,a6),(8,a8),(12,a12),(81,a81)] h =
 (buildR Prog 115 [] h).bind fun v281 h282 =>
 (storeR Prog 115 a6 v281 h282).bind fun _v283 h284 =>
 (loadR Prog 115 a6 h284).bind fun v285 h286 =>
 .ok (.tuple #[v285,(.bool false)]) h286:=by kernel_rfl
theorem ζf7 (k:Nat) (call:Caller) (a6 a7:Value) (h:Heap):ζ5l k call .ret [(6,a6),(7,a7)] h =
 (loadR Prog 115 a6 h).bind fun v287 h288 =>
 .ok (.tuple #[v287,a7]) h288:=by kernel_rfl
def ζ94 (k:Nat) (call:Caller) (a2 a4 a5 a6:Value) (h:Heap):Res Value :=
 kSeq (pieceK (C k) call F.ζi [1,1,1,1]) (kDone Prog (resOf Prog F.ζi)) .normal [(2,a2),(4,a4),(5,a5),(6,a6)] h
def ζ95 (k:Nat) (call:Caller) (a2 a4 a5 a6 a28:Value) (h:Heap):Res Value :=
 kSeq (pieceK (C k) call F.ζi [1,1,1,1]) (kDone Prog (resOf Prog F.ζi)) .normal [(2,a2),(4,a4),(5,a5),(6,a6),(28,a28)] h
def ζ5j (k:Nat) (call:Caller) (a4 a6:Value) (h:Heap):Res Value :=
 kSeq (pieceK (C k) call F.ζi [1,1,1,1,1]) (kDone Prog (resOf Prog F.ζi)) .normal [(4,a4),(6,a6)] h
def ζ5k (k:Nat) (call:Caller) (a2 a4 a5 a6 a37:Value) (h:Heap):Res Value :=
 kSeq (pieceK (C k) call F.ζi [1,1,1,1,1]) (kDone Prog (resOf Prog F.ζi)) .normal [(2,a2),(4,a4),(5,a5),(6,a6),(37,a37)] h
def ζi (k:Nat) (call:Caller) (a0 a1:Value) (h:Heap):Res Value :=
 (boxR a0 h).bind fun v1 h2 =>
 (allocR Prog 130 h2).bind fun v3 h4 =>
 (fieldAddrR Prog 115 v1 3 h4).bind fun v5 h6 =>
 (loadR Prog 3 v5 h6).bind fun v7 h8 =>
 (fieldAddrR Prog 115 v1 6 h8).bind fun v9 h10 =>
 (loadR Prog 3 v9 h10).bind fun v11 h12 =>
 (binR Prog .mul 3 (.int .i64 2) v11 h12).bind fun v13 h14 =>
 (binR Prog .add 3 (.int .i64 4) v13 h14).bind fun v15 h16 =>
 (binR Prog .mul 3 a1 v15 h16).bind fun v17 h18 =>
 (binR Prog .add 3 v7 v17 h18).bind fun v19 h20 =>
 (fieldAddrR Prog 115 v1 0 h20).bindN fun v21 h22 =>
 (loadR Prog 31 v21 h22).bindN fun v23 h24 =>
 (call F.ζ2 [v23,v19,(.int .i64 2)] h24).bindT (fun p27 h28 => (fieldAddrR Prog 115 v1 0 h24).bindN fun v29 h30 => (loadR Prog 31 v29 h30).bindN fun v31 h32 => (binR Prog .add 3 v19 (.int .i64 2) h32).bindN fun v33 h34 => (allocR Prog 130 h34).bindN fun v35 h36 => chkR ((okVal (loadR Prog 31 v29 h20) v31 && true) && true) (.panic p27 h28)) fun v25 h26 =>
 (fieldAddrR Prog 115 v1 0 h26).bindN fun v37 h38 =>
 (loadR Prog 31 v37 h38).bindN fun v39 h40 =>
 (binR Prog .add 3 v19 (.int .i64 2) h40).bindN fun v41 h42 =>
 (call F.ζ2 [v39,v41,(.int .i64 2)] h42).bindT (fun p45 h46 => (allocR Prog 130 h42).bindN fun v47 h48 => chkR ((okVal (loadR Prog 31 v37 h20) v39 && true) && true) (.panic p45 h46)) fun v43 h44 =>
 (buildR Prog 130 [(0,v25),(1,v43)] h44).bindN fun v49 h50 =>
 (allocR Prog 130 h50).bindN fun v51 h52 =>
 (storeR Prog 130 v51 v49 h52).bindN fun _v53 h54 =>
 chkR ((okVal (loadR Prog 31 v37 h20) v39 && true) && true) (
 (fieldAddrR Prog 115 v1 6 h54).bind fun v55 h56 =>
 (loadR Prog 3 v55 h56).bind fun v57 h58 =>
 (binR Prog .gtr 3 v57 (.int .i64 0) h58).bind fun v59 h60 =>
 condV (some v59) (
 (fieldAddrR Prog 115 v1 0 h60).bind fun v61 h62 =>
 (loadR Prog 31 v61 h62).bind fun v63 h64 =>
 (binR Prog .add 3 v19 (.int .i64 4) h64).bind fun v65 h66 =>
 (call F.ζ2 [v63,v65,(.int .i64 2)] h66).bind fun v67 h68 =>
 (fieldAddrR Prog 130 v51 2 h68).bind fun v69 h70 =>
 (storeR Prog 3 v69 v67 h70).bind fun _v71 h72 =>
 ζ94 k call v1 v3 v19 v51 h72)
 (
 ζ95 k call v1 v3 v19 v51 v59 h60))
theorem ζhr (k:Nat) (a0 a1:Value) (h:Heap):R (T k) F.ζi [a0,a1] h = nrm .gc h (ζi k (R (T k)) a0 a1 h) :=
 (R_body (t:=T k) (T_scott k) (by kernel_rfl) (by kernel_rfl) _ _).trans (by kernel_rfl)
theorem ζ6x (k:Nat) (call:Caller) (a2 a4 a5 a6:Value) (h:Heap):ζ94 k call a2 a4 a5 a6 h =
 (fieldAddrR Prog 115 a2 6 h).bind fun v73 h74 =>
 (loadR Prog 3 v73 h74).bind fun v75 h76 =>
 (binR Prog .gtr 3 v75 (.int .i64 1) h76).bind fun v77 h78 =>
 condV (some v77) (
 (fieldAddrR Prog 115 a2 0 h78).bind fun v79 h80 =>
 (loadR Prog 31 v79 h80).bind fun v81 h82 =>
 (binR Prog .add 3 a5 (.int .i64 6) h82).bind fun v83 h84 =>
 (call F.ζ2 [v81,v83,(.int .i64 2)] h84).bind fun v85 h86 =>
 (fieldAddrR Prog 130 a6 3 h86).bind fun v87 h88 =>
 (storeR Prog 3 v87 v85 h88).bind fun _v89 h90 =>
 ζ5j k call a4 a6 h90)
 (
 ζ5k k call a2 a4 a5 a6 v77 h78):=by kernel_rfl
theorem ζbt (k:Nat) (call:Caller) (a2 a4 a5 a6 a28:Value) (h:Heap):ζ95 k call a2 a4 a5 a6 a28 h =
 (fieldAddrR Prog 115 a2 6 h).bind fun v91 h92 =>
 (loadR Prog 3 v91 h92).bind fun v93 h94 =>
 (binR Prog .gtr 3 v93 (.int .i64 1) h94).bind fun v95 h96 =>
 condV (some v95) (
 (fieldAddrR Prog 115 a2 0 h96).bind fun v97 h98 =>
 (loadR Prog 31 v97 h98).bind fun v99 h100 =>
 (binR Prog .add 3 a5 (.int .i64 6) h100).bind fun v101 h102 =>
 (call F.ζ2 [v99,v101,(.int .i64 2)] h102).bind fun v103 h104 =>
 (fieldAddrR Prog 130 a6 3 h104).bind fun v105 h106 =>
 (storeR Prog 3 v105 v103 h106).bind fun _v107 h108 =>
 ζ5j k call a4 a6 h108)
 (
 ζ5k k call a2 a4 a5 a6 v95 h96):=by kernel_rfl
theorem ζbu (k:Nat) (call:Caller) (a4 a6:Value) (h:Heap):ζ5j k call a4 a6 h =
 (loadR Prog 130 a6 h).bind fun v109 h110 =>
 (storeR Prog 130 a4 v109 h110).bind fun _v111 h112 =>
 (loadR Prog 130 a4 h112).bind fun v113 h114 =>
 .ok v113 h114:=by kernel_rfl
theorem ζ6y (k:Nat) (call:Caller) (a2 a4 a5 a6 a37:Value) (h:Heap):ζ5k k call a2 a4 a5 a6 a37 h =
 (loadR Prog 130 a6 h).bind fun v115 h116 =>
 (storeR Prog 130 a4 v115 h116).bind fun _v117 h118 =>
 (loadR Prog 130 a4 h118).bind fun v119 h120 =>
 .ok v119 h120:=by kernel_rfl
def ζ5m (k:Nat) (call:Caller):Env → Heap → Res (AExit × Env):=loopB (C k) call F.ζ1g [1,1,0,1,0,0]
def ζ8i (k:Nat) (call:Caller):Kont Value:=kBlock 0 (kSeq (pieceK (C k) call F.ζ1g [1,1,1]) (kDone Prog (resOf Prog F.ζ1g)))
def ζ1g (k:Nat) (call:Caller) (a0 a1 a2 a3:Value) (h:Heap):Res Value :=
 (loopN (ζ5m k call) loopFuel [(0,a0),(1,a1),(2,a2),(3,a3),(9,(.int .i64 0)),(10,(.int .i64 0))] h).bind fun r1 h2 =>
 ζ8i k call r1.1 r1.2 h2
theorem ζhs (k:Nat) (a0 a1 a2 a3:Value) (h:Heap):R (T k) F.ζ1g [a0,a1,a2,a3] h = nrm .gc h (ζ1g k (R (T k)) a0 a1 a2 a3 h) :=
 (R_body (t:=T k) (T_scott k) (by kernel_rfl) (by kernel_rfl) _ _).trans (by kernel_rfl)
theorem ζ70 (k:Nat) (call:Caller) (a0 a1 a2 a3 a9 a10:Value) (h:Heap):ζ5m k call [(0,a0),(1,a1),(2,a2),(3,a3),(9,a9),(10,a10)] h =
 (binR Prog .lss 3 a10 a2 h).bind fun v3 h4 =>
 condV (some v3) (
 (binR Prog .mul 3 a10 a3 h4).bind fun v5 h6 =>
 (binR Prog .add 3 a1 v5 h6).bind fun v7 h8 =>
 (call F.ζ2 [a0,v7,(.int .i64 2)] h8).bind fun v9 h10 =>
 (binR Prog .add 3 v9 (.int .i64 1) h10).bind fun v11 h12 =>
 (builtinV Prog .max [3,3] [a9,v11] h12).bind fun v13 h14 =>
 (binR Prog .add 3 a10 (.int .i64 1) h14).bind fun v15 h16 =>
 .ok (.normal,[(0,a0),(1,a1),(2,a2),(3,a3),(9,v13),(10,v15)]) h16)
 (
 .ok ((.exit 0),[(0,a0),(1,a1),(2,a2),(3,a3),(9,a9),(10,a10),(13,v3)]) h4) :=
 (loopB_eq _ _).trans (by kernel_rfl)
theorem ζbc (k:Nat) (call:Caller) (a0 a1 a2 a3 a9 a10 a13:Value) (h:Heap):ζ8i k call (.exit 0) [(0,a0),(1,a1),(2,a2),(3,a3),(9,a9),(10,a10),(13,a13)] h =
 .ok a9 h:=by kernel_rfl
def ζ20 (k:Nat) (call:Caller) (a0 a1:Value) (h:Heap):Res Value :=
 (boxR a0 h).bind fun v1 h2 =>
 (binR Prog .eql 3 a1 (.int .i64 65535) h2).bind fun v3 h4 =>
 condV (some v3) (
 .ok (.int .i64 2) h4)
 (
 (fieldAddrR Prog 115 v1 7 h4).bind fun v5 h6 =>
 (loadR Prog 38 v5 h6).bind fun v7 h8 =>
 (call F.ζ28 [v7,a1] h8).bind fun v9 h10 =>
 (extractR v9 0 h10).bind fun v11 h12 =>
 (extractR v9 1 h12).bind fun v13 h14 =>
 (unR .not v13 h14).bind fun v15 h16 =>
 ((bif wantVal v15 false then Res.ok v11 h16 else Res.ok undef h16)).bind fun v17 h18 =>
 ((bif wantVal v15 false then fieldAddrR Prog 115 v1 1 h18 else Res.ok undef h18)).bind fun v19 h20 =>
 ((bif wantVal v15 false then loadR Prog 3 v19 h20 else Res.ok undef h20)).bind fun v21 h22 =>
 ((bif wantVal v15 false then binR Prog .geq 3 v17 v21 h22 else Res.ok undef h22)).bind fun v23 h24 =>
 (condV (some v15) (Res.ok (.bool true) h24) (Res.ok v23 h24)).bind fun v25 h26 =>
 condV (some v25) (
 .ok (.int .i64 1) h26)
 (
 .ok v11 h26))
theorem ζhq (k:Nat) (a0 a1:Value) (h:Heap):R (T k) F.ζ20 [a0,a1] h = nrm .gc h (ζ20 k (R (T k)) a0 a1 h) :=
 (R_body (t:=T k) (T_scott k) (by kernel_rfl) (by kernel_rfl) _ _).trans (by kernel_rfl)
def ζ1s (k:Nat) (call:Caller) (a0 a1 a2:Value) (h:Heap):Res Value :=
 (boxR a0 h).bind fun v1 h2 =>
 (allocR Prog 130 h2).bind fun v3 h4 =>
 (binR Prog .lss 3 a1 (.int .i64 0) h4).bind fun v5 h6 =>
 ((bif wantVal v5 false then Res.ok a1 h6 else Res.ok undef h6)).bind fun v7 h8 =>
 ((bif wantVal v5 false then fieldAddrR Prog 115 v1 4 h8 else Res.ok undef h8)).bind fun v9 h10 =>
 ((bif wantVal v5 false then loadR Prog 3 v9 h10 else Res.ok undef h10)).bind fun v11 h12 =>
 ((bif wantVal v5 false then binR Prog .geq 3 v7 v11 h12 else Res.ok undef h12)).bind fun v13 h14 =>
 (condV (some v5) (Res.ok (.bool true) h14) (Res.ok v13 h14)).bind fun v15 h16 =>
 ((bif wantVal v15 false then Res.ok a2 h16 else Res.ok undef h16)).bind fun v17 h18 =>
 ((bif wantVal v15 false then binR Prog .lss 3 v17 (.int .i64 0) h18 else Res.ok undef h18)).bind fun v19 h20 =>
 (condV (some v15) (Res.ok (.bool true) h20) (Res.ok v19 h20)).bind fun v21 h22 =>
 ((bif wantVal v21 false then Res.ok a2 h22 else Res.ok undef h22)).bind fun v23 h24 =>
 ((bif wantVal v21 false then fieldAddrR Prog 115 v1 1 h24 else Res.ok undef h24)).bind fun v25 h26 =>
 ((bif wantVal v21 false then loadR Prog 3 v25 h26 else Res.ok undef h26)).bind fun v27 h28 =>
 ((bif wantVal v21 false then binR Prog .geq 3 v23 v27 h28 else Res.ok undef h28)).bind fun v29 h30 =>
 (condV (some v21) (Res.ok (.bool true) h30) (Res.ok v29 h30)).bind fun v31 h32 =>
 condV (some v31) (
 (buildR Prog 130 [] h32).bind fun v33 h34 =>
 (storeR Prog 130 v3 v33 h34).bind fun _v35 h36 =>
 (loadR Prog 130 v3 h36).bind fun v37 h38 =>
 .ok (.tuple #[v37,(.bool false)]) h38)
 (
 (loadR Prog 115 v1 h32).bindN fun v39 h40 =>
 (fieldAddrR Prog 115 v1 0 h40).bindN fun v41 h42 =>
 (loadR Prog 31 v41 h42).bindN fun v43 h44 =>
 (fieldAddrR Prog 115 v1 2 h44).bindN fun v45 h46 =>
 (loadR Prog 3 v45 h46).bindN fun v47 h48 =>
 (fieldAddrR Prog 115 v1 1 h48).bindN fun v49 h50 =>
 (loadR Prog 3 v49 h50).bindN fun v51 h52 =>
 (binR Prog .mul 3 a1 v51 h52).bindN fun v53 h54 =>
 (binR Prog .add 3 v53 a2 h54).bindN fun v55 h56 =>
 (binR Prog .mul 3 (.int .i64 2) v55 h56).bindN fun v57 h58 =>
 (binR Prog .add 3 v47 v57 h58).bindN fun v59 h60 =>
 (call F.ζ2 [v43,v59,(.int .i64 2)] h60).bindT (fun p63 h64 => .panic p63 h64) fun v61 h62 =>
 (call F.ζi [v39,v61] h62).bindT (fun p67 h68 => chkR ((okVal (loadR Prog 115 v1 h62) v39 && true) && true) (.panic p67 h68)) fun v65 h66 =>
 (storeR Prog 130 v3 v65 h66).bindN fun _v69 h70 =>
 chkR ((okVal (loadR Prog 115 v1 h62) v39 && true) && true) (
 (loadR Prog 130 v3 h70).bind fun v71 h72 =>
 .ok (.tuple #[v71,(.bool true)]) h72))
theorem ζif (k:Nat) (a0 a1 a2:Value) (h:Heap):R (T k) F.ζ1s [a0,a1,a2] h = nrm .gc h (ζ1s k (R (T k)) a0 a1 a2 h) :=
 (R_body (t:=T k) (T_scott k) (by kernel_rfl) (by kernel_rfl) _ _).trans (by kernel_rfl)
end
end Go.Sw
end
