/-
  Functions' forms, and what is proved of them, part 3.
-/
import Derived.Test.YtanfippcmdialaaGreatSwW2
import Derived.Test.YtanfippcmdialaaGreatSwW1
import Derived.Test.YtanfippcmdialaaGreatSwLib9
import Derived.Test.YtanfippcmdialaaGreatSwCfg
import Derived.Test.YtanfippcmdialaaGreatSwLib8
set_option linter.unusedSimpArgs false
set_option linter.unusedVariables false
set_option linter.unusedSectionVars false
section
namespace Go.Sw
open Go.RowKit
abbrev encPt (p:Pt):List Value:=[.int .i64 p.first,.int .i64 p.last,lv encI p.vals]
theorem ζ8e (p:Pt):(encPt p).length = 3:=rfl
theorem ζje (l:List Pt):∀ p,p ∈ l → Flats (encPt p):=fun _ _ => .cons (.int _ _) (.cons (.int _ _) (.cons (Flat.I _) .nil))
theorem Flat.Pts (l:List Pt):Flat (Go.Sw.lv encPt l):=.lv (ζje l)
theorem ζdr (l:List Pt):∀ p,p ∈ l → ∀ v,v ∈ encPt p → Still v:=fun p _ v hv => by
 simp [encPt] at hv;rcases hv with rfl | rfl | rfl <;> trivial
theorem rd_vw {H:Heap} {v:Value} {b:List Int} (hv:Sl H 1 v encB b):Go.Sw.veq v v = true:=hv.veq fun n _ u hu => by simp at hu; subst hu; simp
theorem ζee (k:Nat) {H:Heap} {v:Value} {b:List Int} (hv:Sl H 1 v encB b) (hb:Byt b) (g z0:Value) (i z:Int) (hz:z = 1 ∨ z = 2 ∨ z = 4) (hl:b.length < 2 ^ 31) (hi:0 ≤ i ∧ i ≤ 4) :
  R (T k) F.ζ10 [.agg #[v,g,z0],.int .i64 i,.int .i64 z] H = orF (trimS b i z) (lv encPt) H:=by
 rw [ζ7h];have hx:Ext H (H.push ⟨[v,g,z0],1,false⟩):=(Ext.refl H).push _;have hq:=rd_vw hv;have hqa:veq (.agg #[v]) (.agg #[v]) = true:=veq_agg (l:=[v]) fun u hu => by simp at hu; subst hu; exact hq
 refine fz_orF ?_ fun _ _ => (Flat.Pts _).alive;simp -implicitDefEqProofs [ζ10];unfold trimS;refine Cp.callT (U16_run k (hv.up hx) hb i (by omega)) (fun _ => ⟨_,by simp -implicitDefEqProofs (disch:=omega) [hqa],hx⟩) fun f hf => ?_;have hf:=uS_two hb hf;simp -implicitDefEqProofs (disch:=omega);refine Cp.callT (U16_run k (hv.up hx) hb (i + 2) (by omega)) (fun _ => ⟨_,by simp -implicitDefEqProofs (disch:=omega) [hqa],hx⟩) fun n hn => ?_;have hn:=uS_two hb hn;simp -implicitDefEqProofs (disch:=omega) [hqa];refine Cp.need hx fun hfn => ?_;simp -implicitDefEqProofs (disch:=omega);refine Cp.callM (list_run k (hv.up hx) hb (i + 4) n z hz hl) hx fun vs hvs => ?_;by_cases h0:n = 0
 ·subst h0;simp -implicitDefEqProofs;exact .ok hx ⟨_,rfl⟩
 ·have h0':(n == 0) = false:=by simpa using h0
  simp -implicitDefEqProofs (disch:=omega) [h0,h0'];refine .ok (hx.push _) ?_;exact Own.freeze (l:=[⟨f,f + n - 1,vs⟩]) ζ8e (.inr ⟨H.n + 1,rfl,by omega,by rw [ζd _ _ _ (by simp)]; rfl⟩) (ζdr _) 6
def encPR (x:Pt × Value):List Value:=[.int .i64 x.1.first,.int .i64 x.1.last,x.2]
theorem ζia (x:Pt × Value):(encPR x).length = 3:=rfl
def InnerOk (H0 H:Heap) (x:Pt × Value):Prop:=x.2 = lv encI x.1.vals ∨ ∃ b,x.2 = .slice (some ⟨b,0,none⟩) x.1.vals.length x.1.vals.length ∧ H0.n ≤ b ∧ H.get b = some ⟨rows encI x.1.vals,1,false⟩
def PtsOwn (H0 H:Heap) (s:Value) (ps:List Pt):Prop:=∃ l:List (Pt × Value),l.map Prod.fst = ps ∧ Own H0 H 3 s encPR l ∧ ∀ x,x ∈ l → InnerOk H0 H x
theorem InnerOk.keep {H0 H H':Heap} {x:Pt × Value} (h:InnerOk H0 H x) (hk:∀ c k,H.get c = some k → k.esz ≠ 3 → H'.get c = some k):InnerOk H0 H' x:=by
 rcases h with h | ⟨b,h1,h2,h3⟩
 ·exact .inl h
 ·exact .inr ⟨b,h1,h2,hk b _ h3 (by simp)⟩
theorem InnerOk.fz {H0 H:Heap} {x:Pt × Value} (h:InnerOk H0 H x) (d:Nat):∃ L,mapF (fzV H0.n H (d + 2)) (encPR x) = some (encPt x.1,L):=by
 have h2:∃ L,fzV H0.n H (d + 2) x.2 = some (lv encI x.1.vals,L):=by
  rcases h with h | ⟨b,h1,h2,h3⟩
  ·rw [h]; exact ⟨[],rfl⟩
  ·exact Own.freeze encI_len (.inr ⟨b,h1,h2,h3⟩) (ζbv _) d
 obtain ⟨L,hL⟩:=h2;exact ⟨_,ζ1s (v:=.int .i64 x.1.first) (u:=.int .i64 x.1.first) (L1:=[]) rfl (ζ1s (v:=.int .i64 x.1.last) (u:=.int .i64 x.1.last) (L1:=[]) rfl (ζ1s hL (L2:=[]) rfl))⟩
theorem PtsOwn.nil (H0 H:Heap):PtsOwn H0 H (.slice none 0 0) []:=⟨[],rfl,Own.nil _ _ _,fun x h => by simp at h⟩
theorem PtsOwn.keep {H0 H H':Heap} {s:Value} {ps:List Pt} (h:PtsOwn H0 H s ps) (hx:Ext H H'):PtsOwn H0 H' s ps:=by
 obtain ⟨l,h1,h2,h3⟩:=h;exact ⟨l,h1,h2.up hx,fun x hm => (h3 x hm).keep fun c k hc _ => hx.get hc⟩
theorem PtsOwn.push {H0 H:Heap} {s:Value} {ps:List Pt} (h:PtsOwn H0 H s ps) (hx:Ext H0 H) (p:Pt) (u:Value) (hi:InnerOk H0 H (p,u)) (hl:ps.length < 2 ^ 31) :
  ∃ s' H',apR 3 40 s (.slice (some ⟨H.n,0,none⟩) 1 1) (H.push ⟨[.int .i64 p.first,.int .i64 p.last,u],3,false⟩) = .ok s' H' ∧ PtsOwn H0 H' s' (ps ++ [p]) ∧ Ext H0 H' ∧ ∀ c k,H.get c = some k → k.esz ≠ 3 → H'.get c = some k:=by
 obtain ⟨l,h1,h2,h3⟩:=h;subst h1;obtain ⟨s',H',e1,e2,e3,e4⟩:=apR_own (bytes:=40) ζia (b:=.slice (some ⟨H.n,0,none⟩) 1 1) (l2:=[(p,u)]) (h2.up ((Ext.refl H).push ⟨encPR (p,u),3,false⟩)) (hx.push _) rfl (by
  unfold firstV;dsimp only;rw [if_neg (by simp),ζ5h,ζd H ⟨encPR (p,u),3,false⟩ H.n rfl];rfl) (by simp at hl ⊢; omega) (by decide)
 have hk:∀ c k,H.get c = some k → k.esz ≠ 3 → H'.get c = some k:=fun c k hc hne => by
  have hlt:=Heap.get_lt hc;rw [e4 c (by simp; omega) fun o n m hs => ?_]
  ·rw [ζ1p _ _ _ hlt]; exact hc
  ·rcases h2 with ⟨_,h | h | h⟩ | ⟨b,h,_,hb⟩
   ·rw [h] at hs; simp at hs
   ·rw [h] at hs; simp [bareV] at hs
   ·rw [h] at hs; simp [emptyV] at hs
   ·rw [h] at hs;simp at hs;obtain ⟨⟨rfl,_⟩,_⟩:=hs;rw [hb] at hc;injection hc with hc;subst hc;exact hne rfl
 refine ⟨s',H',e1,⟨l ++ [(p,u)],by simp,e2,fun x hm => ?_⟩,e3,hk⟩;rcases List.mem_append.1 hm with hm | hm
 ·exact (h3 x hm).keep hk
 ·simp at hm;subst hm;exact hi.keep hk
theorem rows_fst (l:List (Pt × Value)):rows (fun x:Pt × Value => encPt x.1) l = rows encPt (l.map Prod.fst):=by
 induction l with
 | nil => rfl
 | cons x l ih => rw [List.map_cons,ζ35,ζ35,ih]
theorem PtsOwn.freeze {H0 H:Heap} {s:Value} {ps:List Pt} (h:PtsOwn H0 H s ps) (d:Nat):∃ L,fzV H0.n H (d + 3) s = some (lv encPt ps,L):=by
 obtain ⟨l,h1,h2,h3⟩:=h;subst h1;obtain ⟨L,hL⟩:=h2.freezeG (enc':=fun x:Pt × Value => encPt x.1) ζia (d + 1) fun x hm => (h3 x hm).fz d;refine ⟨L,hL.trans ?_⟩;unfold lv;rw [rows_fst];simp
theorem ζiw {H:Heap} {v:Value} {b:List Int} (hv:Sl H 1 v encB b) {i need:Int} {keys:Nat} {rows:List (List Int)} (h:takeS b i need keys = some rows) {j:Nat} {row:List Int} (hj:rows[j]? = some row) :
  ∃ u,(cutV (rowsV v b i) (rowZ b i) rows.length)[j]? = some u ∧ Sl H 1 u encB row:=by
 have hlt:=(List.getElem?_eq_some_iff.1 hj).1;refine ⟨_,cutV_get _ _ _ _ hlt,?_⟩;unfold takeS at h;split at h
 ·rename_i z n h1 h2;split at h
  ·rename_i hc;obtain ⟨r,hr,rfl⟩:=Option.map_eq_some_iff.1 h;have hn:=rowsS_n hr;have hrl:(r.length:Int) = n * z:=ζ2x (ζ20 hr);have hsl:=ζ34 hv (ζ20 hr);obtain ⟨z,rfl⟩:=Int.eq_ofNat_of_zero_le hn.2.1;obtain ⟨n,rfl⟩:=Int.eq_ofNat_of_zero_le hn.1;have hrl:r.length = n * z:=by exact_mod_cast hrl
   have e1:rowsV v b i = subV 1 v (i + 10).toNat ((n:Int) * z).toNat:=by unfold rowsV; rw [h1,h2]; rfl
   have e2:rowZ b i = z:=by unfold rowZ; rw [h1]; simp
   rw [e1,e2];simp only [Int.toNat_natCast] at hj hlt;have hm:(cutRows r z n)[j]? = some row:=by
    unfold endRows at hj;split at hj
    ·have hlt2:=(List.getElem?_eq_some_iff.1 hj).1;simp at hlt2;rw [ζ5d _ _ _ _ hlt2] at hj;rw [ζ5d _ _ _ _ (by omega)];exact hj
    ·exact hj
   have hlt2:=(List.getElem?_eq_some_iff.1 hm).1;simp at hlt2;rw [ζ5d _ _ _ _ hlt2] at hm;injection hm with hm;subst hm;exact cutV_sl hsl z n j hrl hlt2
  ·cases h
 ·cases h
theorem ζli (k:Nat) {H:Heap} {v:Value} {b:List Int} (hv:Sl H 1 v encB b) (hb:Byt b) (g:Value) (z:Int) (hz:z = 2 ∨ z = 4) (hl:b.length < 2 ^ 31) :
  R (T k) F.ζp [.agg #[v,g,.int .i64 z]] H = orF (oneS b z) (lv encPt) H:=by
 rw [ζ80];have hx:Ext H (H.push ⟨[v,g,.int .i64 z],1,false⟩):=(Ext.refl H).push _;refine fz_orF ?_ fun _ _ => (Flat.Pts _).alive;simp -implicitDefEqProofs (disch:=omega) [ζp];unfold oneS;refine Cp.call (Take_run k (hv.up hx) hb 2 (2 + z) 1 hl (by omega) (by omega) (by omega)) hx fun rows hrows => ?_;obtain ⟨zr,nr,hz1,hn1,hneed,hlen,hrow⟩:=ζ47 hb hrows;have hnr:=uS_two hb hn1;have hzr:=uS_two hb hz1;have htk:=fun H' (hx':Ext H H') j row (hj:rows[j]? = some row) => ζiw (hv.up hx') hrows hj;have hll:(cutV (rowsV v b 2) (rowZ b 2) rows.length).length = rows.length:=by simp
 generalize cutV (rowsV v b 2) (rowZ b 2) rows.length = us at htk hll;simp -implicitDefEqProofs (disch:=omega) [hll]
 refine Cp.bindL (Cp.mapLoop (oneP z) rows
  (fun i acc e H' => ∃ s,e = [(1,.pointer (some ⟨H.n,0,none⟩)),(3,s),(12,lv encW us),(13,.int .i64 rows.length),(14,.int .i64 i)] ∧ PtsOwn H H' s acc ∧ H'.get H.n = some ⟨[v,g,.int .i64 z],1,false⟩)
  (fun acc x e H' => x = .exit 0 ∧ ∃ s,e = [(1,.pointer (some ⟨H.n,0,none⟩)),(3,s),(12,lv encW us),(13,.int .i64 rows.length),(14,.int .i64 rows.length),(15,.bool false)] ∧ PtsOwn H H' s acc)
  (by omega) hx ⟨_,rfl,PtsOwn.nil _ _,ζd _ _ _ rfl⟩ ?_ ?_) ?_
 ·intro i row acc e H' hi ha hx' ⟨s,he,ho,hg⟩;subst he;have hilt:=(List.getElem?_eq_some_iff.1 hi).1;have hlt:(i:Int) < rows.length:=by omega
  obtain ⟨u,hu,hsu⟩:=htk H' hx' i row hi;have hrb:=hrow row (List.mem_of_getElem? hi);have hgn:H.n < H'.n:=Heap.get_lt hg;have hne:¬ H.n = H'.n:=by omega
  have hx1:Ext H' (H'.push ⟨[u],1,false⟩):=(Ext.refl H').push _;have hst:=hsu.storable;have hce:=hsu.cells;rw [ζ3b];simp -implicitDefEqProofs (disch:=omega) [hlt,ixS_lvN encW_len us .i64 i u hu];unfold oneP;refine Cp.call (U16_run k (hsu.up hx1) hrb.1 0 (by omega)) (hx'.trans hx1) fun id hid => ?_;simp -implicitDefEqProofs (disch:=omega) [hg,hne];refine Cp.callM (ζch k (hsu.up hx1) hrb.1 2 z (by omega) (by omega)) (hx'.trans hx1) fun n hn => ?_;have hx2:Ext H' ((H'.push ⟨[u],1,false⟩).push ⟨[.int .i64 n],1,false⟩):=hx1.push _;obtain ⟨s',H2,e1,e2,e3,e4⟩:=(ho.keep hx2).push (hx'.trans hx2) ⟨id,id,[n]⟩ (.slice (some ⟨H'.n + 1,0,none⟩) 1 1) (.inr ⟨H'.n + 1,rfl,by omega,by rw [ζd _ _ _ (by simp)]; rfl⟩) (by omega);simp at e1;simp -implicitDefEqProofs (disch:=omega) [e1];exact .ok e3 ⟨rfl,s',rfl,e2,e4 _ _ (hx2.get hg) (by simp)⟩
 ·intro acc e H' ha hx' ⟨s,he,ho,_⟩;subst he;refine ⟨.exit 0,_,H',?_,by simp,hx',rfl,s,rfl,ho⟩;rw [ζ3b];simp -implicitDefEqProofs
 ·rintro acc ⟨x,e⟩ H' _ hx' ⟨rfl,s,rfl,ho⟩;simp only [ζ66];exact .ok hx' (ho.freeze 5)
end Go.Sw
end
section
namespace Go.Sw
open Go.RowKit
set_option maxHeartbeats 1000000 in
theorem seg_step (k:Nat) {H H':Heap} {v:Value} {b:List Int} (hv:Sl H 1 v encB b) (hb:Byt b) (g:Value) (z:Int) (hz:z = 2 ∨ z = 4) (each:Bool) (hl:b.length < 2 ^ 31)
  (us:List Value) (n i:Nat) (row:List Int) (u:Value) (acc:List Pt) (s:Value) (hi:i < n) (hn31:n < 2 ^ 31) (hu:us[i]? = some u) (hn:acc.length < 2 ^ 31) (ho:PtsOwn H H' s acc) (hx':Ext H H') (hg:H'.get H.n = some ⟨[v,g,.int .i64 z],1,false⟩)
  (hsu:Sl H' 1 u encB row) (hrb:Byt row) (hrl:row.length < 65536) (hr4:each = false → 4 + z ≤ row.length) :
  Cp failV (Ext H) (ζ18 k (R (T k)) [(1,.bool each),(2,.pointer (some ⟨H.n,0,none⟩)),(6,s),(17,lv encW us),(18,.int .i64 n),(19,.int .i64 i)] H') (segP b z each row)
   fun y xe H' => xe.1 = .normal ∧ ∃ s,xe.2 = [(1,.bool each),(2,.pointer (some ⟨H.n,0,none⟩)),(6,s),(17,lv encW us),(18,.int .i64 n),(19,.int .i64 (i + 1:Nat))] ∧ PtsOwn H H' s (acc ++ [y]) ∧ H'.get H.n = some ⟨[v,g,.int .i64 z],1,false⟩:=by
 have hlt:(i:Int) < n:=by omega
 have hqv:=rd_vw hv;have hgn:H.n < H'.n:=Heap.get_lt hg;have hne:¬ H.n = H'.n:=by omega
 have hne1:¬ H.n = H'.n + 1:=by omega
 have hx1:Ext H' (H'.push ⟨[u],1,false⟩):=(Ext.refl H').push _;have hst:=hsu.storable;have hce:=hsu.cells;have hqu:=rd_vw hsu;have hqa:veq (.agg #[u]) (.agg #[u]) = true:=veq_agg (l:=[u]) fun w hw => by simp at hw; subst hw; exact hqu
 have hqb:veq (.agg #[v]) (.agg #[v]) = true:=veq_agg (l:=[v]) fun w hw => by simp at hw; subst hw; exact hqv
 rw [ζ2v];simp -implicitDefEqProofs (disch:=omega) [hlt,ixS_lvN encW_len us .i64 i u hu];unfold segP;refine Cp.callT (U16_run k (hsu.up hx1) hrb 2 (by omega)) (fun _ => ⟨_,by simp -implicitDefEqProofs (disch:=omega) [hqa],hx'.trans hx1⟩) fun f hf => ?_;have hf:=uS_two hrb hf;simp -implicitDefEqProofs (disch:=omega);refine Cp.callT (U16_run k (hsu.up hx1) hrb 0 (by omega)) (fun _ => ⟨_,by simp -implicitDefEqProofs (disch:=omega) [hqa],hx'.trans hx1⟩) fun l hl' => ?_;have hl':=uS_two hrb hl';simp -implicitDefEqProofs (disch:=omega) [hqa];have hx2:Ext H' ((H'.push ⟨[u],1,false⟩).push ⟨[.int .i64 f,.int .i64 l,.slice none 0 0],1,false⟩):=hx1.push _;refine Cp.need (hx'.trans hx2) fun hfl => ?_;cases each with
 | true =>
  simp -implicitDefEqProofs (disch:=omega) [hg,hne,hne1];refine Cp.callT (U16_run k (hsu.up hx2) hrb 4 (by omega)) (fun _ => ⟨_,by simp -implicitDefEqProofs (disch:=omega) [hg,hne,hne1],hx'.trans hx2⟩) fun at4 hat => ?_;have hat:=uS_two hrb hat;simp -implicitDefEqProofs (disch:=omega) [hg,hne,hne1];refine Cp.callTM (list_run k (hv.up (hx'.trans hx2)) hb at4 (l - f + 1) z (by omega) hl) (fun _ => ⟨_,by simp -implicitDefEqProofs (disch:=omega) [hqb,hg,hne,hne1],hx'.trans hx2⟩) fun vs hvs => ?_;have hx3:Ext H' ((H'.push ⟨[u],1,false⟩).push ⟨[.int .i64 f,.int .i64 l,lv encI vs],1,false⟩):=hx1.push _;obtain ⟨s',H2,e1,e2,e3,e4⟩:=(ho.keep hx3).push (hx'.trans hx3) ⟨f,l,vs⟩ (lv encI vs) (.inl rfl) (by omega);simp at e1;simp -implicitDefEqProofs (disch:=omega) [hqb,hg,hne,hne1,ζ2u,e1];exact .ok e3 ⟨rfl,s',rfl,e2,e4 _ _ (hx3.get hg) (by simp)⟩
 | false =>
  simp -implicitDefEqProofs (disch:=omega) [hg,hne,hne1];refine Cp.callM (ζch k (hsu.up hx2) hrb 4 z (by omega) (by omega)) (hx'.trans hx2) fun n hn => ?_;have hx3:Ext H' (((H'.push ⟨[u],1,false⟩).push ⟨[.int .i64 f,.int .i64 l,.slice (some ⟨H'.n + 2,0,none⟩) 1 1],1,false⟩).push ⟨[.int .i64 n],1,false⟩):=(hx1.push _).push _;obtain ⟨s',H2,e1,e2,e3,e4⟩:=(ho.keep hx3).push (hx'.trans hx3) ⟨f,l,[n]⟩ (.slice (some ⟨H'.n + 2,0,none⟩) 1 1) (.inr ⟨H'.n + 2,rfl,by omega,by rw [ζd _ _ _ (by simp)]; rfl⟩) (by omega);simp at e1;simp -implicitDefEqProofs (disch:=omega) [ζ2u,e1];exact .ok e3 ⟨rfl,s',rfl,e2,e4 _ _ (hx3.get hg) (by simp)⟩
theorem ζcv (k:Nat) {H:Heap} {v:Value} {b:List Int} (hv:Sl H 1 v encB b) (hb:Byt b) (g:Value) (z:Int) (hz:z = 2 ∨ z = 4) (each:Bool) (hl:b.length < 2 ^ 31) :
  R (T k) F.ζ5 [.agg #[v,g,.int .i64 z],.bool each] H = orF (segS b z each) (lv encPt) H:=by
 rw [ζ71];have hx:Ext H (H.push ⟨[v,g,.int .i64 z],1,false⟩):=(Ext.refl H).push _;have hqv:=rd_vw hv;refine fz_orF ?_ fun _ _ => (Flat.Pts _).alive;unfold segS;obtain ⟨need,hneed⟩:∃ need:Int,need = if each then 6 else 4 + z:=⟨_,rfl⟩
 have hnd:6 ≤ need:=by rw [hneed]; split <;> omega
 have hnd2:each = false → need = 4 + z:=fun h => by rw [hneed,h]; rfl
 rw [← hneed]
 have main:∀ rows,takeS b 2 need 2 = some rows →
   Cp failV (Ext H) ((loopN (ζ18 k (R (T k))) loopFuel [(1,.bool each),(2,.pointer (some ⟨H.n,0,none⟩)),(6,.slice none 0 0),(17,lv encW (cutV (rowsV v b 2) (rowZ b 2) rows.length)),(18,.int .i64 rows.length),(19,.int .i64 0)] (H.push ⟨[v,g,.int .i64 z],1,false⟩)).bind fun r h => ζ1m k (R (T k)) r.1 r.2 h)
    (mapO (segP b z each) rows) fun b v H' => ∃ L,fzV H.n H' fzDepth v = some (lv encPt b,L):=by
  intro rows hrows;obtain ⟨zr,nr,hz1,hn1,hneed,hlen,hrow⟩:=ζ47 hb hrows;have hnr:=uS_two hb hn1;have hzr:=uS_two hb hz1;have htk:=fun H' (hx':Ext H H') j row (hj:rows[j]? = some row) => ζiw (hv.up hx') hrows hj;have hll:(cutV (rowsV v b 2) (rowZ b 2) rows.length).length = rows.length:=by simp
  generalize cutV (rowsV v b 2) (rowZ b 2) rows.length = us at htk hll
  refine Cp.bindL (Cp.mapLoop (segP b z each) rows
   (fun i acc e H' => ∃ s,e = [(1,.bool each),(2,.pointer (some ⟨H.n,0,none⟩)),(6,s),(17,lv encW us),(18,.int .i64 rows.length),(19,.int .i64 i)] ∧ PtsOwn H H' s acc ∧ H'.get H.n = some ⟨[v,g,.int .i64 z],1,false⟩)
   (fun acc x e H' => x = .exit 0 ∧ ∃ s,e = [(1,.bool each),(2,.pointer (some ⟨H.n,0,none⟩)),(6,s),(17,lv encW us),(18,.int .i64 rows.length),(19,.int .i64 rows.length),(20,.bool false)] ∧ PtsOwn H H' s acc)
   (by omega) hx ⟨_,rfl,PtsOwn.nil _ _,ζd _ _ _ rfl⟩ ?_ ?_) ?_
  ·intro i row acc e H' hi ha hx' ⟨s,he,ho,hg⟩;subst he;have hilt:=(List.getElem?_eq_some_iff.1 hi).1;obtain ⟨u,hu,hsu⟩:=htk H' hx' i row hi;have hrb:=hrow row (List.mem_of_getElem? hi);exact seg_step k hv hb g z hz each hl us rows.length i row u acc s hilt (by omega) hu (by omega) ho hx' hg hsu hrb.1 (by omega) (fun h => by have:=hnd2 h; omega)
  ·intro acc e H' ha hx' ⟨s,he,ho,_⟩;subst he;refine ⟨.exit 0,_,H',?_,by simp,hx',rfl,s,rfl,ho⟩;rw [ζ2v];simp -implicitDefEqProofs
  ·rintro acc ⟨x,e⟩ H' _ hx' ⟨rfl,s,rfl,ho⟩;simp only [ζ5a];exact .ok hx' (ho.freeze 5)
 cases each with
 | true =>
  simp -implicitDefEqProofs (disch:=omega) [ζ5,ζ5m];have:need = 6:=hneed;subst this;refine Cp.call (Take_run k (hv.up hx) hb 2 6 2 hl (by omega) (by omega) (by omega)) hx fun rows hrows => ?_;have:=main rows hrows;simp -implicitDefEqProofs (disch:=omega);simpa using this
 | false =>
  simp -implicitDefEqProofs (disch:=omega) [ζ5,ζ5n];have:=hnd2 rfl;subst this;refine Cp.call (Take_run k (hv.up hx) hb 2 (4 + z) 2 hl (by omega) (by omega) (by omega)) hx fun rows hrows => ?_;have:=main rows hrows;simp -implicitDefEqProofs (disch:=omega);simpa using this
end Go.Sw
end
section
namespace Go.Sw
open Go.RowKit
theorem ζcn:∀ {ps:List Pt},risesS ps = true ↔ ∀ (i:Nat) (p q:Pt),ps[i]? = some p → ps[i + 1]? = some q → p.last < q.first
 | [] => by simp [risesS]
 | [a] => by simp [risesS]
 | a :: b :: l => by
  have ih:=ζcn (ps:=b :: l);simp only [risesS,Bool.and_eq_true,decide_eq_true_eq,ih];constructor
  ·intro ⟨h1,h2⟩ i p q hp hq;cases i with
   | zero => simp at hp hq; subst hp hq; exact h1
   | succ i => exact h2 i p q (by simpa using hp) (by simpa using hq)
  ·intro h;exact ⟨h 0 a b (by simp) (by simp),fun i p q hp hq => h (i + 1) p q (by simpa using hp) (by simpa using hq)⟩
abbrev tabV (x:Int × List Pt):Value:=boxV #[.int .i64 x.1,lv encPt x.2]
theorem Flat.tab (x:Int × List Pt):Flat (tabV x):=.boxV (l:=[.int .i64 x.1,Go.Sw.lv encPt x.2]) (.cons (.int _ _) (.cons (Flat.Pts _) .nil))
theorem take_j1 (k:Nat) {H0 H:Heap} (p:Nat) (fmt:Int) (s:Value) (ps:List Pt) (hp:H0.n ≤ p) (hx:Ext H0 H) (hg:H.get p = some ⟨[.int .i64 fmt,s],1,false⟩) (hlen:ps.length < 2 ^ 31)
  (hs:s = lv encPt ps ∨ ps.length = 1 ∧ ∃ a c,s = .slice a 1 c) (hf:∃ L,fzV H0.n H 7 s = some (lv encPt ps,L)) :
  Cp failV (Ext H0) (ζ1l k (R (T k)) (.pointer (some ⟨p,0,none⟩)) H) (if risesS ps then some (fmt,ps) else none) fun x v H' => ∃ L,fzV H0.n H' fzDepth v = some (tabV x,L):=by
 have hln:∀ H',lnS s H' = .ok (.int .i64 ps.length) H':=fun H' => by
  rcases hs with rfl | ⟨h,a,c,rfl⟩
  ·rfl
  ·rw [h]; rfl
 have hfp:∃ L,fzV H0.n H fzDepth (.pointer (some ⟨p,0,none⟩)) = some (tabV (fmt,ps),L):=by
  obtain ⟨L,hL⟩:=hf;have hlt:Nat.blt p H0.n = false:=by
   cases hb:Nat.blt p H0.n with
   | false => rfl
   | true => have:=Nat.le_of_ble_eq_true hb; omega
  refine ⟨p :: ([] ++ (L ++ [])),?_⟩;show fzV H0.n H 8 _ = _;unfold fzV;dsimp only;rw [hlt,cond_false,hg];show (bif false || !Nat.ble 0 2 then none else (mapF (fzV H0.n H 7) [.int .i64 fmt,s]).map fun r => (boxV r.1.toArray,p :: r.2)) = _;rw [show (false || !Nat.ble 0 2) = false from rfl,cond_false,ζ1s (u:=.int .i64 fmt) (L1:=[]) rfl (ζ1s hL (L2:=[]) rfl)];rfl
 rw [ζb5];obtain ⟨N,hN⟩:∃ N,N = max 1 ps.length:=⟨_,rfl⟩
 rcases loop_upP (body:=ζ6z k (R (T k))) N
  (fun j e H' => 1 ≤ j ∧ H' = H ∧ e = [(8,.pointer (some ⟨p,0,none⟩)),(10,.int .i64 j)] ∧ ∀ (i:Nat) (x y:Pt),i + 1 < j → ps[i]? = some x → ps[i + 1]? = some y → x.last < y.first)
  (fun x e H' => H' = H ∧ x = .exit 1 ∧ (∃ a,e = [(8,.pointer (some ⟨p,0,none⟩)),(10,a),(93,.bool false)]) ∧ risesS ps = true)
  (fun v H' => v = failV ∧ H' = H ∧ risesS ps = false)
  (fun j e H' hj ⟨h1,hH,he,hall⟩ => by
   subst hH he;have hjl:j < ps.length:=by omega
   obtain ⟨y,hy⟩:∃ y,ps[j]? = some y:=⟨_,List.getElem?_eq_getElem hjl⟩
   obtain ⟨x,hx'⟩:∃ x,ps[j - 1]? = some x:=⟨_,List.getElem?_eq_getElem (by omega)⟩
   rcases hs with rfl | ⟨h,_⟩
   rotate_left
   ·omega
   have hlt:(j:Int) < ps.length:=by omega
   have i1:=fun H' => ixS_lvN ζ8e ps .i64 j y hy H';have i2:=fun H' => ixS_lv ζ8e ps .i64 ((j:Int) - 1) x (by omega) (by rw [show ((j:Int) - 1).toNat = j - 1 by omega]; exact hx') H';rw [ζ7d];by_cases hxy:x.last < y.first
   ·refine .inl ⟨_,H',by simp -implicitDefEqProofs (disch:=omega) [hg,hlt,i1,i2,hxy,ζ9h],by omega,rfl,rfl,fun i a b hi ha hb => ?_⟩;by_cases hij:i + 1 = j
    ·subst hij;simp only [Nat.add_sub_cancel] at hx';rw [hx'] at ha; rw [hy] at hb;injection ha with ha; injection hb with hb;subst ha hb;exact hxy
    ·exact hall i a b (by omega) ha hb
   ·refine .inr (.inr ⟨failV,H',by simp -implicitDefEqProofs (disch:=omega) [hg,hlt,i1,i2,hxy,ζ6k],rfl,rfl,?_⟩);cases hr:risesS ps with
    | false => rfl
    | true => exact absurd (ζcn.1 hr (j - 1) x y hx' (by rw [show j - 1 + 1 = j by omega]; exact hy)) hxy)
  (fun e H' ⟨h1,hH,he,hall⟩ => by
   subst hH he;have hge:¬ (N:Int) < ps.length:=by omega
   rw [ζ7d];refine .inl ⟨.exit 1,_,H',by simp -implicitDefEqProofs (disch:=omega) [hg,hln,hge],by simp,rfl,rfl,⟨.int .i64 N,rfl⟩,?_⟩;refine ζcn.2 fun i x y hx hy => hall i x y ?_ hx hy;have:=(List.getElem?_eq_some_iff.1 hy).1;omega)
  loopFuel 1 [(8,.pointer (some ⟨p,0,none⟩)),(10,.int .i64 1)] H (by omega) (by unfold loopFuel; omega) ⟨by omega,rfl,rfl,fun i x y h => by omega⟩ with ⟨x,e',H',hr,rfl,rfl,⟨a,rfl⟩,hri⟩ | ⟨v,H',hr,rfl,rfl,hri⟩
 ·rw [hr,hri];simp only [Res.bind_ok,ζac,if_true];exact .ok hx hfp
 ·rw [hr,hri];exact .throw hx
theorem ζce (k:Nat) {H:Heap} {v:Value} {b:List Int} (hv:Sl H 1 v encB b) (hb:Byt b) (g z:Int) (hg1:1 ≤ g) (hg2:g ≤ 65535) (hz:z = 2 ∨ z = 4) (hl:b.length < 2 ^ 31) :
  R (T k) F.ζ1g [.agg #[v],.int .i64 g,.int .i64 z] H = orF (lookS b g z) tabV H:=by
 rw [ζgd];have hx0:Ext H (H.push ⟨[v],1,false⟩):=(Ext.refl H).push _;have hx1:Ext H ((H.push ⟨[v],1,false⟩).push ⟨[v,.int .i64 g,.int .i64 z],1,false⟩):=hx0.push _;have hst:=hv.storable;have hce:=hv.cells;refine fz_orF ?_ fun x _ => (Flat.tab x).alive;simp -implicitDefEqProofs (disch:=omega) [ζ1g,hst,hce];unfold lookS;refine Cp.call (U16_run k (hv.up hx1) hb 0 (by omega)) hx1 fun fmt hfmt => ?_;have hfmt:=uS_two hb hfmt;have hx2:Ext H (((H.push ⟨[v],1,false⟩).push ⟨[v,.int .i64 g,.int .i64 z],1,false⟩).push ⟨[.int .i64 fmt,.slice none 0 0],1,false⟩):=hx1.push _;have fin:∀ ps:List Pt,ps.length < 2 ^ 31 → Cp failV (Ext H) (ζ1l k (R (T k)) (.pointer (some ⟨H.n + 2,0,none⟩)) (((H.push ⟨[v],1,false⟩).push ⟨[v,.int .i64 g,.int .i64 z],1,false⟩).push ⟨[.int .i64 fmt,lv encPt ps],1,false⟩)) (if risesS ps then some (fmt,ps) else none) fun x v H' => ∃ L,fzV H.n H' fzDepth v = some (tabV x,L):=fun ps hps =>
  take_j1 k _ fmt _ ps (by omega) (hx1.push _) (ζd _ _ _ (by simp)) hps (.inl rfl) ⟨_,rfl⟩
 by_cases h0:fmt = 0
 ·subst h0;simp -implicitDefEqProofs (disch:=omega);unfold partsS;rw [if_pos rfl,Option.bind_map];refine Cp.call (list_run k (hv.up hx2) hb 2 g z (by omega) hl) hx2 fun vs hvs => ?_;simp -implicitDefEqProofs (disch:=omega);have hx3:Ext H ((((H.push ⟨[v],1,false⟩).push ⟨[v,.int .i64 g,.int .i64 z],1,false⟩).push ⟨[.int .i64 0,.slice (some ⟨H.n + 3,0,none⟩) 1 1],1,false⟩).push ⟨[.int .i64 0,.int .i64 (g - 1),lv encI vs],3,false⟩):=(hx1.push _).push _;refine take_j1 k (H.n + 2) 0 (.slice (some ⟨H.n + 3,0,none⟩) 1 1) [⟨0,g - 1,vs⟩] (by omega) hx3 (by rw [ζ1p _ _ _ (by simp),ζd _ _ _ (by simp)]) (by simp) (.inr ⟨rfl,_,_,rfl⟩) ?_;exact Own.freeze (l:=[⟨0,g - 1,vs⟩]) ζ8e (.inr ⟨H.n + 3,rfl,by omega,by rw [ζd _ _ _ (by simp)]; rfl⟩) (ζdr _) 5
 have h0':(fmt == 0) = false:=by simpa using h0
 have segl:∀ {each ps},segS b z each = some ps → ps.length < 2 ^ 31:=fun {each ps} h => by
  obtain ⟨rows,h1,h2⟩:=Option.bind_eq_some_iff.1 h;obtain ⟨_,n,_,hn,_,hlen,_⟩:=ζ47 hb h1;have:=uS_two hb hn;have:=mapO_len h2;omega
 by_cases h2:fmt = 2
 ·subst h2;simp -implicitDefEqProofs (disch:=omega);unfold partsS;rw [if_neg h0,if_pos rfl];refine Cp.call (ζcv k (hv.up hx2) hb (.int .i64 g) z hz false hl) hx2 fun ps hps => ?_;simp -implicitDefEqProofs (disch:=omega);exact fin ps (segl hps)
 have h2':(fmt == 2) = false:=by simpa using h2
 by_cases h4:fmt = 4
 ·subst h4;simp -implicitDefEqProofs (disch:=omega);unfold partsS;rw [if_neg h0,if_neg h2,if_pos rfl];refine Cp.call (ζcv k (hv.up hx2) hb (.int .i64 g) z hz true hl) hx2 fun ps hps => ?_;simp -implicitDefEqProofs (disch:=omega);exact fin ps (segl hps)
 have h4':(fmt == 4) = false:=by simpa using h4
 by_cases h6:fmt = 6
 ·subst h6;simp -implicitDefEqProofs (disch:=omega);unfold partsS;rw [if_neg h0,if_neg h2,if_neg h4,if_pos rfl];refine Cp.call (ζli k (hv.up hx2) hb (.int .i64 g) z hz hl) hx2 fun ps hps => ?_;simp -implicitDefEqProofs (disch:=omega);refine fin ps ?_;obtain ⟨rows,h1,h2⟩:=Option.bind_eq_some_iff.1 hps;obtain ⟨_,n,_,hn,_,hlen,_⟩:=ζ47 hb h1;have:=uS_two hb hn;have:=mapO_len h2;omega
 have h6':(fmt == 6) = false:=by simpa using h6
 have triml:∀ {i z ps},trimS b i z = some ps → ps.length < 2 ^ 31:=fun {i z ps} h => by
  obtain ⟨f,_,h⟩:=Option.bind_eq_some_iff.1 h;obtain ⟨n,_,h⟩:=Option.bind_eq_some_iff.1 h;split at h
  ·obtain ⟨vs,_,rfl⟩:=Option.map_eq_some_iff.1 h;split <;> simp
  ·cases h
 by_cases h8:fmt = 8
 ·subst h8;simp -implicitDefEqProofs (disch:=omega);unfold partsS;rw [if_neg h0,if_neg h2,if_neg h4,if_neg h6,if_pos rfl];refine Cp.call (ζee k (hv.up hx2) hb (.int .i64 g) (.int .i64 z) 2 z (by omega) hl (by omega)) hx2 fun ps hps => ?_;simp -implicitDefEqProofs (disch:=omega);exact fin ps (triml hps)
 have h8':(fmt == 8) = false:=by simpa using h8
 by_cases h10:fmt = 10
 ·subst h10;simp -implicitDefEqProofs (disch:=omega);unfold partsS;rw [if_neg h0,if_neg h2,if_neg h4,if_neg h6,if_neg h8,if_pos rfl,Option.bind_assoc];refine Cp.call (U16_run k (hv.up hx2) hb 2 (by omega)) hx2 fun u hu => ?_;by_cases hu4:u = 1 ∨ u = 2 ∨ u = 4
  ·rw [if_pos hu4];have hb4:(R (T k) F.ζ1n [.bool true] (((H.push ⟨[v],1,false⟩).push ⟨[v,.int .i64 g,.int .i64 z],1,false⟩).push ⟨[.int .i64 10,.slice none 0 0],1,false⟩)) = .ok (.tuple #[]) _:=ζ9h k _;have ht:=fun ps hps => triml (i:=4) (z:=u) (ps:=ps) hps;rcases hu4 with rfl | rfl | rfl <;>
   ·simp -implicitDefEqProofs (disch:=omega) [hb4];refine Cp.call (ζee k (hv.up hx2) hb (.int .i64 g) (.int .i64 z) 4 _ (by omega) hl (by omega)) hx2 fun ps hps => ?_;simp -implicitDefEqProofs (disch:=omega);exact fin ps (ht ps hps)
  ·rw [if_neg hu4];have e1:(u == 1) = false:=by simp; omega
   have e2:(u == 2) = false:=by simp; omega
   have e3:(u == 4) = false:=by simp; omega
   simp -implicitDefEqProofs (disch:=omega) [e1,e2,e3,ζ6k];exact .throw hx2
 have h10':(fmt == 10) = false:=by simpa using h10
 simp -implicitDefEqProofs (disch:=omega) [h0',h2',h4',h6',h8',h10'];unfold partsS;rw [if_neg h0,if_neg h2,if_neg h4,if_neg h6,if_neg h8,if_neg h10];exact .throw hx2
end Go.Sw
end
section
namespace Go.Sw
open Go.RowKit
theorem tryV_np {short:TypeId} {call:Caller} {args:List Value} {H:Heap} {v:Value} {H':Heap}:tryV short call args H ≠ .panic v H':=by
 unfold tryV;split
 ·rename_i g f c;cases call g (f.toList ++ c.toList) H with
  | stuck => simp [Res.bindP]
  | ok a H => simp [Res.bindP]
  | panic a H =>
   simp only [Res.bindP];split
   ·rename_i t xs;cases Nat.beq t short && Nat.beq xs.size 0 <;> simp
   ·simp
 ·simp
theorem Try_R (k:Nat) (f:Value) (H:Heap):R (T k) F.view_Try [f] H = tryV shortT (R (T k)) [f] H :=
 ((R_sp (t:=T k) (T_scott k) (s:=tryV shortT) (by kernel_rfl) [f] H).trans (by
  show nrm Mode.no H _ = _;cases h:tryV shortT (R (T k)) [f] H with
  | ok a H => rfl
  | stuck => rfl
  | panic a H => exact absurd h tryV_np))
theorem Try_ok (k:Nat) (g:FuncId) (cap:Array Value) {H H':Heap} {v:Value} (h:R (T k) g cap.toList H = .ok v H'):R (T k) F.view_Try [.func (.func g) #[] cap] H = .ok (.bool true) H':=by
 rw [Try_R];unfold tryV;simp [h,Res.bindP]
theorem Try_no (k:Nat) (g:FuncId) (cap:Array Value) {H H':Heap} (h:R (T k) g cap.toList H = .panic failV H'):R (T k) F.view_Try [.func (.func g) #[] cap] H = .ok (.bool false) H':=by
 rw [Try_R];unfold tryV;simp [h,Res.bindP]
def lookV (o:Option (Int × List Pt)):Value:=match o with | some x => tabV x | none => .pointer none
theorem ζgc (o:Option (Int × List Pt)):Flat (lookV o):=by
 cases o with
 | none => exact .nilPtr
 | some x => exact Flat.tab x
end Go.Sw
end
section
namespace Go.Sw
open Go.RowKit
theorem at_run (k:Nat) (p:Pt) (hp:p.ok) (id:Int) (hf:p.first ≤ id) (hi:id ≤ p.last) (H:Heap):R (T k) F.ζ33 [.agg #[.int .i64 p.first,.int .i64 p.last,lv encI p.vals],.int .i64 id] H = .ok (.int .i64 ((p.num id).getD 0)) H:=by
 rw [ζcf];obtain ⟨x,hx,_⟩:=Pt.num_some hp hf;obtain ⟨h1,h2,h3,h4,h5,h6⟩:=hp;have hl:0 < p.vals.length:=List.length_pos_iff.2 h4;refine nrm_gc ⟨_,?_,(Ext.refl H).push ⟨[.int .i64 p.first,.int .i64 p.last,lv encI p.vals],1,false⟩⟩ (.int _ _);unfold Pt.num at hx ⊢;obtain ⟨m,hm⟩:∃ m:Int,m = (if (p.vals.length:Int) - 1 < id - p.first then (p.vals.length:Int) - 1 else id - p.first):=⟨_,rfl⟩
 have hm2:min (id - p.first) ((p.vals.length:Int) - 1) = m:=by rw [hm]; split <;> omega
 rw [hm2] at hx ⊢;have hm0:0 ≤ m:=by rw [hm]; split <;> omega
 have hix:=fun H' => ixS_lv encI_len p.vals .i64 m x hm0 hx H';simp only [hx,Option.getD_some];simp -implicitDefEqProofs (disch:=omega) [ζ33,← hm,hix]
theorem ζj1 (k:Nat) {H:Heap} (x:Int × List Pt) (id:Int) (p1 p2:Nat) (h1:H.get p1 = some ⟨[tabV x],1,false⟩) (h2:H.get p2 = some ⟨[.int .i64 id],1,false⟩) (j:Nat) (p:Pt) (hj:x.2[j]? = some p) :
  R (T k) F.ζ17 [.int .i64 j,.pointer (some ⟨p1,0,none⟩),.pointer (some ⟨p2,0,none⟩)] H = .ok (.bool (decide (id ≤ p.last))) H:=by
 rw [ζ7z];refine nrm_gc (Pure.of ?_) (.bool _);have i1:=fun H' => ixS_lvN ζ8e x.2 .i64 j p hj H';simp -implicitDefEqProofs (disch:=omega) [ζ17,h1,h2,i1]
theorem Get_run (k:Nat) (x:Int × List Pt) (hok:∀ p,p ∈ x.2 → p.ok) (hr:risesS x.2 = true) (id:Int) (hl:x.2.length < 2 ^ 31) (H:Heap) :
  R (T k) F.ζ14 [tabV x,.int .i64 id] H = .ok (.tuple #[.int .i64 ((getS x.2 id).getD 0),.bool (getS x.2 id).isSome]) H:=by
 rw [ζab];obtain ⟨fmt,ps⟩:=x;dsimp only at hok hr hl ⊢;have hx:Ext H ((H.push ⟨[tabV (fmt,ps)],1,false⟩).push ⟨[.int .i64 id],1,false⟩):=((Ext.refl H).push _).push _;have hmono:∀ i j:Nat,i ≤ j → j < ps.length → (ps[i]?).elim false (fun p => decide (id ≤ p.last)) = true → (ps[j]?).elim false (fun p => decide (id ≤ p.last)) = true:=by
  intro i j hij hj hi;by_cases he:i = j
  ·subst he; exact hi
  ·obtain ⟨p,hp⟩:∃ p,ps[i]? = some p:=⟨_,List.getElem?_eq_getElem (by omega)⟩
   obtain ⟨q,hq⟩:∃ q,ps[j]? = some q:=⟨_,List.getElem?_eq_getElem hj⟩
   have h1:=ζcm hr hok i j p q (by omega) hp hq;have h2:=(hok q (List.mem_of_getElem? hq)).2.1;rw [hp] at hi;rw [hq];simp at hi ⊢;omega
 obtain ⟨i,hfi⟩:=ζky ps.length (fun j => (ps[j]?).elim false fun p => decide (id ≤ p.last)) hmono
 have hfirst:=ζlw k ps.length (.func (.func F.ζ17) #[] #[.pointer (some ⟨H.n,0,none⟩),.pointer (some ⟨H.n + 1,0,none⟩)]) (fun j => (ps[j]?).elim false fun p => decide (id ≤ p.last)) ((H.push ⟨[tabV (fmt,ps)],1,false⟩).push ⟨[.int .i64 id],1,false⟩) (by omega)
  (fun j hj => by
   obtain ⟨p,hp⟩:∃ p,ps[j]? = some p:=⟨_,List.getElem?_eq_getElem hj⟩
   have:=ζj1 k (H:=(H.push ⟨[tabV (fmt,ps)],1,false⟩).push ⟨[.int .i64 id],1,false⟩) (fmt,ps) id H.n (H.n + 1) (by simp) (by simp) j p hp;simp only [callV,List.nil_append,List.cons_append];rw [hp];simpa using this)
  hmono i hfi
 rw [ζkv id i hfi];have hle:=hfi.1;by_cases hil:i < ps.length
 ·obtain ⟨p,hp⟩:∃ p,ps[i]? = some p:=⟨_,List.getElem?_eq_getElem hil⟩
  have hpok:=hok p (List.mem_of_getElem? hp);have hne:((i:Int) == (ps.length:Int)) = false:=by simp; omega
  have i1:=fun H' => ixS_lvN ζ8e ps .i64 i p hp H';have hlast:id ≤ p.last:=by
   have:=hfi.2.2 i (Nat.le_refl _) hil;simp only [hp] at this;simpa using this
  rw [hp];by_cases hf:p.first ≤ id
  ·have hgt:¬ p.first > id:=by omega
   obtain ⟨y,hy,_⟩:=Pt.num_some hpok hf;have hat:=at_run k p hpok id hf hlast ((H.push ⟨[tabV (fmt,ps)],1,false⟩).push ⟨[.int .i64 id],1,false⟩);refine nrm_gc ⟨_,?_,hx⟩ (Flat.tupleL (l:=[_,_]) (.cons (.int _ _) (.cons (.bool _) .nil))).alive;simp only [Option.bind_some,if_pos hf];rw [hy] at hat ⊢;simp -implicitDefEqProofs (disch:=omega) [ζ14,hfirst,hne,i1,hgt,hat]
  ·have hgt:p.first > id:=by omega
   refine nrm_gc ⟨_,?_,hx⟩ (Flat.tupleL (l:=[_,_]) (.cons (.int _ _) (.cons (.bool _) .nil))).alive;simp only [Option.bind_some,if_neg hf];simp -implicitDefEqProofs (disch:=omega) [ζ14,hfirst,hne,i1,hgt]
 ·have e:i = ps.length:=by omega
  subst e;refine nrm_gc ⟨_,?_,hx⟩ (Flat.tupleL (l:=[_,_]) (.cons (.int _ _) (.cons (.bool _) .nil))).alive;simp -implicitDefEqProofs (disch:=omega) [ζ14,hfirst]
end Go.Sw
end
section
namespace Go.Sw
open Go.RowKit
section
variable {α:Type} {enc:α → List Value}
end
section
variable {α:Type} {enc:α → List Value}
theorem Sl.lenL {H:Heap} {m:Nat} {v:Value} {l:List α} (h:Sl H m v enc l):Go.Sw.lenL v = some l.length:=by
 rcases h with rfl | ⟨rfl,rfl | rfl | rfl⟩ | ⟨b,off,cap,k,rfl,_⟩ <;> rfl
theorem Sl.first {H:Heap} {m:Nat} {v:Value} {l:List α} (he:∀ x,(enc x).length = m) (h:Sl H m v enc l):firstV m l.length v H = some (rows enc l):=by
 rcases h with rfl | ⟨rfl,rfl | rfl | rfl⟩ | ⟨b,off,cap,k,rfl,hc,hk,hr⟩
 ·exact lv_first he l H
 ·rfl
 ·rfl
 ·rfl
 ·unfold firstV;dsimp only;have hl:=ζe he l;split
  ·rename_i h0;rw [List.length_eq_zero_iff.1 (hl.trans h0)]
  ·rename_i h0;rw [ζ5h,hk,Option.bind_some,hr,if_pos];have:=congrArg List.length hr;rw [hl] at this;simp at this;omega
theorem Sl.rd {H:Heap} {m:Nat} (hm:0 < m) {v:Value} {l:List α} (he:∀ x,(enc x).length = m) (h:Sl H m v enc l):Rd H m v enc l:=by
 have hlen:=h.len;rcases h with rfl | ⟨rfl,_⟩ | ⟨b,off,cap,k,rfl,hc,hk,hr⟩
 ·exact Rd.lv he H l
 ·exact ⟨hlen,fun i x hx => by simp at hx⟩
 ·refine ⟨hlen,fun i x hx => ?_⟩;have hi:=(List.getElem?_eq_some_iff.1 hx).1;refine ⟨.pointer (some ⟨b,off + i * m,none⟩),fun k H' => ζev m b off l.length cap k i H' hi,?_⟩;have hl:=ζe he l;have hle:i * m + m ≤ l.length * m:=by rw [← Nat.succ_mul]; exact Nat.mul_le_mul_right _ hi
  have hkl:=congrArg List.length hr;rw [hl] at hkl;have hpos:0 < l.length * m:=Nat.mul_pos (by omega) hm;rw [List.length_take,List.length_drop] at hkl;have hfit:off + i * m + m ≤ k.cells.length:=by omega
  simp only [ldA_ptr,hk,Option.bind_some];rw [if_pos hfit];have:=rows_at he l i x hx;rw [← hr,List.drop_take,List.take_take,List.drop_drop] at this;rw [show min m (l.length * m - i * m) = m by omega] at this;rw [this];rfl
theorem Star.more_own {H0 H H':Heap} {L:List It} (h:Star H0 H L) {m:Nat} {s:Value} {l:List α} (ho:Own H H' m s enc l) (he:Ext H H'):∃ o,Star H0 H' (L ++ [itRow o m s enc l]):=by
 obtain ⟨o,h1,h2⟩:=ho.toO;exact ⟨o,h.more_row he h1 fun b hb => ⟨h2 b hb,h1.lt b hb⟩⟩
end
theorem at2_0 (L:List It) (a b:It):(L ++ [a,b])[L.length]? = some a:=by simp
theorem at2_1 (L:List It) (a b:It):(L ++ [a,b])[L.length + 1]? = some b:=by rw [List.getElem?_append_right (by omega)]; simp
theorem set2_0 (L:List It) (a b x:It):(L ++ [a,b]).set L.length x = L ++ [x,b]:=by rw [List.set_append_right _ _ (by omega)]; simp
theorem set2_1 (L:List It) (a b x:It):(L ++ [a,b]).set (L.length + 1) x = L ++ [a,x]:=by rw [List.set_append_right _ _ (by omega)]; simp
theorem ζ2j {α:Type} {l:List α} {j:Nat} {p:α} (h:l[j]? = some p):l.take (j + 1) = l.take j ++ [p]:=by
 rw [List.take_add_one,h]; rfl
theorem nrm_of {H H':Heap} {r:Res Value} {v:Value} (h:r = .ok v H'):nrm .no H r = .ok v H':=by rw [h]; rfl
theorem Star.join2 {α:Type} {enc:α → List Value} {H0 H:Heap} {L:List It} {o:Option Nat} {m c:Nat} {s:Value} {l:List α} (pre:List Value) (h:Star H0 H (L ++ [itRow o m s enc l,itBlk c ⟨pre ++ [s],1,false⟩])):Star H0 H (L ++ [itBox c pre o m enc l]):=by
 have g:=h.join L.length (L.length + 1) (L.length + 1) (by omega) (by omega) (at2_0 _ _ _) (at2_1 _ _ _);rw [show L ++ [itRow o m s enc l,itBlk c ⟨pre ++ [s],1,false⟩] = (L ++ [itRow o m s enc l]) ++ [itBlk c ⟨pre ++ [s],1,false⟩] by simp,List.take_left' (by simp),ζle] at g;exact g
theorem fz_box {n0:Nat} {H:Heap} {d c e:Nat} {cells r:List Value} {L:List Nat} (hn:n0 ≤ c) (hc:H.get c = some ⟨cells,e,false⟩) (h:mapF (fzV n0 H d) cells = some (r,L)):fzV n0 H (d + 1) (.pointer (some ⟨c,0,none⟩)) = some (boxV r.toArray,c :: L):=by
 have h1:Nat.blt c n0 = false:=by
  cases hb:Nat.blt c n0 with
  | false => rfl
  | true => exact absurd (Nat.le_of_ble_eq_true hb) (by omega)
 simp only [fzV,h1,cond_false,hc,List.drop_zero,h];rfl
theorem mapF_one {f:Value → Option (Value × List Nat)} {v u:Value} {L:List Nat} (h:f v = some (u,L)):mapF f [v] = some ([u],L):=by
 have:=ζ1s (f:=f) h mapF_nil;simpa using this
end Go.Sw
end
section
set_option maxRecDepth 100000
set_option linter.unusedVariables false
namespace Go.Sw
noncomputable section
def ζa9 (k:Nat) (call:Caller):Env → Heap → Res (AExit × Env):=loopB (C k) call F.line_New [1,1,0,1,0,0]
def ζcc (k:Nat) (call:Caller):Kont Value:=kBlock 0 (kSeq (pieceK (C k) call F.line_New [1,1,1]) (kDone Prog (resOf Prog F.line_New)))
def line_New (k:Nat) (call:Caller) (a0:Value) (h:Heap):Res Value :=
 (buildR Prog 148 [] h).bind fun v1 h2 =>
 (boxR v1 h2).bind fun v3 h4 =>
 (builtinV Prog .len [30] [a0] h4).bind fun v5 h6 =>
 (loopN (ζa9 k call) loopFuel [(3,v3),(8,a0),(9,v5),(10,(.int .i64 0))] h6).bind fun r7 h8 =>
 ζcc k call r7.1 r7.2 h8
theorem ζl3 (k:Nat) (a0:Value) (h:Heap):R (T k) F.line_New [a0] h = nrm .no h (line_New k (R (T k)) a0 h) :=
 (R_body (t:=T k) (T_scott k) (by kernel_rfl) (by kernel_rfl) _ _).trans (by kernel_rfl)
theorem ζ9s (k:Nat) (call:Caller) (a3 a8 a9 a10:Value) (h:Heap):ζa9 k call [(3,a3),(8,a8),(9,a9),(10,a10)] h =
 (binR Prog .lss 3 a10 a9 h).bind fun v9 h10 =>
 condV (some v9) (
 (indexAddrR Prog 30 a8 a10 h10).bind fun v11 h12 =>
 (loadR Prog 3 v11 h12).bind fun v13 h14 =>
 (nilR a3 h14).bind fun v15 h16 =>
 (fieldAddrR Prog 148 v15 0 h16).bind fun v17 h18 =>
 (loadR Prog 61 v17 h18).bind fun v19 h20 =>
 (buildR Prog 150 [(0,v13),(1,a10)] h20).bind fun v21 h22 =>
 (buildSliceR Prog 61 1 [(0,v21)] h22).bind fun v23 h24 =>
 (builtinV Prog .append [61,61] [v19,v23] h24).bind fun v25 h26 =>
 (nilR a3 h26).bind fun v27 h28 =>
 (fieldAddrR Prog 148 v27 0 h28).bind fun v29 h30 =>
 (storeR Prog 61 v29 v25 h30).bind fun _v31 h32 =>
 (binR Prog .add 3 a10 (.int .i64 1) h32).bind fun v33 h34 =>
 .ok (.normal,[(3,a3),(8,a8),(9,a9),(10,v33)]) h34)
 (
 .ok ((.exit 0),[(3,a3),(8,a8),(9,a9),(10,a10),(11,v9)]) h10) :=
 (loopB_eq _ _).trans (by kernel_rfl)
theorem ζdf (k:Nat) (call:Caller) (a3 a8 a9 a10 a11:Value) (h:Heap):ζcc k call (.exit 0) [(3,a3),(8,a8),(9,a9),(10,a10),(11,a11)] h =
 .ok a3 h:=by kernel_rfl
def ζ3l (k:Nat) (call:Caller) (a0:Value) (h:Heap):Res Value :=
 (nilR a0 h).bind fun v1 h2 =>
 (fieldAddrR Prog 148 v1 0 h2).bind fun v3 h4 =>
 (loadR Prog 61 v3 h4).bind fun v5 h6 =>
 (builtinV Prog .len [61] [v5] h6).bind fun v7 h8 =>
 .ok v7 h8
theorem ζde (k:Nat) (a0:Value) (h:Heap):R (T k) F.ζ3l [a0] h = nrm .gc h (ζ3l k (R (T k)) a0 h) :=
 (R_body (t:=T k) (T_scott k) (by kernel_rfl) (by kernel_rfl) _ _).trans (by kernel_rfl)
def ζ2i (k:Nat) (call:Caller) (a0 a1:Value) (h:Heap):Res Value :=
 (allocR Prog 150 h).bind fun v1 h2 =>
 (call F.ζ3g [a0,a1] h2).bind fun v3 h4 =>
 (unR .not v3 h4).bind fun v5 h6 =>
 condV (some v5) (
 (buildR Prog 150 [] h6).bind fun v7 h8 =>
 (storeR Prog 150 v1 v7 h8).bind fun _v9 h10 =>
 (loadR Prog 150 v1 h10).bind fun v11 h12 =>
 .ok (.tuple #[v11,(.bool false)]) h12)
 (
 (nilR a0 h6).bind fun v13 h14 =>
 (fieldAddrR Prog 148 v13 0 h14).bind fun v15 h16 =>
 (loadR Prog 61 v15 h16).bind fun v17 h18 =>
 (indexAddrR Prog 61 v17 a1 h18).bind fun v19 h20 =>
 (loadR Prog 150 v19 h20).bind fun v21 h22 =>
 (storeR Prog 150 v1 v21 h22).bind fun _v23 h24 =>
 (loadR Prog 150 v1 h24).bind fun v25 h26 =>
 .ok (.tuple #[v25,(.bool true)]) h26)
theorem ζey (k:Nat) (a0 a1:Value) (h:Heap):R (T k) F.ζ2i [a0,a1] h = nrm .gc h (ζ2i k (R (T k)) a0 a1 h) :=
 (R_body (t:=T k) (T_scott k) (by kernel_rfl) (by kernel_rfl) _ _).trans (by kernel_rfl)
def ζ3g (k:Nat) (call:Caller) (a0 a1:Value) (h:Heap):Res Value :=
 (binR Prog .geq 3 a1 (.int .i64 0) h).bind fun v1 h2 =>
 ((bif wantVal v1 true then Res.ok a1 h2 else Res.ok undef h2)).bind fun v3 h4 =>
 ((bif wantVal v1 true then Res.ok a0 h4 else Res.ok undef h4)).bind fun v5 h6 =>
 ((bif wantVal v1 true then nilR v5 h6 else Res.ok undef h6)).bind fun v7 h8 =>
 ((bif wantVal v1 true then fieldAddrR Prog 148 v7 0 h8 else Res.ok undef h8)).bind fun v9 h10 =>
 ((bif wantVal v1 true then loadR Prog 61 v9 h10 else Res.ok undef h10)).bind fun v11 h12 =>
 ((bif wantVal v1 true then builtinV Prog .len [61] [v11] h12 else Res.ok undef h12)).bind fun v13 h14 =>
 ((bif wantVal v1 true then binR Prog .lss 3 v3 v13 h14 else Res.ok undef h14)).bind fun v15 h16 =>
 (condV (some v1) (Res.ok v15 h16) (Res.ok (.bool false) h16)).bind fun v17 h18 =>
 .ok v17 h18
theorem ζez (k:Nat) (a0 a1:Value) (h:Heap):R (T k) F.ζ3g [a0,a1] h = nrm .gc h (ζ3g k (R (T k)) a0 a1 h) :=
 (R_body (t:=T k) (T_scott k) (by kernel_rfl) (by kernel_rfl) _ _).trans (by kernel_rfl)
def ζ16 (k:Nat) (call:Caller) (a0:Value) (h:Heap):Res Value :=
 (nilR a0 h).bind fun v1 h2 =>
 (fieldAddrR Prog 148 v1 0 h2).bind fun v3 h4 =>
 (loadR Prog 61 v3 h4).bind fun v5 h6 =>
 (call F.ζ6 [v5] h6).bind fun v7 h8 =>
 .ok (.tuple #[]) h8
theorem ζ7y (k:Nat) (a0:Value) (h:Heap):R (T k) F.ζ16 [a0] h = nrm .no h (ζ16 k (R (T k)) a0 h) :=
 (R_body (t:=T k) (T_scott k) (by kernel_rfl) (by kernel_rfl) _ _).trans (by kernel_rfl)
end
end Go.Sw
end
section
set_option maxRecDepth 100000
set_option linter.unusedVariables false
namespace Go.Sw
noncomputable section
def ζc (k:Nat) (call:Caller) (a0:Value) (h:Heap):Res Value :=
 (binR Prog .eql 56 a0 (.slice none 0 0) h).bind fun v1 h2 =>
 condV (some v1) (
 .ok (.slice none 0 0) h2)
 (
 (buildSliceR Prog 56 0 [] h2).bind fun v3 h4 =>
 (builtinV Prog .append [56,56] [v3,a0] h4).bind fun v5 h6 =>
 .ok v5 h6)
theorem ζ30 (k:Nat) (sp:FuncId → Option Sp) (call:Caller) (a0:Value) (h:Heap):bodyK { P:=Prog,kp:=kpS,sp:=sp } call F.ζc [a0] h = ζc k call a0 h:=by kernel_rfl
def ζh (k:Nat) (call:Caller) (a0:Value) (h:Heap):Res Value :=
 (binR Prog .eql 61 a0 (.slice none 0 0) h).bind fun v1 h2 =>
 condV (some v1) (
 .ok (.slice none 0 0) h2)
 (
 (buildSliceR Prog 61 0 [] h2).bind fun v3 h4 =>
 (builtinV Prog .append [61,61] [v3,a0] h4).bind fun v5 h6 =>
 .ok v5 h6)
theorem ζ2z (k:Nat) (sp:FuncId → Option Sp) (call:Caller) (a0:Value) (h:Heap):bodyK { P:=Prog,kp:=kpS,sp:=sp } call F.ζh [a0] h = ζh k call a0 h:=by kernel_rfl
def ζj (k:Nat) (call:Caller):Env → Heap → Res (AExit × Env):=loopB (C k) call F.ζ6 [1,0,0]
def ζ1i (k:Nat) (call:Caller):Kont Value:=kBlock 0 (kDone Prog (resOf Prog F.ζ6))
def ζ6 (k:Nat) (call:Caller) (a0:Value) (h:Heap):Res Value :=
 (builtinV Prog .len [61] [a0] h).bind fun v1 h2 =>
 (binR Prog .sub 3 v1 (.int .i64 1) h2).bind fun v3 h4 =>
 (loopN (ζj k call) loopFuel [(0,a0),(2,(.int .i64 0)),(3,v3)] h4).bind fun r5 h6 =>
 ζ1i k call r5.1 r5.2 h6
theorem ζ36 (k:Nat) (a0:Value) (h:Heap):R (T k) F.ζ6 [a0] h = nrm .no h (ζ6 k (R (T k)) a0 h) :=
 (R_body (t:=T k) (T_scott k) (by kernel_rfl) (by kernel_rfl) _ _).trans (by kernel_rfl)
theorem ζq (k:Nat) (call:Caller) (a0 a2 a3:Value) (h:Heap):ζj k call [(0,a0),(2,a2),(3,a3)] h =
 (binR Prog .lss 3 a2 a3 h).bind fun v7 h8 =>
 condV (some v7) (
 (indexAddrR Prog 61 a0 a3 h8).bindN fun v9 h10 =>
 (loadR Prog 150 v9 h10).bindN fun v11 h12 =>
 (indexAddrR Prog 61 a0 a2 h12).bindN fun v13 h14 =>
 (loadR Prog 150 v13 h14).bindN fun v15 h16 =>
 (indexAddrR Prog 61 a0 a2 h16).bindN fun v17 h18 =>
 (storeR Prog 150 v17 v11 h18).bindN fun _v19 h20 =>
 (indexAddrR Prog 61 a0 a3 h20).bindN fun v21 h22 =>
 (storeR Prog 150 v21 v15 h22).bindN fun _v23 h24 =>
 (binR Prog .add 3 a2 (.int .i64 1) h24).bind fun v25 h26 =>
 (binR Prog .sub 3 a3 (.int .i64 1) h26).bind fun v27 h28 =>
 .ok (.normal,[(0,a0),(2,v25),(3,v27)]) h28)
 (
 .ok ((.exit 0),[(0,a0),(2,a2),(3,a3),(9,v7)]) h8) :=
 (loopB_eq _ _).trans (by kernel_rfl)
theorem ζ1c (k:Nat) (call:Caller) (a0 a2 a3 a9:Value) (h:Heap):ζ1i k call (.exit 0) [(0,a0),(2,a2),(3,a3),(9,a9)] h =
 .ok (.tuple #[]) h:=by kernel_rfl
def ζk (k:Nat) (call:Caller):Env → Heap → Res (AExit × Env):=loopB (C k) call F.ζ7 [1,0,0]
def ζ1j (k:Nat) (call:Caller):Kont Value:=kBlock 0 (kDone Prog (resOf Prog F.ζ7))
def ζ7 (k:Nat) (call:Caller) (a0:Value) (h:Heap):Res Value :=
 (builtinV Prog .len [56] [a0] h).bind fun v1 h2 =>
 (binR Prog .sub 3 v1 (.int .i64 1) h2).bind fun v3 h4 =>
 (loopN (ζk k call) loopFuel [(0,a0),(2,(.int .i64 0)),(3,v3)] h4).bind fun r5 h6 =>
 ζ1j k call r5.1 r5.2 h6
theorem ζ37 (k:Nat) (a0:Value) (h:Heap):R (T k) F.ζ7 [a0] h = nrm .no h (ζ7 k (R (T k)) a0 h) :=
 (R_body (t:=T k) (T_scott k) (by kernel_rfl) (by kernel_rfl) _ _).trans (by kernel_rfl)
theorem ζr (k:Nat) (call:Caller) (a0 a2 a3:Value) (h:Heap):ζk k call [(0,a0),(2,a2),(3,a3)] h =
 (binR Prog .lss 3 a2 a3 h).bind fun v7 h8 =>
 condV (some v7) (
 (indexAddrR Prog 56 a0 a3 h8).bindN fun v9 h10 =>
 (loadR Prog 93 v9 h10).bindN fun v11 h12 =>
 (indexAddrR Prog 56 a0 a2 h12).bindN fun v13 h14 =>
 (loadR Prog 93 v13 h14).bindN fun v15 h16 =>
 (indexAddrR Prog 56 a0 a2 h16).bindN fun v17 h18 =>
 (storeR Prog 93 v17 v11 h18).bindN fun _v19 h20 =>
 (indexAddrR Prog 56 a0 a3 h20).bindN fun v21 h22 =>
 (storeR Prog 93 v21 v15 h22).bindN fun _v23 h24 =>
 (binR Prog .add 3 a2 (.int .i64 1) h24).bind fun v25 h26 =>
 (binR Prog .sub 3 a3 (.int .i64 1) h26).bind fun v27 h28 =>
 .ok (.normal,[(0,a0),(2,v25),(3,v27)]) h28)
 (
 .ok ((.exit 0),[(0,a0),(2,a2),(3,a3),(9,v7)]) h8) :=
 (loopB_eq _ _).trans (by kernel_rfl)
theorem ζ1d (k:Nat) (call:Caller) (a0 a2 a3 a9:Value) (h:Heap):ζ1j k call (.exit 0) [(0,a0),(2,a2),(3,a3),(9,a9)] h =
 .ok (.tuple #[]) h:=by kernel_rfl
end
end Go.Sw
end
section
set_option maxRecDepth 100000
set_option linter.unusedVariables false
namespace Go.Sw
noncomputable section
end
end Go.Sw
end
section
namespace Go.Sw
open Go.RowKit
structure Gl where
 id:Int
 cl:Int
deriving DecidableEq
abbrev encG (g:Gl):List Value:=[.int .i64 g.id,.int .i64 g.cl]
theorem encG_len (g:Gl):(encG g).length = 2:=rfl
abbrev itLine (c:Nat) (o:Option Nat) (l:List Gl):It:=itBox c [] o 2 encG l
abbrev ptrV (c:Nat):Value:=.pointer (some ⟨c,0,none⟩)
theorem ζjq (k:Nat) {H0 H:Heap} {L:List It} (h:Star H0 H L) (i:Nat) {c:Nat} {o:Option Nat} {l:List Gl} (hi:L[i]? = some (itLine c o l)):R (T k) F.ζ3l [ptrV c] H = .ok (.int .i64 l.length) H:=by
 obtain ⟨_,s,h1,h2⟩:=h.box i hi;rw [ζde];refine nrm_gc ⟨H,?_,Ext.refl H⟩ (.int _ _);simp at h1;simp -implicitDefEqProofs [ζ3l,h1,h2.len]
theorem ζl2 (k:Nat) {H0 H:Heap} {L:List It} (h:Star H0 H L) (i:Nat) {c:Nat} {o:Option Nat} {l:List Gl} (hi:L[i]? = some (itLine c o l)) {H':Heap} (hx:Ext H H') (j:Int) :
  R (T k) F.ζ3g [ptrV c,.int .i64 j] H' = .ok (.bool (decide (0 ≤ j ∧ j < l.length))) H':=by
 obtain ⟨_,s,h1,h2⟩:=h.box i hi;simp at h1;have h1:=hx.get h1;rw [ζez];refine nrm_gc ⟨H',?_,Ext.refl H'⟩ (.bool _);by_cases hj:j ≥ 0
 ·simp -implicitDefEqProofs [ζ3g,h1,h2.len,hj]
 ·simp -implicitDefEqProofs [ζ3g,hj]
def atG (l:List Gl) (j:Int):Option Gl:=if 0 ≤ j ∧ j < l.length then l[j.toNat]? else none
def encA (o:Option Gl):Value:=.agg (encG (o.getD ⟨0,0⟩)).toArray
theorem ζcb (k:Nat) {H0 H:Heap} {L:List It} (h:Star H0 H L) (i:Nat) {c:Nat} {o:Option Nat} {l:List Gl} (hi:L[i]? = some (itLine c o l)) (j:Int) :
  R (T k) F.ζ2i [ptrV c,.int .i64 j] H = .ok (.tuple #[encA (atG l j),.bool (atG l j).isSome]) H:=by
 obtain ⟨_,s,h1,h2⟩:=h.box i hi;simp at h1;have hx:Ext H (H.push ⟨[.int .i64 0,.int .i64 0],1,false⟩):=(Ext.refl H).push _;have hin:=ζl2 k h i hi hx j;have hcn:¬ c = H.n:=by have:=Heap.get_lt h1; omega
 rw [ζey];have hfl:∀ o,Flat (.tuple #[encA o,.bool o.isSome]):=fun o => .tupleL (.cons (.aggL (.cons (.int _ _) (.cons (.int _ _) .nil))) (.cons (.bool _) .nil));unfold atG;by_cases hj:0 ≤ j ∧ j < l.length
 ·obtain ⟨n,rfl⟩:=Int.eq_ofNat_of_zero_le hj.1;obtain ⟨g,hg⟩:∃ g,l[n]? = some g:=⟨_,List.getElem?_eq_getElem (by omega)⟩
  obtain ⟨b,rfl,hs,hb,i1⟩:=h2.ix .i64 n (by omega);have hbn:¬ b = H.n:=by have:=Heap.get_lt hb; omega
  have hld:=fun (H':Heap) (hH:H'.get b = some ⟨rows encG l,2,false⟩) => ldA_row encG_len hH hg;rw [if_pos hj,Int.toNat_natCast,hg];refine nrm_gc ⟨H.push ⟨encG g,1,false⟩,?_,(Ext.refl H).push _⟩ (hfl (some g)).alive;have e2:ldA 2 (.pointer (some ⟨H.n,0,none⟩)) (H.push ⟨encG g,1,false⟩) = .ok (.agg (encG g).toArray) (H.push ⟨encG g,1,false⟩):=by simp
  rw [decide_eq_true hj] at hin;have e1:=hld (H.push ⟨[.int .i64 0,.int .i64 0],1,false⟩) (by rw [ζdu _ _ _ hbn]; exact hb);simp -implicitDefEqProofs [-ldA_ptr,ζ2i,hin,h1,hcn,i1,e1,e2];rfl
 ·rw [if_neg hj];refine nrm_gc ⟨_,?_,hx⟩ (hfl none).alive;rw [decide_eq_false hj] at hin;simp -implicitDefEqProofs [ζ2i,hin];rfl
theorem ζh5 (k:Nat) {H:Heap} {o:Option Nat} {s:Value} {l:List Gl} (h:OwnO H o 2 s encG l) (hl:l.length < 2 ^ 31) :
  ∃ H',R (T k) F.ζ6 [s] H = .ok (.tuple #[]) H' ∧ OwnO H' o 2 s encG l.reverse ∧ H'.n = H.n ∧ ∀ c,o ≠ some c → H'.get c = H.get c:=by
 rw [ζ36];have hlen:=h.len;rcases h with ⟨h0,rfl,hs⟩ | ⟨b,rfl,rfl,hb⟩
 ·refine ⟨H,?_,.inl ⟨h0,rfl,hs⟩,rfl,fun _ _ => rfl⟩
  obtain ⟨x,e',H1,hr,rfl,rfl,v,rfl⟩:=loop_up (body:=ζj k (R (T k))) 0
   (fun _ e H' => H' = H ∧ e = [(0,s),(2,.int .i64 0),(3,.int .i64 (-1))]) (fun x e H' => H' = H ∧ x = .exit 0 ∧ ∃ v,e = [(0,s),(2,.int .i64 0),(3,.int .i64 (-1)),(9,v)]) (e0:=[(0,s),(2,.int .i64 0),(3,.int .i64 (-1))]) (H0:=H) ⟨rfl,rfl⟩ (by omega) (fun i _ _ hi _ => by omega)
   (fun e H' ⟨hH,he⟩ => by
    subst hH he;refine ⟨.exit 0,_,_,?_,by simp,rfl,rfl,.bool false,rfl⟩;rw [ζq];simp -implicitDefEqProofs)
  simp -implicitDefEqProofs [ζ6,hlen,hr,ζ1c]
 ·have ix:∀ (i:Nat) (H':Heap),i < l.length → ixS 2 (.slice (some ⟨b,0,none⟩) l.length l.length) (.int .i64 i) H' = .ok (.pointer (some ⟨b,i * 2,none⟩)) H':=fun i H' hi => by
   unfold ixS;dsimp only;rw [if_pos ⟨by omega,by omega⟩];simp
  obtain ⟨x,e',H1,hr,rfl,⟨a1,v,rfl⟩,a2,a3⟩:=loop_up (body:=ζj k (R (T k))) (l.length / 2)
   (fun i e H' => e = [(0,.slice (some ⟨b,0,none⟩) l.length l.length),(2,.int .i64 i),(3,.int .i64 (l.length - 1 - i))] ∧ (∃ r,RevTo l r i ∧ H'.get b = some ⟨rows encG r,2,false⟩) ∧ H'.n = H.n ∧ ∀ c,c ≠ b → H'.get c = H.get c)
   (fun x e H' => x = .exit 0 ∧ (∃ a v,e = [(0,.slice (some ⟨b,0,none⟩) l.length l.length),(2,a),(3,v),(9,.bool false)]) ∧ H'.get b = some ⟨rows encG l.reverse,2,false⟩ ∧ H'.n = H.n ∧ ∀ c,c ≠ b → H'.get c = H.get c)
   (e0:=[(0,.slice (some ⟨b,0,none⟩) l.length l.length),(2,.int .i64 0),(3,.int .i64 (l.length - 1))]) (H0:=H) ⟨by simp,⟨l,.zero l,hb⟩,rfl,fun _ _ => rfl⟩ (by omega)
   (fun i e H' hi ⟨he,⟨r,hr,hg⟩,hn,hk⟩ => by
    subst he;obtain ⟨x,y,e1,e2,hr'⟩:=hr.step (by omega);obtain ⟨H2,H3,s1,s2,g3,k3,n3⟩:=swap_row encG_len (fun _ => rfl) hg e1 e2;have hlt:(i:Int) < l.length - 1 - i:=by omega
    have hj:((l.length:Int) - 1 - i) = ((l.length - 1 - i:Nat):Int):=by omega
    have i1:=fun H' => ix i H' (by omega);have i2:=fun H' => ix (l.length - 1 - i) H' (by omega);rw [← hj] at i2;have l1:=ldA_row encG_len hg e1;have l2:=ldA_row encG_len hg e2;refine .inl ⟨_,H3,?_,rfl,⟨_,hr',g3⟩,by rw [n3,hn],fun c hc => by rw [k3 c hc,hk c hc]⟩;rw [ζq];simp -implicitDefEqProofs (disch:=omega) [-ldA_ptr,-stR_ptr,hlt,i1,i2,l1,l2,s1,s2];omega)
   (fun e H' ⟨he,⟨r,hr,hg⟩,hn,hk⟩ => by
    subst he;have hlt:¬ ((l.length / 2:Nat):Int) < l.length - 1 - (l.length / 2:Nat):=by omega
    refine ⟨.exit 0,_,H',?_,by simp,rfl,⟨.int .i64 (l.length / 2:Nat),.int .i64 (l.length - 1 - (l.length / 2:Nat)),rfl⟩,by rw [← hr.done]; exact hg,hn,hk⟩;rw [ζq];simp -implicitDefEqProofs (disch:=omega) only [bin_lss,Res.bind_ok,hlt,decide_false,ζfy,Bool.false_eq_true,if_false])
  refine ⟨H1,?_,.inr ⟨b,rfl,by simp,a2⟩,a3.1,fun c hc => a3.2 c fun e => hc (by rw [e])⟩;have hlt:1 ≤ l.length + 1:=by omega
  simp -implicitDefEqProofs (disch:=omega) [ζ6,hr,ζ1c]
theorem ζat (k:Nat) {H0 H:Heap} {L:List It} (h:Star H0 H L) (i:Nat) {c:Nat} {o:Option Nat} {l:List Gl} (hi:L[i]? = some (itLine c o l)) (hl:l.length < 2 ^ 31) :
  ∃ H',R (T k) F.ζ16 [ptrV c] H = .ok (.tuple #[]) H' ∧ Star H0 H' (L.set i (itLine c o l.reverse)):=by
 obtain ⟨hne,s,h1,h2⟩:=h.box i hi;obtain ⟨H',e1,e2,e3,e4⟩:=ζh5 k h2 hl;refine ⟨H',?_,h.step i hi (by omega) (fun d _ hd => e4 d fun e => hd (List.mem_cons_of_mem _ (Option.mem_toList.2 e))) _ ⟨hne,s,by rw [e4 c hne]; exact h1,e2⟩ fun b hb => .inl hb⟩;simp at h1;rw [ζ7y];refine nrm_of ?_;simp -implicitDefEqProofs [ζ16,h1,e1]
def newG (ids:List Int):List Gl:=ids.zipIdx.map fun x => ⟨x.1,(x.2:Nat)⟩
@[simp] theorem newG_len (ids:List Int):(newG ids).length = ids.length:=by simp [newG]
theorem ζmv (ids:List Int) (x:Int):newG (ids ++ [x]) = newG ids ++ [⟨x,(ids.length:Nat)⟩]:=by simp [newG,List.zipIdx_append]
end Go.Sw
end
