/-
  Functions' forms, and what is proved of them, part 4.
-/
import Derived.Test.YtanfippcmdialaaSwW2
import Derived.Test.YtanfippcmdialaaSwW3
import Derived.Test.YtanfippcmdialaaSwCfg
import Derived.Test.YtanfippcmdialaaSwW1
import Derived.Test.YtanfippcmdialaaSwLib9
set_option linter.unusedSimpArgs false
set_option linter.unusedVariables false
set_option linter.unusedSectionVars false
section
namespace Go.Sw
open Go.RowKit
theorem Star.memP {H0 H:Heap} {L:List It} (h:Star H0 H L) {x:It} (hx:x ∈ L):x.P H:=by
 obtain ⟨i,hi⟩:=List.getElem?_of_mem hx;exact h.at i hi
theorem Star.memBlk {H0 H:Heap} {L:List It} (h:Star H0 H L) {c:Nat} {k:Blk} (hx:itBlk c k ∈ L):H.get c = some k:=h.memP hx
theorem Star.memOwn {α:Type} {enc:α → List Value} {H0 H:Heap} {L:List It} (h:Star H0 H L) {o:Option Nat} {m:Nat} {s:Value} {l:List α} (hx:itRow o m s enc l ∈ L):Own H0 H m s enc l:=by
 obtain ⟨i,hi⟩:=List.getElem?_of_mem hx;exact h.own i hi
theorem Star.stCell {H0 H:Heap} {L:List It} (h:Star H0 H L) (i:Nat) {c:Nat} {cells:List Value} {e:Nat} (hi:L[i]? = some (itBlk c ⟨cells,e,false⟩)) (off:Nat) {v:Value} (hs:storable v = true) (hc:v.cells = #[v]) (ho:off < cells.length) :
  ∃ H',stR 1 (.pointer (some ⟨c,off,none⟩)) v H = .ok undef H' ∧ Star H0 H' (L.set i (itBlk c ⟨cells.set off v,e,false⟩)) ∧ H'.n = H.n:=by
 have hg:=h.get i hi;have hsp:splice cells off [v] = cells.set off v:=by
  unfold splice;rw [List.set_eq_take_append_cons_drop,if_pos ho];rfl
 refine ⟨H.set c (some ⟨cells.set off v,e,false⟩),?_,h.step i hi (by simp) (fun d _ hd => ?_) _ ?_ fun b hb => .inl hb,by simp⟩
 ·simp [hs,hc,hg,hsp];rw [if_pos (show off + 1 ≤ cells.length by omega)];rfl
 ·rw [ζ24];exact fun e => hd (show d ∈ [c] by simp [e])
 ·exact ζ8a _ _ _ (by rw [hg]; rfl)
theorem ζr3 {body:Env → Heap → Res (AExit × Env)} (Inv:Nat → Env → Heap → Prop) (Q:AExit → Env → Heap → Prop) (Qp:Value → Heap → Prop)
  (step:∀ m e H,Inv m e H → (∃ m' e' H',body e H = .ok (.normal,e') H' ∧ m' < m ∧ Inv m' e' H') ∨ (∃ x e' H',body e H = .ok (x,e') H' ∧ x ≠ .normal ∧ Q x e' H') ∨ (∃ v H',body e H = .panic v H' ∧ Qp v H')) :
  ∀ (fuel m:Nat) (e:Env) (H:Heap),m < fuel → Inv m e H → (∃ x e' H',loopN body fuel e H = .ok (x,e') H' ∧ Q x e' H') ∨ (∃ v H',loopN body fuel e H = .panic v H' ∧ Qp v H')
 | 0,m,e,H,hm,_ => by omega
 | fuel + 1,m,e,H,hm,hi => by
  rcases step m e H hi with ⟨m',e',H',h1,h2,h3⟩ | ⟨x,e',H',h1,h2,h3⟩ | ⟨v,H',h1,h2⟩
  ·simp only [loopN,h1,Res.bind];exact ζr3 Inv Q Qp step fuel m' e' H' (by omega) h3
  ·refine .inl ⟨x,e',H',?_,h3⟩;cases x with
   | normal => exact absurd rfl h2
   | exit j => simp only [loopN,h1,Res.bind]
   | ret => simp only [loopN,h1,Res.bind]
  ·exact .inr ⟨v,H',by simp only [loopN,h1,Res.bind],h2⟩
theorem loopDecP {body:Env → Heap → Res (AExit × Env)} (Inv:Nat → Env → Heap → Prop) (Q:AExit → Env → Heap → Prop) (Qp:Value → Heap → Prop) {e0:Env} {H0:Heap} (m:Nat) (h0:Inv m e0 H0) (hm:m < 2 ^ 64)
  (step:∀ m e H,Inv m e H → (∃ m' e' H',body e H = .ok (.normal,e') H' ∧ m' < m ∧ Inv m' e' H') ∨ (∃ x e' H',body e H = .ok (x,e') H' ∧ x ≠ .normal ∧ Q x e' H') ∨ (∃ v H',body e H = .panic v H' ∧ Qp v H')) :
  (∃ x e' H',loopN body loopFuel e0 H0 = .ok (x,e') H' ∧ Q x e' H') ∨ (∃ v H',loopN body loopFuel e0 H0 = .panic v H' ∧ Qp v H'):=ζr3 Inv Q Qp step loopFuel m e0 H0 (fuel_big hm) h0
abbrev encEn (e:En):List Value:=[.int .i64 e.next,.int .i64 e.flags,.int .i64 e.a,.int .i64 e.b]
theorem ζ52 (e:En):(encEn e).length = 4:=rfl
theorem ζnd (l:List En):∀ p,p ∈ l → ∀ v,v ∈ encEn p → Still v:=fun p _ v hv => by
 simp [encEn] at hv;rcases hv with rfl | rfl | rfl | rfl <;> trivial
theorem Flat.ofEn (e:En):Flat (.agg (encEn e).toArray):=.aggL (.cons (.int _ _) (.cons (.int _ _) (.cons (.int _ _) (.cons (.int _ _) .nil))))
theorem Flat.Ens (l:List En):Flat (Go.Sw.lv encEn l):=.lv fun p _ => .cons (.int _ _) (.cons (.int _ _) (.cons (.int _ _) (.cons (.int _ _) .nil)))
abbrev encU (x:List Int × Value):List Value:=[x.2]
theorem encU_len (x:List Int × Value):(encU x).length = 1:=rfl
abbrev encRow (r:List Int):List Value:=[lv encI r]
theorem ζst (r:List Int):(encRow r).length = 1:=rfl
def MS (H0 H:Heap) (X:List It) (c:Nat) (n:Int) (tab:Value) (rs:List (List Int)) (es:List En):Prop :=
 ∃ (l:List (List Int × Value)) (s1:Value) (o1:Option Nat) (s2:Value) (o2:Option Nat) (bs:List It),l.map Prod.fst = rs ∧
  Star H0 H (itBlk c ⟨[.int .i64 n,tab,s1,s2],1,false⟩ :: itRow o1 1 s1 encU l :: itRow o2 4 s2 encEn es :: (X ++ bs)) ∧ ∀ x,x ∈ l → ∃ o,itRow o 1 x.2 encI x.1 ∈ bs
theorem MS.rest {H0 H H':Heap} {X:List It} {c:Nat} {n:Int} {tab:Value} {rs:List (List Int)} {es:List En} (h:MS H0 H X c n tab rs es) (he:Ext H H'):MS H0 H' X c n tab rs es:=by
 obtain ⟨l,s1,o1,s2,o2,bs,h1,h2,h3⟩:=h;exact ⟨l,s1,o1,s2,o2,bs,h1,h2.rest he,h3⟩
theorem MS.ext {H0 H:Heap} {X:List It} {c:Nat} {n:Int} {tab:Value} {rs:List (List Int)} {es:List En} (h:MS H0 H X c n tab rs es):Ext H0 H:=by
 obtain ⟨l,s1,o1,s2,o2,bs,h1,h2,h3⟩:=h;exact h2.ext
theorem MS.here {H0 H:Heap} {X:List It} {c:Nat} {n:Int} {tab:Value} {rs:List (List Int)} {es:List En} (h:MS H0 H X c n tab rs es) :
  ∃ s1 s2,H.get c = some ⟨[.int .i64 n,tab,s1,s2],1,false⟩ ∧ (∀ H',lnS s1 H' = .ok (.int .i64 rs.length) H') ∧ ∀ H',lnS s2 H' = .ok (.int .i64 es.length) H':=by
 obtain ⟨l,s1,o1,s2,o2,bs,h1,h2,h3⟩:=h;refine ⟨s1,s2,h2.get 0 rfl,fun H' => ?_,(h2.row 2 rfl).len⟩;rw [(h2.row 1 rfl).len,← h1,List.length_map]
theorem MS.memX {H0 H:Heap} {X:List It} {c:Nat} {n:Int} {tab:Value} {rs:List (List Int)} {es:List En} (h:MS H0 H X c n tab rs es) {b:Nat} {k:Blk} (hb:itBlk b k ∈ X):H.get b = some k:=by
 obtain ⟨l,s1,o1,s2,o2,bs,h1,h2,h3⟩:=h;exact h2.memBlk (by simp [hb])
theorem row_take {rv:List Int} {n:Int} {k:Nat} {r:List Int} (h:rowsS rv (2 * n * k) n 2 = some r) (hn:0 ≤ n):r.length = n.toNat * 2 ∧ rowK rv n k = some ((cutRows r 2 n.toNat).map num):=by
 refine ⟨?_,by unfold rowK listS; rw [h]; rfl⟩;have:=ζ45 (ζ2y h);omega
theorem row_run (k:Nat) {H0 H:Heap} {X:List It} {c:Nat} {n:Int} {tab:Value} {rs:List (List Int)} {es:List En} (h:MS H0 H X c n tab rs es) (hn:0 ≤ n ∧ n ≤ 65535) (hrl:rs.length < 65536) {vR vE:Value} {rv:List Int} (w:Int) (hv:Sl H 1 vR encB rv) (hE:Go.Sw.veq vE vE = true) (hb:Byt rv) (hl:rv.length < 2 ^ 31) :
  match rowK rv n rs.length with
  | some r => ∃ H',R (T k) F.ζ1u [.agg #[ptrV c,vR,vE,.int .i64 w]] H = .ok (.int .i64 (needL r)) H' ∧ MS H0 H' X c n tab (rs ++ [r]) es
  | none => R (T k) F.ζ1u [.agg #[ptrV c,vR,vE,.int .i64 w]] H = .panic failV H:=by
 obtain ⟨l,s1,o1,s2,o2,bs,h1,g,h3⟩:=h;have hM:=g.get 0 rfl;have hlen1:=(g.row 1 rfl).len;have hll:l.length = rs.length:=by rw [← h1,List.length_map]
 rw [hll] at hlen1;have hcn:¬ c = H.n:=by have:=Heap.get_lt hM; omega
 have hx1:Ext H (H.push ⟨[ptrV c,vR,vE,.int .i64 w],1,false⟩):=(Ext.refl H).push _;have hm0:0 ≤ 2 * n * (rs.length:Int):=Int.mul_nonneg (by omega) (by omega);have hm1:2 * n * (rs.length:Int) ≤ 131070 * 65536:=Int.mul_le_mul (by omega) (by omega) (by omega) (by omega);have hRows:=Rows_run k (hv.up hx1) (2 * n * rs.length) n 2 (by omega);rw [ζfv];cases hr:rowsS rv (2 * n * rs.length) n 2 with
 | none =>
  have:rowK rv n rs.length = none:=by unfold rowK listS; rw [hr]; rfl
  rw [this];rw [hr] at hRows;refine ζ1w ⟨_,?_,hx1⟩ Flat.fail.alive;simp -implicitDefEqProofs (disch:=omega) [ζ1u,hcn,hM,hlen1,hRows]
 | some r =>
  obtain ⟨hrlen,hK⟩:=row_take hr hn.1;rw [hK];dsimp only;rw [hr] at hRows;have hs:=ζ4b (hv.up hx1) (ζ2y hr);have hrb:=(hb.piece (ζ2y hr)).1;obtain ⟨n,rfl⟩:=Int.eq_ofNat_of_zero_le hn.1;simp only [Int.toNat_natCast] at hrlen ⊢;generalize subV 1 vR (2 * (n:Int) * rs.length).toNat ((n:Int) * 2).toNat = q at hs hRows;obtain ⟨B1,hB1⟩:∃ B1:Blk,B1 = ⟨[ptrV c,vR,vE,.int .i64 w],1,false⟩:=⟨_,rfl⟩
  obtain ⟨B2,hB2⟩:∃ B2:Blk,B2 = ⟨[q],1,false⟩:=⟨_,rfl⟩
  rw [← hB1] at hs;have g:=(g.push B1).push B2;have hx2:Ext (H.push B1) ((H.push B1).push B2):=(Ext.refl _).push _;obtain ⟨vals,hvals⟩:∃ vals,vals = (cutRows r 2 n).map num:=⟨_,rfl⟩
  rw [← hvals];have hvl:vals.length = n:=by rw [hvals]; simp
  obtain ⟨x,e',H1,hr',rfl,rfl,ho,hx⟩:=loop_up (body:=ζ5d k (R (T k))) n
   (fun j e H' => e = [(1,ptrV H.n),(4,ptrV (H.n + 1)),(5,.slice (some ⟨H.n + 2,0,none⟩) n n),(6,.int .i64 (needL (vals.take j))),(29,.int .i64 n),(30,.int .i64 j)] ∧
    Own ((H.push B1).push B2) H' 1 (.slice (some ⟨H.n + 2,0,none⟩) n n) encI (vals.take j ++ List.replicate (n - j) 0) ∧ Ext ((H.push B1).push B2) H')
   (fun x e H' => x = .exit 0 ∧ e = [(1,ptrV H.n),(4,ptrV (H.n + 1)),(5,.slice (some ⟨H.n + 2,0,none⟩) n n),(6,.int .i64 (needL vals)),(29,.int .i64 n),(30,.int .i64 n),(31,.bool false)] ∧
    Own ((H.push B1).push B2) H' 1 (.slice (some ⟨H.n + 2,0,none⟩) n n) encI vals ∧ Ext ((H.push B1).push B2) H')
   (e0:=[(1,ptrV H.n),(4,ptrV (H.n + 1)),(5,.slice (some ⟨H.n + 2,0,none⟩) n n),(6,.int .i64 0),(29,.int .i64 n),(30,.int .i64 0)]) (H0:=((H.push B1).push B2).push ⟨repeatCells [Value.int .i64 0] n,1,false⟩)
   ⟨rfl,.inr ⟨H.n + 2,by simp,by simp,by rw [ζc _ _ _ (by simp),repeat_I]; simp⟩,(Ext.refl _).push _⟩ (by omega)
   (fun j e H' hj ⟨he,ho,hx⟩ => by
    subst he;have hlt:(j:Int) < n:=by omega
    have hg2:H'.get (H.n + 1) = some ⟨[q],1,false⟩:=hx.get (by rw [ζc _ _ _ (by simp),hB2]);have hu:=U16_run k ((hs.up hx2).up hx) hrb (2 * (j:Int)) (by omega);have hcut:uS r (2 * (j:Int)) 2 = some (num ((r.drop (2 * j)).take 2)):=uS_cut (z:=2) hrlen hj;have hy:vals[j]? = some (num ((r.drop (2 * j)).take 2)):=by rw [hvals,List.getElem?_map,ζ86 _ _ _ _ hj]; rfl
    rw [hcut,orF_some] at hu;have hyb:=uS_two hrb hcut;obtain ⟨b,H2,e1,h1,h2,h3,h4,h5,h6⟩:=ho.set encI_len j 0 1 0 (num ((r.drop (2 * j)).take 2)) (.int .i64 (num ((r.drop (2 * j)).take 2))) (fill_get _ _ hvl hj) rfl rfl (by decide) rfl;rw [ζqy _ _ hvl hj _ hy] at h4;have hnl:needL (vals.take (j + 1)) = max (needL (vals.take j)) (num ((r.drop (2 * j)).take 2) + 1):=by rw [ζ1x hy,ζpo]
    rw [hnl];have hn0:=ζ72 (vals.take j);generalize num ((r.drop (2 * j)).take 2) = y at *;generalize needL (vals.take j) = m at *;simp at e1;obtain ⟨rfl,_⟩:=e1;have hx':Ext ((H.push B1).push B2) H2:=⟨by rw [h6]; exact hx.n,fun d hd hs => by rw [h5 d (by intro e; rw [e] at hd; simp at hd)]; exact hx.2 d hd hs⟩
    have hgv:H2.get (H.n + 2) = some ⟨rows encI (vals.take (j + 1) ++ List.replicate (n - (j + 1)) 0),1,false⟩:=by
     rcases h4 with ⟨h,_⟩ | ⟨b',h,_,h'⟩
     ·have:=congrArg List.length h; simp only [List.length_append,List.length_replicate,List.length_take,hvl,List.length_nil] at this; omega
     ·simp at h; obtain ⟨rfl,_⟩:=h; exact h'
    have hld:=ld1_row encI_len hgv (i:=j) (c:=0) (x:=y) (by rw [List.getElem?_append_left (by simp; omega),List.getElem?_take,if_pos (by omega),hy]) (by decide) rfl;simp only [Nat.add_zero,Nat.mul_one] at h3 hld;have hmax:(if y + 1 > m then y + 1 else m) = max m (y + 1):=by split <;> omega
    refine .inl ⟨_,H2,?_,rfl,h4,hx'⟩;rw [ζ61,← hmax];simp -implicitDefEqProofs (disch:=omega) [-stR_ptr,-ld1_ptr,hlt,ld1_ptr H.n.succ 0,hg2,hu,ζgp,h3,hld]
    )
   (fun e H' ⟨he,ho,hx⟩ => by
    subst he;refine ⟨.exit 0,_,H',?_,by simp,rfl,rfl,?_,hx⟩
    ·rw [ζ61,List.take_of_length_le (by omega)];simp -implicitDefEqProofs
    ·rw [List.take_of_length_le (by omega)] at ho;simpa using ho)
  obtain ⟨o3,g⟩:=g.more_own ho hx;obtain ⟨sl,hsl⟩:∃ sl:Value,sl = .slice (some ⟨H.n + 2,0,none⟩) n n:=⟨_,rfl⟩
  rw [← hsl] at g ho hr';obtain ⟨bs',hbs⟩:∃ bs',bs' = bs ++ [itBlk H.n B1,itBlk (H.n + 1) B2,itRow o3 1 sl encI vals]:=⟨_,rfl⟩
  have g:Star H0 H1 (itBlk c ⟨[.int .i64 n,tab,s1,s2],1,false⟩ :: itRow o1 1 s1 encU l :: itRow o2 4 s2 encEn es :: (X ++ bs')):=by
   rw [hbs];simpa using g
  have hM1:=g.get 0 rfl;have hB1g:H1.get H.n = some B1:=g.memBlk (by simp [hbs]);have hn1:¬ H.n = H1.n:=by have:=Heap.get_lt hB1g; omega
  have hc1:¬ c = H1.n:=by have:=Heap.get_lt hM1; omega
  have hvq:=(g.row 1 rfl).veq;obtain ⟨s1',o1',H2,e2,g⟩:=g.append1 (bytes:=24) 1 encU_len rfl (vals,sl) (by rw [hll]; omega) (by decide);simp only [List.set_cons_zero,List.set_cons_succ] at g;have hB1g2:H2.get H.n = some B1:=g.memBlk (by simp [hbs]);obtain ⟨H3,e3,g,_⟩:=g.stCell 0 rfl 2 (g.row 1 rfl).storable (g.row 1 rfl).cells (by simp);simp only [List.set_cons_zero,List.set_cons_succ] at g;refine ⟨H3,nrm_of ?_,l ++ [(vals,sl)],s1',o1',s2,o2,bs',by simp [h1],g,fun x hx => ?_⟩
  ·have hsls:storable sl = true:=by rw [hsl]; rfl
   have hslc:sl.cells = #[sl]:=by rw [hsl]; rfl
   have hsln:∀ H',lnS sl H' = .ok (.int .i64 n) H':=fun H' => by rw [hsl]; rfl
   rw [hB1] at hB1g hB1g2 hr';rw [hB2] at hr';simp only [encU] at e2;simp -implicitDefEqProofs (disch:=omega) [-stR_ptr,ζ1u,hcn,hM,hlen1,hRows,mkR_nat,stR_ptr 1 (H.n + 1) 0,← hsl,hr',ζa1,hB1g,hB1g2,hn1,hc1,hM1,hvq,hE,hsls,hslc,hsln,e2,e3]
  ·rcases List.mem_append.1 hx with hx | hx
   ·obtain ⟨o,ho⟩:=h3 x hx;exact ⟨o,by rw [hbs]; simp [ho]⟩
   ·simp at hx;subst hx;exact ⟨o3,by rw [hbs]; simp⟩
end Go.Sw
end
section
namespace Go.Sw
open Go.RowKit
theorem ζuj (k:Nat) {H0 H:Heap} {X:List It} {c:Nat} {n:Int} {tab:Value} {rs:List (List Int)} {es:List En} (h:MS H0 H X c n tab rs es) (hel:es.length < 65536) {vR vE:Value} {ev:List Int} (w:Int) (hw:w = 0 ∨ w = 1 ∨ w = 2) (hv:Sl H 1 vE encB ev) (hR:Go.Sw.veq vR vR = true) (hb:Byt ev) (hl:ev.length < 2 ^ 31) :
  match entK ev w es.length with
  | some e => ∃ H',R (T k) F.ζ9 [.agg #[ptrV c,vR,vE,.int .i64 w]] H = .ok (.int .i64 (e.next + 1)) H' ∧ MS H0 H' X c n tab rs (es ++ [e])
  | none => R (T k) F.ζ9 [.agg #[ptrV c,vR,vE,.int .i64 w]] H = .panic failV H:=by
 obtain ⟨l,s1,o1,s2,o2,bs,h1,g,h3⟩:=h;have hM:=g.get 0 rfl;have hlen2:=(g.row 2 rfl).len;have hcn:¬ c = H.n:=by have:=Heap.get_lt hM; omega
 have hx1:Ext H (H.push ⟨[ptrV c,vR,vE,.int .i64 w],1,false⟩):=(Ext.refl H).push _;have hm0:0 ≤ (4 + 2 * w) * (es.length:Int):=Int.mul_nonneg (by omega) (by omega);have hm1:(4 + 2 * w) * (es.length:Int) ≤ 8 * 65536:=Int.mul_le_mul (by omega) (by omega) (by omega) (by omega);have hCut:=Cut_run k (hv.up hx1) ((4 + 2 * w) * es.length) (4 + 2 * w) (by omega);rw [ζel];cases hr:pieceS ev ((4 + 2 * w) * es.length) (4 + 2 * w) with
 | none =>
  have:entK ev w es.length = none:=by unfold entK; rw [hr]; rfl
  rw [this];rw [hr] at hCut;refine ζ1w ⟨_,?_,hx1⟩ Flat.fail.alive;simp -implicitDefEqProofs (disch:=omega) [ζ9,hcn,hM,hlen2,hCut]
 | some r =>
  have hK:entK ev w es.length = some (entOf w r):=by unfold entK; rw [hr]; rfl
  rw [hK];dsimp only;rw [hr] at hCut;have hs:=ζ4b (hv.up hx1) hr;have hrb:=(hb.piece hr).1;have hrl:=ζ45 hr;generalize subV 1 vE ((4 + 2 * w) * (es.length:Int)).toNat (4 + 2 * w).toNat = q at hs hCut;have hq:=rd_vw hs;obtain ⟨B1,hB1⟩:∃ B1:Blk,B1 = ⟨[ptrV c,vR,vE,.int .i64 w],1,false⟩:=⟨_,rfl⟩
  obtain ⟨B2,hB2⟩:∃ B2:Blk,B2 = ⟨[q],1,false⟩:=⟨_,rfl⟩
  obtain ⟨e,he⟩:∃ e,e = entOf w r:=⟨_,rfl⟩
  rw [← he];have hu:∀ i,0 ≤ i → i + 2 ≤ 4 + 2 * w → ∀ H',Ext (H.push B1) H' → R (T k) F.ζb [.agg #[q],.int .i64 i] H' = .ok (.int .i64 (gU r i 2)) H':=fun i hi0 hi1 H' hx => by
   rw [← hB1] at hs;have:=U16_run k (hs.up hx) hrb i (by omega);rw [(piece_gU hb hr hi0 hi1).1,orF_some] at this;exact this
  have hx2:Ext (H.push B1) ((H.push B1).push B2):=(Ext.refl _).push _;have u0:=hu 0 (by omega) (by omega) _ hx2;have u2:=hu 2 (by omega) (by omega) _ hx2;have g0:=(piece_gU hb hr (i:=0) (by omega) (by omega)).2;have g2:=(piece_gU hb hr (i:=2) (by omega) (by omega)).2;have hn:e.next = gU r 0 2:=by rw [he]; rfl
  have hf:e.flags = gU r 2 2:=by rw [he]; rfl
  have g:=((g.push B1).push B2).push ⟨encEn e,1,false⟩;obtain ⟨P,hP⟩:∃ P,P = ((H.push B1).push B2).push ⟨encEn e,1,false⟩:=⟨_,rfl⟩
  rw [← hP] at g;obtain ⟨bs',hbs⟩:∃ bs',bs' = bs ++ [itBlk H.n B1,itBlk (H.n + 1) B2,itBlk (H.n + 2) ⟨encEn e,1,false⟩]:=⟨_,rfl⟩
  have g:Star H0 P (itBlk c ⟨[.int .i64 n,tab,s1,s2],1,false⟩ :: itRow o1 1 s1 encU l :: itRow o2 4 s2 encEn es :: (X ++ bs')):=by
   rw [hbs];simpa using g
  have hM1:=g.get 0 rfl;have hB1g:P.get H.n = some B1:=g.memBlk (by simp [hbs]);have hPn:P.n = H.n + 3:=by rw [hP]; simp
  have hn1:¬ H.n = P.n:=by omega
  have hc1:¬ c = P.n:=by have:=Heap.get_lt hM1; omega
  have hvq:=(g.row 2 rfl).veq;obtain ⟨s2',o2',H2,e2,g⟩:=g.append1 (bytes:=32) 2 ζ52 rfl e (by omega) (by decide);simp only [List.set_cons_zero,List.set_cons_succ] at g;have hB1g2:H2.get H.n = some B1:=g.memBlk (by simp [hbs]);obtain ⟨H3,e3,g,_⟩:=g.stCell 0 rfl 3 (g.row 2 rfl).storable (g.row 2 rfl).cells (by simp);simp only [List.set_cons_zero,List.set_cons_succ] at g;have hB3g:H3.get (H.n + 2) = some ⟨encEn e,1,false⟩:=g.memBlk (by simp [hbs]);refine ⟨H3,nrm_of ?_,l,s1,o1,s2',o2',bs',h1,g,fun x hx => ?_⟩;rotate_left
  ·obtain ⟨o,ho⟩:=h3 x hx;exact ⟨o,by rw [hbs]; simp [ho]⟩
  rw [hB1] at hB1g hB1g2;have hPe:=hP;rw [hB1,hB2] at hPe;have hP2:P.get (H.n + 2) = some ⟨encEn e,1,false⟩:=by rw [hP]; simp
  have hP1:P.get (H.n + 1) = some B2:=by rw [hP]; simp
  rw [hB2] at hP1;rw [hB1,hB2] at u0 u2;have hq2:Go.Sw.veq (.agg #[q]) (.agg #[q]) = true:=veq_agg (l:=[q]) fun u hu => by simp at hu; subst hu; exact hq
  have hn2:¬ H.n + 2 = P.n:=by omega
  have e2':=e2;unfold encEn at e2';have hj4:ζ3c k (R (T k)) (ptrV H.n) (ptrV (H.n + 1)) (ptrV (H.n + 2)) (.bool false) P = .ok (.int .i64 (e.next + 1)) H3:=by
   rw [ζ8v];simp -implicitDefEqProofs (disch:=omega) [-stR_ptr,hB1g,hM1,hP2,hn1,hc1,hB1g2,hvq,e2',e3,hB3g]
  have hj3:ζ3b k (R (T k)) (ptrV H.n) (ptrV (H.n + 2)) P = .ok (.int .i64 (e.next + 1)) H3:=by
   rw [ζ8u];simp -implicitDefEqProofs (disch:=omega) [-stR_ptr,hB1g,hM1,hP2,hn1,hc1,hB1g2,hvq,e2',e3,hB3g]
  rcases hw with rfl | rfl | rfl
  ·have hall:encEn e = [.int .i64 (gU r 0 2),.int .i64 (gU r 2 2),.int .i64 0,.int .i64 0]:=by rw [he]; rfl
   rw [hall] at hPe;simp -implicitDefEqProofs (disch:=omega) at hCut;simp -implicitDefEqProofs (disch:=omega) [ζ9,hcn,hM,hlen2,hCut,u0,u2,hq2,← hPe,ζ8t,hB1g,hj4]
  ·have hall:encEn e = [.int .i64 (gU r 0 2),.int .i64 (gU r 2 2),.int .i64 (gU r 4 2),.int .i64 0]:=by rw [he]; rfl
   rw [hall] at hPe;have u4:=hu 4 (by omega) (by omega) _ (hx2.push ⟨[.int .i64 (gU r 0 2),.int .i64 (gU r 2 2),.int .i64 0,.int .i64 0],1,false⟩);rw [hB1,hB2] at u4;simp -implicitDefEqProofs (disch:=omega) at hCut;simp -implicitDefEqProofs (disch:=omega) [ζ9,hcn,hM,hlen2,hCut,u0,u2,u4,hq2,← hPe,ζ5c,hB1g,hj4]
  ·have hall:encEn e = [.int .i64 (gU r 0 2),.int .i64 (gU r 2 2),.int .i64 (gU r 4 2),.int .i64 (gU r 6 2)]:=by rw [he]; rfl
   rw [hall] at hPe;have u4:=hu 4 (by omega) (by omega) _ (hx2.push ⟨[.int .i64 (gU r 0 2),.int .i64 (gU r 2 2),.int .i64 0,.int .i64 0],1,false⟩);have u6:=hu 6 (by omega) (by omega) _ (hx2.push ⟨[.int .i64 (gU r 0 2),.int .i64 (gU r 2 2),.int .i64 (gU r 4 2),.int .i64 0],1,false⟩);rw [hB1,hB2] at u4 u6;simp -implicitDefEqProofs (disch:=omega) at hCut;simp -implicitDefEqProofs (disch:=omega) [ζ9,hcn,hM,hlen2,hCut,u0,u2,u4,u6,hq2,← hPe,ζ5c,hj3]
theorem ζth (rs:List (List Int)) (r:List Int):needR (rs ++ [r]) = max (needR rs) (needL r):=by
 unfold needR;rw [List.flatten_append,ζ71];simp
theorem ζeh (rs:List (List Int)):0 ≤ needR rs:=ζ72 _
theorem rowK_lt {rv:List Int} (hb:Byt rv) {n:Int} {k:Nat} {r:List Int} (h:rowK rv n k = some r):∀ y,y ∈ r → 0 ≤ y ∧ y < 65536:=by
 unfold rowK listS at h;obtain ⟨q,hq,rfl⟩:=Option.map_eq_some_iff.1 h;have hqb:=(hb.piece (ζ2y hq)).1;intro y hy;obtain ⟨c,hc,rfl⟩:=List.mem_map.1 hy;obtain ⟨h5,h6⟩:=ζdq hqb _ _ hc;have:=ζou c h5;have hp:(256:Int) ^ c.length ≤ 256 ^ 2:=by
  have:c.length ≤ 2:=h6
  match hcl:c.length,this with
  | 0,_ => decide
  | 1,_ => decide
  | 2,_ => decide
 omega
theorem ζnt {rv:List Int} (hb:Byt rv) {n:Int} {m:Nat} {rs:List (List Int)} (h:rowsTo rv n m = some rs):needR rs ≤ 65536:=needL_lt (by omega) fun y hy => by
 obtain ⟨r,hrm,hy⟩:=List.mem_flatten.1 hy;obtain ⟨i,hi⟩:=List.getElem?_of_mem hrm;obtain ⟨k,_,hk⟩:=mapO_get h hi;exact (rowK_lt hb hk y hy).2
theorem ζjg {β:Type} {f:Nat → Option β} {n m:Nat} (h:n ≤ m) (hn:mapO f (List.range n) = none):mapO f (List.range m) = none:=by
 cases hm:mapO f (List.range m) with
 | none => rfl
 | some r => rw [ζnp h hm] at hn; cases hn
section
variable (k:Nat) {H0:Heap} {X:List It} {c r:Nat} {n:Int} {tab vR vE:Value} {rv ev:List Int} {w:Int}
 (hn:0 ≤ n ∧ n ≤ 65535) (hw:w = 0 ∨ w = 1 ∨ w = 2) (hvR:Sl H0 1 vR encB rv) (hvE:Sl H0 1 vE encB ev) (hbR:Byt rv) (hbE:Byt ev) (hlR:rv.length < 2 ^ 31) (hlE:ev.length < 2 ^ 31)
 (hX:itBlk r ⟨[ptrV c,vR,vE,.int .i64 w],1,false⟩ ∈ X)
include hn hvR hvE hbR hlR hX
theorem ζvb {H:Heap} (s:Nat) (hs:s ≤ 65536) {rs:List (List Int)} {es:List En} (h:MS H0 H X c n tab rs es) (hrs:rs.length ≤ s) (ht:rowsTo rv n rs.length = some rs) :
  (∃ rs' H',loopN (ζ4w k (R (T k))) loopFuel [(8,ptrV c),(9,ptrV r),(10,.int .i64 s),(11,.int .i64 (needR rs))] H = .ok (.exit 2,[(8,ptrV c),(9,ptrV r),(10,.int .i64 s),(11,.int .i64 (needR rs')),(63,.bool false)]) H' ∧ rowsTo rv n s = some rs' ∧ MS H0 H' X c n tab rs' es) ∨
  (∃ H',loopN (ζ4w k (R (T k))) loopFuel [(8,ptrV c),(9,ptrV r),(10,.int .i64 s),(11,.int .i64 (needR rs))] H = .panic failV H' ∧ Ext H0 H' ∧ rowsTo rv n s = none):=by
 rcases loopDecP (body:=ζ4w k (R (T k)))
  (fun m e H' => ∃ rs,m = s - rs.length ∧ rs.length ≤ s ∧ e = [(8,ptrV c),(9,ptrV r),(10,.int .i64 s),(11,.int .i64 (needR rs))] ∧ rowsTo rv n rs.length = some rs ∧ MS H0 H' X c n tab rs es)
  (fun x e H' => ∃ rs',x = .exit 2 ∧ e = [(8,ptrV c),(9,ptrV r),(10,.int .i64 s),(11,.int .i64 (needR rs')),(63,.bool false)] ∧ rowsTo rv n s = some rs' ∧ MS H0 H' X c n tab rs' es)
  (fun v H' => v = failV ∧ Ext H0 H' ∧ rowsTo rv n s = none)
  (s - rs.length) (e0:=[(8,ptrV c),(9,ptrV r),(10,.int .i64 s),(11,.int .i64 (needR rs))]) (H0:=H) ⟨rs,rfl,hrs,rfl,ht,h⟩ (by omega)
  (fun m e H' ⟨rs,hm,hle,he,ht,h⟩ => by
   subst he;obtain ⟨s1,s2,hM,hl1,hl2⟩:=h.here;have hr:=h.memX hX;have h0:=ζeh rs;have h6:=ζnt hbR ht;by_cases hlt:rs.length < s
   ·have hlt':(rs.length:Int) < s:=by omega
    have hrow:=row_run k h hn (by omega) (vE:=vE) w (hvR.up h.ext) (rd_vw hvE) hbR hlR;cases hK:rowK rv n rs.length with
    | none =>
     rw [hK] at hrow;refine .inr (.inr ⟨failV,H',?_,rfl,h.ext,ζjg (n:=rs.length + 1) hlt ?_⟩)
     ·rw [ζ76];simp -implicitDefEqProofs (disch:=omega) [hM,hl1,hlt',hr,hrow]
     ·rw [ζf3,show mapO (rowK rv n) (List.range rs.length) = some rs from ht,Option.bind_some,hK];rfl
    | some row =>
     rw [hK] at hrow;obtain ⟨H2,e2,h2⟩:=hrow;have hmax:(if needL row > needR rs then needL row else needR rs) = needR (rs ++ [row]):=by rw [ζth]; split <;> omega
     refine .inl ⟨s - (rs ++ [row]).length,_,H2,?_,by simp; omega,rs ++ [row],rfl,by simp; omega,rfl,?_,h2⟩
     ·rw [ζ76,← hmax];simp -implicitDefEqProofs (disch:=omega) [hM,hl1,hlt',hr,e2]
     ·rw [List.length_append,List.length_singleton];unfold rowsTo at ht ⊢;rw [ζf3,ht,Option.bind_some,hK];rfl
   ·have hlt':¬ (rs.length:Int) < s:=by omega
    refine .inr (.inl ⟨.exit 2,_,H',?_,by simp,rs,rfl,rfl,by rw [show s = rs.length by omega]; exact ht,h⟩);rw [ζ76];simp -implicitDefEqProofs (disch:=omega) [hM,hl1,hlt']) with ⟨x,e',H',h1,rs',rfl,rfl,h2,h3⟩ | ⟨v,H',h1,rfl,h2,h3⟩
 ·exact .inl ⟨rs',H',h1,h2,h3⟩
 ·exact .inr ⟨H',h1,h2,h3⟩
end
section
variable (k:Nat) {H0:Heap} {X:List It} {c r:Nat} {n:Int} {tab vR vE:Value} {rv ev:List Int} {w:Int}
 (hn:0 ≤ n ∧ n ≤ 65535) (hw:w = 0 ∨ w = 1 ∨ w = 2) (hvR:Sl H0 1 vR encB rv) (hvE:Sl H0 1 vE encB ev) (hbR:Byt rv) (hbE:Byt ev) (hlR:rv.length < 2 ^ 31) (hlE:ev.length < 2 ^ 31)
 (hX:itBlk r ⟨[ptrV c,vR,vE,.int .i64 w],1,false⟩ ∈ X)
include hw hvR hvE hbE hlE hX
theorem ζuk {H:Heap} (s:Int) (hs:2 ≤ s ∧ s ≤ 65536) (N:Nat) (hN:N ≤ 65536) {rs:List (List Int)} {es:List En} (h:MS H0 H X c n tab rs es) (hes:es.length ≤ N) (ht:entsTo ev w es.length = some es) (hsn:needE es ≤ s) :
  (∃ es' H',loopN (ζ4x k (R (T k))) loopFuel [(8,ptrV c),(9,ptrV r),(10,.int .i64 s),(11,.int .i64 N)] H = .ok (.exit 4,[(8,ptrV c),(9,ptrV r),(10,.int .i64 (max s (needE es'))),(11,.int .i64 N),(74,.bool false)]) H' ∧ entsTo ev w N = some es' ∧ MS H0 H' X c n tab rs es') ∨
  (∃ H',loopN (ζ4x k (R (T k))) loopFuel [(8,ptrV c),(9,ptrV r),(10,.int .i64 s),(11,.int .i64 N)] H = .panic failV H' ∧ Ext H0 H' ∧ entsTo ev w N = none):=by
 rcases loopDecP (body:=ζ4x k (R (T k)))
  (fun m e H' => ∃ es,m = N - es.length ∧ es.length ≤ N ∧ e = [(8,ptrV c),(9,ptrV r),(10,.int .i64 (max s (needE es))),(11,.int .i64 N)] ∧ entsTo ev w es.length = some es ∧ MS H0 H' X c n tab rs es)
  (fun x e H' => ∃ es',x = .exit 4 ∧ e = [(8,ptrV c),(9,ptrV r),(10,.int .i64 (max s (needE es'))),(11,.int .i64 N),(74,.bool false)] ∧ entsTo ev w N = some es' ∧ MS H0 H' X c n tab rs es')
  (fun v H' => v = failV ∧ Ext H0 H' ∧ entsTo ev w N = none)
  (N - es.length) (e0:=[(8,ptrV c),(9,ptrV r),(10,.int .i64 s),(11,.int .i64 N)]) (H0:=H) ⟨es,rfl,hes,by rw [show max s (needE es) = s by omega],ht,h⟩ (by omega)
  (fun m e H' ⟨es,hm,hle,he,ht,h⟩ => by
   subst he;obtain ⟨s1,s2,hM,hl1,hl2⟩:=h.here;have hr:=h.memX hX;have h6:=needE_le hbE ht;by_cases hlt:es.length < N
   ·have hlt':(es.length:Int) < N:=by omega
    have hent:=ζuj k h (by omega) (vR:=vR) w hw (hvE.up h.ext) (rd_vw hvR) hbE hlE;cases hK:entK ev w es.length with
    | none =>
     rw [hK] at hent;refine .inr (.inr ⟨failV,H',?_,rfl,h.ext,ζjg (n:=es.length + 1) hlt ?_⟩)
     ·rw [ζ77];simp -implicitDefEqProofs (disch:=omega) [hM,hl2,hlt',hr,hent]
     ·rw [ζf3,show mapO (entK ev w) (List.range es.length) = some es from ht,Option.bind_some,hK];rfl
    | some en =>
     rw [hK] at hent;obtain ⟨H2,e2,h2⟩:=hent;have hen:needE (es ++ [en]) = max (needE es) (en.next + 1):=by
      unfold needE;rw [List.map_append,List.map_singleton,ζpo];omega
     have hmax:(if en.next + 1 > max s (needE es) then en.next + 1 else max s (needE es)) = max s (needE (es ++ [en])):=by rw [hen]; split <;> omega
     refine .inl ⟨N - (es ++ [en]).length,_,H2,?_,by simp; omega,es ++ [en],rfl,by simp; omega,rfl,?_,h2⟩
     ·rw [ζ77,← hmax];simp -implicitDefEqProofs (disch:=omega) [hM,hl2,hlt',hr,e2]
     ·rw [List.length_append,List.length_singleton];unfold entsTo at ht ⊢;rw [ζf3,ht,Option.bind_some,hK];rfl
   ·have hlt':¬ (es.length:Int) < N:=by omega
    refine .inr (.inl ⟨.exit 4,_,H',?_,by simp,es,rfl,rfl,by rw [show N = es.length by omega]; exact ht,h⟩);rw [ζ77];simp -implicitDefEqProofs (disch:=omega) [hM,hl2,hlt']) with ⟨x,e',H',h1,es',rfl,rfl,h2,h3⟩ | ⟨v,H',h1,rfl,h2,h3⟩
 ·exact .inl ⟨es',H',h1,h2,h3⟩
 ·exact .inr ⟨H',h1,h2,h3⟩
end
section
variable (k:Nat) {H0:Heap} {X:List It} {c r:Nat} {n:Int} {tab vR vE:Value} {rv ev:List Int} {w:Int}
 (hn:0 ≤ n ∧ n ≤ 65535) (hw:w = 0 ∨ w = 1 ∨ w = 2) (hvR:Sl H0 1 vR encB rv) (hvE:Sl H0 1 vE encB ev) (hbR:Byt rv) (hbE:Byt ev) (hlR:rv.length < 2 ^ 31) (hlE:ev.length < 2 ^ 31)
 (hX:itBlk r ⟨[ptrV c,vR,vE,.int .i64 w],1,false⟩ ∈ X)
include hn hw hvR hvE hbR hbE hlR hlE hX
theorem all_loop {H:Heap} (h:MS H0 H X c n tab [] []) :
  Cp failV (Ext H0) (loopN (ζ4v k (R (T k))) loopFuel [(8,ptrV c),(9,ptrV r),(10,.int .i64 2),(11,.int .i64 0)] H) (closeA rv ev n w 2)
   fun x xe H' => (∃ a b,xe = (.exit 0,[(8,ptrV c),(9,ptrV r),(10,a),(11,b),(56,.bool false)])) ∧ MS H0 H' X c n tab x.1 x.2:=by
 rcases loopDecP (body:=ζ4v k (R (T k)))
  (fun m e H' => ∃ (s:Nat) (rs:List (List Int)) (es:List En),m = 2 * (65537 - s) + (if rs.length < s then 1 else 0) ∧ e = [(8,ptrV c),(9,ptrV r),(10,.int .i64 s),(11,.int .i64 (needR rs))] ∧ 2 ≤ s ∧ s ≤ 65536 ∧ rs.length ≤ s ∧
   rowsTo rv n rs.length = some rs ∧ es.length = (needR rs).toNat ∧ entsTo ev w es.length = some es ∧ needE es ≤ s ∧ MS H0 H' X c n tab rs es ∧ closeA rv ev n w 2 = if rs.length < s then closeA rv ev n w s else some (rs,es))
  (fun x e H' => x = .exit 0 ∧ ∃ rs es a b,e = [(8,ptrV c),(9,ptrV r),(10,a),(11,b),(56,.bool false)] ∧ closeA rv ev n w 2 = some (rs,es) ∧ MS H0 H' X c n tab rs es)
  (fun v H' => v = failV ∧ Ext H0 H' ∧ closeA rv ev n w 2 = none)
  (2 * 65535 + 1) (e0:=[(8,ptrV c),(9,ptrV r),(10,.int .i64 2),(11,.int .i64 0)]) (H0:=H) ⟨2,[],[],rfl,rfl,by omega,by omega,by simp,rfl,rfl,rfl,(by decide),h,rfl⟩ (by omega)
  (fun m e H' ⟨s,rs,es,hm,he,hs2,hs6,hrs,ht,hel,hte,hne,h,hspec⟩ => by
   subst he;obtain ⟨s1,s2,hM,hl1,hl2⟩:=h.here;have h0:=ζeh rs;by_cases hlt:rs.length < s
   ·have hlt':(rs.length:Int) < s:=by omega
    rw [if_pos hlt] at hspec;have hce:=ζuc (rv:=rv) hbE (n:=n) (w:=w) hs6;have hgo:∀ x,(loopN (ζ4w k (R (T k))) loopFuel [(8,ptrV c),(9,ptrV r),(10,.int .i64 s),(11,.int .i64 (needR rs))] H').bind (fun r111 h112 => ζ8r k (R (T k)) r111.1 r111.2 h112) = x → ζ4v k (R (T k)) [(8,ptrV c),(9,ptrV r),(10,.int .i64 s),(11,.int .i64 (needR rs))] H' = x:=fun x hx => by
     rw [← hx,ζd9];simp -implicitDefEqProofs (disch:=omega) [hM,hl1,hlt']
    rcases ζvb k hn hvR hvE hbR hlR hX s hs6 h hrs ht with ⟨rs',H2,e2,ht2,h2⟩ | ⟨H2,e2,hx2,ht2⟩
    rotate_left
    ·refine .inr (.inr ⟨failV,H2,hgo _ ?_,rfl,hx2,by rw [hspec,hce,ht2]; rfl⟩);rw [e2]; rfl
    have hrl:rs'.length = s:=by have:=mapO_len ht2; simpa using this
    have hn2:=ζeh rs';have hn6:=ζnt hbR ht2;have hpre:rs = rs'.take rs.length:=by
     have:=ζnp hrs ht2;have ht':mapO (rowK rv n) (List.range rs.length) = some rs:=ht;rw [ht'] at this;injection this
    have hmono:needR rs ≤ needR rs':=by
     conv => lhs; rw [hpre]
     have:=List.take_append_drop rs.length rs';conv => rhs; rw [← this]
     unfold needR;rw [List.flatten_append,ζ71];omega
    have hNN:((needR rs').toNat:Int) = needR rs':=by omega
    rw [hspec] at *;rw [ht2,Option.bind_some] at hce;have hgo2:∀ x,(loopN (ζ4x k (R (T k))) loopFuel [(8,ptrV c),(9,ptrV r),(10,.int .i64 s),(11,.int .i64 (((needR rs').toNat:Nat):Int))] H2).bind (fun r111 h112 => ζ8s k (R (T k)) r111.1 r111.2 h112) = x → ζ4v k (R (T k)) [(8,ptrV c),(9,ptrV r),(10,.int .i64 s),(11,.int .i64 (needR rs))] H' = x:=fun x hx => by
     refine hgo x ?_;rw [e2,← hx,Res.bind_ok,ζgf,hNN]
    rcases ζuk k hw hvR hvE hbE hlE hX s (by omega) (needR rs').toNat (by omega) h2 (by omega) hte hne with ⟨es',H3,e3,ht3,h3⟩ | ⟨H3,e3,hx3,ht3⟩
    rotate_left
    ·refine .inr (.inr ⟨failV,H3,hgo2 _ ?_,rfl,hx3,by rw [hce,ht3]; rfl⟩);rw [e3]; rfl
    have hE:=needE_le hbE ht3;have hel':es'.length = (needR rs').toNat:=by have:=mapO_len ht3; simpa using this
    rw [ht3,Option.bind_some] at hce;have hmx:((max s (needE es').toNat:Nat):Int) = max (s:Int) (needE es'):=by omega
    refine .inl ⟨2 * (65537 - max s (needE es').toNat) + (if rs'.length < max s (needE es').toNat then 1 else 0),_,H3,hgo2 _ ?_,?_,max s (needE es').toNat,rs',es',rfl,rfl,by omega,by omega,by omega,by rw [hrl]; exact ht2,hel',by rw [hel']; exact ht3,by omega,h3,?_⟩
    ·rw [e3,Res.bind_ok,ζgg,hmx,hNN]
    ·rw [hm,if_pos hlt,hrl];split <;> omega
    ·rw [hce,hrl];by_cases hcl:(needE es').toNat ≤ s
     ·rw [if_pos hcl,if_neg (by omega)]
     ·rw [if_neg hcl,if_pos (by omega),show max s (needE es').toNat = (needE es').toNat by omega]
   ·have hlt':¬ (rs.length:Int) < s:=by omega
    have hlt2:¬ (es.length:Int) < needR rs:=by omega
    rw [if_neg hlt] at hspec;refine .inr (.inl ⟨.exit 0,[(8,ptrV c),(9,ptrV r),(10,.int .i64 s),(11,.int .i64 (needR rs)),(56,.bool false)],H',?_,by simp,rfl,rs,es,_,_,rfl,hspec,h⟩);rw [ζd9];simp -implicitDefEqProofs (disch:=omega) [hM,hl1,hl2,hlt',hlt2]) with ⟨x,e',H',h1,rfl,rs',es',a,b,rfl,h2,h3⟩ | ⟨v,H',h1,rfl,h2,h3⟩
 ·rw [h2];exact ⟨_,H',h1,h3.ext,⟨a,b,rfl⟩,h3⟩
 ·rw [h3];exact ⟨H',h1,h2⟩
end
end Go.Sw
end
section
namespace Go.Sw
open Go.RowKit
abbrev machV (m:Mach):Value:=boxV #[.int .i64 m.classes,tabV m.tab,lv encRow m.rows,lv encEn m.ents]
theorem Flat.rowsL (l:List (List Int)):Flat (Go.Sw.lv encRow l):=.lv fun p _ => .cons (Flat.I _) .nil
theorem Flat.mach (m:Mach):Flat (machV m):=.boxV (l:=[.int .i64 m.classes,tabV m.tab,Go.Sw.lv encRow m.rows,Go.Sw.lv encEn m.ents]) (.cons (.int _ _) (.cons (Flat.tab _) (.cons (Flat.rowsL _) (.cons (Flat.Ens _) .nil))))
theorem ζva (l:List (List Int × Value)):rows (fun x:List Int × Value => encRow x.1) l = rows encRow (l.map Prod.fst):=by
 induction l with
 | nil => rfl
 | cons x l ih => rw [List.map_cons,ζ4m,ζ4m,ih]
theorem MS.freeze {H0 H:Heap} {X:List It} {c:Nat} {n:Int} {t:Int × List Pt} {rs:List (List Int)} {es:List En} (h:MS H0 H X c n (tabV t) rs es):∃ L,fzV H0.n H fzDepth (ptrV c) = some (machV ⟨n,t,rs,es⟩,L):=by
 obtain ⟨l,s1,o1,s2,o2,bs,h1,g,h3⟩:=h;have hc:=(g.lt 0 rfl c (by simp [itBlk])).1;obtain ⟨L1,f1⟩:=(g.own 1 rfl).freezeG (enc':=fun x:List Int × Value => encRow x.1) encU_len 5 fun x hx => by
  obtain ⟨o,ho⟩:=h3 x hx;obtain ⟨L,hL⟩:=(g.memOwn (o:=o) (m:=1) (s:=x.2) (enc:=encI) (l:=x.1) (by simp [ho])).freeze encI_len (ζeo _) 4;exact ⟨_,mapF_one hL⟩
 obtain ⟨L2,f2⟩:=(g.own 2 rfl).freeze ζ52 (ζnd _) 5;have e1:lv (fun x:List Int × Value => encRow x.1) l = lv encRow rs:=by
  unfold lv;rw [ζva,h1,← h1,List.length_map]
 rw [e1] at f1;exact ⟨_,fz_box hc (g.get 0 rfl) (ζ4a (v:=.int .i64 n) (u:=.int .i64 n) (L1:=[]) rfl (ζ4a (v:=tabV t) (u:=tabV t) (L1:=[]) rfl (ζ4a f1 (mapF_one f2))))⟩
theorem restS_sl {H:Heap} {v:Value} {b r:List Int} (hv:Sl H 1 v encB b) {i:Int} (hl:b.length < 2 ^ 62) (hi:i ≤ 9223372036854775807) (h:restS b i = some r):Sl H 1 (subV 1 v i.toNat (behind b i).toNat) encB r :=
 ζ4b hv (by rw [ζe9 b i hl hi]; exact h)
theorem ζ6o {b r:List Int} {i:Int} (h:restS b i = some r):r.length ≤ b.length:=by
 unfold restS at h;split at h
 ·injection h with h;subst h;simp
 ·cases h
theorem ζg7 (k:Nat) {H:Heap} {v:Value} {b:List Int} (hv:Sl H 1 v encB b) (hb:Byt b) (g w:Int) (hg1:1 ≤ g) (hg2:g ≤ 65535) (hw:w = 0 ∨ w = 1 ∨ w = 2) (hl:b.length < 2 ^ 31) :
  R (T k) F.ζ2v [.agg #[v],.int .i64 g,.int .i64 w] H = orF (machS b g w) machV H:=by
 rw [ζqj];have hx:Ext H (H.push ⟨[v],1,false⟩):=(Ext.refl H).push _;have hq:=rd_vw hv;have hqa:veq (.agg #[v]) (.agg #[v]) = true:=veq_agg (l:=[v]) fun u hu => by simp at hu; subst hu; exact hq
 refine fz_orF ?_ fun _ _ => (Flat.mach _).alive;simp -implicitDefEqProofs [ζ2v];unfold machS;refine Cp.call (U32_run k (hv.up hx) hb 0 (by omega)) hx fun n hn => ?_;have hn:=uS_four hb hn;by_cases h4:4 ≤ n;rotate_left
 ·have h4':¬ n ≥ 4:=by omega
  rw [if_neg (fun h => h4 h.1)];simp -implicitDefEqProofs (disch:=omega) [h4'];exact .throw hx
 have h4':n ≥ 4:=h4;by_cases h5:n ≤ 65535;rotate_left
 ·rw [if_neg (fun h => h5 h.2)];simp -implicitDefEqProofs (disch:=omega) [h4',h5];exact .throw hx
 rw [if_pos ⟨h4,h5⟩];simp -implicitDefEqProofs (disch:=omega) [h4',h5];refine Cp.callT (U32_run k (hv.up hx) hb 4 (by omega)) (fun _ => ⟨_,rfl,hx⟩) fun i hi => ?_;have hi:=uS_four hb hi;refine Cp.callT (Rest_run k (hv.up hx) i (by omega) (by omega)) (fun _ => ⟨_,by simp -implicitDefEqProofs (disch:=omega) [hqa],hx⟩) fun tb htb => ?_;refine Cp.callT (ζqh k (restS_sl (hv.up hx) (by omega) (by omega) htb) (hb.rest htb) g 2 hg1 hg2 (.inl rfl) (by have:=ζ6o htb; omega)) (fun _ => ⟨_,by simp -implicitDefEqProofs (disch:=omega) [hqa],hx⟩) fun tab htab => ?_;have hx2:Ext H ((H.push ⟨[v],1,false⟩).push ⟨[.int .i64 n,tabV tab,.slice none 0 0,.slice none 0 0],1,false⟩):=hx.push _;simp -implicitDefEqProofs (disch:=omega) [hqa];refine Cp.callT (U32_run k (hv.up hx2) hb 8 (by omega)) (fun _ => ⟨_,by simp -implicitDefEqProofs (disch:=omega) [hqa],hx2⟩) fun j hj => ?_;have hj:=uS_four hb hj;refine Cp.callT (Rest_run k (hv.up hx2) j (by omega) (by omega)) (fun _ => ⟨_,by simp -implicitDefEqProofs (disch:=omega) [hqa],hx2⟩) fun rv hrv => ?_;simp -implicitDefEqProofs (disch:=omega) [hqa];refine Cp.callT (U32_run k (hv.up hx2) hb 12 (by omega)) (fun _ => ⟨_,by simp -implicitDefEqProofs (disch:=omega) [hqa],hx2⟩) fun q hq => ?_;have hq:=uS_four hb hq;refine Cp.callT (Rest_run k (hv.up hx2) q (by omega) (by omega)) (fun _ => ⟨_,by simp -implicitDefEqProofs (disch:=omega) [hqa],hx2⟩) fun ev hev => ?_;have sR:=restS_sl hv (by omega) (by omega) hrv;have sE:=restS_sl hv (by omega) (by omega) hev;have lR:=ζ6o hrv;have lE:=ζ6o hev;generalize subV 1 v j.toNat (behind b j).toNat = vR at sR;generalize subV 1 v q.toNat (behind b q).toNat = vE at sE;have qR:=rd_vw sR;have qE:=rd_vw sE;have qaR:veq (.agg #[vR]) (.agg #[vR]) = true:=veq_agg (l:=[vR]) fun u hu => by simp at hu; subst hu; exact qR
 have qaE:veq (.agg #[vE]) (.agg #[vE]) = true:=veq_agg (l:=[vE]) fun u hu => by simp at hu; subst hu; exact qE
 have stR:=sR.storable;have stE:=sE.storable;have ceR:=sR.cells;have ceE:=sE.cells;have hms:MS H (((H.push ⟨[v],1,false⟩).push ⟨[.int .i64 n,tabV tab,.slice none 0 0,.slice none 0 0],1,false⟩).push ⟨[ptrV (H.n + 1),vR,vE,.int .i64 w],1,false⟩) [itBlk (H.n + 2) ⟨[ptrV (H.n + 1),vR,vE,.int .i64 w],1,false⟩] (H.n + 1) n (tabV tab) [] []:=by
  have g:=((Star.nil H).rest hx).push ⟨[.int .i64 n,tabV tab,.slice none 0 0,.slice none 0 0],1,false⟩;have g:=g.more_row (Ext.refl _) (OwnO.nil encU _ 1) (fun b hb => by cases hb);have g:=g.more_row (Ext.refl _) (OwnO.nil encEn _ 4) (fun b hb => by cases hb);have g:=g.push ⟨[ptrV (H.n + 1),vR,vE,.int .i64 w],1,false⟩;exact ⟨[],_,none,_,none,[],rfl,by simpa using g,fun x hx => by cases hx⟩
 simp -implicitDefEqProofs (disch:=omega) [hqa,qaR,qaE,stR,stE,ceR,ceE];refine Cp.bindM (all_loop k (X:=[itBlk (H.n + 2) ⟨[ptrV (H.n + 1),vR,vE,.int .i64 w],1,false⟩]) (by omega) hw sR sE (hb.rest hrv) (hb.rest hev) (by omega) (by omega) (by simp) hms) ?_;rintro ⟨rs,es⟩ ⟨x,e⟩ H' _ hx' ⟨⟨a,b,he⟩,hm⟩;injection he with e1 e2;subst e1 e2;simp only [ζge];exact .ok hx' hm.freeze
end Go.Sw
end
section
namespace Go.Sw
open Go.RowKit
theorem ζtz (k:Nat) (m:Mach) (hm:m.ok) (id:Int) (H:Heap):R (T k) F.ζ1r [machV m,.int .i64 id] H = .ok (.int .i64 (classS m id)) H:=by
 rw [ζdz];refine nrm_gc (Pure.of ?_) (.int _ _);have hget:=fun H => Get_run k m.tab hm.pts hm.rise id hm.plen H;unfold classS;by_cases h:id = 65535
 ·subst h;simp -implicitDefEqProofs (disch:=omega) [ζ1r]
 ·have h':(id == 65535) = false:=by simpa using h
  rw [if_neg h];cases hg:getS m.tab.2 id with
  | none =>
   rw [hg] at hget;simp -implicitDefEqProofs (disch:=omega) [ζ1r,h',hget]
  | some x =>
   rw [hg] at hget;dsimp only;by_cases hx:x < m.classes
   ·simp -implicitDefEqProofs (disch:=omega) [ζ1r,h',hget,hx]
   ·simp -implicitDefEqProofs (disch:=omega) [ζ1r,h',hget,hx]
def encEA (o:Option En):Value:=.agg (encEn (o.getD ⟨0,0,0,0⟩)).toArray
theorem ζsr (o:Option En):Flat (encEA o):=Flat.ofEn _
theorem ζq2 {m:Mach} (hm:m.ok) {s c:Int} (h:0 ≤ s ∧ s < m.rows.length ∧ 0 ≤ c ∧ c < m.classes) :
  ∃ r x e,m.rows[s.toNat]? = some r ∧ r[c.toNat]? = some x ∧ 0 ≤ x ∧ m.ents[x.toNat]? = some e ∧ stepS m s c = some e:=by
 obtain ⟨r,hr⟩:∃ r,m.rows[s.toNat]? = some r:=⟨_,List.getElem?_eq_getElem (by omega)⟩
 have hrm:=hm.row r (List.mem_of_getElem? hr);obtain ⟨x,hx⟩:∃ x,r[c.toNat]? = some x:=⟨_,List.getElem?_eq_getElem (by omega)⟩
 have hxm:=hrm.2 x (List.mem_of_getElem? hx);obtain ⟨e,he⟩:∃ e,m.ents[x.toNat]? = some e:=⟨_,List.getElem?_eq_getElem (by omega)⟩
 refine ⟨r,x,e,hr,hx,hxm.1,he,?_⟩;unfold stepS;rw [if_pos h,hr,Option.bind_some,hx,Option.bind_some,he]
theorem Step_run (k:Nat) (m:Mach) (hm:m.ok) (s c:Int) (H:Heap):R (T k) F.ζ1f [machV m,.int .i64 s,.int .i64 c] H = .ok (.tuple #[encEA (stepS m s c),.bool (stepS m s c).isSome]) H:=by
 rw [ζek];have fl:Flat (.tuple #[encEA (stepS m s c),.bool (stepS m s c).isSome]):=.tupleL (.cons (ζsr _) (.cons (.bool _) .nil));have no:¬ (0 ≤ s ∧ s < m.rows.length ∧ 0 ≤ c ∧ c < m.classes) → stepS m s c = none:=fun h => by unfold stepS; rw [if_neg h]
 have hx:Ext H (H.push ⟨[.int .i64 0,.int .i64 0,.int .i64 0,.int .i64 0],1,false⟩):=(Ext.refl H).push _;by_cases h1:s < 0
 ·rw [no (by omega)] at fl ⊢;refine nrm_gc ⟨_,?_,hx⟩ fl.alive;simp -implicitDefEqProofs (disch:=omega) [ζ1f,h1,encEA]
 by_cases h2:s ≥ m.rows.length
 ·rw [no (by omega)] at fl ⊢;refine nrm_gc ⟨_,?_,hx⟩ fl.alive;simp -implicitDefEqProofs (disch:=omega) [ζ1f,h1,h2,encEA]
 by_cases h3:c < 0
 ·rw [no (by omega)] at fl ⊢;refine nrm_gc ⟨_,?_,hx⟩ fl.alive;simp -implicitDefEqProofs (disch:=omega) [ζ1f,h1,h2,h3,encEA]
 by_cases h4:c ≥ m.classes
 ·rw [no (by omega)] at fl ⊢;refine nrm_gc ⟨_,?_,hx⟩ fl.alive;simp -implicitDefEqProofs (disch:=omega) [ζ1f,h1,h2,h3,h4,encEA]
 obtain ⟨r,x,e,hr,hxx,hx0,he,hs⟩:=ζq2 hm (s:=s) (c:=c) (by omega);rw [hs] at fl ⊢;have i1:=fun H' => ixS_lv ζst m.rows .i64 s r (by omega) hr H';have i2:=fun H' => ixS_lv encI_len r .i64 c x (by omega) hxx H';have i3:=fun H' => ixS_lv ζ52 m.ents .i64 x e hx0 he H';refine nrm_gc ⟨H.push ⟨encEn e,1,false⟩,?_,(Ext.refl H).push _⟩ fl.alive;simp -implicitDefEqProofs (disch:=omega) [ζ1f,h1,h2,h3,h4,i1,i2,i3,encEA]
theorem ζn7 (k:Nat) (hk:k < 1000000) (m:Mach) (hl:m.ents.length ≤ 65536) (H:Heap):R (T k) F.ζ1z [machV m] H = .ok (lv encEn m.ents) H:=by
 have ho:own k = .fz:=by unfold own; rw [show Nat.blt k 1000000 = true from Nat.ble_eq_true_of_le hk]; rfl
 rw [ζa0,ho];have g:=(Star.nil H).more_row (Ext.refl _) (OwnO.bare encEn _ 4) (fun b hb => by cases hb);obtain ⟨s,o,H1,e1,g⟩:=g.append (bytes:=32) 0 ζ52 rfl (b:=lv encEn m.ents) (l2:=m.ents) rfl (lv_first ζ52 m.ents H) (by simp; omega) (by decide);simp only [List.nil_append,List.set_cons_zero] at g;obtain ⟨L,hf⟩:=(g.own 0 rfl).freeze ζ52 (ζnd _) 6;refine nrm_fz (v:=s) (H':=H1) ?_ hf g.ext (Flat.Ens _).alive;simp -implicitDefEqProofs (disch:=omega) [ζ1z,e1]
end Go.Sw
end
section
set_option maxRecDepth 100000
set_option linter.unusedVariables false
namespace Go.Sw
noncomputable section
def ζea (k:Nat) (call:Caller):Env → Heap → Res (AExit × Env):=loopB (C k) call F.ζ4j [1,1,1,0,0,0]
def ζ7m (k:Nat) (call:Caller):Kont Value:=kBlock 0 (kSeq (pieceK (C k) call F.ζ4j [1,1,1,1]) (kDone Prog (resOf Prog F.ζ4j)))
def ζ4j (k:Nat) (call:Caller) (a0 a1 a2:Value) (h:Heap):Res Value :=
 (buildR Prog 281 [(0,a0),(1,a1)] h).bind fun v1 h2 =>
 (boxR v1 h2).bind fun v3 h4 =>
 (call F.ζd [a1] h4).bind fun v5 h6 =>
 (binR Prog .mul 3 (.int .i64 2) v5 h6).bind fun v7 h8 =>
 (binR Prog .add 3 v7 (.int .i64 128) h8).bind fun v9 h10 =>
 (loopN (ζea k call) loopFuel [(2,a2),(8,v3),(9,v9)] h10).bind fun r11 h12 =>
 ζ7m k call r11.1 r11.2 h12
theorem ζrp (k:Nat) (a0 a1 a2:Value) (h:Heap):R (T k) F.ζ4j [a0,a1,a2] h = nrm .no h (ζ4j k (R (T k)) a0 a1 a2 h) :=
 (R_body (t:=T k) (T_scott k) (by kernel_rfl) (by kernel_rfl) _ _).trans (by kernel_rfl)
theorem ζ5s (k:Nat) (call:Caller) (a2 a8 a9:Value) (h:Heap):ζea k call [(2,a2),(8,a8),(9,a9)] h =
 (nilR a8 h).bind fun v13 h14 =>
 (fieldAddrR Prog 281 v13 4 h14).bind fun v15 h16 =>
 (loadR Prog 3 v15 h16).bind fun v17 h18 =>
 (binR Prog .lss 3 v17 a9 h18).bind fun v19 h20 =>
 condV (some v19) (
 (call F.ζ2p [a8,a2] h20).bind fun v21 h22 =>
 condV (some v21) (
 (nilR a8 h22).bind fun v23 h24 =>
 (fieldAddrR Prog 281 v23 4 h24).bind fun v25 h26 =>
 (loadR Prog 3 v25 h26).bind fun v27 h28 =>
 .ok (.ret,[(6,v27),(7,(.int .i64 0))]) h28)
 (
 (nilR a8 h22).bind fun v29 h30 =>
 (fieldAddrR Prog 281 v29 5 h30).bind fun v31 h32 =>
 (loadR Prog 3 v31 h32).bind fun v33 h34 =>
 (binR Prog .gtr 3 v33 (.int .i64 64) h34).bind fun v35 h36 =>
 condV (some v35) (
 .ok ((.exit 0),[(2,a2),(8,a8),(9,a9),(35,v35)]) h36)
 (
 .ok (.normal,[(2,a2),(8,a8),(9,a9)]) h36)))
 (
 .ok ((.exit 0),[(2,a2),(8,a8),(9,a9),(23,v19)]) h20) :=
 (loopB_eq _ _).trans (by kernel_rfl)
theorem ζk6 (k:Nat) (call:Caller) (a6 a7:Value) (h:Heap):ζ7m k call .ret [(6,a6),(7,a7)] h =
 .ok (.tuple #[a6,a7]) h:=by kernel_rfl
theorem ζh1 (k:Nat) (call:Caller) (a2 a8 a9 a35:Value) (h:Heap):ζ7m k call (.exit 0) [(2,a2),(8,a8),(9,a9),(35,a35)] h =
 (nilR a8 h).bind fun v37 h38 =>
 (fieldAddrR Prog 281 v37 4 h38).bind fun v39 h40 =>
 (loadR Prog 3 v39 h40).bind fun v41 h42 =>
 .ok (.tuple #[v41,(.int .i64 4)]) h42:=by kernel_rfl
theorem ζfh (k:Nat) (call:Caller) (a2 a8 a9 a23:Value) (h:Heap):ζ7m k call (.exit 0) [(2,a2),(8,a8),(9,a9),(23,a23)] h =
 (nilR a8 h).bind fun v43 h44 =>
 (fieldAddrR Prog 281 v43 4 h44).bind fun v45 h46 =>
 (loadR Prog 3 v45 h46).bind fun v47 h48 =>
 .ok (.tuple #[v47,(.int .i64 4)]) h48:=by kernel_rfl
def ζ5k (k:Nat) (call:Caller) (a0:Value) (h:Heap):Res Value :=
 (boxR a0 h).bind fun v1 h2 =>
 .ok (.func (.func F.ζ2g) #[] #[v1]) h2
theorem ζpa (k:Nat) (a0:Value) (h:Heap):R (T k) F.ζ5k [a0] h = nrm .gc h (ζ5k k (R (T k)) a0 h) :=
 (R_body (t:=T k) (T_scott k) (by kernel_rfl) (by kernel_rfl) _ _).trans (by kernel_rfl)
def ζ2p (k:Nat) (call:Caller) (a0 a1:Value) (h:Heap):Res Value :=
 (call F.ζ2f [a0] h).bind fun v1 h2 =>
 (extractR v1 0 h2).bind fun v3 h4 =>
 (extractR v1 1 h4).bind fun v5 h6 =>
 (nilR a0 h6).bindN fun v7 h8 =>
 (fieldAddrR Prog 281 v7 0 h8).bindN fun v9 h10 =>
 (loadR Prog 196 v9 h10).bindN fun v11 h12 =>
 (nilR a0 h12).bindN fun v13 h14 =>
 (fieldAddrR Prog 281 v13 2 h14).bindN fun v15 h16 =>
 (loadR Prog 3 v15 h16).bindN fun v17 h18 =>
 (call F.ζ1f [v11,v17,v3] h18).bindT (fun p21 h22 => (allocR Prog 130 h18).bindN fun v23 h24 => .panic p21 h22) fun v19 h20 =>
 (extractR v19 0 h20).bindN fun v25 h26 =>
 (extractR v19 1 h26).bindN fun v27 h28 =>
 (allocR Prog 130 h28).bindN fun v29 h30 =>
 (storeR Prog 130 v29 v25 h30).bindN fun _v31 h32 =>
 (nilR a0 h32).bind fun v33 h34 =>
 (fieldAddrR Prog 281 v33 4 h34).bind fun v35 h36 =>
 (loadR Prog 3 v35 h36).bind fun v37 h38 =>
 (binR Prog .add 3 v37 (.int .i64 1) h38).bind fun v39 h40 =>
 (nilR a0 h40).bind fun v41 h42 =>
 (fieldAddrR Prog 281 v41 4 h42).bind fun v43 h44 =>
 (storeR Prog 3 v43 v39 h44).bind fun _v45 h46 =>
 (fieldAddrR Prog 130 v29 0 h46).bind fun v47 h48 =>
 (loadR Prog 3 v47 h48).bind fun v49 h50 =>
 (nilR a0 h50).bind fun v51 h52 =>
 (fieldAddrR Prog 281 v51 2 h52).bind fun v53 h54 =>
 (storeR Prog 3 v53 v49 h54).bind fun _v55 h56 =>
 (nilR a0 h56).bindN fun v57 h58 =>
 (fieldAddrR Prog 281 v57 3 h58).bindN fun v59 h60 =>
 (loadR Prog 3 v59 h60).bindN fun v61 h62 =>
 (loadR Prog 130 v29 h62).bindN fun v63 h64 =>
 (callV call a1 [v61,v63] h64).bindT (fun p67 h68 => .panic p67 h68) fun v65 h66 =>
 (extractR v65 0 h66).bindN fun v69 h70 =>
 (extractR v65 1 h70).bindN fun v71 h72 =>
 (fieldAddrR Prog 130 v29 1 h72).bind fun v73 h74 =>
 (loadR Prog 3 v73 h74).bind fun v75 h76 =>
 (binR Prog .and 3 v75 (.int .i64 16384) h76).bind fun v77 h78 =>
 (binR Prog .neq 3 v77 (.int .i64 0) h78).bind fun v79 h80 =>
 condV (some v79) (
 (builtinV Prog .max [3,3] [v69,(.int .i64 0)] h80).bind fun v81 h82 =>
 (nilR a0 h82).bind fun v83 h84 =>
 (fieldAddrR Prog 281 v83 3 h84).bind fun v85 h86 =>
 (storeR Prog 3 v85 v81 h86).bind fun _v87 h88 =>
 (nilR a0 h88).bind fun v89 h90 =>
 (fieldAddrR Prog 281 v89 5 h90).bind fun v91 h92 =>
 (loadR Prog 3 v91 h92).bind fun v93 h94 =>
 (binR Prog .add 3 v93 (.int .i64 1) h94).bind fun v95 h96 =>
 (nilR a0 h96).bind fun v97 h98 =>
 (fieldAddrR Prog 281 v97 5 h98).bind fun v99 h100 =>
 (storeR Prog 3 v99 v95 h100).bind fun _v101 h102 =>
 .ok (.bool false) h102)
 (
 (builtinV Prog .max [3,3] [v71,(.int .i64 0)] h80).bind fun v103 h104 =>
 (nilR a0 h104).bind fun v105 h106 =>
 (fieldAddrR Prog 281 v105 3 h106).bind fun v107 h108 =>
 (storeR Prog 3 v107 v103 h108).bind fun _v109 h110 =>
 (nilR a0 h110).bind fun v111 h112 =>
 (fieldAddrR Prog 281 v111 5 h112).bind fun v113 h114 =>
 (storeR Prog 3 v113 (.int .i64 0) h114).bind fun _v115 h116 =>
 .ok v5 h116)
theorem ζ7n (k:Nat) (a0 a1:Value) (h:Heap):R (T k) F.ζ2p [a0,a1] h = nrm .no h (ζ2p k (R (T k)) a0 a1 h) :=
 (R_body (t:=T k) (T_scott k) (by kernel_rfl) (by kernel_rfl) _ _).trans (by kernel_rfl)
def ζ2g (k:Nat) (call:Caller) (a0 a1 a2:Value) (h:Heap):Res Value :=
 (boxR a1 h).bind fun v1 h2 =>
 (loadR Prog 213 a2 h2).bind fun v3 h4 =>
 (loadR Prog 130 v1 h4).bind fun v5 h6 =>
 (callV call v3 [a0,v5] h6).bind fun v7 h8 =>
 (binR Prog .add 3 a0 (.int .i64 1) h8).bind fun v9 h10 =>
 .ok (.tuple #[a0,v9]) h10
theorem ζg9 (k:Nat) (a0 a1 a2:Value) (h:Heap):R (T k) F.ζ2g [a0,a1,a2] h = nrm .no h (ζ2g k (R (T k)) a0 a1 a2 h) :=
 (R_body (t:=T k) (T_scott k) (by kernel_rfl) (by kernel_rfl) _ _).trans (by kernel_rfl)
def ζ2f (k:Nat) (call:Caller) (a0:Value) (h:Heap):Res Value :=
 (nilR a0 h).bindN fun v1 h2 =>
 (fieldAddrR Prog 281 v1 1 h2).bindN fun v3 h4 =>
 (loadR Prog 25 v3 h4).bindN fun v5 h6 =>
 (nilR a0 h6).bindN fun v7 h8 =>
 (fieldAddrR Prog 281 v7 3 h8).bindN fun v9 h10 =>
 (loadR Prog 3 v9 h10).bindN fun v11 h12 =>
 (call F.ζ2t [v5,v11] h12).bindT (fun p15 h16 => (allocR Prog 57 h12).bindN fun v17 h18 => .panic p15 h16) fun v13 h14 =>
 (extractR v13 0 h14).bindN fun v19 h20 =>
 (extractR v13 1 h20).bindN fun v21 h22 =>
 (allocR Prog 57 h22).bindN fun v23 h24 =>
 (storeR Prog 57 v23 v19 h24).bindN fun _v25 h26 =>
 (unR .not v21 h26).bind fun v27 h28 =>
 condV (some v27) (
 .ok (.tuple #[(.int .i64 0),(.bool true)]) h28)
 (
 (nilR a0 h28).bindN fun v29 h30 =>
 (fieldAddrR Prog 281 v29 0 h30).bindN fun v31 h32 =>
 (loadR Prog 196 v31 h32).bindN fun v33 h34 =>
 (fieldAddrR Prog 57 v23 0 h34).bindN fun v35 h36 =>
 (loadR Prog 3 v35 h36).bindN fun v37 h38 =>
 (call F.ζ1r [v33,v37] h38).bindT (fun p41 h42 => .panic p41 h42) fun v39 h40 =>
 .ok (.tuple #[v39,(.bool false)]) h40)
theorem ζeb (k:Nat) (a0:Value) (h:Heap):R (T k) F.ζ2f [a0] h = nrm .gc h (ζ2f k (R (T k)) a0 h) :=
 (R_body (t:=T k) (T_scott k) (by kernel_rfl) (by kernel_rfl) _ _).trans (by kernel_rfl)
end
end Go.Sw
end
section
namespace Go.Sw
open Go.RowKit
theorem Star.stEnd {H0 H:Heap} {A B:List It} {c:Nat} {cells:List Value} {e:Nat} (h:Star H0 H (A ++ itBlk c ⟨cells,e,false⟩ :: B)) (off:Nat) {v:Value} (hs:storable v = true) (hc:v.cells = #[v]) (ho:off < cells.length) :
  ∃ H',stR 1 (.pointer (some ⟨c,off,none⟩)) v H = .ok undef H' ∧ Star H0 H' (A ++ itBlk c ⟨cells.set off v,e,false⟩ :: B):=by
 obtain ⟨H',h1,h2,_⟩:=h.stCell A.length (c:=c) (cells:=cells) (e:=e) (by simp) off hs hc ho;exact ⟨H',h1,by simpa using h2⟩
structure Drv where
 st:Int
 pl:Int
 stp:Int
 rest:Int
abbrev drvC (m:Mach) (c:Nat) (d:Drv):List Value:=[machV m,ptrV c,.int .i64 d.st,.int .i64 d.pl,.int .i64 d.stp,.int .i64 d.rest]
def clsS (m:Mach) (l:List Gl) (pl:Int):Int × Bool:=match atG l pl with | some g => (classS m g.id,false) | none => (0,true)
def entS (m:Mach) (l:List Gl) (d:Drv):En:=(stepS m d.st (clsS m l d.pl).1).getD ⟨0,0,0,0⟩
abbrev encE (e:En):Value:=.agg (encEn e).toArray
theorem take_mid {α:Type} (x:α) (B:List α):∀ A:List α,(A ++ x :: B).take (A.length + 1) = A ++ [x]
 | [] => rfl
 | a :: A => by simp [take_mid x B A]
theorem ζu3 (n:Nat):n &&& 2 ^ 14 = if n.testBit 14 then 2 ^ 14 else 0:=by
 apply Nat.eq_of_testBit_eq;intro i;rw [Nat.testBit_and,Nat.testBit_two_pow];by_cases h:14 = i
 ·subst h;cases hb:n.testBit 14 <;> simp <;> decide
 ·cases hb:n.testBit 14
  ·simp [h]
  ·simp only [h,decide_false,Bool.and_false,if_true,Nat.testBit_two_pow]
theorem and14 (P:Program) (t:TypeId) (H:Heap) {a:Int} (h0:0 ≤ a) (h1:a < 65536):binR P .and t (.int .i64 a) (.int .i64 16384) H = .ok (.int .i64 (if a / 16384 % 2 = 1 then 16384 else 0)) H:=by
 have e:(BitVec.ofInt 64 a &&& BitVec.ofInt 64 16384).toNat = (if a / 16384 % 2 = 1 then 16384 else 0):=by
  rw [BitVec.toNat_and,BitVec.toNat_ofInt,BitVec.toNat_ofInt];rw [show ((16384:Int) % ((2 ^ 64:Nat):Int)).toNat = 2 ^ 14 from by decide,ζu3,Nat.testBit_eq_decide_div_mod_eq];obtain ⟨n,rfl⟩:=Int.eq_ofNat_of_zero_le h0;rw [show (((n:Int)) % ((2 ^ 64:Nat):Int)).toNat = n by omega];by_cases h:(n:Int) / 16384 % 2 = 1
  ·rw [if_pos h,decide_eq_true (show n / 2 ^ 14 % 2 = 1 by omega)]; rfl
  ·rw [if_neg h,decide_eq_false (show ¬ n / 2 ^ 14 % 2 = 1 by omega)]; rfl
 have e1:binV P .and t (.int .i64 a) (.int .i64 16384) = some (.int .i64 (IntKind.i64.wrap (BitVec.ofInt 64 a &&& BitVec.ofInt 64 16384).toNat)):=rfl;unfold binR;rw [e1,e];by_cases h:a / 16384 % 2 = 1
 ·simp [h]
 ·simp [h]
theorem ζk7 (k:Nat) (m:Mach) (hm:m.ok) {H0 H:Heap} {L:List It} (h:Star H0 H L) {c q:Nat} {o:Option Nat} {l:List Gl} {d:Drv} (i:Nat) (hi:L[i]? = some (itLine c o l)) (hq:H.get q = some ⟨drvC m c d,1,false⟩) :
  R (T k) F.ζ2f [ptrV q] H = .ok (.tuple #[.int .i64 (clsS m l d.pl).1,.bool (clsS m l d.pl).2]) H:=by
 rw [ζeb];have hat:=ζd1 k h i hi d.pl;have fl:∀ (a:Int) b,Flat (.tuple #[.int .i64 a,.bool b]):=fun a b => .tupleL (.cons (.int _ _) (.cons (.bool _) .nil));unfold clsS;have hqn:¬ q = H.n:=by have:=Heap.get_lt hq; omega
 cases ha:atG l d.pl with
 | none =>
  rw [ha] at hat;refine nrm_gc ⟨H.push ⟨[.int .i64 0,.int .i64 0],1,false⟩,?_,(Ext.refl H).push _⟩ (fl _ _).alive;unfold encA at hat;simp at hat;simp -implicitDefEqProofs (disch:=omega) [ζ2f,hq,hat]
 | some g =>
  rw [ha] at hat;have hc:=fun H' => ζtz k m hm g.id H';refine nrm_gc ⟨H.push ⟨encG g,1,false⟩,?_,(Ext.refl H).push _⟩ (fl _ _).alive;unfold encA at hat;simp at hat;simp -implicitDefEqProofs (disch:=omega) [ζ2f,hq,hqn,hat,hc]
theorem ζsu {m:Mach} (hm:m.ok) (l:List Gl) (d:Drv):let e:=entS m l d; 0 ≤ e.next ∧ e.next < 65536 ∧ 0 ≤ e.flags ∧ e.flags < 65536 ∧ 0 ≤ e.a ∧ e.a < 65536 ∧ 0 ≤ e.b ∧ e.b < 65536:=by
 dsimp only;unfold entS;cases h:stepS m d.st (clsS m l d.pl).1 with
 | none => simp
 | some x =>
  have hx:x ∈ m.ents:=by
   unfold stepS at h;split at h
   ·obtain ⟨r,_,h⟩:=Option.bind_eq_some_iff.1 h;obtain ⟨y,_,h⟩:=Option.bind_eq_some_iff.1 h;exact List.mem_of_getElem? h
   ·cases h
  have:=hm.ent x hx;have:=hm.two;simp only [Option.getD_some];omega
theorem getS_pos {ps:List Pt} (hok:∀ p,p ∈ ps → p.ok) {id x:Int} (h:getS ps id = some x):0 ≤ x:=by
 unfold getS at h;obtain ⟨p,hp,h⟩:=Option.bind_eq_some_iff.1 h;split at h
 ·exact ((hok p (List.mem_of_find?_eq_some hp)).2.2.2.2.2 x (List.mem_of_getElem? h)).1
 ·cases h
theorem ζq8 {m:Mach} (hm:m.ok) (id:Int):0 ≤ classS m id ∧ classS m id < m.classes:=by
 have:=hm.cl;unfold classS;split
 ·omega
 ·split
  ·rename_i c hc;have:=getS_pos hm.pts hc;split <;> omega
  ·omega
theorem ζso {m:Mach} (hm:m.ok) (l:List Gl) (p:Int):0 ≤ (clsS m l p).1 ∧ (clsS m l p).1 < m.classes:=by
 have:=hm.cl;unfold clsS;split
 ·exact ζq8 hm _
 ·dsimp only; omega
theorem entS_mem {m:Mach} (hm:m.ok) (l:List Gl) (d:Drv) (h:0 ≤ d.st ∧ d.st < m.rows.length):entS m l d ∈ m.ents:=by
 have hc:=ζso hm l d.pl;obtain ⟨r,x,e,_,_,_,he,hs⟩:=ζq2 hm (s:=d.st) (c:=(clsS m l d.pl).1) ⟨h.1,h.2,hc.1,hc.2⟩;unfold entS;rw [hs];exact List.mem_of_getElem? he
variable {σ:Type}
def stepD (m:Mach) (ln:σ → List Gl) (f:σ → Int → En → σ × Int × Int) (x:σ × Drv):(σ × Drv) × Bool :=
 if (entS m (ln x.1) x.2).flags / 16384 % 2 = 1 then (((f x.1 x.2.pl (entS m (ln x.1) x.2)).1,⟨(entS m (ln x.1) x.2).next,max (f x.1 x.2.pl (entS m (ln x.1) x.2)).2.1 0,x.2.stp + 1,x.2.rest + 1⟩),false)
 else (((f x.1 x.2.pl (entS m (ln x.1) x.2)).1,⟨(entS m (ln x.1) x.2).next,max (f x.1 x.2.pl (entS m (ln x.1) x.2)).2.2 0,x.2.stp + 1,0⟩),(clsS m (ln x.1) x.2.pl).2)
end Go.Sw
end
section
namespace Go.Sw
open Go.RowKit
variable {σ:Type}
def runD (m:Mach) (ln:σ → List Gl) (f:σ → Int → En → σ × Int × Int) (most:Int):Nat → σ × Drv → Int × Int × σ
  | 0,x => (x.2.stp,4,x.1)
  | n + 1,x => if x.2.stp < most then
      (if (stepD m ln f x).2 then ((stepD m ln f x).1.2.stp,0,(stepD m ln f x).1.1)
       else if (stepD m ln f x).1.2.rest > 64 then ((stepD m ln f x).1.2.stp,4,(stepD m ln f x).1.1)
       else runD m ln f most n (stepD m ln f x).1)
    else (x.2.stp,4,x.1)
theorem ζve (m:Mach) (ln:σ → List Gl) (f:σ → Int → En → σ × Int × Int) (x:σ × Drv):(stepD m ln f x).1.2.stp = x.2.stp + 1:=by unfold stepD; split <;> rfl
theorem stepD_pl (m:Mach) (ln:σ → List Gl) (f:σ → Int → En → σ × Int × Int) (x:σ × Drv):0 ≤ (stepD m ln f x).1.2.pl:=by unfold stepD; split <;> (dsimp only; omega)
theorem ζtq (m:Mach) (ln:σ → List Gl) (f:σ → Int → En → σ × Int × Int) (x:σ × Drv) (h:0 ≤ x.2.rest):0 ≤ (stepD m ln f x).1.2.rest ∧ (stepD m ln f x).1.2.rest ≤ x.2.rest + 1:=by unfold stepD; split <;> (dsimp only; omega)
end Go.Sw
end
section
set_option maxRecDepth 100000
set_option linter.unusedVariables false
namespace Go.Sw
noncomputable section
def ζ6i (k:Nat) (call:Caller):Env → Heap → Res (AExit × Env):=loopB (C k) call F.ζ6 [1,0,1,0,0]
def ζ8f (k:Nat) (call:Caller):Kont Value:=kBlock 0 (kSeq (pieceK (C k) call F.ζ6 [1,1]) (kDone Prog (resOf Prog F.ζ6)))
def ζ4n (k:Nat) (call:Caller):Env → Heap → Res (AExit × Env):=loopB (C k) call F.ζ6 [1,0,1,0,0,1,0,0,1,0,1,0,0]
def ζ8g (k:Nat) (call:Caller):Kont (AExit × Env):=kBlock 2 (kSeq (pieceK (C k) call F.ζ6 [1,0,1,0,0,1,0,0,1,1]) (kBlock 1 (kSeq (pieceK (C k) call F.ζ6 [1,0,1,0,0,1,1]) (kRound (ownOf (C k) F.ζ6 [1,0,1,0,0])))))
def ζ6 (k:Nat) (call:Caller) (a0 a1 a2:Value) (h:Heap):Res Value :=
 (binR Prog .sub 3 a2 (.int .i64 1) h).bind fun v1 h2 =>
 (loopN (ζ6i k call) loopFuel [(0,a0),(1,a1),(7,v1)] h2).bind fun r3 h4 =>
 ζ8f k call r3.1 r3.2 h4
theorem ζjy (k:Nat) (a0 a1 a2:Value) (h:Heap):R (T k) F.ζ6 [a0,a1,a2] h = nrm .no h (ζ6 k (R (T k)) a0 a1 a2 h) :=
 (R_body (t:=T k) (T_scott k) (by kernel_rfl) (by kernel_rfl) _ _).trans (by kernel_rfl)
theorem ζ7i (k:Nat) (call:Caller) (a0 a1 a7:Value) (h:Heap):ζ6i k call [(0,a0),(1,a1),(7,a7)] h =
 (binR Prog .geq 3 a7 (.int .i64 0) h).bind fun v5 h6 =>
 condV (some v5) (
 (loopN (ζ4n k call) loopFuel [(0,a0),(1,a1),(7,a7),(8,a1),(9,(.int .i64 0))] h6).bind fun r7 h8 =>
 ζ8g k call r7.1 r7.2 h8)
 (
 .ok ((.exit 0),[(0,a0),(1,a1),(7,a7),(13,v5)]) h6) :=
 (loopB_eq _ _).trans (by kernel_rfl)
theorem ζ7j (k:Nat) (call:Caller) (a0 a1 a7 a8 a9:Value) (h:Heap):ζ4n k call [(0,a0),(1,a1),(7,a7),(8,a8),(9,a9)] h =
 (binR Prog .lss 3 a9 a7 h).bind fun v9 h10 =>
 condV (some v9) (
 (binR Prog .quo 3 a8 (.int .i64 256) h10).bind fun v11 h12 =>
 (binR Prog .add 3 a9 (.int .i64 1) h12).bind fun v13 h14 =>
 .ok (.normal,[(0,a0),(1,a1),(7,a7),(8,v11),(9,v13)]) h14)
 (
 .ok ((.exit 2),[(0,a0),(1,a1),(7,a7),(8,a8),(9,a9),(19,v9)]) h10) :=
 (loopB_eq _ _).trans (by kernel_rfl)
theorem ζe0 (k:Nat) (call:Caller) (a0 a1 a7 a13:Value) (h:Heap):ζ8f k call (.exit 0) [(0,a0),(1,a1),(7,a7),(13,a13)] h =
 .ok a0 h:=by kernel_rfl
theorem ζe1 (k:Nat) (call:Caller) (a0 a1 a7 a8 a9 a19:Value) (h:Heap):ζ8g k call (.exit 2) [(0,a0),(1,a1),(7,a7),(8,a8),(9,a9),(19,a19)] h =
 (binR Prog .rem 3 a8 (.int .i64 256) h).bind fun v15 h16 =>
 (convR Prog 3 5 v15 h16).bind fun v17 h18 =>
 (buildSliceR Prog 31 1 [(0,v17)] h18).bind fun v19 h20 =>
 (builtinV Prog .append [31,31] [a0,v19] h20).bind fun v21 h22 =>
 (binR Prog .sub 3 a7 (.int .i64 1) h22).bind fun v23 h24 =>
 .ok (.normal,[(0,v21),(1,a1),(7,v23)]) h24:=by kernel_rfl
end
end Go.Sw
end
section
namespace Go.Sw
open Go.RowKit
theorem Put_in (k:Nat) (s:Value) (n:Int) (i:Nat) (h0:0 ≤ n) (hn:n < 2 ^ 62) (hi:i < 2 ^ 62) (H:Heap) :
  loopN (ζ4n k (R (T k))) loopFuel [(0,s),(1,.int .i64 n),(7,.int .i64 i),(8,.int .i64 n),(9,.int .i64 0)] H = .ok (.exit 2,[(0,s),(1,.int .i64 n),(7,.int .i64 i),(8,.int .i64 (n / 256 ^ i)),(9,.int .i64 i),(19,.bool false)]) H:=by
 obtain ⟨x,e',H1,hr,rfl,rfl,rfl⟩:=loop_up (body:=ζ4n k (R (T k))) i
  (fun j e H' => H' = H ∧ e = [(0,s),(1,.int .i64 n),(7,.int .i64 i),(8,.int .i64 (n / 256 ^ j)),(9,.int .i64 j)])
  (fun x e H' => H' = H ∧ x = .exit 2 ∧ e = [(0,s),(1,.int .i64 n),(7,.int .i64 i),(8,.int .i64 (n / 256 ^ i)),(9,.int .i64 i),(19,.bool false)])
  (e0:=[(0,s),(1,.int .i64 n),(7,.int .i64 i),(8,.int .i64 n),(9,.int .i64 0)]) (H0:=H) ⟨rfl,by simp⟩ (by omega)
  (fun j e H' hj ⟨hH,he⟩ => by
   subst he hH;have hlt:(j:Int) < i:=by omega
   have q0:0 ≤ n / 256 ^ j:=Int.ediv_nonneg h0 (Int.pow_nonneg (by decide));have q1:n / 256 ^ j ≤ n:=Int.ediv_le_self _ h0;have hq:(n / 256 ^ j).tdiv 256 = n / 256 ^ (j + 1):=by
    rw [Int.tdiv_eq_ediv_of_nonneg q0,Int.pow_succ,Int.ediv_ediv_of_nonneg (Int.pow_nonneg (by decide))]
   have q:=fun H => bin_quo Prog 3 H .i64 (n / 256 ^ j) 256 (by decide);rw [hq] at q;have q2:0 ≤ n / 256 ^ (j + 1):=Int.ediv_nonneg h0 (Int.pow_nonneg (by decide));have q3:n / 256 ^ (j + 1) ≤ n:=Int.ediv_le_self _ h0;generalize n / 256 ^ (j + 1) = m at q q2 q3 ⊢;generalize n / 256 ^ j = m0 at q ⊢;refine .inl ⟨_,H',?_,rfl,rfl⟩;rw [ζ7j];simp -implicitDefEqProofs (disch:=omega) [hlt,q])
  (fun e H' ⟨hH,he⟩ => by
   subst he hH;refine ⟨.exit 2,_,H',?_,by simp,rfl,rfl,rfl⟩;rw [ζ7j];simp -implicitDefEqProofs (disch:=omega))
 exact hr
theorem Put_star (k:Nat) {H0 H:Heap} {L:List It} (h:Star H0 H L) (i:Nat) {o:Option Nat} {s:Value} {b:List Int} (hi:L[i]? = some (itRow o 1 s encB b)) (n zi:Int) (z:Nat) (hzi:zi = z) (h0:0 ≤ n) (hn:n < 2 ^ 62) (hz:z ≤ 8) (hl:b.length < 2 ^ 30) :
  ∃ s' o' H',R (T k) F.ζ6 [s,.int .i64 n,.int .i64 zi] H = .ok s' H' ∧ Star H0 H' (L.set i (itRow o' 1 s' encB (b ++ bytesOf n z))):=by
 subst hzi;rw [ζjy];have hlt:i < L.length:=(List.getElem?_eq_some_iff.1 hi).1;have hself:L.set i (itRow o 1 s encB b) = L:=by
  obtain ⟨hlt,hx⟩:=List.getElem?_eq_some_iff.1 hi;rw [← hx,List.set_getElem_self]
 obtain ⟨x,e',H1,hr,s',o',rfl,⟨a,c,rfl⟩,ho⟩:=loopDec (body:=ζ6i k (R (T k)))
  (fun m e H' => ∃ s o acc,e = [(0,s),(1,.int .i64 n),(7,.int .i64 ((m:Int) - 1))] ∧ Star H0 H' (L.set i (itRow o 1 s encB acc)) ∧ acc ++ bytesOf n m = b ++ bytesOf n z ∧ m ≤ z)
  (fun x e H' => ∃ s' o',x = .exit 0 ∧ (∃ a c,e = [(0,s'),(1,.int .i64 n),(7,a),(13,c)]) ∧ Star H0 H' (L.set i (itRow o' 1 s' encB (b ++ bytesOf n z))))
  (e0:=[(0,s),(1,.int .i64 n),(7,.int .i64 ((z:Int) - 1))]) (H0:=H) z ⟨s,o,b,rfl,by rw [hself]; exact h,rfl,Nat.le_refl _⟩ (by omega)
  (fun m e H' ⟨s,o,acc,he,ho,ha,hmz⟩ => by
   subst he;cases m with
   | zero =>
    refine .inr ⟨.exit 0,_,H',?_,by simp,s,o,rfl,⟨.int .i64 ((0:Nat) - 1),.bool false,rfl⟩,by simpa [bytesOf] using (by simpa [bytesOf] using ha) ▸ ho⟩;rw [ζ7i];simp -implicitDefEqProofs
   | succ m =>
    have hin:=Put_in k s n m h0 hn (by omega) H';have q0:0 ≤ n / 256 ^ m:=Int.ediv_nonneg h0 (Int.pow_nonneg (by decide));have hacc:acc.length < 2 ^ 31:=by
     have:=congrArg List.length ha;simp [ζ84] at this;omega
    obtain ⟨s2,o2,H2,e1,o1⟩:=ho.append1 (bytes:=1) i encB_len (List.getElem?_set_self hlt) ((n / 256 ^ m) % 256) hacc (by decide);rw [List.set_set] at o1;have hrem:=fun H => bin_rem Prog 3 H .i64 (n / 256 ^ m) 256 (by decide);rw [Int.tmod_eq_emod_of_nonneg q0] at hrem;have hb:0 ≤ (n / 256 ^ m) % 256 ∧ (n / 256 ^ m) % 256 < 256:=by omega
    refine .inl ⟨m,_,H2,?_,by omega,s2,o2,acc ++ [(n / 256 ^ m) % 256],rfl,o1,by rw [List.append_assoc]; exact ha,by omega⟩;rw [ζ7i];have hge:(m:Int) ≥ 0:=by omega
    rw [show (((m + 1:Nat):Int) - 1) = (m:Int) by omega];generalize (n / 256 ^ m) % 256 = y at e1 hrem hb;simp -implicitDefEqProofs (disch:=omega) [hge,hin,ζe1,hrem,e1])
 refine ⟨s',o',H1,?_,ho⟩;simp -implicitDefEqProofs (disch:=omega) [ζ6,hr,ζe0,nrm_no]
end Go.Sw
end
