/-
  Functions' forms, and what is proved of them, part 5.
-/
import Derived.Test.YtanfippcmdialaaSwW4
import Derived.Test.YtanfippcmdialaaSwW3
import Derived.Test.YtanfippcmdialaaSwCfg
import Derived.Test.YtanfippcmdialaaSwW2
set_option linter.unusedSimpArgs false
set_option linter.unusedVariables false
set_option linter.unusedSectionVars false
section
namespace Go.Sw
open Go.RowKit
theorem ζsd (k:Nat) {H0 H:Heap} {X:List It} {c:Nat} {n:Int} {tab:Value} {rs:List (List Int)} {es:List En} (h:MS H0 H X c n tab rs es) (hel:es.length < 65536) {vR vE:Value} {ev:List Int} (w:Int) (hw:w = 0 ∨ w = 1 ∨ w = 2) (hv:Sl H 1 vE encB ev) (hR:Go.Sw.veq vR vR = true) (hb:Byt ev) (hl:ev.length < 2 ^ 31) :
  match entK ev w es.length with
  | some e => ∃ H',R (T k) F.ζb [.agg #[ptrV c,vR,vE,.int .i64 w]] H = .ok (.int .i64 (e.next + 1)) H' ∧ MS H0 H' X c n tab rs (es ++ [e])
  | none => R (T k) F.ζb [.agg #[ptrV c,vR,vE,.int .i64 w]] H = .panic failV H:=by
 obtain ⟨l,s1,o1,s2,o2,bs,h1,g,h3⟩:=h;have hM:=g.get 0 rfl;have hlen2:=(g.row 2 rfl).len;have hcn:¬ c = H.n:=by have:=Heap.get_lt hM; omega
 have hx1:Ext H (H.push ⟨[ptrV c,vR,vE,.int .i64 w],1,false⟩):=(Ext.refl H).push _;have hm0:0 ≤ (4 + 2 * w) * (es.length:Int):=Int.mul_nonneg (by omega) (by omega);have hm1:(4 + 2 * w) * (es.length:Int) ≤ 8 * 65536:=Int.mul_le_mul (by omega) (by omega) (by omega) (by omega);have hCut:=Cut_run k (hv.up hx1) ((4 + 2 * w) * es.length) (4 + 2 * w) (by omega);rw [ζgb];cases hr:pieceS ev ((4 + 2 * w) * es.length) (4 + 2 * w) with
 | none =>
  have:entK ev w es.length = none:=by unfold entK; rw [hr]; rfl
  rw [this];rw [hr] at hCut;refine ζ1o ⟨_,?_,hx1⟩ Flat.fail.alive;simp -implicitDefEqProofs (disch:=omega) [ζb,hcn,hM,hlen2,hCut]
 | some r =>
  have hK:entK ev w es.length = some (entOf w r):=by unfold entK; rw [hr]; rfl
  rw [hK];dsimp only;rw [hr] at hCut;have hs:=ζ48 (hv.up hx1) hr;have hrb:=(hb.piece hr).1;have hrl:=ζ3l hr;generalize subV 1 vE ((4 + 2 * w) * (es.length:Int)).toNat (4 + 2 * w).toNat = q at hs hCut;have hq:=rd_vw hs;obtain ⟨B1,hB1⟩:∃ B1:Blk,B1 = ⟨[ptrV c,vR,vE,.int .i64 w],1,false⟩:=⟨_,rfl⟩
  obtain ⟨B2,hB2⟩:∃ B2:Blk,B2 = ⟨[q],1,false⟩:=⟨_,rfl⟩
  obtain ⟨e,he⟩:∃ e,e = entOf w r:=⟨_,rfl⟩
  rw [← he];have hu:∀ i,0 ≤ i → i + 2 ≤ 4 + 2 * w → ∀ H',Ext (H.push B1) H' → R (T k) F.ζf [.agg #[q],.int .i64 i] H' = .ok (.int .i64 (gU r i 2)) H':=fun i hi0 hi1 H' hx => by
   rw [← hB1] at hs;have:=U16_run k (hs.up hx) hrb i (by omega);rw [(piece_gU hb hr hi0 hi1).1,orF_some] at this;exact this
  have hx2:Ext (H.push B1) ((H.push B1).push B2):=(Ext.refl _).push _;have u0:=hu 0 (by omega) (by omega) _ hx2;have u2:=hu 2 (by omega) (by omega) _ hx2;have g0:=(piece_gU hb hr (i:=0) (by omega) (by omega)).2;have g2:=(piece_gU hb hr (i:=2) (by omega) (by omega)).2;have hn:e.next = gU r 0 2:=by rw [he]; rfl
  have hf:e.flags = gU r 2 2:=by rw [he]; rfl
  have g:=((g.push B1).push B2).push ⟨encEn e,1,false⟩;obtain ⟨P,hP⟩:∃ P,P = ((H.push B1).push B2).push ⟨encEn e,1,false⟩:=⟨_,rfl⟩
  rw [← hP] at g;obtain ⟨bs',hbs⟩:∃ bs',bs' = bs ++ [itBlk H.n B1,itBlk (H.n + 1) B2,itBlk (H.n + 2) ⟨encEn e,1,false⟩]:=⟨_,rfl⟩
  have g:Star H0 P (itBlk c ⟨[.int .i64 n,tab,s1,s2],1,false⟩ :: itRow o1 1 s1 encU l :: itRow o2 4 s2 encEn es :: (X ++ bs')):=by
   rw [hbs];simpa using g
  have hM1:=g.get 0 rfl;have hB1g:P.get H.n = some B1:=g.memBlk (by simp [hbs]);have hPn:P.n = H.n + 3:=by rw [hP]; simp
  have hn1:¬ H.n = P.n:=by omega
  have hc1:¬ c = P.n:=by have:=Heap.get_lt hM1; omega
  have hvq:=(g.row 2 rfl).veq;obtain ⟨s2',o2',H2,e2,g⟩:=g.append1 (bytes:=32) 2 ζ8t rfl e (by omega) (by decide);simp only [List.set_cons_zero,List.set_cons_succ] at g;have hB1g2:H2.get H.n = some B1:=g.memBlk (by simp [hbs]);obtain ⟨H3,e3,g,_⟩:=g.stCell 0 rfl 3 (g.row 2 rfl).storable (g.row 2 rfl).cells (by simp);simp only [List.set_cons_zero,List.set_cons_succ] at g;have hB3g:H3.get (H.n + 2) = some ⟨encEn e,1,false⟩:=g.memBlk (by simp [hbs]);refine ⟨H3,nrm_of ?_,l,s1,o1,s2',o2',bs',h1,g,fun x hx => ?_⟩;rotate_left
  ·obtain ⟨o,ho⟩:=h3 x hx;exact ⟨o,by rw [hbs]; simp [ho]⟩
  rw [hB1] at hB1g hB1g2;have hPe:=hP;rw [hB1,hB2] at hPe;have hP2:P.get (H.n + 2) = some ⟨encEn e,1,false⟩:=by rw [hP]; simp
  have hP1:P.get (H.n + 1) = some B2:=by rw [hP]; simp
  rw [hB2] at hP1;rw [hB1,hB2] at u0 u2;have hq2:Go.Sw.veq (.agg #[q]) (.agg #[q]) = true:=veq_agg (l:=[q]) fun u hu => by simp at hu; subst hu; exact hq
  have hn2:¬ H.n + 2 = P.n:=by omega
  have e2':=e2;unfold encEn at e2';have hj4:ζ32 k (R (T k)) (ptrV H.n) (ptrV (H.n + 1)) (ptrV (H.n + 2)) (.bool false) P = .ok (.int .i64 (e.next + 1)) H3:=by
   rw [ζaq];simp -implicitDefEqProofs (disch:=omega) [-stR_ptr,hB1g,hM1,hP2,hn1,hc1,hB1g2,hvq,e2',e3,hB3g]
  have hj3:ζ31 k (R (T k)) (ptrV H.n) (ptrV (H.n + 2)) P = .ok (.int .i64 (e.next + 1)) H3:=by
   rw [ζap];simp -implicitDefEqProofs (disch:=omega) [-stR_ptr,hB1g,hM1,hP2,hn1,hc1,hB1g2,hvq,e2',e3,hB3g]
  rcases hw with rfl | rfl | rfl
  ·have hall:encEn e = [.int .i64 (gU r 0 2),.int .i64 (gU r 2 2),.int .i64 0,.int .i64 0]:=by rw [he]; rfl
   rw [hall] at hPe;simp -implicitDefEqProofs (disch:=omega) at hCut;simp -implicitDefEqProofs (disch:=omega) [ζb,hcn,hM,hlen2,hCut,u0,u2,hq2,← hPe,ζao,hB1g,hj4]
  ·have hall:encEn e = [.int .i64 (gU r 0 2),.int .i64 (gU r 2 2),.int .i64 (gU r 4 2),.int .i64 0]:=by rw [he]; rfl
   rw [hall] at hPe;have u4:=hu 4 (by omega) (by omega) _ (hx2.push ⟨[.int .i64 (gU r 0 2),.int .i64 (gU r 2 2),.int .i64 0,.int .i64 0],1,false⟩);rw [hB1,hB2] at u4;simp -implicitDefEqProofs (disch:=omega) at hCut;simp -implicitDefEqProofs (disch:=omega) [ζb,hcn,hM,hlen2,hCut,u0,u2,u4,hq2,← hPe,ζ5c,hB1g,hj4]
  ·have hall:encEn e = [.int .i64 (gU r 0 2),.int .i64 (gU r 2 2),.int .i64 (gU r 4 2),.int .i64 (gU r 6 2)]:=by rw [he]; rfl
   rw [hall] at hPe;have u4:=hu 4 (by omega) (by omega) _ (hx2.push ⟨[.int .i64 (gU r 0 2),.int .i64 (gU r 2 2),.int .i64 0,.int .i64 0],1,false⟩);have u6:=hu 6 (by omega) (by omega) _ (hx2.push ⟨[.int .i64 (gU r 0 2),.int .i64 (gU r 2 2),.int .i64 (gU r 4 2),.int .i64 0],1,false⟩);rw [hB1,hB2] at u4 u6;simp -implicitDefEqProofs (disch:=omega) at hCut;simp -implicitDefEqProofs (disch:=omega) [ζb,hcn,hM,hlen2,hCut,u0,u2,u4,u6,hq2,← hPe,ζ5c,hj3]
theorem ζr7 (rs:List (List Int)) (r:List Int):needR (rs ++ [r]) = max (needR rs) (needL r):=by
 unfold needR;rw [List.flatten_append,ζ5y];simp
theorem ζ80 (rs:List (List Int)):0 ≤ needR rs:=ζ7z _
theorem rowK_lt {rv:List Int} (hb:Byt rv) {n:Int} {k:Nat} {r:List Int} (h:rowK rv n k = some r):∀ y,y ∈ r → 0 ≤ y ∧ y < 65536:=by
 unfold rowK listS at h;obtain ⟨q,hq,rfl⟩:=Option.map_eq_some_iff.1 h;have hqb:=(hb.piece (ζ3c hq)).1;intro y hy;obtain ⟨c,hc,rfl⟩:=List.mem_map.1 hy;obtain ⟨h5,h6⟩:=ζem hqb _ _ hc;have:=ζix c h5;have hp:(256:Int) ^ c.length ≤ 256 ^ 2:=by
  have:c.length ≤ 2:=h6
  match hcl:c.length,this with
  | 0,_ => decide
  | 1,_ => decide
  | 2,_ => decide
 omega
theorem ζhl {rv:List Int} (hb:Byt rv) {n:Int} {m:Nat} {rs:List (List Int)} (h:rowsTo rv n m = some rs):needR rs ≤ 65536:=needL_lt (by omega) fun y hy => by
 obtain ⟨r,hrm,hy⟩:=List.mem_flatten.1 hy;obtain ⟨i,hi⟩:=List.getElem?_of_mem hrm;obtain ⟨k,_,hk⟩:=mapO_get h hi;exact (rowK_lt hb hk y hy).2
theorem ζjp {β:Type} {f:Nat → Option β} {n m:Nat} (h:n ≤ m) (hn:mapO f (List.range n) = none):mapO f (List.range m) = none:=by
 cases hm:mapO f (List.range m) with
 | none => rfl
 | some r => rw [ζhj h hm] at hn; cases hn
section
variable (k:Nat) {H0:Heap} {X:List It} {c r:Nat} {n:Int} {tab vR vE:Value} {rv ev:List Int} {w:Int}
 (hn:0 ≤ n ∧ n ≤ 65535) (hw:w = 0 ∨ w = 1 ∨ w = 2) (hvR:Sl H0 1 vR encB rv) (hvE:Sl H0 1 vE encB ev) (hbR:Byt rv) (hbE:Byt ev) (hlR:rv.length < 2 ^ 31) (hlE:ev.length < 2 ^ 31)
 (hX:itBlk r ⟨[ptrV c,vR,vE,.int .i64 w],1,false⟩ ∈ X)
include hn hvR hvE hbR hlR hX
theorem ζt5 {H:Heap} (s:Nat) (hs:s ≤ 65536) {rs:List (List Int)} {es:List En} (h:MS H0 H X c n tab rs es) (hrs:rs.length ≤ s) (ht:rowsTo rv n rs.length = some rs) :
  (∃ rs' H',loopN (ζ4w k (R (T k))) loopFuel [(8,ptrV c),(9,ptrV r),(10,.int .i64 s),(11,.int .i64 (needR rs))] H = .ok (.exit 2,[(8,ptrV c),(9,ptrV r),(10,.int .i64 s),(11,.int .i64 (needR rs')),(63,.bool false)]) H' ∧ rowsTo rv n s = some rs' ∧ MS H0 H' X c n tab rs' es) ∨
  (∃ H',loopN (ζ4w k (R (T k))) loopFuel [(8,ptrV c),(9,ptrV r),(10,.int .i64 s),(11,.int .i64 (needR rs))] H = .panic failV H' ∧ Ext H0 H' ∧ rowsTo rv n s = none):=by
 rcases loopDecP (body:=ζ4w k (R (T k)))
  (fun m e H' => ∃ rs,m = s - rs.length ∧ rs.length ≤ s ∧ e = [(8,ptrV c),(9,ptrV r),(10,.int .i64 s),(11,.int .i64 (needR rs))] ∧ rowsTo rv n rs.length = some rs ∧ MS H0 H' X c n tab rs es)
  (fun x e H' => ∃ rs',x = .exit 2 ∧ e = [(8,ptrV c),(9,ptrV r),(10,.int .i64 s),(11,.int .i64 (needR rs')),(63,.bool false)] ∧ rowsTo rv n s = some rs' ∧ MS H0 H' X c n tab rs' es)
  (fun v H' => v = failV ∧ Ext H0 H' ∧ rowsTo rv n s = none)
  (s - rs.length) (e0:=[(8,ptrV c),(9,ptrV r),(10,.int .i64 s),(11,.int .i64 (needR rs))]) (H0:=H) ⟨rs,rfl,hrs,rfl,ht,h⟩ (by omega)
  (fun m e H' ⟨rs,hm,hle,he,ht,h⟩ => by
   subst he;obtain ⟨s1,s2,hM,hl1,hl2⟩:=h.here;have hr:=h.memX hX;have h0:=ζ80 rs;have h6:=ζhl hbR ht;by_cases hlt:rs.length < s
   ·have hlt':(rs.length:Int) < s:=by omega
    have hrow:=row_run k h hn (by omega) (vE:=vE) w (hvR.up h.ext) (rd_vw hvE) hbR hlR;cases hK:rowK rv n rs.length with
    | none =>
     rw [hK] at hrow;refine .inr (.inr ⟨failV,H',?_,rfl,h.ext,ζjp (n:=rs.length + 1) hlt ?_⟩)
     ·rw [ζ84];simp -implicitDefEqProofs (disch:=omega) [hM,hl1,hlt',hr,hrow]
     ·rw [ζ9j,show mapO (rowK rv n) (List.range rs.length) = some rs from ht,Option.bind_some,hK];rfl
    | some row =>
     rw [hK] at hrow;obtain ⟨H2,e2,h2⟩:=hrow;have hmax:(if needL row > needR rs then needL row else needR rs) = needR (rs ++ [row]):=by rw [ζr7]; split <;> omega
     refine .inl ⟨s - (rs ++ [row]).length,_,H2,?_,by simp; omega,rs ++ [row],rfl,by simp; omega,rfl,?_,h2⟩
     ·rw [ζ84,← hmax];simp -implicitDefEqProofs (disch:=omega) [hM,hl1,hlt',hr,e2]
     ·rw [List.length_append,List.length_singleton];unfold rowsTo at ht ⊢;rw [ζ9j,ht,Option.bind_some,hK];rfl
   ·have hlt':¬ (rs.length:Int) < s:=by omega
    refine .inr (.inl ⟨.exit 2,_,H',?_,by simp,rs,rfl,rfl,by rw [show s = rs.length by omega]; exact ht,h⟩);rw [ζ84];simp -implicitDefEqProofs (disch:=omega) [hM,hl1,hlt']) with ⟨x,e',H',h1,rs',rfl,rfl,h2,h3⟩ | ⟨v,H',h1,rfl,h2,h3⟩
 ·exact .inl ⟨rs',H',h1,h2,h3⟩
 ·exact .inr ⟨H',h1,h2,h3⟩
end
section
variable (k:Nat) {H0:Heap} {X:List It} {c r:Nat} {n:Int} {tab vR vE:Value} {rv ev:List Int} {w:Int}
 (hn:0 ≤ n ∧ n ≤ 65535) (hw:w = 0 ∨ w = 1 ∨ w = 2) (hvR:Sl H0 1 vR encB rv) (hvE:Sl H0 1 vE encB ev) (hbR:Byt rv) (hbE:Byt ev) (hlR:rv.length < 2 ^ 31) (hlE:ev.length < 2 ^ 31)
 (hX:itBlk r ⟨[ptrV c,vR,vE,.int .i64 w],1,false⟩ ∈ X)
include hw hvR hvE hbE hlE hX
theorem ζse {H:Heap} (s:Int) (hs:2 ≤ s ∧ s ≤ 65536) (N:Nat) (hN:N ≤ 65536) {rs:List (List Int)} {es:List En} (h:MS H0 H X c n tab rs es) (hes:es.length ≤ N) (ht:entsTo ev w es.length = some es) (hsn:needE es ≤ s) :
  (∃ es' H',loopN (ζ4x k (R (T k))) loopFuel [(8,ptrV c),(9,ptrV r),(10,.int .i64 s),(11,.int .i64 N)] H = .ok (.exit 4,[(8,ptrV c),(9,ptrV r),(10,.int .i64 (max s (needE es'))),(11,.int .i64 N),(74,.bool false)]) H' ∧ entsTo ev w N = some es' ∧ MS H0 H' X c n tab rs es') ∨
  (∃ H',loopN (ζ4x k (R (T k))) loopFuel [(8,ptrV c),(9,ptrV r),(10,.int .i64 s),(11,.int .i64 N)] H = .panic failV H' ∧ Ext H0 H' ∧ entsTo ev w N = none):=by
 rcases loopDecP (body:=ζ4x k (R (T k)))
  (fun m e H' => ∃ es,m = N - es.length ∧ es.length ≤ N ∧ e = [(8,ptrV c),(9,ptrV r),(10,.int .i64 (max s (needE es))),(11,.int .i64 N)] ∧ entsTo ev w es.length = some es ∧ MS H0 H' X c n tab rs es)
  (fun x e H' => ∃ es',x = .exit 4 ∧ e = [(8,ptrV c),(9,ptrV r),(10,.int .i64 (max s (needE es'))),(11,.int .i64 N),(74,.bool false)] ∧ entsTo ev w N = some es' ∧ MS H0 H' X c n tab rs es')
  (fun v H' => v = failV ∧ Ext H0 H' ∧ entsTo ev w N = none)
  (N - es.length) (e0:=[(8,ptrV c),(9,ptrV r),(10,.int .i64 s),(11,.int .i64 N)]) (H0:=H) ⟨es,rfl,hes,by rw [show max s (needE es) = s by omega],ht,h⟩ (by omega)
  (fun m e H' ⟨es,hm,hle,he,ht,h⟩ => by
   subst he;obtain ⟨s1,s2,hM,hl1,hl2⟩:=h.here;have hr:=h.memX hX;have h6:=needE_le hbE ht;by_cases hlt:es.length < N
   ·have hlt':(es.length:Int) < N:=by omega
    have hent:=ζsd k h (by omega) (vR:=vR) w hw (hvE.up h.ext) (rd_vw hvR) hbE hlE;cases hK:entK ev w es.length with
    | none =>
     rw [hK] at hent;refine .inr (.inr ⟨failV,H',?_,rfl,h.ext,ζjp (n:=es.length + 1) hlt ?_⟩)
     ·rw [ζ85];simp -implicitDefEqProofs (disch:=omega) [hM,hl2,hlt',hr,hent]
     ·rw [ζ9j,show mapO (entK ev w) (List.range es.length) = some es from ht,Option.bind_some,hK];rfl
    | some en =>
     rw [hK] at hent;obtain ⟨H2,e2,h2⟩:=hent;have hen:needE (es ++ [en]) = max (needE es) (en.next + 1):=by
      unfold needE;rw [List.map_append,List.map_singleton,ζjr];omega
     have hmax:(if en.next + 1 > max s (needE es) then en.next + 1 else max s (needE es)) = max s (needE (es ++ [en])):=by rw [hen]; split <;> omega
     refine .inl ⟨N - (es ++ [en]).length,_,H2,?_,by simp; omega,es ++ [en],rfl,by simp; omega,rfl,?_,h2⟩
     ·rw [ζ85,← hmax];simp -implicitDefEqProofs (disch:=omega) [hM,hl2,hlt',hr,e2]
     ·rw [List.length_append,List.length_singleton];unfold entsTo at ht ⊢;rw [ζ9j,ht,Option.bind_some,hK];rfl
   ·have hlt':¬ (es.length:Int) < N:=by omega
    refine .inr (.inl ⟨.exit 4,_,H',?_,by simp,es,rfl,rfl,by rw [show N = es.length by omega]; exact ht,h⟩);rw [ζ85];simp -implicitDefEqProofs (disch:=omega) [hM,hl2,hlt']) with ⟨x,e',H',h1,es',rfl,rfl,h2,h3⟩ | ⟨v,H',h1,rfl,h2,h3⟩
 ·exact .inl ⟨es',H',h1,h2,h3⟩
 ·exact .inr ⟨H',h1,h2,h3⟩
end
section
variable (k:Nat) {H0:Heap} {X:List It} {c r:Nat} {n:Int} {tab vR vE:Value} {rv ev:List Int} {w:Int}
 (hn:0 ≤ n ∧ n ≤ 65535) (hw:w = 0 ∨ w = 1 ∨ w = 2) (hvR:Sl H0 1 vR encB rv) (hvE:Sl H0 1 vE encB ev) (hbR:Byt rv) (hbE:Byt ev) (hlR:rv.length < 2 ^ 31) (hlE:ev.length < 2 ^ 31)
 (hX:itBlk r ⟨[ptrV c,vR,vE,.int .i64 w],1,false⟩ ∈ X)
include hn hw hvR hvE hbR hbE hlR hlE hX
theorem all_loop {H:Heap} (h:MS H0 H X c n tab [] []) :
  Cp failV (Ext H0) (loopN (ζ4v k (R (T k))) loopFuel [(8,ptrV c),(9,ptrV r),(10,.int .i64 2),(11,.int .i64 0)] H) (closeA rv ev n w 2)
   fun x xe H' => (∃ a b,xe = (.exit 0,[(8,ptrV c),(9,ptrV r),(10,a),(11,b),(56,.bool false)])) ∧ MS H0 H' X c n tab x.1 x.2:=by
 rcases loopDecP (body:=ζ4v k (R (T k)))
  (fun m e H' => ∃ (s:Nat) (rs:List (List Int)) (es:List En),m = 2 * (65537 - s) + (if rs.length < s then 1 else 0) ∧ e = [(8,ptrV c),(9,ptrV r),(10,.int .i64 s),(11,.int .i64 (needR rs))] ∧ 2 ≤ s ∧ s ≤ 65536 ∧ rs.length ≤ s ∧
   rowsTo rv n rs.length = some rs ∧ es.length = (needR rs).toNat ∧ entsTo ev w es.length = some es ∧ needE es ≤ s ∧ MS H0 H' X c n tab rs es ∧ closeA rv ev n w 2 = if rs.length < s then closeA rv ev n w s else some (rs,es))
  (fun x e H' => x = .exit 0 ∧ ∃ rs es a b,e = [(8,ptrV c),(9,ptrV r),(10,a),(11,b),(56,.bool false)] ∧ closeA rv ev n w 2 = some (rs,es) ∧ MS H0 H' X c n tab rs es)
  (fun v H' => v = failV ∧ Ext H0 H' ∧ closeA rv ev n w 2 = none)
  (2 * 65535 + 1) (e0:=[(8,ptrV c),(9,ptrV r),(10,.int .i64 2),(11,.int .i64 0)]) (H0:=H) ⟨2,[],[],rfl,rfl,by omega,by omega,by simp,rfl,rfl,rfl,(by decide),h,rfl⟩ (by omega)
  (fun m e H' ⟨s,rs,es,hm,he,hs2,hs6,hrs,ht,hel,hte,hne,h,hspec⟩ => by
   subst he;obtain ⟨s1,s2,hM,hl1,hl2⟩:=h.here;have h0:=ζ80 rs;by_cases hlt:rs.length < s
   ·have hlt':(rs.length:Int) < s:=by omega
    rw [if_pos hlt] at hspec;have hce:=ζoc (rv:=rv) hbE (n:=n) (w:=w) hs6;have hgo:∀ x,(loopN (ζ4w k (R (T k))) loopFuel [(8,ptrV c),(9,ptrV r),(10,.int .i64 s),(11,.int .i64 (needR rs))] H').bind (fun r111 h112 => ζam k (R (T k)) r111.1 r111.2 h112) = x → ζ4v k (R (T k)) [(8,ptrV c),(9,ptrV r),(10,.int .i64 s),(11,.int .i64 (needR rs))] H' = x:=fun x hx => by
     rw [← hx,ζbn];simp -implicitDefEqProofs (disch:=omega) [hM,hl1,hlt']
    rcases ζt5 k hn hvR hvE hbR hlR hX s hs6 h hrs ht with ⟨rs',H2,e2,ht2,h2⟩ | ⟨H2,e2,hx2,ht2⟩
    rotate_left
    ·refine .inr (.inr ⟨failV,H2,hgo _ ?_,rfl,hx2,by rw [hspec,hce,ht2]; rfl⟩);rw [e2]; rfl
    have hrl:rs'.length = s:=by have:=mapO_len ht2; simpa using this
    have hn2:=ζ80 rs';have hn6:=ζhl hbR ht2;have hpre:rs = rs'.take rs.length:=by
     have:=ζhj hrs ht2;have ht':mapO (rowK rv n) (List.range rs.length) = some rs:=ht;rw [ht'] at this;injection this
    have hmono:needR rs ≤ needR rs':=by
     conv => lhs; rw [hpre]
     have:=List.take_append_drop rs.length rs';conv => rhs; rw [← this]
     unfold needR;rw [List.flatten_append,ζ5y];omega
    have hNN:((needR rs').toNat:Int) = needR rs':=by omega
    rw [hspec] at *;rw [ht2,Option.bind_some] at hce;have hgo2:∀ x,(loopN (ζ4x k (R (T k))) loopFuel [(8,ptrV c),(9,ptrV r),(10,.int .i64 s),(11,.int .i64 (((needR rs').toNat:Nat):Int))] H2).bind (fun r111 h112 => ζan k (R (T k)) r111.1 r111.2 h112) = x → ζ4v k (R (T k)) [(8,ptrV c),(9,ptrV r),(10,.int .i64 s),(11,.int .i64 (needR rs))] H' = x:=fun x hx => by
     refine hgo x ?_;rw [e2,← hx,Res.bind_ok,ζi8,hNN]
    rcases ζse k hw hvR hvE hbE hlE hX s (by omega) (needR rs').toNat (by omega) h2 (by omega) hte hne with ⟨es',H3,e3,ht3,h3⟩ | ⟨H3,e3,hx3,ht3⟩
    rotate_left
    ·refine .inr (.inr ⟨failV,H3,hgo2 _ ?_,rfl,hx3,by rw [hce,ht3]; rfl⟩);rw [e3]; rfl
    have hE:=needE_le hbE ht3;have hel':es'.length = (needR rs').toNat:=by have:=mapO_len ht3; simpa using this
    rw [ht3,Option.bind_some] at hce;have hmx:((max s (needE es').toNat:Nat):Int) = max (s:Int) (needE es'):=by omega
    refine .inl ⟨2 * (65537 - max s (needE es').toNat) + (if rs'.length < max s (needE es').toNat then 1 else 0),_,H3,hgo2 _ ?_,?_,max s (needE es').toNat,rs',es',rfl,rfl,by omega,by omega,by omega,by rw [hrl]; exact ht2,hel',by rw [hel']; exact ht3,by omega,h3,?_⟩
    ·rw [e3,Res.bind_ok,ζi9,hmx,hNN]
    ·rw [hm,if_pos hlt,hrl];split <;> omega
    ·rw [hce,hrl];by_cases hcl:(needE es').toNat ≤ s
     ·rw [if_pos hcl,if_neg (by omega)]
     ·rw [if_neg hcl,if_pos (by omega),show max s (needE es').toNat = (needE es').toNat by omega]
   ·have hlt':¬ (rs.length:Int) < s:=by omega
    have hlt2:¬ (es.length:Int) < needR rs:=by omega
    rw [if_neg hlt] at hspec;refine .inr (.inl ⟨.exit 0,[(8,ptrV c),(9,ptrV r),(10,.int .i64 s),(11,.int .i64 (needR rs)),(56,.bool false)],H',?_,by simp,rfl,rs,es,_,_,rfl,hspec,h⟩);rw [ζbn];simp -implicitDefEqProofs (disch:=omega) [hM,hl1,hl2,hlt',hlt2]) with ⟨x,e',H',h1,rfl,rs',es',a,b,rfl,h2,h3⟩ | ⟨v,H',h1,rfl,h2,h3⟩
 ·rw [h2];exact ⟨_,H',h1,h3.ext,⟨a,b,rfl⟩,h3⟩
 ·rw [h3];exact ⟨H',h1,h2⟩
end
end Go.Sw
end
section
namespace Go.Sw
open Go.RowKit
abbrev machV (m:Mach):Value:=boxV #[.int .i64 m.classes,tabV m.tab,lv encRow m.rows,lv encEn m.ents]
theorem Flat.rowsL (l:List (List Int)):Flat (Go.Sw.lv encRow l):=.lv fun p _ => .cons (Flat.I _) .nil
theorem Flat.mach (m:Mach):Flat (machV m):=.boxV (l:=[.int .i64 m.classes,tabV m.tab,Go.Sw.lv encRow m.rows,Go.Sw.lv encEn m.ents]) (.cons (.int _ _) (.cons (Flat.tab _) (.cons (Flat.rowsL _) (.cons (Flat.Ens _) .nil))))
theorem ζt4 (l:List (List Int × Value)):rows (fun x:List Int × Value => encRow x.1) l = rows encRow (l.map Prod.fst):=by
 induction l with
 | nil => rfl
 | cons x l ih => rw [List.map_cons,ζ4m,ζ4m,ih]
theorem MS.freeze {H0 H:Heap} {X:List It} {c:Nat} {n:Int} {t:Int × List Pt} {rs:List (List Int)} {es:List En} (h:MS H0 H X c n (tabV t) rs es):∃ L,fzV H0.n H fzDepth (ptrV c) = some (machV ⟨n,t,rs,es⟩,L):=by
 obtain ⟨l,s1,o1,s2,o2,bs,h1,g,h3⟩:=h;have hc:=(g.lt 0 rfl c (by simp [itBlk])).1;obtain ⟨L1,f1⟩:=(g.own 1 rfl).freezeG (enc':=fun x:List Int × Value => encRow x.1) encU_len 5 fun x hx => by
  obtain ⟨o,ho⟩:=h3 x hx;obtain ⟨L,hL⟩:=(g.memOwn (o:=o) (m:=1) (s:=x.2) (enc:=encI) (l:=x.1) (by simp [ho])).freeze encI_len (ζ6c _) 4;exact ⟨_,mapF_one hL⟩
 obtain ⟨L2,f2⟩:=(g.own 2 rfl).freeze ζ8t (ζl8 _) 5;have e1:lv (fun x:List Int × Value => encRow x.1) l = lv encRow rs:=by
  unfold lv;rw [ζt4,h1,← h1,List.length_map]
 rw [e1] at f1;exact ⟨_,fz_box hc (g.get 0 rfl) (ζw (v:=.int .i64 n) (u:=.int .i64 n) (L1:=[]) rfl (ζw (v:=tabV t) (u:=tabV t) (L1:=[]) rfl (ζw f1 (mapF_one f2))))⟩
theorem restS_sl {H:Heap} {v:Value} {b r:List Int} (hv:Sl H 1 v encB b) {i:Int} (hl:b.length < 2 ^ 62) (hi:i ≤ 9223372036854775807) (h:restS b i = some r):Sl H 1 (subV 1 v i.toNat (behind b i).toNat) encB r :=
 ζ48 hv (by rw [ζg0 b i hl hi]; exact h)
theorem ζ8v {b r:List Int} {i:Int} (h:restS b i = some r):r.length ≤ b.length:=by
 unfold restS at h;split at h
 ·injection h with h;subst h;simp
 ·cases h
theorem ζnn (k:Nat) {H:Heap} {v:Value} {b:List Int} (hv:Sl H 1 v encB b) (hb:Byt b) (g w:Int) (hg1:1 ≤ g) (hg2:g ≤ 65535) (hw:w = 0 ∨ w = 1 ∨ w = 2) (hl:b.length < 2 ^ 31) :
  R (T k) F.ζ2t [.agg #[v],.int .i64 g,.int .i64 w] H = orF (machS b g w) machV H:=by
 rw [ζo9];have hx:Ext H (H.push ⟨[v],1,false⟩):=(Ext.refl H).push _;have hq:=rd_vw hv;have hqa:veq (.agg #[v]) (.agg #[v]) = true:=veq_agg (l:=[v]) fun u hu => by simp at hu; subst hu; exact hq
 refine fz_orF ?_ fun _ _ => (Flat.mach _).alive;simp -implicitDefEqProofs [ζ2t];unfold machS;refine Cp.call (U32_run k (hv.up hx) hb 0 (by omega)) hx fun n hn => ?_;have hn:=uS_four hb hn;by_cases h4:4 ≤ n;rotate_left
 ·have h4':¬ n ≥ 4:=by omega
  rw [if_neg (fun h => h4 h.1)];simp -implicitDefEqProofs (disch:=omega) [h4'];exact .throw hx
 have h4':n ≥ 4:=h4;by_cases h5:n ≤ 65535;rotate_left
 ·rw [if_neg (fun h => h5 h.2)];simp -implicitDefEqProofs (disch:=omega) [h4',h5];exact .throw hx
 rw [if_pos ⟨h4,h5⟩];simp -implicitDefEqProofs (disch:=omega) [h4',h5];refine Cp.callT (U32_run k (hv.up hx) hb 4 (by omega)) (fun _ => ⟨_,rfl,hx⟩) fun i hi => ?_;have hi:=uS_four hb hi;refine Cp.callT (Rest_run k (hv.up hx) i (by omega) (by omega)) (fun _ => ⟨_,by simp -implicitDefEqProofs (disch:=omega) [hqa],hx⟩) fun tb htb => ?_;refine Cp.callT (ζo3 k (restS_sl (hv.up hx) (by omega) (by omega) htb) (hb.rest htb) g 2 hg1 hg2 (.inl rfl) (by have:=ζ8v htb; omega)) (fun _ => ⟨_,by simp -implicitDefEqProofs (disch:=omega) [hqa],hx⟩) fun tab htab => ?_;have hx2:Ext H ((H.push ⟨[v],1,false⟩).push ⟨[.int .i64 n,tabV tab,.slice none 0 0,.slice none 0 0],1,false⟩):=hx.push _;simp -implicitDefEqProofs (disch:=omega) [hqa];refine Cp.callT (U32_run k (hv.up hx2) hb 8 (by omega)) (fun _ => ⟨_,by simp -implicitDefEqProofs (disch:=omega) [hqa],hx2⟩) fun j hj => ?_;have hj:=uS_four hb hj;refine Cp.callT (Rest_run k (hv.up hx2) j (by omega) (by omega)) (fun _ => ⟨_,by simp -implicitDefEqProofs (disch:=omega) [hqa],hx2⟩) fun rv hrv => ?_;simp -implicitDefEqProofs (disch:=omega) [hqa];refine Cp.callT (U32_run k (hv.up hx2) hb 12 (by omega)) (fun _ => ⟨_,by simp -implicitDefEqProofs (disch:=omega) [hqa],hx2⟩) fun q hq => ?_;have hq:=uS_four hb hq;refine Cp.callT (Rest_run k (hv.up hx2) q (by omega) (by omega)) (fun _ => ⟨_,by simp -implicitDefEqProofs (disch:=omega) [hqa],hx2⟩) fun ev hev => ?_;have sR:=restS_sl hv (by omega) (by omega) hrv;have sE:=restS_sl hv (by omega) (by omega) hev;have lR:=ζ8v hrv;have lE:=ζ8v hev;generalize subV 1 v j.toNat (behind b j).toNat = vR at sR;generalize subV 1 v q.toNat (behind b q).toNat = vE at sE;have qR:=rd_vw sR;have qE:=rd_vw sE;have qaR:veq (.agg #[vR]) (.agg #[vR]) = true:=veq_agg (l:=[vR]) fun u hu => by simp at hu; subst hu; exact qR
 have qaE:veq (.agg #[vE]) (.agg #[vE]) = true:=veq_agg (l:=[vE]) fun u hu => by simp at hu; subst hu; exact qE
 have stR:=sR.storable;have stE:=sE.storable;have ceR:=sR.cells;have ceE:=sE.cells;have hms:MS H (((H.push ⟨[v],1,false⟩).push ⟨[.int .i64 n,tabV tab,.slice none 0 0,.slice none 0 0],1,false⟩).push ⟨[ptrV (H.n + 1),vR,vE,.int .i64 w],1,false⟩) [itBlk (H.n + 2) ⟨[ptrV (H.n + 1),vR,vE,.int .i64 w],1,false⟩] (H.n + 1) n (tabV tab) [] []:=by
  have g:=((Star.nil H).rest hx).push ⟨[.int .i64 n,tabV tab,.slice none 0 0,.slice none 0 0],1,false⟩;have g:=g.more_row (Ext.refl _) (OwnO.nil encU _ 1) (fun b hb => by cases hb);have g:=g.more_row (Ext.refl _) (OwnO.nil encEn _ 4) (fun b hb => by cases hb);have g:=g.push ⟨[ptrV (H.n + 1),vR,vE,.int .i64 w],1,false⟩;exact ⟨[],_,none,_,none,[],rfl,by simpa using g,fun x hx => by cases hx⟩
 simp -implicitDefEqProofs (disch:=omega) [hqa,qaR,qaE,stR,stE,ceR,ceE];refine Cp.bindM (all_loop k (X:=[itBlk (H.n + 2) ⟨[ptrV (H.n + 1),vR,vE,.int .i64 w],1,false⟩]) (by omega) hw sR sE (hb.rest hrv) (hb.rest hev) (by omega) (by omega) (by simp) hms) ?_;rintro ⟨rs,es⟩ ⟨x,e⟩ H' _ hx' ⟨⟨a,b,he⟩,hm⟩;injection he with e1 e2;subst e1 e2;simp only [ζi7];exact .ok hx' hm.freeze
end Go.Sw
end
section
namespace Go.Sw
open Go.RowKit
theorem subV_lv (b:List Int) (a n:Nat) (h:a + n ≤ b.length):subV 1 (lv encB b) a n = lv encB ((b.drop a).take n):=by
 have h2:=((Sl.lv Heap.empty 1 b).sub encB_len .i64 .i64 .i64 a n h).1 Heap.empty (Ext.refl _);rw [slS_lv encB_len b _ _ _ a (a + n) (a + n) (by simp [boundOf]) (by unfold boundOf; dsimp only; rw [if_pos (by omega),Int.toNat_natCast]) (by unfold boundOf; dsimp only; rw [if_pos (by omega),Int.toNat_natCast]) (fun _ => rfl) (by omega) (Nat.le_refl _) h] at h2;injection h2 with h2;rw [← h2,List.drop_take,show a + n - a = n by omega]
theorem piece_lv {b r:List Int} {i n:Int} (h:pieceS b i n = some r):subV 1 (lv encB b) i.toNat n.toNat = lv encB r:=by
 obtain ⟨h1,rfl⟩:=ζ4j.1 h;exact subV_lv b _ _ (by omega)
theorem ζsu {α:Type} {o:Option α} {f g:α → Value} (h:∀ a,o = some a → f a = g a) (H:Heap):orF o f H = orF o g H:=by
 cases o with
 | none => rfl
 | some a => show Res.ok (f a) H = Res.ok (g a) H; rw [h a rfl]
abbrev vwB (b:List Int):Value:=.agg #[lv encB b]
theorem Rest_lv (k:Nat) (b:List Int) (i:Int) (hl:b.length < 2 ^ 62) (hi:i ≤ 9223372036854775807) (H:Heap):R (T k) F.ζ1k [vwB b,.int .i64 i] H = orF (restS b i) vwB H :=
 (Rest_run k (Sl.lv H 1 b) i hl hi).trans (ζsu (fun r hr => by rw [piece_lv (by rw [ζg0 b i hl hi]; exact hr)]) H)
theorem Of_lv (k:Nat) (b:List Int) (H:Heap):R (T k) F.view_Of [lv encB b] H = .ok (vwB b) H:=Of_run k (Sl.lv H 1 b)
theorem ζru (k:Nat) {H:Heap} {v:Value} {b:List Int} (hv:Sl H 1 v encB b) (hl:b.length ≤ 2 ^ 30):R (T k) F.ζ3o [.agg #[v]] H = .ok (lv encB b) H:=by
 rw [ζim];have g:=(Star.nil H).push ⟨[v],1,false⟩;have g:=g.more_row (Ext.refl _) (OwnO.bare encB _ 1) (fun b hb => by cases hb);obtain ⟨s,o,H1,e1,g⟩:=g.append (bytes:=1) 1 encB_len rfl (b:=v) (l2:=b) (ζit hv.lenL) ((hv.up g.ext).first encB_len) (by simp; omega) (by decide);simp only [List.nil_append,List.cons_append,List.set_cons_zero,List.set_cons_succ] at g;obtain ⟨L,hf⟩:=(g.own 1 rfl).freeze encB_len (fun n _ v hv => by simp at hv; subst hv; trivial) 6;refine nrm_fz (v:=s) (H':=H1) ?_ hf g.ext (Flat.B b).alive;simp -implicitDefEqProofs [ζ3o,e1]
theorem veq_Pt (l:List Pt):veq (lv encPt l) (lv encPt l) = true:=veq_lv fun p _ v hv => by
 simp [encPt] at hv;rcases hv with rfl | rfl | rfl <;> simp
theorem veq_tab (x:Int × List Pt):veq (boxV #[.int .i64 x.1,lv encPt x.2]) (boxV #[.int .i64 x.1,lv encPt x.2]) = true:=veq_boxV (l:=[.int .i64 x.1,lv encPt x.2]) fun v hv => by
 simp at hv;rcases hv with rfl | rfl
 ·simp
 ·exact veq_Pt _
end Go.Sw
end
section
namespace Go.Sw
open Go.RowKit
theorem ζrv (k:Nat) (m:Mach) (hm:m.ok) (id:Int) (H:Heap):R (T k) F.ζ1c [machV m,.int .i64 id] H = .ok (.int .i64 (classS m id)) H:=by
 rw [ζex];refine nrm_gc (Pure.of ?_) (.int _ _);have hget:=fun H => Get_run k m.tab hm.pts hm.rise id hm.plen H;unfold classS;by_cases h:id = 65535
 ·subst h;simp -implicitDefEqProofs (disch:=omega) [ζ1c]
 ·have h':(id == 65535) = false:=by simpa using h
  rw [if_neg h];cases hg:getS m.tab.2 id with
  | none =>
   rw [hg] at hget;simp -implicitDefEqProofs (disch:=omega) [ζ1c,h',hget]
  | some x =>
   rw [hg] at hget;dsimp only;by_cases hx:x < m.classes
   ·simp -implicitDefEqProofs (disch:=omega) [ζ1c,h',hget,hx]
   ·simp -implicitDefEqProofs (disch:=omega) [ζ1c,h',hget,hx]
def encEA (o:Option En):Value:=.agg (encEn (o.getD ⟨0,0,0,0⟩)).toArray
theorem ζj5 (o:Option En):Flat (encEA o):=Flat.ofEn _
theorem ζk8 {m:Mach} (hm:m.ok) {s c:Int} (h:0 ≤ s ∧ s < m.rows.length ∧ 0 ≤ c ∧ c < m.classes) :
  ∃ r x e,m.rows[s.toNat]? = some r ∧ r[c.toNat]? = some x ∧ 0 ≤ x ∧ m.ents[x.toNat]? = some e ∧ stepS m s c = some e:=by
 obtain ⟨r,hr⟩:∃ r,m.rows[s.toNat]? = some r:=⟨_,List.getElem?_eq_getElem (by omega)⟩
 have hrm:=hm.row r (List.mem_of_getElem? hr);obtain ⟨x,hx⟩:∃ x,r[c.toNat]? = some x:=⟨_,List.getElem?_eq_getElem (by omega)⟩
 have hxm:=hrm.2 x (List.mem_of_getElem? hx);obtain ⟨e,he⟩:∃ e,m.ents[x.toNat]? = some e:=⟨_,List.getElem?_eq_getElem (by omega)⟩
 refine ⟨r,x,e,hr,hx,hxm.1,he,?_⟩;unfold stepS;rw [if_pos h,hr,Option.bind_some,hx,Option.bind_some,he]
theorem Step_run (k:Nat) (m:Mach) (hm:m.ok) (s c:Int) (H:Heap):R (T k) F.ζ19 [machV m,.int .i64 s,.int .i64 c] H = .ok (.tuple #[encEA (stepS m s c),.bool (stepS m s c).isSome]) H:=by
 rw [ζga];have fl:Flat (.tuple #[encEA (stepS m s c),.bool (stepS m s c).isSome]):=.tupleL (.cons (ζj5 _) (.cons (.bool _) .nil));have no:¬ (0 ≤ s ∧ s < m.rows.length ∧ 0 ≤ c ∧ c < m.classes) → stepS m s c = none:=fun h => by unfold stepS; rw [if_neg h]
 have hx:Ext H (H.push ⟨[.int .i64 0,.int .i64 0,.int .i64 0,.int .i64 0],1,false⟩):=(Ext.refl H).push _;by_cases h1:s < 0
 ·rw [no (by omega)] at fl ⊢;refine nrm_gc ⟨_,?_,hx⟩ fl.alive;simp -implicitDefEqProofs (disch:=omega) [ζ19,h1,encEA]
 by_cases h2:s ≥ m.rows.length
 ·rw [no (by omega)] at fl ⊢;refine nrm_gc ⟨_,?_,hx⟩ fl.alive;simp -implicitDefEqProofs (disch:=omega) [ζ19,h1,h2,encEA]
 by_cases h3:c < 0
 ·rw [no (by omega)] at fl ⊢;refine nrm_gc ⟨_,?_,hx⟩ fl.alive;simp -implicitDefEqProofs (disch:=omega) [ζ19,h1,h2,h3,encEA]
 by_cases h4:c ≥ m.classes
 ·rw [no (by omega)] at fl ⊢;refine nrm_gc ⟨_,?_,hx⟩ fl.alive;simp -implicitDefEqProofs (disch:=omega) [ζ19,h1,h2,h3,h4,encEA]
 obtain ⟨r,x,e,hr,hxx,hx0,he,hs⟩:=ζk8 hm (s:=s) (c:=c) (by omega);rw [hs] at fl ⊢;have i1:=fun H' => ixS_lv ζqr m.rows .i64 s r (by omega) hr H';have i2:=fun H' => ixS_lv encI_len r .i64 c x (by omega) hxx H';have i3:=fun H' => ixS_lv ζ8t m.ents .i64 x e hx0 he H';refine nrm_gc ⟨H.push ⟨encEn e,1,false⟩,?_,(Ext.refl H).push _⟩ fl.alive;simp -implicitDefEqProofs (disch:=omega) [ζ19,h1,h2,h3,h4,i1,i2,i3,encEA]
theorem ζpd (k:Nat) (hk:k < 1000000) (m:Mach) (hl:m.ents.length ≤ 65536) (H:Heap):R (T k) F.ζ22 [machV m] H = .ok (lv encEn m.ents) H:=by
 have ho:own k = .fz:=by unfold own; rw [show Nat.blt k 1000000 = true from Nat.ble_eq_true_of_le hk]; rfl
 rw [ζb1,ho];have g:=(Star.nil H).more_row (Ext.refl _) (OwnO.bare encEn _ 4) (fun b hb => by cases hb);obtain ⟨s,o,H1,e1,g⟩:=g.append (bytes:=32) 0 ζ8t rfl (b:=lv encEn m.ents) (l2:=m.ents) rfl (lv_first ζ8t m.ents H) (by simp; omega) (by decide);simp only [List.nil_append,List.set_cons_zero] at g;obtain ⟨L,hf⟩:=(g.own 0 rfl).freeze ζ8t (ζl8 _) 6;refine nrm_fz (v:=s) (H':=H1) ?_ hf g.ext (Flat.Ens _).alive;simp -implicitDefEqProofs (disch:=omega) [ζ22,e1]
end Go.Sw
end
section
namespace Go.Sw
open Go.RowKit
structure CTab where
 m:Mach
 subs:List (Int × List Pt)
end Go.Sw
end
section
set_option maxRecDepth 100000
set_option linter.unusedVariables false
namespace Go.Sw
noncomputable section
def ζ5g (k:Nat) (call:Caller):Env → Heap → Res (AExit × Env):=loopB (C k) call F.ζ1 [1,1,1,1,0,1,0,0]
def ζ87 (k:Nat) (call:Caller):Kont Value:=kBlock 0 (kSeq (pieceK (C k) call F.ζ1 [1,1,1,1,1]) (kDone Prog (resOf Prog F.ζ1)))
def ζ5h (k:Nat) (call:Caller):Env → Heap → Res (AExit × Env):=loopB (C k) call F.ζ1 [1,1,1,1,1,1,0,1,0,0]
def ζ88 (k:Nat) (call:Caller):Kont Value:=kBlock 2 (kSeq (pieceK (C k) call F.ζ1 [1,1,1,1,1,1,1]) (kDone Prog (resOf Prog F.ζ1)))
def ζ3q (k:Nat) (call:Caller):Env → Heap → Res (AExit × Env):=loopB (C k) call F.ζ1 [1,1,1,1,1,1,0,1,0,0,1,1,0,0,1,1,0,0]
def ζ89 (k:Nat) (call:Caller):Kont (AExit × Env):=kBlock 4 (kBlock 3 (kSeq (pieceK (C k) call F.ζ1 [1,1,1,1,1,1,0,1,0,0,1,1,1]) (kRound (ownOf (C k) F.ζ1 [1,1,1,1,1,1,0,1,0,0]))))
def ζ8x (k:Nat) (call:Caller) (a1 a2 a3 a7 a8 a9 a12 a13 a15 a17 a47 a48 a49 a53 a54:Value) (h:Heap):Res (AExit × Env) :=
 kSeq (pieceK (C k) call F.ζ1 [1,1,1,1,1,1,0,1,0,0,1,1,0,0,1,1,0,0,1,1,0,0,1,1,1]) (kBlock 5 (kSeq (pieceK (C k) call F.ζ1 [1,1,1,1,1,1,0,1,0,0,1,1,0,0,1,1,0,0,1,1,1]) (kRound (ownOf (C k) F.ζ1 [1,1,1,1,1,1,0,1,0,0,1,1,0,0,1,1,0,0])))) .normal [(1,a1),(2,a2),(3,a3),(7,a7),(8,a8),(9,a9),(12,a12),(13,a13),(15,a15),(17,a17),(47,a47),(48,a48),(49,a49),(53,a53),(54,a54)] h
def ζ8y (k:Nat) (call:Caller) (a1 a2 a3 a7 a8 a9 a12 a13 a15 a16 a17 a47 a48 a49 a53 a54 a60:Value) (h:Heap):Res (AExit × Env) :=
 kSeq (pieceK (C k) call F.ζ1 [1,1,1,1,1,1,0,1,0,0,1,1,0,0,1,1,0,0,1,1,0,0,1,1,1]) (kBlock 5 (kSeq (pieceK (C k) call F.ζ1 [1,1,1,1,1,1,0,1,0,0,1,1,0,0,1,1,0,0,1,1,1]) (kRound (ownOf (C k) F.ζ1 [1,1,1,1,1,1,0,1,0,0,1,1,0,0,1,1,0,0])))) .normal [(1,a1),(2,a2),(3,a3),(7,a7),(8,a8),(9,a9),(12,a12),(13,a13),(15,a15),(16,a16),(17,a17),(47,a47),(48,a48),(49,a49),(53,a53),(54,a54),(60,a60)] h
def ζ3r (k:Nat) (call:Caller):Env → Heap → Res (AExit × Env):=loopB (C k) call F.ζ1 [1,1,1,1,1,1,1,0,1,0,0]
def ζ8a (k:Nat) (call:Caller):Kont Value:=kBlock 6 (kSeq (pieceK (C k) call F.ζ1 [1,1,1,1,1,1,1,1]) (kDone Prog (resOf Prog F.ζ1)))
def ζ8z (k:Nat) (call:Caller) (a1 a2 a7 a8 a9 a12 a13 a19 a72 a73 a74:Value) (h:Heap):Res (AExit × Env) :=
 kSeq (pieceK (C k) call F.ζ1 [1,1,1,1,1,1,1,0,1,0,0,1,1,0,0,1,1,1]) (kBlock 7 (kSeq (pieceK (C k) call F.ζ1 [1,1,1,1,1,1,1,0,1,0,0,1,1,1]) (kRound (ownOf (C k) F.ζ1 [1,1,1,1,1,1,1,0,1,0,0])))) .normal [(1,a1),(2,a2),(7,a7),(8,a8),(9,a9),(12,a12),(13,a13),(19,a19),(72,a72),(73,a73),(74,a74)] h
def ζ90 (k:Nat) (call:Caller) (a1 a2 a7 a8 a9 a12 a13 a19 a72 a73 a74 a88:Value) (h:Heap):Res (AExit × Env) :=
 kSeq (pieceK (C k) call F.ζ1 [1,1,1,1,1,1,1,0,1,0,0,1,1,0,0,1,1,1]) (kBlock 7 (kSeq (pieceK (C k) call F.ζ1 [1,1,1,1,1,1,1,0,1,0,0,1,1,1]) (kRound (ownOf (C k) F.ζ1 [1,1,1,1,1,1,1,0,1,0,0])))) .normal [(1,a1),(2,a2),(7,a7),(8,a8),(9,a9),(12,a12),(13,a13),(19,a19),(72,a72),(73,a73),(74,a74),(88,a88)] h
def ζ5e (k:Nat) (call:Caller) (a1 a2 a7 a8 a9 a12 a13 a72 a73 a74:Value) (h:Heap):Res (AExit × Env) :=
 kSeq (pieceK (C k) call F.ζ1 [1,1,1,1,1,1,1,0,1,0,0,1,1,1]) (kRound (ownOf (C k) F.ζ1 [1,1,1,1,1,1,1,0,1,0,0])) .normal [(1,a1),(2,a2),(7,a7),(8,a8),(9,a9),(12,a12),(13,a13),(72,a72),(73,a73),(74,a74)] h
def ζ5f (k:Nat) (call:Caller) (a1 a2 a7 a8 a9 a12 a13 a19 a72 a73 a74 a95:Value) (h:Heap):Res (AExit × Env) :=
 kSeq (pieceK (C k) call F.ζ1 [1,1,1,1,1,1,1,0,1,0,0,1,1,1]) (kRound (ownOf (C k) F.ζ1 [1,1,1,1,1,1,1,0,1,0,0])) .normal [(1,a1),(2,a2),(7,a7),(8,a8),(9,a9),(12,a12),(13,a13),(19,a19),(72,a72),(73,a73),(74,a74),(95,a95)] h
def ζ1 (k:Nat) (call:Caller) (a0 a1 a2:Value) (h:Heap):Res Value :=
 (boxR a0 h).bind fun v1 h2 =>
 (fieldAddrR Prog 104 v1 3 h2).bind fun v3 h4 =>
 (loadR Prog 5 v3 h4).bind fun v5 h6 =>
 (convR Prog 5 3 v5 h6).bind fun v7 h8 =>
 (binR Prog .rem 3 v7 (.int .i64 8) h8).bind fun v9 h10 =>
 (binR Prog .add 3 (.int .i64 4) v9 h10).bind fun v11 h12 =>
 (binR Prog .add 3 (.int .i64 16) a2 h12).bind fun v13 h14 =>
 (call F.ζ7 [(.slice none 0 0),(.int .i64 8),(.int .i64 2)] h14).bindT (fun p17 h18 => (fieldAddrR Prog 104 v1 0 h14).bindN fun v19 h20 => (loadR Prog 31 v19 h20).bindN fun v21 h22 => (builtinV Prog .len [31] [v21] h22).bindN fun v23 h24 => chkR ((okVal (loadR Prog 31 v19 h14) v21 && true) && true) (.panic p17 h18)) fun v15 h16 =>
 (call F.ζ7 [v15,(.int .i64 0),(.int .i64 2)] h16).bindT (fun p27 h28 => (fieldAddrR Prog 104 v1 0 h16).bindN fun v29 h30 => (loadR Prog 31 v29 h30).bindN fun v31 h32 => (builtinV Prog .len [31] [v31] h32).bindN fun v33 h34 => chkR ((okVal (loadR Prog 31 v29 h14) v31 && (okVal (loadR Prog 31 v29 h16) v31 && true)) && true) (.panic p27 h28)) fun v25 h26 =>
 (fieldAddrR Prog 104 v1 0 h26).bindN fun v35 h36 =>
 (loadR Prog 31 v35 h36).bindN fun v37 h38 =>
 (builtinV Prog .len [31] [v37] h38).bindN fun v39 h40 =>
 (call F.ζ7 [v25,v39,(.int .i64 2)] h40).bindT (fun p43 h44 => chkR ((okVal (loadR Prog 31 v35 h14) v37 && (okVal (loadR Prog 31 v35 h16) v37 && true)) && true) (.panic p43 h44)) fun v41 h42 =>
 chkR ((okVal (loadR Prog 31 v35 h14) v37 && (okVal (loadR Prog 31 v35 h16) v37 && true)) && true) (
 (fieldAddrR Prog 104 v1 0 h42).bind fun v45 h46 =>
 (loadR Prog 31 v45 h46).bind fun v47 h48 =>
 (builtinV Prog .len [31] [v47] h48).bind fun v49 h50 =>
 (loopN (ζ5g k call) loopFuel [(1,a1),(2,a2),(3,v1),(7,v11),(8,v13),(9,v41),(35,v47),(36,v49),(37,(.int .i64 0))] h50).bind fun r51 h52 =>
 ζ87 k call r51.1 r51.2 h52)
theorem ζhn (k:Nat) (a0 a1 a2:Value) (h:Heap):R (T k) F.ζ1 [a0,a1,a2] h = nrm (ownW k) h (ζ1 k (R (T k)) a0 a1 a2 h) :=
 (R_body (t:=T k) (T_scott k) (by kernel_rfl) (by kernel_rfl) _ _).trans (by kernel_rfl)
theorem ζ6j (k:Nat) (call:Caller) (a1 a2 a3 a7 a8 a9 a35 a36 a37:Value) (h:Heap):ζ5g k call [(1,a1),(2,a2),(3,a3),(7,a7),(8,a8),(9,a9),(35,a35),(36,a36),(37,a37)] h =
 (binR Prog .lss 3 a37 a36 h).bind fun v53 h54 =>
 condV (some v53) (
 (indexAddrR Prog 31 a35 a37 h54).bind fun v55 h56 =>
 (loadR Prog 5 v55 h56).bind fun v57 h58 =>
 (convR Prog 5 3 v57 h58).bind fun v59 h60 =>
 (call F.ζ7 [a9,v59,(.int .i64 2)] h60).bind fun v61 h62 =>
 (binR Prog .add 3 a37 (.int .i64 1) h62).bind fun v63 h64 =>
 .ok (.normal,[(1,a1),(2,a2),(3,a3),(7,a7),(8,a8),(9,v61),(35,a35),(36,a36),(37,v63)]) h64)
 (
 .ok ((.exit 0),[(1,a1),(2,a2),(3,a3),(7,a7),(8,a8),(9,a9),(35,a35),(36,a36),(37,a37),(38,v53)]) h54) :=
 (loopB_eq _ _).trans (by kernel_rfl)
theorem ζb3 (k:Nat) (call:Caller) (a1 a2 a3 a7 a8 a9 a35 a36 a37 a38:Value) (h:Heap):ζ87 k call (.exit 0) [(1,a1),(2,a2),(3,a3),(7,a7),(8,a8),(9,a9),(35,a35),(36,a36),(37,a37),(38,a38)] h =
 (fieldAddrR Prog 104 a3 1 h).bind fun v65 h66 =>
 (loadR Prog 101 v65 h66).bind fun v67 h68 =>
 (builtinV Prog .len [101] [v67] h68).bind fun v69 h70 =>
 (loopN (ζ5h k call) loopFuel [(1,a1),(2,a2),(3,a3),(7,a7),(8,a8),(9,a9),(12,(.slice none 0 0)),(13,(.slice none 0 0)),(47,v67),(48,v69),(49,(.int .i64 0))] h70).bind fun r71 h72 =>
 ζ88 k call r71.1 r71.2 h72:=by kernel_rfl
theorem ζ6k (k:Nat) (call:Caller) (a1 a2 a3 a7 a8 a9 a12 a13 a47 a48 a49:Value) (h:Heap):ζ5h k call [(1,a1),(2,a2),(3,a3),(7,a7),(8,a8),(9,a9),(12,a12),(13,a13),(47,a47),(48,a48),(49,a49)] h =
 (binR Prog .lss 3 a49 a48 h).bind fun v73 h74 =>
 condV (some v73) (
 (indexAddrR Prog 101 a47 a49 h74).bind fun v75 h76 =>
 (loadR Prog 31 v75 h76).bind fun v77 h78 =>
 (loopN (ζ3q k call) loopFuel [(1,a1),(2,a2),(3,a3),(7,a7),(8,a8),(9,a9),(12,a12),(13,a13),(15,v77),(47,a47),(48,a48),(49,a49),(53,a7),(54,(.int .i64 0))] h78).bind fun r79 h80 =>
 ζ89 k call r79.1 r79.2 h80)
 (
 .ok ((.exit 2),[(1,a1),(2,a2),(3,a3),(7,a7),(8,a8),(9,a9),(12,a12),(13,a13),(47,a47),(48,a48),(49,a49),(50,v73)]) h74) :=
 (loopB_eq _ _).trans (by kernel_rfl)
theorem ζ6l (k:Nat) (call:Caller) (a1 a2 a3 a7 a8 a9 a12 a13 a15 a47 a48 a49 a53 a54:Value) (h:Heap):ζ3q k call [(1,a1),(2,a2),(3,a3),(7,a7),(8,a8),(9,a9),(12,a12),(13,a13),(15,a15),(47,a47),(48,a48),(49,a49),(53,a53),(54,a54)] h =
 (binR Prog .lss 3 a54 a53 h).bind fun v81 h82 =>
 condV (some v81) (
 (builtinV Prog .len [31] [a15] h82).bind fun v83 h84 =>
 (binR Prog .lss 3 a54 v83 h84).bind fun v85 h86 =>
 condV (some v85) (
 (indexAddrR Prog 31 a15 a54 h86).bind fun v87 h88 =>
 (loadR Prog 5 v87 h88).bind fun v89 h90 =>
 (convR Prog 5 3 v89 h90).bind fun v91 h92 =>
 ζ8x k call a1 a2 a3 a7 a8 a9 a12 a13 a15 v91 a47 a48 a49 a53 a54 h92)
 (
 ζ8y k call a1 a2 a3 a7 a8 a9 a12 a13 a15 a54 (.int .i64 0) a47 a48 a49 a53 a54 v85 h86))
 (
 .ok ((.exit 4),[(1,a1),(2,a2),(3,a3),(7,a7),(8,a8),(9,a9),(12,a12),(13,a13),(15,a15),(47,a47),(48,a48),(49,a49),(53,a53),(54,a54),(55,v81)]) h82) :=
 (loopB_eq _ _).trans (by kernel_rfl)
theorem ζbo (k:Nat) (call:Caller) (a1 a2 a3 a7 a8 a9 a12 a13 a15 a17 a47 a48 a49 a53 a54:Value) (h:Heap):ζ8x k call a1 a2 a3 a7 a8 a9 a12 a13 a15 a17 a47 a48 a49 a53 a54 h =
 (call F.ζ7 [a12,a17,(.int .i64 2)] h).bind fun v93 h94 =>
 (binR Prog .add 3 a54 (.int .i64 1) h94).bind fun v95 h96 =>
 .ok (.normal,[(1,a1),(2,a2),(3,a3),(7,a7),(8,a8),(9,a9),(12,v93),(13,a13),(15,a15),(47,a47),(48,a48),(49,a49),(53,a53),(54,v95)]) h96:=by kernel_rfl
theorem ζbp (k:Nat) (call:Caller) (a1 a2 a3 a7 a8 a9 a12 a13 a15 a16 a17 a47 a48 a49 a53 a54 a60:Value) (h:Heap):ζ8y k call a1 a2 a3 a7 a8 a9 a12 a13 a15 a16 a17 a47 a48 a49 a53 a54 a60 h =
 (call F.ζ7 [a12,a17,(.int .i64 2)] h).bind fun v97 h98 =>
 (binR Prog .add 3 a54 (.int .i64 1) h98).bind fun v99 h100 =>
 .ok (.normal,[(1,a1),(2,a2),(3,a3),(7,a7),(8,a8),(9,a9),(12,v97),(13,a13),(15,a15),(47,a47),(48,a48),(49,a49),(53,a53),(54,v99)]) h100:=by kernel_rfl
theorem ζb4 (k:Nat) (call:Caller) (a1 a2 a3 a7 a8 a9 a12 a13 a47 a48 a49 a50:Value) (h:Heap):ζ88 k call (.exit 2) [(1,a1),(2,a2),(3,a3),(7,a7),(8,a8),(9,a9),(12,a12),(13,a13),(47,a47),(48,a48),(49,a49),(50,a50)] h =
 (fieldAddrR Prog 104 a3 2 h).bind fun v101 h102 =>
 (loadR Prog 102 v101 h102).bind fun v103 h104 =>
 (builtinV Prog .len [102] [v103] h104).bind fun v105 h106 =>
 (loopN (ζ3r k call) loopFuel [(1,a1),(2,a2),(7,a7),(8,a8),(9,a9),(12,a12),(13,a13),(72,v103),(73,v105),(74,(.int .i64 0))] h106).bind fun r107 h108 =>
 ζ8a k call r107.1 r107.2 h108:=by kernel_rfl
theorem ζ2u (k:Nat) (call:Caller) (a1 a2 a7 a8 a9 a12 a13 a72 a73 a74:Value) (h:Heap):ζ3r k call [(1,a1),(2,a2),(7,a7),(8,a8),(9,a9),(12,a12),(13,a13),(72,a72),(73,a73),(74,a74)] h =
 (binR Prog .lss 3 a74 a73 h).bind fun v109 h110 =>
 condV (some v109) (
 (indexAddrR Prog 102 a72 a74 h110).bind fun v111 h112 =>
 (loadR Prog 130 v111 h112).bind fun v113 h114 =>
 (allocR Prog 130 h114).bind fun v115 h116 =>
 (storeR Prog 130 v115 v113 h116).bind fun _v117 h118 =>
 (fieldAddrR Prog 130 v115 0 h118).bindN fun v119 h120 =>
 (loadR Prog 3 v119 h120).bindN fun v121 h122 =>
 (binR Prog .and 3 v121 (.int .i64 65535) h122).bindN fun v123 h124 =>
 (call F.ζ7 [a13,v123,(.int .i64 2)] h124).bindT (fun p127 h128 => (fieldAddrR Prog 130 v115 1 h124).bindN fun v129 h130 => (loadR Prog 3 v129 h130).bindN fun v131 h132 => (binR Prog .and 3 v131 (.int .i64 65535) h132).bindN fun v133 h134 => chkR ((okVal (loadR Prog 3 v129 h118) v131 && true) && true) (.panic p127 h128)) fun v125 h126 =>
 (fieldAddrR Prog 130 v115 1 h126).bindN fun v135 h136 =>
 (loadR Prog 3 v135 h136).bindN fun v137 h138 =>
 (binR Prog .and 3 v137 (.int .i64 65535) h138).bindN fun v139 h140 =>
 (call F.ζ7 [v125,v139,(.int .i64 2)] h140).bindT (fun p143 h144 => chkR ((okVal (loadR Prog 3 v135 h118) v137 && true) && true) (.panic p143 h144)) fun v141 h142 =>
 chkR ((okVal (loadR Prog 3 v135 h118) v137 && true) && true) (
 (binR Prog .gtr 3 a1 (.int .i64 0) h142).bind fun v145 h146 =>
 condV (some v145) (
 (fieldAddrR Prog 130 v115 2 h146).bind fun v147 h148 =>
 (loadR Prog 3 v147 h148).bind fun v149 h150 =>
 (binR Prog .and 3 v149 (.int .i64 65535) h150).bind fun v151 h152 =>
 (call F.ζ7 [v141,v151,(.int .i64 2)] h152).bind fun v153 h154 =>
 ζ8z k call a1 a2 a7 a8 a9 a12 v153 v115 a72 a73 a74 h154)
 (
 ζ90 k call a1 a2 a7 a8 a9 a12 v141 v115 a72 a73 a74 v145 h146)))
 (
 .ok ((.exit 6),[(1,a1),(2,a2),(7,a7),(8,a8),(9,a9),(12,a12),(13,a13),(72,a72),(73,a73),(74,a74),(75,v109)]) h110) :=
 (loopB_eq _ _).trans (by kernel_rfl)
theorem ζ6h (k:Nat) (call:Caller) (a1 a2 a7 a8 a9 a12 a13 a19 a72 a73 a74:Value) (h:Heap):ζ8z k call a1 a2 a7 a8 a9 a12 a13 a19 a72 a73 a74 h =
 (binR Prog .gtr 3 a1 (.int .i64 1) h).bind fun v155 h156 =>
 condV (some v155) (
 (fieldAddrR Prog 130 a19 3 h156).bind fun v157 h158 =>
 (loadR Prog 3 v157 h158).bind fun v159 h160 =>
 (binR Prog .and 3 v159 (.int .i64 65535) h160).bind fun v161 h162 =>
 (call F.ζ7 [a13,v161,(.int .i64 2)] h162).bind fun v163 h164 =>
 ζ5e k call a1 a2 a7 a8 a9 a12 v163 a72 a73 a74 h164)
 (
 ζ5f k call a1 a2 a7 a8 a9 a12 a13 a19 a72 a73 a74 v155 h156):=by kernel_rfl
theorem ζbq (k:Nat) (call:Caller) (a1 a2 a7 a8 a9 a12 a13 a19 a72 a73 a74 a88:Value) (h:Heap):ζ90 k call a1 a2 a7 a8 a9 a12 a13 a19 a72 a73 a74 a88 h =
 (binR Prog .gtr 3 a1 (.int .i64 1) h).bind fun v165 h166 =>
 condV (some v165) (
 (fieldAddrR Prog 130 a19 3 h166).bind fun v167 h168 =>
 (loadR Prog 3 v167 h168).bind fun v169 h170 =>
 (binR Prog .and 3 v169 (.int .i64 65535) h170).bind fun v171 h172 =>
 (call F.ζ7 [a13,v171,(.int .i64 2)] h172).bind fun v173 h174 =>
 ζ5e k call a1 a2 a7 a8 a9 a12 v173 a72 a73 a74 h174)
 (
 ζ5f k call a1 a2 a7 a8 a9 a12 a13 a19 a72 a73 a74 v165 h166):=by kernel_rfl
theorem ζbr (k:Nat) (call:Caller) (a1 a2 a7 a8 a9 a12 a13 a72 a73 a74:Value) (h:Heap):ζ5e k call a1 a2 a7 a8 a9 a12 a13 a72 a73 a74 h =
 (binR Prog .add 3 a74 (.int .i64 1) h).bind fun v175 h176 =>
 .ok (.normal,[(1,a1),(2,a2),(7,a7),(8,a8),(9,a9),(12,a12),(13,a13),(72,a72),(73,a73),(74,v175)]) h176:=by kernel_rfl
theorem ζ6i (k:Nat) (call:Caller) (a1 a2 a7 a8 a9 a12 a13 a19 a72 a73 a74 a95:Value) (h:Heap):ζ5f k call a1 a2 a7 a8 a9 a12 a13 a19 a72 a73 a74 a95 h =
 (binR Prog .add 3 a74 (.int .i64 1) h).bind fun v177 h178 =>
 .ok (.normal,[(1,a1),(2,a2),(7,a7),(8,a8),(9,a9),(12,a12),(13,a13),(72,a72),(73,a73),(74,v177)]) h178:=by kernel_rfl
theorem ζb5 (k:Nat) (call:Caller) (a1 a2 a3 a7 a8 a9 a12 a13 a15 a47 a48 a49 a53 a54 a55:Value) (h:Heap):ζ89 k call (.exit 4) [(1,a1),(2,a2),(3,a3),(7,a7),(8,a8),(9,a9),(12,a12),(13,a13),(15,a15),(47,a47),(48,a48),(49,a49),(53,a53),(54,a54),(55,a55)] h =
 (binR Prog .add 3 a49 (.int .i64 1) h).bind fun v179 h180 =>
 .ok (.normal,[(1,a1),(2,a2),(3,a3),(7,a7),(8,a8),(9,a9),(12,a12),(13,a13),(47,a47),(48,a48),(49,v179)]) h180:=by kernel_rfl
theorem ζb6 (k:Nat) (call:Caller) (a1 a2 a7 a8 a9 a12 a13 a72 a73 a74 a75:Value) (h:Heap):ζ8a k call (.exit 6) [(1,a1),(2,a2),(7,a7),(8,a8),(9,a9),(12,a12),(13,a13),(72,a72),(73,a73),(74,a74),(75,a75)] h =
 (call F.ζ7 [(.slice none 0 0),a7,(.int .i64 4)] h).bind fun v181 h182 =>
 (call F.ζ7 [v181,a8,(.int .i64 4)] h182).bind fun v183 h184 =>
 (builtinV Prog .len [31] [a9] h184).bind fun v185 h186 =>
 (binR Prog .add 3 a8 v185 h186).bind fun v187 h188 =>
 (call F.ζ7 [v183,v187,(.int .i64 4)] h188).bind fun v189 h190 =>
 (builtinV Prog .len [31] [a9] h190).bind fun v191 h192 =>
 (binR Prog .add 3 a8 v191 h192).bind fun v193 h194 =>
 (builtinV Prog .len [31] [a12] h194).bind fun v195 h196 =>
 (binR Prog .add 3 v193 v195 h196).bind fun v197 h198 =>
 (call F.ζ7 [v189,v197,(.int .i64 4)] h198).bind fun v199 h200 =>
 (builtinV Prog .append [31,3] [v199,a2] h200).bind fun v201 h202 =>
 (builtinV Prog .append [31,31] [v201,a9] h202).bind fun v203 h204 =>
 (builtinV Prog .append [31,31] [v203,a12] h204).bind fun v205 h206 =>
 (builtinV Prog .append [31,31] [v205,a13] h206).bind fun v207 h208 =>
 .ok v207 h208:=by kernel_rfl
end
end Go.Sw
end
section
namespace Go.Sw
open Go.RowKit
structure Plan where
 cls:List Int
 rows:List (List Int)
 ents:List En
 wide:Int
abbrev encBR (r:List Int):List Value:=[lv encB r]
theorem ζsb (r:List Int):(encBR r).length = 1:=rfl
def planN (p:Plan):Nat:=4 + (p.wide % 8).toNat
def twos (l:List Int):List Int:=(l.map fun c => bytesOf c 2).flatten
def ofS (cls:List Int):List Int:=(bytesOf 8 2 ++ bytesOf 0 2 ++ bytesOf cls.length 2) ++ twos cls
def rowL (n:Nat) (r:List Int):List Int:=(List.range n).map fun i => r[i]?.getD 0
def rowsL (n:Nat) (rs:List (List Int)):List Int:=(rs.map fun r => twos (rowL n r)).flatten
def m16 (x:Int):Int:=x % 65536
def entB (w:Int) (e:En):List Int:=bytesOf (m16 e.next) 2 ++ bytesOf (m16 e.flags) 2 ++ (if 0 < w then bytesOf (m16 e.a) 2 else []) ++ (if 1 < w then bytesOf (m16 e.b) 2 else [])
def entsB (w:Int) (es:List En):List Int:=(es.map (entB w)).flatten
def planBytes (p:Plan) (w:Int) (room:Nat):List Int :=
 (((bytesOf (planN p:Int) 4 ++ bytesOf (16 + room:Int) 4 ++ bytesOf (16 + room + (ofS p.cls).length:Int) 4 ++ bytesOf (16 + room + (ofS p.cls).length + (rowsL (planN p) p.rows).length:Int) 4 ++ List.replicate room 0) ++ ofS p.cls) ++ rowsL (planN p) p.rows) ++ entsB w p.ents
theorem ζmh (l:List Int) (x:Int):twos (l ++ [x]) = twos l ++ bytesOf x 2:=by simp [twos]
theorem twos_len (l:List Int):(twos l).length = l.length * 2:=flat_len (z:=2) (fun r hr => by obtain ⟨p,_,rfl⟩:=List.mem_map.1 hr; simp) |>.trans (by simp)
theorem rowL_len (n:Nat) (r:List Int):(rowL n r).length = n:=by simp [rowL]
theorem ζrg (n:Nat) (rs:List (List Int)) (r:List Int):rowsL n (rs ++ [r]) = rowsL n rs ++ twos (rowL n r):=by simp [rowsL]
theorem ζmf (n:Nat) (rs:List (List Int)):(rowsL n rs).length = rs.length * (n * 2):=flat_len (z:=n * 2) (fun r hr => by obtain ⟨p,_,rfl⟩:=List.mem_map.1 hr; rw [twos_len,rowL_len]) |>.trans (by simp)
theorem entB_len (w:Int) (e:En):(entB w e).length ≤ 8:=by
 unfold entB;simp only [List.length_append,ζel];split <;> split <;> simp
theorem ζj7 (w:Int) (es:List En) (e:En):entsB w (es ++ [e]) = entsB w es ++ entB w e:=by simp [entsB]
theorem ζiq (w:Int):∀ es:List En,(entsB w es).length ≤ es.length * 8
 | [] => by simp [entsB]
 | e :: es => by
  have h1:=ζiq w es;have h2:=entB_len w e;unfold entsB at h1 ⊢;simp only [List.map_cons,List.flatten_cons,List.length_append,List.length_cons];omega
theorem and16 (P:Program) (t:TypeId) (H:Heap) (a:Int):binR P .and t (.int .i64 a) (.int .i64 65535) H = .ok (.int .i64 (m16 a)) H:=by
 have e:(BitVec.ofInt 64 a &&& BitVec.ofInt 64 65535).toNat = (a % 65536).toNat:=by
  rw [BitVec.toNat_and,BitVec.toNat_ofInt,BitVec.toNat_ofInt];rw [show ((65535:Int) % ((2 ^ 64:Nat):Int)).toNat = 2 ^ 16 - 1 from by decide,Nat.and_two_pow_sub_one_eq_mod];omega
 have e1:binV P .and t (.int .i64 a) (.int .i64 65535) = some (.int .i64 (IntKind.i64.wrap (BitVec.ofInt 64 a &&& BitVec.ofInt 64 65535).toNat)):=rfl;unfold binR;rw [e1,e];unfold m16;rw [show (((a % 65536).toNat:Nat):Int) = a % 65536 by omega,wrap_i64 (by omega) (by omega)];rfl
theorem ζiv (a:Int):0 ≤ m16 a ∧ m16 a < 65536:=by unfold m16; omega
theorem write_l3 (k:Nat) {H0 H:Heap} {o9 o12:Option Nat} {a9 a12:Value} {l9 l12:List Int} {B:It} (w room:Value) (n:Nat) (hn:n ≤ 11) (a3 a8:Value) {vr:Value} (r:List Int) (hr:Byt r) (hv:Sl H0 1 vr encB r) (x47 x48 x49:Value) (hl:l12.length < 2 ^ 29)
  (g:Star H0 H [itRow o9 1 a9 encB l9,itRow o12 1 a12 encB l12,B]) :
  ∃ s o H' z,loopN (ζ3q k (R (T k))) loopFuel [(1,w),(2,room),(3,a3),(7,.int .i64 n),(8,a8),(9,a9),(12,a12),(13,.slice none 0 0),(15,vr),(47,x47),(48,x48),(49,x49),(53,.int .i64 n),(54,.int .i64 0)] H =
   .ok (.exit 4,[(1,w),(2,room),(3,a3),(7,.int .i64 n),(8,a8),(9,a9),(12,s),(13,.slice none 0 0),(15,vr),(47,x47),(48,x48),(49,x49),(53,.int .i64 n),(54,z),(55,.bool false)]) H' ∧
   Star H0 H' [itRow o9 1 a9 encB l9,itRow o 1 s encB (l12 ++ twos (rowL n r)),B]:=by
 have hvl:=fun H' => hv.len H'
 obtain ⟨x,e',H1,hr1,rfl,z,s,o,rfl,g⟩:=loop_up (body:=ζ3q k (R (T k))) n
  (fun j e H' => ∃ s o,e = [(1,w),(2,room),(3,a3),(7,.int .i64 n),(8,a8),(9,a9),(12,s),(13,.slice none 0 0),(15,vr),(47,x47),(48,x48),(49,x49),(53,.int .i64 n),(54,.int .i64 j)] ∧ Star H0 H' [itRow o9 1 a9 encB l9,itRow o 1 s encB (l12 ++ twos ((rowL n r).take j)),B])
  (fun x e H' => x = .exit 4 ∧ ∃ z s o,e = [(1,w),(2,room),(3,a3),(7,.int .i64 n),(8,a8),(9,a9),(12,s),(13,.slice none 0 0),(15,vr),(47,x47),(48,x48),(49,x49),(53,.int .i64 n),(54,z),(55,.bool false)] ∧ Star H0 H' [itRow o9 1 a9 encB l9,itRow o 1 s encB (l12 ++ twos (rowL n r)),B])
  (e0:=[(1,w),(2,room),(3,a3),(7,.int .i64 n),(8,a8),(9,a9),(12,a12),(13,.slice none 0 0),(15,vr),(47,x47),(48,x48),(49,x49),(53,.int .i64 n),(54,.int .i64 0)]) (H0:=H) ⟨a12,o12,rfl,by simpa [twos] using g⟩ (by omega)
  (fun j e H' hj ⟨s,o,he,g⟩ => by
   subst he;have hlt:(j:Int) < n:=by omega
   have hq:(rowL n r)[j]? = some (r[j]?.getD 0):=by unfold rowL; rw [List.getElem?_map,List.getElem?_range hj]; rfl
   have hlen:(l12 ++ twos ((rowL n r).take j)).length < 2 ^ 30:=by
    rw [List.length_append,twos_len,List.length_take,rowL_len];omega
   have hb:0 ≤ r[j]?.getD 0 ∧ r[j]?.getD 0 < 256:=by
    cases h:r[j]? with
    | none => simp
    | some y => exact hr y (List.mem_of_getElem? h)
   obtain ⟨s',o',H2,e2,g2⟩:=Put_star k g 1 rfl (r[j]?.getD 0) 2 2 rfl hb.1 (by omega) (by omega) hlen;simp only [List.set_cons_zero,List.set_cons_succ] at g2;refine .inl ⟨_,H2,?_,s',o',rfl,by rw [ζ1v hq,ζmh,← List.append_assoc]; exact g2⟩;rw [ζ6l];cases h:r[j]? with
   | some y =>
    have hjr:(j:Int) < r.length:=by have:=(List.getElem?_eq_some_iff.1 h).1; omega
    obtain ⟨pp,i1,i2⟩:=hv.ix1 encB_len j y h _ rfl;have i2:=i2 H' g.ext;rw [h] at e2 hb;simp at e2 hb;simp -implicitDefEqProofs (disch:=omega) [hlt,hjr,hvl,i1,i2,ζbo,e2]
   | none =>
    have hjr:¬ (j:Int) < r.length:=by have:=List.getElem?_eq_none_iff.1 h; omega
    rw [h] at e2;simp at e2;simp -implicitDefEqProofs (disch:=omega) [hlt,hjr,hvl,ζbp,e2])
  (fun e H' ⟨s,o,he,g⟩ => by
   subst he;rw [List.take_of_length_le (by rw [rowL_len]; exact Nat.le_refl _)] at g;refine ⟨.exit 4,_,H',?_,by simp,rfl,.int .i64 n,s,o,rfl,g⟩;rw [ζ6l];simp -implicitDefEqProofs)
 exact ⟨s,o,H1,z,hr1,g⟩
def Plan.ok (p:Plan):Prop:=Byt p.cls ∧ (∀ r,r ∈ p.rows → Byt r) ∧ 0 ≤ p.wide ∧ p.wide < 256
set_option maxHeartbeats 1000000 in
theorem write_l4 (k:Nat) {H0 H:Heap} {o9 o12:Option Nat} {a9 a12:Value} {l9 l12:List Int} {B:It} (w:Int) (hw:w = 0 ∨ w = 1 ∨ w = 2) (room:Value) (a7 a8:Value) (es:List En) (hl:es.length < 2 ^ 20) {sE:Value} (hsE:Sl H0 4 sE encEn es)
  (g:Star H0 H [itRow o9 1 a9 encB l9,itRow o12 1 a12 encB l12,B]) :
  ∃ s o H' z,loopN (ζ3r k (R (T k))) loopFuel [(1,.int .i64 w),(2,room),(7,a7),(8,a8),(9,a9),(12,a12),(13,.slice none 0 0),(72,sE),(73,.int .i64 es.length),(74,.int .i64 0)] H =
   .ok (.exit 6,[(1,.int .i64 w),(2,room),(7,a7),(8,a8),(9,a9),(12,a12),(13,s),(72,sE),(73,.int .i64 es.length),(74,z),(75,.bool false)]) H' ∧
   Star H0 H' [itRow o9 1 a9 encB l9,itRow o12 1 a12 encB l12,B,itRow o 1 s encB (entsB w es)]:=by
 have g:=g.more_row (Ext.refl _) (OwnO.nil encB _ 1) (fun b hb => by cases hb)
 obtain ⟨x,e',H1,hr1,rfl,z,s,o,rfl,g⟩:=loop_up (body:=ζ3r k (R (T k))) es.length
  (fun j e H' => ∃ s o,e = [(1,.int .i64 w),(2,room),(7,a7),(8,a8),(9,a9),(12,a12),(13,s),(72,sE),(73,.int .i64 es.length),(74,.int .i64 j)] ∧ Star H0 H' [itRow o9 1 a9 encB l9,itRow o12 1 a12 encB l12,B,itRow o 1 s encB (entsB w (es.take j))])
  (fun x e H' => x = .exit 6 ∧ ∃ z s o,e = [(1,.int .i64 w),(2,room),(7,a7),(8,a8),(9,a9),(12,a12),(13,s),(72,sE),(73,.int .i64 es.length),(74,z),(75,.bool false)] ∧ Star H0 H' [itRow o9 1 a9 encB l9,itRow o12 1 a12 encB l12,B,itRow o 1 s encB (entsB w es)])
  (e0:=[(1,.int .i64 w),(2,room),(7,a7),(8,a8),(9,a9),(12,a12),(13,.slice none 0 0),(72,sE),(73,.int .i64 es.length),(74,.int .i64 0)]) (H0:=H) ⟨.slice none 0 0,none,rfl,by simpa [entsB] using g⟩ (by omega)
  (fun j e H' hj ⟨s,o,he,g⟩ => by
   subst he;have hlt:(j:Int) < es.length:=by omega
   obtain ⟨en,hen⟩:∃ en,es[j]? = some en:=⟨_,List.getElem?_eq_getElem hj⟩
   obtain ⟨q,i1,i2⟩:=((hsE.up g.ext).rd (by decide) ζ8t).2 j en hen;have hlen:=ζiq w (es.take j);rw [List.length_take] at hlen;have g:=g.push ⟨encEn en,1,false⟩;simp only [List.cons_append,List.nil_append] at g;have b1:=ζiv en.next;have b2:=ζiv en.flags;have b3:=ζiv en.a;have b4:=ζiv en.b;have an:=fun H a => and16 Prog 3 H a;obtain ⟨s1,o1,H1,e1,g1⟩:=Put_star k g 3 rfl (m16 en.next) 2 2 rfl b1.1 (by omega) (by omega) (by omega);simp only [List.set_cons_zero,List.set_cons_succ] at g1;have h1:=g1.get 4 rfl;obtain ⟨s2,o2,H2,e2,g2⟩:=Put_star k g1 3 rfl (m16 en.flags) 2 2 rfl b2.1 (by omega) (by omega) (by simp; omega);simp only [List.set_cons_zero,List.set_cons_succ] at g2;have h2:=g2.get 4 rfl;rcases hw with rfl | rfl | rfl
   ·refine .inl ⟨_,H2,?_,s2,o2,rfl,by rw [ζ1v hen,ζj7]; simpa [entB] using g2.take 4⟩;rw [ζ2u];simp -implicitDefEqProofs (disch:=omega) [hlt,i1,i2,an,e1,h1,e2,h2,ζbq,ζ6i]
   ·obtain ⟨s3,o3,H3,e3,g3⟩:=Put_star k g2 3 rfl (m16 en.a) 2 2 rfl b3.1 (by omega) (by omega) (by simp; omega);simp only [List.set_cons_zero,List.set_cons_succ] at g3;have h3:=g3.get 4 rfl;refine .inl ⟨_,H3,?_,s3,o3,rfl,by rw [ζ1v hen,ζj7]; simpa [entB] using g3.take 4⟩;rw [ζ2u];simp -implicitDefEqProofs (disch:=omega) [hlt,i1,i2,an,e1,h1,e2,h2,e3,h3,ζ6h,ζ6i]
   ·obtain ⟨s3,o3,H3,e3,g3⟩:=Put_star k g2 3 rfl (m16 en.a) 2 2 rfl b3.1 (by omega) (by omega) (by simp; omega);simp only [List.set_cons_zero,List.set_cons_succ] at g3;have h3:=g3.get 4 rfl;obtain ⟨s4,o4,H4,e4,g4⟩:=Put_star k g3 3 rfl (m16 en.b) 2 2 rfl b4.1 (by omega) (by omega) (by simp; omega);simp only [List.set_cons_zero,List.set_cons_succ] at g4;refine .inl ⟨_,H4,?_,s4,o4,rfl,by rw [ζ1v hen,ζj7]; simpa [entB] using g4.take 4⟩;rw [ζ2u];simp -implicitDefEqProofs (disch:=omega) [hlt,i1,i2,an,e1,h1,e2,h2,e3,h3,e4,ζ6h,ζbr])
  (fun e H' ⟨s,o,he,g⟩ => by
   subst he;rw [List.take_length] at g;refine ⟨.exit 6,_,H',?_,by simp,rfl,.int .i64 es.length,s,o,rfl,g⟩;rw [ζ2u];simp -implicitDefEqProofs)
 exact ⟨s,o,H1,z,hr1,g⟩
theorem planN_eq (p:Plan) (h:0 ≤ p.wide ∧ p.wide < 256):4 + p.wide.tmod 8 = (planN p:Int) ∧ planN p ≤ 11:=by
 unfold planN;rw [Int.tmod_eq_emod_of_nonneg h.1];omega
set_option maxHeartbeats 2000000 in
theorem ζpf (k:Nat) (p:Plan) (hp:p.ok) (w:Int) (hw:w = 0 ∨ w = 1 ∨ w = 2) (room:Nat) (hroom:room ≤ 1000) (h1:p.cls.length ≤ 1000) (h2:p.rows.length ≤ 1000) (h3:p.ents.length ≤ 1000) {H:Heap} {vC vR sE:Value} (hC:Sl H 1 vC encB p.cls) {rv:List (List Int × Value)} (hrv:rv.map Prod.fst = p.rows) (hrs:∀ x,x ∈ rv → Sl H 1 x.2 encB x.1) (hR:Sl H 1 vR encU rv) (hsE:Sl H 4 sE encEn p.ents) :
  ∃ s H',ζ1 k (R (T k)) (.agg #[vC,vR,sE,.int .u8 p.wide]) (.int .i64 w) (.int .i64 room) H = .ok s H' ∧ Own H H' 1 s encB (planBytes p w room) ∧ Ext H H':=by
 have hrvl:rv.length = p.rows.length:=by rw [← hrv]; simp
 have hN:=planN_eq p hp.2.2;obtain ⟨n,hn⟩:∃ n,n = planN p:=⟨_,rfl⟩
 rw [← hn] at hN;have hwd:0 ≤ p.wide ∧ p.wide < 256:=hp.2.2;have hrem:=fun H => bin_rem Prog 3 H .i64 p.wide 8 (by decide);rw [Int.tmod_eq_emod_of_nonneg hwd.1] at hrem hN;obtain ⟨B,hB⟩:∃ B:Blk,B = ⟨[vC,vR,sE,.int .u8 p.wide],1,false⟩:=⟨_,rfl⟩
 have g:=(Star.nil H).more_row (Ext.refl _) (OwnO.nil encB _ 1) (fun b hb => by cases hb);have g:=g.more_row (Ext.refl _) (OwnO.nil encB _ 1) (fun b hb => by cases hb);have g:=g.push B;simp only [List.cons_append,List.nil_append] at g
 -- the head of the classes
 obtain ⟨s1,o1,H1,e1,g⟩:=Put_star k g 0 rfl 8 2 2 rfl (by omega) (by omega) (by omega) (by simp);simp only [List.set_cons_zero,List.set_cons_succ] at g;have b1:=g.get 2 rfl;obtain ⟨s2,o2,H2,e2,g⟩:=Put_star k g 0 rfl 0 2 2 rfl (by omega) (by omega) (by omega) (by simp);simp only [List.set_cons_zero,List.set_cons_succ] at g;have b2:=g.get 2 rfl;obtain ⟨s3,o3,H3,e3,g⟩:=Put_star k g 0 rfl p.cls.length 2 2 rfl (by omega) (by omega) (by omega) (by simp);simp only [List.set_cons_zero,List.set_cons_succ,List.nil_append] at g;have b3:=g.get 2 rfl
 -- the classes
 obtain ⟨x,e',H4,hr4,rfl,z4,s4,o4,rfl,g⟩:=loop_up (body:=ζ5g k (R (T k))) p.cls.length
  (fun j e H' => ∃ s o,e = [(1,.int .i64 w),(2,.int .i64 room),(3,ptrV H.n),(7,.int .i64 n),(8,.int .i64 (16 + room)),(9,s),(35,vC),(36,.int .i64 p.cls.length),(37,.int .i64 j)] ∧ Star H H' [itRow o 1 s encB ((bytesOf 8 2 ++ bytesOf 0 2 ++ bytesOf p.cls.length 2) ++ twos (p.cls.take j)),itRow none 1 (.slice none 0 0) encB [],itBlk H.n B])
  (fun x e H' => x = .exit 0 ∧ ∃ z s o,e = [(1,.int .i64 w),(2,.int .i64 room),(3,ptrV H.n),(7,.int .i64 n),(8,.int .i64 (16 + room)),(9,s),(35,vC),(36,.int .i64 p.cls.length),(37,z),(38,.bool false)] ∧ Star H H' [itRow o 1 s encB (ofS p.cls),itRow none 1 (.slice none 0 0) encB [],itBlk H.n B])
  (e0:=[(1,.int .i64 w),(2,.int .i64 room),(3,ptrV H.n),(7,.int .i64 n),(8,.int .i64 (16 + room)),(9,s3),(35,vC),(36,.int .i64 p.cls.length),(37,.int .i64 0)]) (H0:=H3) ⟨s3,o3,rfl,by simpa [twos] using g⟩ (by omega)
  (fun j e H' hj ⟨s,o,he,g⟩ => by
   subst he;have hlt:(j:Int) < p.cls.length:=by omega
   obtain ⟨c,hc⟩:∃ c,p.cls[j]? = some c:=⟨_,List.getElem?_eq_getElem hj⟩
   obtain ⟨pp,i1,i2⟩:=hC.ix1 encB_len j c hc _ rfl;have i2:=i2 H' g.ext;have hcb:=hp.1 c (List.mem_of_getElem? hc);obtain ⟨s',o',H2,e2,g2⟩:=Put_star k g 0 rfl c 2 2 rfl hcb.1 (by omega) (by omega) (by simp [twos_len]; omega);simp only [List.set_cons_zero,List.set_cons_succ] at g2;refine .inl ⟨_,H2,?_,s',o',rfl,by rw [ζ1v hc,ζmh,← List.append_assoc]; exact g2⟩;rw [ζ6j];simp -implicitDefEqProofs (disch:=omega) [hlt,i1,i2,e2])
  (fun e H' ⟨s,o,he,g⟩ => by
   subst he;rw [List.take_length] at g;refine ⟨.exit 0,_,H',?_,by simp,rfl,.int .i64 p.cls.length,s,o,rfl,g⟩;rw [ζ6j];simp -implicitDefEqProofs)
 have b4:=g.get 2 rfl;have hofl:(ofS p.cls).length = 6 + p.cls.length * 2:=by unfold ofS; simp [twos_len]; omega
 -- the rows
 obtain ⟨x,e',H5,hr5,rfl,z5,s5,o5,rfl,g⟩:=loop_up (body:=ζ5h k (R (T k))) p.rows.length
  (fun j e H' => ∃ s o,e = [(1,.int .i64 w),(2,.int .i64 room),(3,ptrV H.n),(7,.int .i64 n),(8,.int .i64 (16 + room)),(9,s4),(12,s),(13,.slice none 0 0),(47,vR),(48,.int .i64 p.rows.length),(49,.int .i64 j)] ∧ Star H H' [itRow o4 1 s4 encB (ofS p.cls),itRow o 1 s encB (rowsL n (p.rows.take j)),itBlk H.n B])
  (fun x e H' => x = .exit 2 ∧ ∃ z s o,e = [(1,.int .i64 w),(2,.int .i64 room),(3,ptrV H.n),(7,.int .i64 n),(8,.int .i64 (16 + room)),(9,s4),(12,s),(13,.slice none 0 0),(47,vR),(48,.int .i64 p.rows.length),(49,z),(50,.bool false)] ∧ Star H H' [itRow o4 1 s4 encB (ofS p.cls),itRow o 1 s encB (rowsL n p.rows),itBlk H.n B])
  (e0:=[(1,.int .i64 w),(2,.int .i64 room),(3,ptrV H.n),(7,.int .i64 n),(8,.int .i64 (16 + room)),(9,s4),(12,.slice none 0 0),(13,.slice none 0 0),(47,vR),(48,.int .i64 p.rows.length),(49,.int .i64 0)]) (H0:=H4) ⟨.slice none 0 0,none,rfl,by simpa [rowsL] using g⟩ (by omega)
  (fun j e H' hj ⟨s,o,he,g⟩ => by
   subst he;have hlt:(j:Int) < p.rows.length:=by omega
   obtain ⟨r,hr⟩:∃ r,p.rows[j]? = some r:=⟨_,List.getElem?_eq_getElem hj⟩
   obtain ⟨x,hx⟩:∃ x,rv[j]? = some x:=⟨_,List.getElem?_eq_getElem (by omega)⟩
   have hxr:x.1 = r:=by
    have h0:(rv.map Prod.fst)[j]? = some x.1:=by rw [List.getElem?_map,hx]; rfl
    rw [hrv,hr] at h0;exact (Option.some.inj h0).symm
   obtain ⟨pp,i1,i2⟩:=hR.ix1 encU_len j x hx _ rfl;have i2:=i2 H' g.ext;have hxs:=hrs x (List.mem_of_getElem? hx);rw [hxr] at hxs;have hll:(rowsL n (p.rows.take j)).length < 2 ^ 29:=by
    rw [ζmf,List.length_take];have:min j p.rows.length * (n * 2) ≤ 1000 * 22:=Nat.mul_le_mul (by omega) (by omega);omega
   obtain ⟨s',o',H2,z',e2,g2⟩:=write_l3 k (.int .i64 w) (.int .i64 room) n (by omega) (ptrV H.n) (.int .i64 (16 + room)) r (hp.2.1 r (List.mem_of_getElem? hr)) hxs (vR) (.int .i64 p.rows.length) (.int .i64 j) hll g;refine .inl ⟨_,H2,?_,s',o',rfl,by rw [ζ1v hr,ζrg]; exact g2⟩;rw [ζ6k];simp -implicitDefEqProofs (disch:=omega) [hlt,i1,i2,e2,ζb5])
  (fun e H' ⟨s,o,he,g⟩ => by
   subst he;rw [List.take_length] at g;refine ⟨.exit 2,_,H',?_,by simp,rfl,.int .i64 p.rows.length,s,o,rfl,g⟩;rw [ζ6k];simp -implicitDefEqProofs)
 have b5:=g.get 2 rfl;have hrl:(rowsL n p.rows).length ≤ 1000 * 22:=by rw [ζmf]; exact Nat.mul_le_mul h2 (by omega)
 -- the entries
 obtain ⟨s6,o6,H6,z6,hr6,g⟩:=write_l4 k w hw (.int .i64 room) (.int .i64 n) (.int .i64 (16 + room)) p.ents (by omega) hsE g;have hel:=ζiq w p.ents;have q9:∀ H',lnS s4 H' = .ok (.int .i64 (ofS p.cls).length) H':=(g.row 0 rfl).len;have q12:∀ H',lnS s5 H' = .ok (.int .i64 (rowsL n p.rows).length) H':=(g.row 1 rfl).len
 -- all together
 have g:=g.more_row (Ext.refl _) (OwnO.nil encB _ 1) (fun b hb => by cases hb);simp only [List.cons_append,List.nil_append] at g;obtain ⟨t1,u1,J1,f1,g⟩:=Put_star k g 4 rfl n 4 4 rfl (by omega) (by omega) (by omega) (by simp);simp only [List.set_cons_zero,List.set_cons_succ,List.nil_append] at g;obtain ⟨t2,u2,J2,f2,g⟩:=Put_star k g 4 rfl (16 + room) 4 4 rfl (by omega) (by omega) (by omega) (by simp);simp only [List.set_cons_zero,List.set_cons_succ] at g;obtain ⟨t3,u3,J3,f3,g⟩:=Put_star k g 4 rfl (16 + room + (ofS p.cls).length) 4 4 rfl (by omega) (by omega) (by omega) (by simp);simp only [List.set_cons_zero,List.set_cons_succ] at g;obtain ⟨t4,u4,J4,f4,g⟩:=Put_star k g 4 rfl (16 + room + (ofS p.cls).length + (rowsL n p.rows).length) 4 4 rfl (by omega) (by omega) (by omega) (by simp);simp only [List.set_cons_zero,List.set_cons_succ] at g;obtain ⟨a4,l4,c4,ht4⟩:=(g.row 4 rfl).shape;obtain ⟨t5,u5,J5,f5,g⟩:=g.append (bytes:=1) 4 encB_len rfl (b:=lv encB (List.replicate room 0)) (l2:=List.replicate room 0) (by rw [lv,List.length_replicate]; rfl) (by have:=lv_first encB_len (List.replicate room 0) J4; exact this) (by simp; omega) (by decide);simp only [List.set_cons_zero,List.set_cons_succ] at g;have f5':azR 1 1 [.int .u8 0] t4 (.int .i64 room) J4 = .ok t5 J5:=by
  rw [ht4] at f5 ⊢;rw [azR_eq encB_len a4 l4 c4 (0:Int) _ rfl .i64 room (by omega)];exact f5
 obtain ⟨t6,u6,J6,f6,g⟩:=g.appendRow (bytes:=1) 4 0 encB_len rfl rfl (by simp; omega) (by decide);simp only [List.set_cons_zero,List.set_cons_succ] at g;obtain ⟨t7,u7,J7,f7,g⟩:=g.appendRow (bytes:=1) 4 1 encB_len rfl rfl (by simp; omega) (by decide);simp only [List.set_cons_zero,List.set_cons_succ] at g;obtain ⟨t8,u8,J8,f8,g⟩:=g.appendRow (bytes:=1) 4 3 encB_len rfl rfl (by simp; omega) (by decide);simp only [List.set_cons_zero,List.set_cons_succ] at g;have hbytes:planBytes p w room = bytesOf (n:Int) 4 ++ bytesOf (16 + room:Int) 4 ++ bytesOf (16 + room + (ofS p.cls).length:Int) 4 ++ bytesOf (16 + room + (ofS p.cls).length + (rowsL n p.rows).length:Int) 4 ++ List.replicate room 0 ++ ofS p.cls ++ rowsL n p.rows ++ entsB w p.ents:=by
  unfold planBytes;rw [← hn]
 rw [hbytes];refine ⟨t8,J8,?_,g.own 4 rfl,g.ext⟩;rw [hB] at e1 b1 b2 b3 b4 b5;have hlnE:=fun H' => hsE.len H';have hlnC:=fun H' => hC.len H';have hlnR:=fun H' => hR.len H';rw [hrvl] at hlnR;have hvqC:veq vC vC = true:=hC.veq fun x _ u hu => by simp at hu; subst hu; simp
 simp -implicitDefEqProofs (disch:=omega) [ζ1,hrem,hN.1,e1,b1,e2,b2,e3,b3,hr4,ζb3,b4,hr5,ζb4,b5,hr6,ζb6,f1,q9,q12,f2,f3,f4,f5',f6,f7,f8,hlnE,hlnC,hlnR,hvqC]
theorem lvU_rows (l:List (List Int)):lv encBR l = lv encU (l.map fun s => (s,lv encB s)):=by
 unfold lv;rw [List.length_map];congr 2;unfold rows;rw [List.flatMap_map];rfl
theorem rv_fst (l:List (List Int)):(l.map fun s => (s,lv encB s)).map Prod.fst = l:=by rw [List.map_map]; simp [Function.comp_def]
structure PlanSl (H:Heap) (p:Plan) (vC vR sE:Value) (rv:List (List Int × Value)):Prop where
 cls:Sl H 1 vC encB p.cls
 fst:rv.map Prod.fst = p.rows
 each:∀ x,x ∈ rv → Sl H 1 x.2 encB x.1
 rows:Sl H 1 vR encU rv
 ents:Sl H 4 sE encEn p.ents
theorem PlanSl.up {H H':Heap} {p:Plan} {vC vR sE:Value} {rv:List (List Int × Value)} (h:PlanSl H p vC vR sE rv) (he:Ext H H'):PlanSl H' p vC vR sE rv:=⟨h.cls.up he,h.fst,fun x hx => (h.each x hx).up he,h.rows.up he,h.ents.up he⟩
theorem PlanSl.lv (H:Heap) (p:Plan) {sE:Value} (h:Sl H 4 sE encEn p.ents):PlanSl H p (Go.Sw.lv encB p.cls) (Go.Sw.lv encBR p.rows) sE (p.rows.map fun s => (s,Go.Sw.lv encB s)) :=
 ⟨Sl.lv _ 1 _,rv_fst p.rows,fun x hx => by obtain ⟨s,_,rfl⟩:=List.mem_map.1 hx; exact Sl.lv _ 1 _,by rw [lvU_rows]; exact Sl.lv _ 1 _,h⟩
theorem ζpg (k:Nat) (hW:ownW k = .no) (p:Plan) (hp:p.ok) (w:Int) (hw:w = 0 ∨ w = 1 ∨ w = 2) (room:Nat) (hroom:room ≤ 1000) (h1:p.cls.length ≤ 1000) (h2:p.rows.length ≤ 1000) (h3:p.ents.length ≤ 1000) {H0 H:Heap} {L:List It} (g:Star H0 H L) {vC vR sE:Value} {rv:List (List Int × Value)} (hP:PlanSl H p vC vR sE rv) :
  ∃ s o H',R (T k) F.ζ1 [.agg #[vC,vR,sE,.int .u8 p.wide],.int .i64 w,.int .i64 room] H = .ok s H' ∧ Star H0 H' (L ++ [itRow o 1 s encB (planBytes p w room)]) ∧ Ext H H':=by
 obtain ⟨s,H',e,ho,hx⟩:=ζpf k p hp w hw room hroom h1 h2 h3 hP.cls hP.fst hP.each hP.rows hP.ents;obtain ⟨o,g⟩:=g.more_own ho hx;exact ⟨s,o,H',by rw [ζhn,hW]; exact nrm_of e,g,hx⟩
end Go.Sw
end
