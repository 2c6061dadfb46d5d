/-
  Functions' forms, and what is proved of them, part 9.
-/
import Derived.Test.YtanfippcmdialaaGreatSwW3
import Derived.Test.YtanfippcmdialaaGreatSwW6
import Derived.Test.YtanfippcmdialaaGreatSwCfg
import Derived.Test.YtanfippcmdialaaGreatSwW7
import Derived.Test.YtanfippcmdialaaGreatSwW8
import Derived.Test.YtanfippcmdialaaGreatSwW5
import Derived.Test.YtanfippcmdialaaGreatSwW2
import Derived.Test.YtanfippcmdialaaGreatSwW1
import Derived.Test.YtanfippcmdialaaGreatSwW4
set_option linter.unusedSimpArgs false
set_option linter.unusedVariables false
set_option linter.unusedSectionVars false
section
namespace Go.Sw
open Go.RowKit
theorem ζhi (k:Nat) {H:Heap} {v:Value} {ids:List Int} (hv:Sl H 1 v encI ids) (hl:ids.length < 2 ^ 31) :
  ∃ c o H',R (T k) F.line_New [v] H = .ok (ptrV c) H' ∧ Star H H' [itLine c o (newG ids)]:=by
 have g:=((Star.nil H).more_row (Ext.refl _) (OwnO.nil encG _ 2) (fun b hb => by cases hb)).push ⟨[.slice none 0 0],1,false⟩;rw [List.append_assoc] at g
 obtain ⟨x,e',H1,hr,rfl,⟨a,rfl⟩,s,o,g⟩:=loop_up (body:=ζa9 k (R (T k))) ids.length
  (fun j e H' => e = [(3,ptrV H.n),(8,v),(9,.int .i64 ids.length),(10,.int .i64 j)] ∧ ∃ s o,Star H H' ([] ++ [itRow o 2 s encG (newG (ids.take j)),itBlk H.n ⟨[s],1,false⟩]))
  (fun x e H' => x = .exit 0 ∧ (∃ a,e = [(3,ptrV H.n),(8,v),(9,.int .i64 ids.length),(10,.int .i64 ids.length),(11,a)]) ∧ ∃ s o,Star H H' ([] ++ [itRow o 2 s encG (newG ids),itBlk H.n ⟨[s],1,false⟩]))
  (e0:=[(3,ptrV H.n),(8,v),(9,.int .i64 ids.length),(10,.int .i64 0)]) (H0:=H.push ⟨[.slice none 0 0],1,false⟩) ⟨rfl,_,_,g⟩ (by omega)
  (fun j e H' hj ⟨he,s,o,g⟩ => by
   subst he;have hlt:(j:Int) < ids.length:=by omega
   obtain ⟨x,hx⟩:∃ x,ids[j]? = some x:=⟨_,List.getElem?_eq_getElem hj⟩
   obtain ⟨p,i1,i2⟩:=hv.ix1 encI_len j x hx _ rfl;have i2:=i2 H' g.ext;have hc:=g.get (List.length ([]:List It) + 1) (at2_1 _ _ _);have hcn:¬ H.n = H'.n:=by have:=Heap.get_lt hc; omega
   obtain ⟨s',o',H2,e1,g⟩:=g.append1 (bytes:=16) (List.length ([]:List It)) encG_len (at2_0 _ _ _) (⟨x,(j:Nat)⟩:Gl) (by simp; omega) (by decide);rw [set2_0] at g;have hc2:=g.get (List.length ([]:List It) + 1) (at2_1 _ _ _);have st:=(g.row (List.length ([]:List It)) (at2_0 _ _ _)).storable;have ce:=(g.row (List.length ([]:List It)) (at2_0 _ _ _)).cells;have g:=g.setBlk (List.length ([]:List It) + 1) (at2_1 _ _ _) ⟨[s'],1,false⟩;rw [set2_1] at g;refine .inl ⟨_,_,?_,rfl,s',o',by rw [ζ2j hx,ζmv,List.length_take,Nat.min_eq_left (by omega)]; exact g⟩;rw [ζ9s];have e1:apR 2 16 s (.slice (some ⟨H'.n,0,none⟩) 1 1) (H'.push ⟨[.int .i64 x,.int .i64 (j:Nat)],2,false⟩) = .ok s' H2:=e1;simp -implicitDefEqProofs (disch:=omega) [hlt,i1,i2,hc,hcn,e1,hc2,st,ce])
  (fun e H' ⟨he,s,o,g⟩ => by
   subst he;refine ⟨.exit 0,_,H',?_,by simp,rfl,⟨.bool false,rfl⟩,s,o,by simpa using g⟩;rw [ζ9s];simp -implicitDefEqProofs)
 have g:=Star.join2 [] g;refine ⟨H.n,o,H1,?_,g⟩;rw [ζl3];refine nrm_of ?_;have hlv:=fun H' => hv.len H';simp -implicitDefEqProofs [line_New,hr,ζdf,hlv]
theorem ζga (k:Nat) {H0 H:Heap} {L:List It} (h:Star H0 H L) {v:Value} {ids:List Int} (hv:Sl H 1 v encI ids) (hl:ids.length < 2 ^ 31) :
  ∃ c o H',R (T k) F.line_New [v] H = .ok (ptrV c) H' ∧ Star H0 H' (L ++ [itLine c o (newG ids)]):=by
 obtain ⟨c,o,H',e,g⟩:=ζhi k hv hl;exact ⟨c,o,H',e,h.more g.ext _ (g.at 0 rfl) fun b hb => g.lt 0 rfl b hb⟩
end Go.Sw
end
section
set_option maxRecDepth 100000
set_option linter.unusedVariables false
namespace Go.Sw
noncomputable section
def ζ2s (k:Nat) (call:Caller):Env → Heap → Res (AExit × Env):=loopB (C k) call F.ζx [1,1,1,0,1,0,0]
def ζ62 (k:Nat) (call:Caller):Kont Value:=kBlock 0 (kSeq (pieceK (C k) call F.ζx [1,1,1,1]) (kDone Prog (resOf Prog F.ζx)))
def ζx (k:Nat) (call:Caller) (a0:Value) (h:Heap):Res Value :=
 (boxR a0 h).bind fun v1 h2 =>
 (fieldAddrR Prog 69 v1 0 h2).bind fun v3 h4 =>
 (loadR Prog 26 v3 h4).bind fun v5 h6 =>
 (call F.ζ2 [v5,(.int .i64 1),(.int .i64 4)] h6).bind fun v7 h8 =>
 (sliceR Prog 22 v7 (some (.int .i64 16)) (some (.int .i64 20)) none h8).bindN fun v9 h10 =>
 (fieldAddrR Prog 69 v1 1 h10).bindN fun v11 h12 =>
 (loadR Prog 5 v11 h12).bindN fun v13 h14 =>
 (binR Prog .rem 5 v13 (.int .u8 4) h14).bindN fun v15 h16 =>
 (convR Prog 5 3 v15 h16).bindN fun v17 h18 =>
 (binR Prog .shl 3 v17 (.int .u64 30) h18).bindN fun v19 h20 =>
 (builtinV Prog .len [22] [v7] h20).bindN fun v21 h22 =>
 (binR Prog .or 3 v19 v21 h22).bindN fun v23 h24 =>
 (call F.ζ3 [(.slice none 0 0),v23,(.int .i64 4)] h24).bindT (fun p27 h28 => .panic p27 h28) fun v25 h26 =>
 (builtinV Prog .copy [22,22] [v9,v25] h26).bindN fun v29 h30 =>
 chkR ((okVal (sliceR Prog 22 v7 (some (.int .i64 16)) (some (.int .i64 20)) none h26) v9 && true) && true) (
 (fieldAddrR Prog 69 v1 2 h30).bind fun v31 h32 =>
 (loadR Prog 27 v31 h32).bind fun v33 h34 =>
 (builtinV Prog .len [27] [v33] h34).bind fun v35 h36 =>
 (loopN (ζ2s k call) loopFuel [(3,v7),(22,v33),(23,v35),(24,(.int .i64 0))] h36).bind fun r37 h38 =>
 ζ62 k call r37.1 r37.2 h38)
theorem ζam (k:Nat) (a0:Value) (h:Heap):R (T k) F.ζx [a0] h = nrm (own k) h (ζx k (R (T k)) a0 h) :=
 (R_body (t:=T k) (T_scott k) (by kernel_rfl) (by kernel_rfl) _ _).trans (by kernel_rfl)
theorem ζ4x (k:Nat) (call:Caller) (a3 a22 a23 a24:Value) (h:Heap):ζ2s k call [(3,a3),(22,a22),(23,a23),(24,a24)] h =
 (binR Prog .lss 3 a24 a23 h).bind fun v39 h40 =>
 condV (some v39) (
 (indexAddrR Prog 27 a22 a24 h40).bind fun v41 h42 =>
 (loadR Prog 125 v41 h42).bind fun v43 h44 =>
 (convR Prog 125 135 v43 h44).bind fun v45 h46 =>
 (convR Prog 135 3 v45 h46).bind fun v47 h48 =>
 (call F.ζ3 [a3,v47,(.int .i64 2)] h48).bind fun v49 h50 =>
 (binR Prog .add 3 a24 (.int .i64 1) h50).bind fun v51 h52 =>
 .ok (.normal,[(3,v49),(22,a22),(23,a23),(24,v51)]) h52)
 (
 .ok ((.exit 0),[(3,a3),(22,a22),(23,a23),(24,a24),(25,v39)]) h40) :=
 (loopB_eq _ _).trans (by kernel_rfl)
theorem ζ7q (k:Nat) (call:Caller) (a3 a22 a23 a24 a25:Value) (h:Heap):ζ62 k call (.exit 0) [(3,a3),(22,a22),(23,a23),(24,a24),(25,a25)] h =
 .ok a3 h:=by kernel_rfl
end
end Go.Sw
end
section
namespace Go.Sw
open Go.RowKit
theorem ζe2:∀ n:Nat,repeatCells [Value.int .i64 0] n = rows encI (List.replicate n 0)
 | 0 => rfl
 | n + 1 => by
  have ih:=ζe2 n;show [Value.int .i64 0] ++ repeatCells [Value.int .i64 0] n = _;rw [ih,List.replicate_succ];rfl
theorem ζmx {H:Heap} {b n:Nat} (hg:H.get b = some ⟨repeatCells [Value.int .i64 0] n,1,false⟩):Sl H 1 (.slice (some ⟨b,0,none⟩) n n) encI (List.replicate n 0) :=
 .inr (.inr ⟨b,0,n,_,by rw [List.length_replicate],by rw [List.length_replicate]; exact Nat.le_refl _,hg,by rw [List.drop_zero,ζe2,List.take_of_length_le (by rw [ζe encI_len]; exact Nat.le_refl _)]⟩)
end Go.Sw
end
section
namespace Go.Sw
open Go.RowKit
end Go.Sw
end
section
namespace Go.Sw
open Go.RowKit
abbrev encSb (x:Int × List Int):List Value:=[.int .u32 x.1,lv encB x.2]
theorem ζmd (x:Int × List Int):(encSb x).length = 2:=rfl
def sub26 (x:Int × List Int):List Int:=bytesOf (12 + x.2.length) 4 ++ bytesOf x.1 4 ++ [0,0,0,0] ++ x.2
def w26 (l:List (Int × List Int)):List Int:=bytesOf 2 2 ++ bytesOf 0 2 ++ bytesOf l.length 4 ++ l.flatMap sub26
structure SbSl (H:Heap) (v:Value) (l:List (Int × List Int)):Prop where
 ln:∀ H',lnS v H' = .ok (.int .i64 l.length) H'
 ix:∀ j x,l[j]? = some x → ∃ p,(∀ H',ixS 2 v (.int .i64 (j:Nat)) H' = .ok p H') ∧ ∀ H',Ext H H' → ldA 2 p H' = .ok (.agg (encSb x).toArray) H'
theorem SbSl.lv (H:Heap) (l:List (Int × List Int)):SbSl H (Go.Sw.lv encSb l) l:=by
 refine ⟨fun H' => by simp,fun j x hx => ⟨boxV (encSb x).toArray,fun H' => ixS_lvN ζmd l .i64 j x hx H',fun H' _ => by simp⟩⟩
theorem ζby {α β:Type} (f:α → List β) {l:List α} {j:Nat} {x:α} (h:l[j]? = some x):(l.take (j + 1)).flatMap f = (l.take j).flatMap f ++ f x:=by
 rw [ζ2j h,List.flatMap_append];simp
theorem ζbh (x:Int × List Int):(sub26 x).length = 12 + x.2.length:=by unfold sub26; simp [ζo]; omega
theorem ζks {l:List (Int × List Int)} (hd:∀ x,x ∈ l → x.2.length ≤ 2 ^ 19):(l.flatMap sub26).length ≤ l.length * (2 ^ 19 + 12):=by
 induction l with
 | nil => simp
 | cons x l ih =>
  have:=ih fun y hy => hd y (List.mem_cons_of_mem _ hy);have h1:=hd x List.mem_cons_self;rw [List.flatMap_cons,List.length_append,ζbh,List.length_cons,Nat.add_mul];omega
set_option maxHeartbeats 1000000 in
theorem w26_l1 (k:Nat) {H0 H:Heap} {o:Option Nat} {s7:Value} {lk:List Int} (g:Star H0 H [itRow o 1 s7 encB lk]) {v:Value} {l:List (Int × List Int)} (hv:SbSl H0 v l) (hl:l.length ≤ 100) (hlk:lk.length ≤ 100) (hd:∀ x,x ∈ l → 0 ≤ x.1 ∧ x.1 < 4294967296 ∧ x.2.length ≤ 2 ^ 19) :
  ∃ s' o' zz H',loopN (ζ2t k (R (T k))) loopFuel [(3,s7),(11,v),(12,.int .i64 l.length),(13,.int .i64 0)] H =
   .ok (.exit 0,[(3,s'),(11,v),(12,.int .i64 l.length),(13,zz),(14,.bool false)]) H' ∧ Star H0 H' [itRow o' 1 s' encB (lk ++ l.flatMap sub26)]:=by
 obtain ⟨xx,e',H1,hr1,rfl,s',o',rfl,g1⟩:=loop_up (body:=ζ2t k (R (T k))) l.length
  (fun j e H' => ∃ s' o',e = [(3,s'),(11,v),(12,.int .i64 l.length),(13,.int .i64 j)] ∧ Star H0 H' [itRow o' 1 s' encB (lk ++ (l.take j).flatMap sub26)])
  (fun xx e H' => xx = .exit 0 ∧ ∃ s' o',e = [(3,s'),(11,v),(12,.int .i64 l.length),(13,.int .i64 l.length),(14,.bool false)] ∧ Star H0 H' [itRow o' 1 s' encB (lk ++ l.flatMap sub26)])
  (e0:=[(3,s7),(11,v),(12,.int .i64 l.length),(13,.int .i64 0)]) (H0:=H) ⟨s7,o,rfl,by simpa using g⟩ (by omega)
  (fun j e H' hj ⟨s',o',he,g⟩ => by
   subst he;have hjl:(j:Int) < l.length:=by omega
   obtain ⟨x,hx⟩:∃ x,l[j]? = some x:=⟨_,List.getElem?_eq_getElem hj⟩
   have hxd:=hd x (List.mem_of_getElem? hx);have hfl:=ζks (l:=l.take j) fun y hy => (hd y (List.mem_of_mem_take hy)).2.2;have hfl2:(l.take j).length * (2 ^ 19 + 12) ≤ 100 * (2 ^ 19 + 12):=Nat.mul_le_mul_right _ (by rw [List.length_take]; omega);obtain ⟨p,i1,i2⟩:=hv.ix j x hx;have i2:=i2 H' g.ext;have g0:=g.push ⟨encSb x,1,false⟩;simp only [List.cons_append,List.nil_append] at g0;have c0:=g0.get 1 rfl;obtain ⟨s1,o1,H1,e1,g1⟩:=Put_star k g0 0 rfl (12 + x.2.length:Int) 4 4 rfl (by omega) (by omega) (by omega) (by rw [List.length_append]; omega);simp only [List.set_cons_zero] at g1;have c1:=g1.get 1 rfl;obtain ⟨s2,o2,H2,e2,g2⟩:=Put_star k g1 0 rfl x.1 4 4 rfl hxd.1 (by omega) (by omega) (by simp only [List.length_append,ζo]; omega);simp only [List.set_cons_zero] at g2;have c2:=g2.get 1 rfl;have g3:=g2.rest ((Ext.refl H2).push ⟨rows encB [0,0,0,0],1,false⟩);obtain ⟨s3,o3,H3,e3,g3⟩:=g3.append (bytes:=1) 0 encB_len rfl (b:=.slice (some ⟨H2.n,0,none⟩) 4 4) (l2:=[0,0,0,0]) rfl (by
    unfold firstV;dsimp only;rw [if_neg (by simp),ζ5h,ζd _ _ _ rfl];rfl) (by simp only [List.length_append,ζo,List.length_cons,List.length_nil]; omega) (by decide)
   simp only [List.set_cons_zero] at g3;have c3:=g3.get 1 rfl;obtain ⟨s4,o4,H4,e4,g4⟩:=g3.append (bytes:=1) 0 encB_len rfl (b:=Go.Sw.lv encB x.2) (l2:=x.2) rfl (lv_first encB_len x.2 H3) (by simp only [List.length_append,ζo,List.length_cons,List.length_nil]; omega) (by decide);simp only [List.set_cons_zero] at g4;have g4:=g4.take 1;simp only [List.take_succ_cons,List.take_zero] at g4;have hw1:IntKind.i64.wrap (12 + (x.2.length:Int)) = 12 + (x.2.length:Int):=wrap_i64 (by omega) (by omega);have hw2:IntKind.i64.wrap x.1 = x.1:=wrap_i64 (by omega) (by omega);have hw3:IntKind.i64.wrap ((j:Int) + 1) = ((j + 1:Nat):Int):=by rw [wrap_i64 (by omega) (by omega)]; omega
   simp [rows] at e3;have hne:¬ H'.n = H2.n:=by have:=Heap.get_lt c2; omega
   refine .inl ⟨_,H4,?_,s4,o4,rfl,?_⟩
   ·rw [ζ4y];simp -implicitDefEqProofs (disch:=omega) [hjl,i1,i2,c0,c1,c2,c3,hw1,hw2,hw3,hne,e1,e2,e3,e4]
   ·rw [ζby sub26 hx];simpa [sub26,List.append_assoc] using g4)
  (fun e H' ⟨s',o',he,g⟩ => by
   subst he;rw [List.take_of_length_le (by simp)] at g;refine ⟨.exit 0,_,H',?_,by simp,rfl,s',o',rfl,g⟩;rw [ζ4y];simp -implicitDefEqProofs)
 exact ⟨s',o',_,H1,hr1,g1⟩
theorem w26_run (k:Nat) {H:Heap} {v:Value} {l:List (Int × List Int)} (hv:SbSl H v l) (hl:l.length ≤ 100) (hd:∀ x,x ∈ l → 0 ≤ x.1 ∧ x.1 < 4294967296 ∧ x.2.length ≤ 2 ^ 19) :
  R (T k) F.ζ1e [v] H = .ok (lv encB (w26 l)) H:=by
 rw [ζan];have g:=(Star.nil H).more_row (Ext.refl _) (OwnO.nil encB _ 1) (fun b hb => by cases hb);simp only [List.nil_append] at g;obtain ⟨s1,o1,H1,e1,g⟩:=Put_star k g 0 rfl 2 2 2 rfl (by omega) (by omega) (by omega) (by simp);simp only [List.set_cons_zero] at g;obtain ⟨s2,o2,H2,e2,g⟩:=Put_star k g 0 rfl 0 2 2 rfl (by omega) (by omega) (by omega) (by simp [ζo]);simp only [List.set_cons_zero] at g;obtain ⟨s3,o3,H3,e3,g⟩:=Put_star k g 0 rfl (l.length:Int) 4 4 rfl (by omega) (by omega) (by omega) (by simp [ζo]);simp only [List.set_cons_zero,List.nil_append] at g;obtain ⟨s,o,zz,H4,e4,g⟩:=w26_l1 k g hv hl (by simp [ζo]) hd;obtain ⟨L,hf⟩:=(g.own 0 rfl).freeze encB_len (fun n _ v hv => by simp at hv; subst hv; trivial) 6;refine nrm_fz (v:=s) (H':=H4) ?_ hf g.ext (Flat.B _).alive;have hln:=fun H' => hv.ln H';simp -implicitDefEqProofs (disch:=omega) [ζ1e,e1,e2,hln,e3,e4,ζ7r]
end Go.Sw
end
section
namespace Go.Sw
open Go.RowKit
theorem ksubS_26 (p q:List Int) (x:Int × List Int) (hx:0 ≤ x.1 ∧ x.1 < 4294967296 ∧ x.2.length ≤ 2 ^ 19) (g:Int) :
  ksubS (p ++ (sub26 x ++ q)) g p.length = (mvS (covS x.1) x.2 g).map fun m => ((12 + x.2.length:Int),(⟨covS x.1,m⟩:KSub)):=by
 have e1:uS (p ++ (sub26 x ++ q)) p.length 4 = some (12 + x.2.length:Int):=by
  have:=uS_at p (bytesOf x.1 4 ++ [0,0,0,0] ++ x.2 ++ q) (n:=(12 + x.2.length:Int)) (k:=4) p.length 4 rfl rfl (by omega) (by omega);simpa [sub26,List.append_assoc] using this
 have e2:pieceS (p ++ (sub26 x ++ q)) p.length (12 + x.2.length:Int) = some (sub26 x):=ζip p (sub26 x) q _ _ rfl (by rw [ζbh]; omega);have e3:uS (sub26 x) 4 4 = some x.1:=by
  have:=uS_at (bytesOf (12 + x.2.length:Int) 4) ([0,0,0,0] ++ x.2) (n:=x.1) (k:=4) 4 4 (by rw [ζo]; rfl) rfl hx.1 (by omega);simpa [sub26,List.append_assoc] using this
 have e4:restS (sub26 x) 12 = some x.2:=by
  rw [ζn5];refine ⟨⟨by omega,by rw [ζbh]; omega⟩,?_⟩;unfold sub26;rw [List.drop_append_of_le_length (by simp [ζo]),List.drop_of_length_le (by simp [ζo])];rfl
 unfold ksubS;rw [e1,Option.bind_some,if_pos (by omega),e2,Option.bind_some,e3,Option.bind_some,e4,Option.bind_some]
def kmapTo (g:Int) (l:List (Int × List Int)):Nat → Option (List KSub)
 | 0 => some []
 | j + 1 => (kmapTo g l j).bind fun t => (l[j]?).bind fun x => (mvS (covS x.1) x.2 g).map fun m => t ++ [⟨covS x.1,m⟩]
theorem ζnp {l:List (Int × List Int)} {j:Nat} {x:Int × List Int} (h:l[j]? = some x):w26 l = (bytesOf 2 2 ++ bytesOf 0 2 ++ bytesOf l.length 4 ++ (l.take j).flatMap sub26) ++ (sub26 x ++ (l.drop (j + 1)).flatMap sub26):=by
 obtain ⟨hlt,hx⟩:=List.getElem?_eq_some_iff.1 h;unfold w26;rw [List.append_assoc,List.append_assoc (bytesOf 2 2 ++ bytesOf 0 2)];rw [List.append_assoc (bytesOf 2 2 ++ bytesOf 0 2)];congr 1;rw [List.append_assoc];congr 1;rw [← List.flatMap_cons,← List.flatMap_append];congr 1;rw [← hx,← List.drop_eq_getElem_cons hlt,List.take_append_drop]
theorem ksubs26 (g:Int) {l:List (Int × List Int)} (hd:∀ x,x ∈ l → 0 ≤ x.1 ∧ x.1 < 4294967296 ∧ x.2.length ≤ 2 ^ 19):∀ j,j ≤ l.length → ksubsTo (w26 l) g j = (kmapTo g l j).map fun t => (t,(8 + ((l.take j).flatMap sub26).length:Int))
 | 0,_ => by simp [ksubsTo,kmapTo]
 | j + 1,h => by
  obtain ⟨x,hx⟩:∃ x,l[j]? = some x:=⟨_,List.getElem?_eq_getElem (by omega)⟩
  have ih:=ksubs26 g hd j (by omega);unfold ksubsTo kmapTo;rw [ih,hx];cases ht:kmapTo g l j with
  | none => rfl
  | some t =>
   have hk:=ksubS_26 (bytesOf 2 2 ++ bytesOf 0 2 ++ bytesOf l.length 4 ++ (l.take j).flatMap sub26) ((l.drop (j + 1)).flatMap sub26) x (hd x (List.mem_of_getElem? hx)) g;rw [← ζnp hx] at hk;have hlen:((bytesOf 2 2 ++ bytesOf 0 2 ++ bytesOf l.length 4 ++ (l.take j).flatMap sub26).length:Int) = 8 + ((l.take j).flatMap sub26).length:=by
    simp only [List.length_append,ζo]; omega
   rw [hlen] at hk;simp only [Option.map_some,Option.bind_some];rw [hk];cases hm:mvS (covS x.1) x.2 g with
   | none => rfl
   | some m =>
    simp only [Option.map_some];rw [ζby sub26 hx,List.length_append,ζbh];congr 2;omega
theorem kerxS_26 (g:Int) {l:List (Int × List Int)} (hl:l.length ≤ 100) (hd:∀ x,x ∈ l → 0 ≤ x.1 ∧ x.1 < 4294967296 ∧ x.2.length ≤ 2 ^ 19):kerxS (w26 l) g = kmapTo g l l.length:=by
 have e1:uS (w26 l) 0 2 = some 2:=by
  have:=uS_at [] (bytesOf 0 2 ++ bytesOf l.length 4 ++ l.flatMap sub26) (n:=2) (k:=2) 0 2 rfl rfl (by omega) (by omega);simpa [w26,List.append_assoc] using this
 have e2:uS (w26 l) 4 4 = some (l.length:Int):=by
  have:=uS_at (bytesOf 2 2 ++ bytesOf 0 2) (l.flatMap sub26) (n:=l.length) (k:=4) 4 4 (by simp [ζo]) rfl (by omega) (by omega);simpa [w26,List.append_assoc] using this
 unfold kerxS;rw [e1,Option.bind_some,e2,Option.bind_some,if_pos (by omega),Int.toNat_natCast,ksubs26 g hd _ (Nat.le_refl _)];cases kmapTo g l l.length <;> rfl
theorem Byt_w26 {l:List (Int × List Int)} (h:∀ x,x ∈ l → Byt x.2):Byt (w26 l):=by
 have app:∀ {a b:List Int},Byt a → Byt b → Byt (a ++ b):=fun ha hb x hx => by
  rcases List.mem_append.1 hx with hx | hx
  ·exact ha x hx
  ·exact hb x hx
 refine app (app (app (ζ1o _ _) (ζ1o _ _)) (ζ1o _ _)) fun y hy => ?_;obtain ⟨x,hx,hy⟩:=List.mem_flatMap.1 hy;exact app (app (app (ζ1o _ _) (ζ1o _ _)) (fun z hz => by simp at hz; omega)) (h x hx) y hy
end Go.Sw
end
section
namespace Go.Sw
open Go.RowKit
theorem Star.cut1 {H0 H:Heap} {L:List It} (h:Star H0 H L) (i:Nat) {o:Option Nat} {s:Value} {b:List Int} (hi:L[i]? = some (itRow o 1 s encB b)) (a n:Nat) (hn:0 < n) (hfit:a + n ≤ b.length) (k1 k2:IntKind) :
  ∃ c,o = some c ∧ s = .slice (some ⟨c,0,none⟩) b.length b.length ∧ slS 1 s (some (.int k1 (a:Nat))) (some (.int k2 ((a + n:Nat):Int))) none H = .ok (.slice (some ⟨c,a,none⟩) n (b.length - a)) H:=by
 obtain ⟨c,rfl,rfl,hc⟩:=(h.row i hi).full (fun e => by subst e; simp at hfit; omega);refine ⟨c,rfl,rfl,?_⟩;unfold slS;dsimp only [boundOf];rw [if_pos (Int.natCast_nonneg _),if_pos (Int.natCast_nonneg _)];simp only [Int.toNat_natCast];rw [if_pos ⟨Nat.le_refl _,hfit,by omega,by simp⟩];have:openOk H c 1 none = true:=by unfold openOk; rw [hc]; simp
 rw [if_pos this,Nat.mul_one,Nat.zero_add,Nat.add_sub_cancel_left]
theorem Star.copy1 {H0 H:Heap} {L:List It} (h:Star H0 H L) (i j:Nat) {c:Nat} {o2:Option Nat} {s s2:Value} {b r:List Int} (hi:L[i]? = some (itRow (some c) 1 s encB b)) (hj:L[j]? = some (itRow o2 1 s2 encB r)) (a n cap:Nat) (hr:r.length = n) (hn:0 < n) (hfit:a + n ≤ b.length) :
  ∃ H',cpR 1 (.slice (some ⟨c,a,none⟩) n cap) s2 H = .ok (.int .i64 n) H' ∧ Star H0 H' (L.set i (itRow (some c) 1 s encB (b.take a ++ (r ++ b.drop (a + n))))):=by
 obtain ⟨c',e1,e2,hc⟩:=(h.row i hi).full (fun e => by subst e; simp at hfit; omega);injection e1 with e1;subst e1;have hown2:=(h.row j hj).own0;have hl2:=hown2.lenV;have hf2:=hown2.first encB_len;have hrl:(rows encB r).length = n:=by rw [ζe encB_len,hr,Nat.mul_one]
 have hbl:(rows encB b).length = b.length:=by rw [ζe encB_len,Nat.mul_one]
 have hsp:splice (rows encB b) a (rows encB r) = rows encB (b.take a ++ (r ++ b.drop (a + n))):=by
  unfold splice;have t1:=ζ74 encB_len b a;rw [Nat.mul_one] at t1;have t2:(rows encB b).drop (a + n) = rows encB (b.drop (a + n)):=by
   have e:rows encB b = rows encB (b.take (a + n)) ++ rows encB (b.drop (a + n)):=by rw [← ζ2n,List.take_append_drop]
   have hl:(rows encB (b.take (a + n))).length = a + n:=by rw [ζe encB_len,Nat.mul_one,List.length_take]; omega
   rw [e,List.drop_append_of_le_length (by omega),List.drop_of_length_le (by omega),List.nil_append]
  rw [t1,hrl,t2,ζ2n,ζ2n]
 refine ⟨_,?_,h.setRow i hi (b.take a ++ (r ++ b.drop (a + n))) (by simp; omega)⟩;unfold cpR;dsimp only;rw [hl2];dsimp only;rw [hr,Nat.min_self];rw [hr] at hf2;rw [hf2];dsimp only;rw [if_neg (by intro e; rw [List.isEmpty_iff] at e; rw [e] at hrl; simp at hrl; omega)];unfold putCells;rw [hc];dsimp only;rw [if_pos (by rw [hrl,hbl]; simp; omega)];simp only [Res.bind];rw [hsp,show min (n:Int) n = n by omega]
end Go.Sw
end
section
set_option maxRecDepth 100000
set_option linter.unusedVariables false
namespace Go.Sw
noncomputable section
end
end Go.Sw
end
section
namespace Go.Sw
open Go.RowKit
theorem ζf9 (p:Plan) (w:Int) (rm r x:List Int) (h:rm.length = r.length):((planRoom p w rm) ++ x).take 16 ++ (r ++ ((planRoom p w rm) ++ x).drop (16 + r.length)) = planRoom p w r ++ x:=by
 obtain ⟨hd,tl,h16,hs⟩:=ζlb p w r.length;rw [hs rm h,hs r rfl];rw [← h16,show hd ++ (rm ++ tl) ++ x = hd ++ (rm ++ (tl ++ x)) by simp,List.take_left,← h];rw [show hd ++ (rm ++ (tl ++ x)) = (hd ++ rm) ++ (tl ++ x) by simp,show hd.length + rm.length = (hd ++ rm).length by simp,List.drop_left];simp
theorem ζlq (s:List Int) {j:Nat} {x:Int} (h:s[j]? = some x):twos (s.take (j + 1)) = twos (s.take j) ++ bytesOf x 2:=by rw [ζ2j h,ζfc]
theorem wrap16 (x:Int):IntKind.u16.wrap x = m16 x:=by
 unfold IntKind.wrap m16;simp [IntKind.signed,IntKind.bits]
theorem m16_lt (x:Int):0 ≤ m16 x ∧ m16 x < 65536:=by unfold m16; omega
abbrev enc16 (n:Int):List Value:=[.int .i16 n]
theorem ζi8 (n:Int):(enc16 n).length = 1:=rfl
structure SPlan where
 p:Plan
 vals:List Int
def SPlan.ok (x:SPlan):Prop:=x.p.ok
def SSmall (x:SPlan) (n:Nat):Prop:=x.p.cls.length ≤ 40 ∧ x.p.rows.length ≤ 20 ∧ x.p.ents.length ≤ 40 ∧ x.vals.length ≤ 100 ∧ n ≤ 60
instance (x:SPlan) (n:Nat):Decidable (SSmall x n):=by unfold SSmall; exact inferInstance
end Go.Sw
end
section
namespace Go.Sw
open Go.RowKit
theorem shl30 (P:Program) (t:TypeId) (H:Heap) {a:Int} (h0:0 ≤ a) (h1:a < 4):binR P .shl t (.int .i64 a) (.int .u64 30) H = .ok (.int .i64 (a * 1073741824)) H:=by
 unfold binR;simp [binV,shiftV,IntKind.signed,IntKind.bits];exact wrap_i64 (by omega) (by omega)
def kb (kind:Int):Int:=kind % 4 * 1073741824
theorem w25_l1 (k:Nat) {H0 H:Heap} {o:Option Nat} {s7:Value} {lk:List Int} (g:Star H0 H [itRow o 1 s7 encB lk]) {v:Value} {s:List Int} (hv:Sl H0 1 v enc16 s) (hl:lk.length + 2 * s.length < 2 ^ 29) :
  ∃ s' o' zz H',loopN (ζ2s k (R (T k))) loopFuel [(3,s7),(22,v),(23,.int .i64 s.length),(24,.int .i64 0)] H =
   .ok (.exit 0,[(3,s'),(22,v),(23,.int .i64 s.length),(24,zz),(25,.bool false)]) H' ∧ Star H0 H' [itRow o' 1 s' encB (lk ++ twos (s.map m16))]:=by
 obtain ⟨xx,e',H1,hr1,rfl,s',o',rfl,g1⟩:=loop_up (body:=ζ2s k (R (T k))) s.length
  (fun j e H' => ∃ s' o',e = [(3,s'),(22,v),(23,.int .i64 s.length),(24,.int .i64 j)] ∧ Star H0 H' [itRow o' 1 s' encB (lk ++ twos ((s.map m16).take j))])
  (fun xx e H' => xx = .exit 0 ∧ ∃ s' o',e = [(3,s'),(22,v),(23,.int .i64 s.length),(24,.int .i64 s.length),(25,.bool false)] ∧ Star H0 H' [itRow o' 1 s' encB (lk ++ twos (s.map m16))])
  (e0:=[(3,s7),(22,v),(23,.int .i64 s.length),(24,.int .i64 0)]) (H0:=H) ⟨s7,o,rfl,by simpa [twos] using g⟩ (by omega)
  (fun j e H' hj ⟨s',o',he,g⟩ => by
   subst he;have hjl:(j:Int) < s.length:=by omega
   obtain ⟨x,hx⟩:∃ x,s[j]? = some x:=⟨_,List.getElem?_eq_getElem hj⟩
   have hx2:(s.map m16)[j]? = some (m16 x):=by rw [List.getElem?_map,hx]; rfl
   have hxb:=m16_lt x;obtain ⟨p,i1,i2⟩:=hv.ix1 ζi8 j x hx _ rfl;have i2:=i2 H' g.ext;have hw:=wrap16 x;obtain ⟨s2,o2,H2,e2,g2⟩:=Put_star k g 0 rfl (m16 x) 2 2 rfl hxb.1 (by omega) (by omega) (by rw [List.length_append,twos_len,List.length_take,List.length_map]; omega);simp only [List.set_cons_zero] at g2;rw [List.append_assoc,← ζlq _ hx2] at g2;have hw64:IntKind.i64.wrap (m16 x) = m16 x:=wrap_i64 (by omega) (by omega);refine .inl ⟨_,H2,?_,s2,o2,rfl,g2⟩;rw [ζ4x];simp -implicitDefEqProofs (disch:=omega) [hjl,i1,i2,hw,hw64,e2])
  (fun e H' ⟨s',o',he,g⟩ => by
   subst he;rw [List.take_of_length_le (by simp)] at g;refine ⟨.exit 0,_,H',?_,by simp,rfl,s',o',rfl,g⟩;rw [ζ4x];simp -implicitDefEqProofs)
 exact ⟨s',o',_,H1,hr1,g1⟩
set_option maxRecDepth 20000 in
set_option maxHeartbeats 1000000 in
theorem ζhw (k:Nat) (hW:ownW k = .no) (p:Plan) (hp:p.ok) (h1:p.cls.length ≤ 1000) (h2:p.rows.length ≤ 1000) (h3:p.ents.length ≤ 1000) {H:Heap} {vC vR sE:Value} {rv:List (List Int × Value)} (hP:PlanSl H p vC vR sE rv)
  {kind:Int} (hkind:0 ≤ kind ∧ kind < 256) {vV:Value} {vals:List Int} (hV:Sl H 1 vV enc16 vals) (h4:vals.length ≤ 1000) :
  ∃ s o H',ζx k (R (T k)) (.agg #[vC,vR,sE,.int .u8 p.wide,.int .u8 kind,vV]) H = .ok s H' ∧ Star H H' [itRow o 1 s encB (roomB p 1 (kb kind) (vals.map m16))]:=by
 obtain ⟨H1,hH1⟩:∃ H1,H1 = H.push ⟨[vC,vR,sE,.int .u8 p.wide,.int .u8 kind,vV],1,false⟩:=⟨_,rfl⟩
 have hx1:Ext H H1:=by rw [hH1]; exact (Ext.refl H).push _
 have hg1:H1.get H.n = some ⟨[vC,vR,sE,.int .u8 p.wide,.int .u8 kind,vV],1,false⟩:=by rw [hH1]; exact ζd _ _ _ rfl
 obtain ⟨N,hN⟩:∃ N,N = (planRoom p 1 (List.replicate 4 0)).length:=⟨_,rfl⟩
 have hNb:N ≤ 100000:=by rw [hN]; exact ζhq hp 1 (by simp) h1 h2 h3
 obtain ⟨s0,o0,J0,e0,g,_⟩:=ζj3 k hW p hp 1 (by omega) 4 (by omega) h1 h2 h3 (Star.nil H1) (hP.up hx1);rw [ζf8] at g;simp only [List.nil_append] at g;have gx0:=g.ext;have hb0:=gx0.get hg1;have hkb:0 ≤ kb kind ∧ kb kind ≤ 3221225472 ∧ kb kind % 1073741824 = 0:=by unfold kb; omega
 have hrem:=fun H => bin_rem Prog 5 H .u8 kind 4 (by decide);rw [Int.tmod_eq_emod_of_nonneg hkind.1] at hrem;have hwk:IntKind.i64.wrap (kind % 4) = kind % 4:=wrap_i64 (by omega) (by omega);have hsh:∀ H,binR Prog .shl 3 (.int .i64 (kind % 4)) (.int .u64 30) H = .ok (.int .i64 (kb kind)) H:=fun H => shl30 Prog 3 H (a:=kind % 4) (by omega) (by omega);have hor:=fun H => bin_or Prog 3 H (kb kind) (N:Int) 30 hkb.1 hkb.2.2 (by omega) (by omega) (by omega);have hln0:∀ H',lnS s0 H' = .ok (.int .i64 N) H':=by rw [hN]; exact (g.row 0 rfl).len
 have hlnV:∀ H',lnS vV H' = .ok (.int .i64 vals.length) H':=fun H' => hV.len H';have hN16:20 ≤ N:=by rw [hN]; unfold planRoom; simp; omega
 obtain ⟨c5,rfl,hs5,cut1⟩:=g.cut1 0 rfl 16 4 (by omega) (by omega) .i64 .i64;have g:=g.more_row (Ext.refl _) (OwnO.nil encB _ 1) (fun b hb => by cases hb);simp only [List.cons_append,List.nil_append] at g;obtain ⟨t6,u6,J6,f6,g⟩:=Put_star k g 1 rfl (kb kind + N) 4 4 rfl (by omega) (by omega) (by omega) (by simp);simp only [List.set_cons_zero,List.set_cons_succ,List.nil_append] at g;obtain ⟨c6,h6,_,cut2⟩:=g.cut1 0 rfl 16 4 (by omega) (by omega) .i64 .i64;have h6:=Option.some.inj h6;subst h6;obtain ⟨J7,f7,g⟩:=g.copy1 0 1 rfl rfl 16 4 ((planRoom p 1 (List.replicate 4 0)).length - 16) (by simp) (by omega) (by omega);simp only [List.set_cons_zero] at g;have hcopy:=ζf9 p 1 (List.replicate 4 0) (bytesOf (kb kind + N:Int) 4) [] (by simp);rw [ζo,List.append_nil,List.append_nil] at hcopy;rw [hcopy] at g;have hrl:(planRoom p 1 (bytesOf (kb kind + N:Int) 4)).length = N:=by rw [hN]; exact ζaw p 1 _ _ (by simp)
 have g0:=g.take 1;simp only [List.take_succ_cons,List.take_zero] at g0;have hv7:=g0.get;obtain ⟨s',o',zz,J8,f8,g8⟩:=w25_l1 k g0 (hV.up hx1) (by rw [hrl]; omega);have hfin:planRoom p 1 (bytesOf (kb kind + N:Int) 4) ++ twos (vals.map m16) = roomB p 1 (kb kind) (vals.map m16):=by unfold roomB; rw [← hN]
 rw [hfin] at g8;have g1':J7.get H.n = some ⟨[vC,vR,sE,.int .u8 p.wide,.int .u8 kind,vV],1,false⟩:=g.ext.get hg1;refine ⟨s',o',J8,?_,?_⟩;rotate_left
 ·have ho:=(g8.own 0 rfl).base hx1.n;obtain ⟨o2,ho2,hlt⟩:=ho.toO;have hst:Star H J8 ([] ++ [itRow o2 1 s' encB (roomB p 1 (kb kind) (vals.map m16))]):=(Star.nil H).more_row (hx1.trans g8.ext) ho2 fun b hb => ⟨hlt b hb,ho2.lt b hb⟩
  have h7:o2 = o':=by
   have hr:=g8.row 0 rfl;rcases hr with ⟨r1,r2,r3⟩ | ⟨b,r1,r2,r3⟩
   ·exfalso;have:=congrArg List.length r2;unfold roomB at this;rw [List.length_append,ζgu,← hN] at this;simp at this;omega
   ·rcases ho2 with ⟨q1,q2,q3⟩ | ⟨b2,q1,q2,q3⟩
    ·exfalso;have:=congrArg List.length q2;unfold roomB at this;rw [List.length_append,ζgu,← hN] at this;simp at this;omega
    ·rw [r1,q1];rw [r2] at q2;injection q2 with q2;injection q2 with q2;injection q2 with q2;rw [q2]
  subst h7;simpa using hst
 have hv5:veq (.slice (some ⟨c5,16,none⟩) 4 ((planRoom p 1 (List.replicate 4 0)).length - 16)) (.slice (some ⟨c5,16,none⟩) 4 ((planRoom p 1 (List.replicate 4 0)).length - 16)) = true:=by simp
 generalize (planRoom p 1 (List.replicate 4 0)).length - 16 = cap at cut1 cut2 f7 hv5;have cut1:slS 1 s0 (some (.int .i64 16)) (some (.int .i64 20)) none J0 = .ok (.slice (some ⟨c5,16,none⟩) 4 cap) J0:=cut1;have cut2:slS 1 s0 (some (.int .i64 16)) (some (.int .i64 20)) none J6 = .ok (.slice (some ⟨c5,16,none⟩) 4 cap) J6:=cut2;rw [hH1] at e0;have e0:R (T k) F.ζ2 [.agg #[vC,vR,sE,.int .u8 p.wide],.int .i64 1,.int .i64 4] (H.push ⟨[vC,vR,sE,.int .u8 p.wide,.int .u8 kind,vV],1,false⟩) = .ok s0 J0:=e0;simp -implicitDefEqProofs (disch:=omega) [ζx,hb0,hrem,hwk,hsh,hor,e0,hln0,cut1,f6,cut2,f7,hv5,g1',hlnV,f8,ζ7q]
theorem ζlu (k:Nat) (hk:k < 1000000) (hW:ownW k = .no) (p:Plan) (hp:p.ok) (h1:p.cls.length ≤ 1000) (h2:p.rows.length ≤ 1000) (h3:p.ents.length ≤ 1000) {H:Heap} {vC vR sE:Value} {rv:List (List Int × Value)} (hP:PlanSl H p vC vR sE rv)
  {kind:Int} (hkind:0 ≤ kind ∧ kind < 256) {vV:Value} {vals:List Int} (hV:Sl H 1 vV enc16 vals) (h4:vals.length ≤ 1000) :
  R (T k) F.ζx [.agg #[vC,vR,sE,.int .u8 p.wide,.int .u8 kind,vV]] H = .ok (lv encB (roomB p 1 (kb kind) (vals.map m16))) H:=by
 obtain ⟨s,o,H',e,g⟩:=ζhw k hW p hp h1 h2 h3 hP hkind hV h4;rw [ζam];have ho:own k = .fz:=by
  unfold own;rw [show Nat.blt k 1000000 = true from Nat.ble_eq_true_of_le hk];rfl
 rw [ho];obtain ⟨L,hf⟩:=(g.own 0 rfl).freeze encB_len (fun n _ v hv => by simp at hv; subst hv; trivial) 6;exact nrm_fz (v:=s) (H':=H') e hf g.ext (Flat.B _).alive
end Go.Sw
end
section
namespace Go.Sw
open Go.RowKit
structure ATab where
 of:Int × List Pt
 data:List Int
abbrev ankC (t:ATab):List Value:=[tabV t.of,lv encB t.data]
abbrev ankV (t:ATab):Value:=boxV (ankC t).toArray
structure ATab.ok (t:ATab):Prop where
 pts:∀ p,p ∈ t.of.2 → p.ok
 rise:risesS t.of.2 = true
 plen:t.of.2.length < 2 ^ 31
 byt:Byt t.data
 len:t.data.length < 2 ^ 31
 has:∀ id at_,getS t.of.2 id = some at_ → 0 ≤ at_ ∧ ∃ n,uS t.data at_ 4 = some n ∧ at_ + 4 + 4 * n ≤ t.data.length
def cntA (t:ATab) (id:Int):Int:=match getS t.of.2 id with
 | some at_ => gU t.data at_ 4
 | none => 0
def getA (t:ATab) (id i:Int):Option (Int × Int):=match getS t.of.2 id with
 | some at_ => if 0 ≤ i ∧ i < gU t.data at_ 4 then some (s16 (gU t.data (at_ + 4 + 4 * i) 2),s16 (gU t.data (at_ + 6 + 4 * i) 2)) else none
 | none => none
theorem ζfh (k:Nat) (t:ATab) (ht:t.ok) (id:Int) (H:Heap):R (T k) F.ζ1a [ankV t,.int .i64 id] H = .ok (.int .i64 (cntA t id)) H:=by
 rw [ζ6l];refine nrm_gc ⟨H,?_,Ext.refl H⟩ (.int _ _);have hg:=fun H' => Get_run k t.of ht.pts ht.rise id ht.plen H';unfold cntA;cases h:getS t.of.2 id with
 | none =>
  rw [h] at hg;simp only [Option.getD_none,Option.isSome_none] at hg;simp -implicitDefEqProofs (disch:=omega) [ζ1a,hg]
 | some at_ =>
  obtain ⟨h0,n,hn,hfit⟩:=ht.has id at_ h;rw [h] at hg;simp only [Option.getD_some,Option.isSome_some] at hg;have hU:=fun H' => U32_run k (Sl.lv H' 1 t.data) ht.byt at_ (by have:=ht.len; omega);rw [hn] at hU;dsimp only;rw [gU_some hn];simp -implicitDefEqProofs (disch:=omega) [ζ1a,hg,hU,orF]
theorem ζj5 (k:Nat) (t:ATab) (ht:t.ok) (id i:Int) (H:Heap):R (T k) F.ζz [ankV t,.int .i64 id,.int .i64 i] H = .ok (.tuple #[.agg #[.int .i64 ((getA t id i).getD (0,0)).1,.int .i64 ((getA t id i).getD (0,0)).2],.bool (getA t id i).isSome]) H:=by
 rw [ζ7s];have hx:=fun (p:Int × Int) => (Ext.refl H).push ⟨[.int .i64 p.1,.int .i64 p.2],1,false⟩;have fl:∀ x y b,Flat (.tuple #[.agg #[.int .i64 x,.int .i64 y],.bool b]):=fun x y b => Flat.tupleL (l:=[.agg #[.int .i64 x,.int .i64 y],.bool b]) (.cons (Flat.aggL (l:=[.int .i64 x,.int .i64 y]) (.cons (.int _ _) (.cons (.int _ _) .nil))) (.cons (.bool _) .nil));have hc:=fun H' => ζfh k t ht id H';by_cases h0:i < 0
 ·have hN:getA t id i = none:=by
   unfold getA;split
   ·rw [if_neg (by omega)]
   ·rfl
  rw [hN];refine nrm_gc ⟨_,?_,hx (0,0)⟩ (fl _ _ _).alive;simp -implicitDefEqProofs (disch:=omega) [ζz,h0]
 by_cases h1:cntA t id ≤ i
 ·have hN:getA t id i = none:=by
   unfold getA;unfold cntA at h1;split
   ·rename_i at_ e;rw [e] at h1;dsimp only at h1;rw [if_neg (by omega)]
   ·rfl
  rw [hN];refine nrm_gc ⟨_,?_,hx (0,0)⟩ (fl _ _ _).alive;simp -implicitDefEqProofs (disch:=omega) [ζz,h0,h1,hc]
 have hg:=fun H' => Get_run k t.of ht.pts ht.rise id ht.plen H';unfold getA;unfold cntA at h1 hc;cases h:getS t.of.2 id with
 | none => rw [h] at h1; dsimp only at h1; omega
 | some at_ =>
  obtain ⟨a0,n,hn,hfit⟩:=ht.has id at_ h;rw [h] at hg h1 hc;dsimp only at h1 hc ⊢;have hnb:=uS_four ht.byt hn;rw [gU_some hn] at h1 hc ⊢;rw [if_pos (by omega)];simp only [Option.getD_some,Option.isSome_some] at hg ⊢;have hU:∀ j:Int,0 ≤ j → j + 2 ≤ (t.data.length:Int) → uS t.data j 2 = some (gU t.data j 2):=fun j b0 b1 => by
   have:∃ x,uS t.data j 2 = some x:=by
    unfold uS pieceS;rw [if_pos ⟨by omega,by omega,by omega,by omega⟩];exact ⟨_,rfl⟩
   obtain ⟨x,hx⟩:=this;rw [hx,gU_some hx]
  have hl:=ht.len;have r1:=fun H' j => I16_run k (Sl.lv H' 1 t.data) ht.byt j (by omega);have q1:∀ H',R (T k) F.ζ13 [.agg #[lv encB t.data],.int .i64 (at_ + 4 + 4 * i)] H' = .ok (.int .i64 (s16 (gU t.data (at_ + 4 + 4 * i) 2))) H':=fun H' => by rw [r1,hU _ (by omega) (by omega)]; rfl
  have q2:∀ H',R (T k) F.ζ13 [.agg #[lv encB t.data],.int .i64 (at_ + 6 + 4 * i)] H' = .ok (.int .i64 (s16 (gU t.data (at_ + 6 + 4 * i) 2))) H':=fun H' => by rw [r1,hU _ (by omega) (by omega)]; rfl
  have w1:IntKind.i64.wrap (4 * i) = 4 * i:=wrap_i64 (by omega) (by omega);have w2:IntKind.i64.wrap (at_ + 4) = at_ + 4:=wrap_i64 (by omega) (by omega);have w3:IntKind.i64.wrap (at_ + 6) = at_ + 6:=wrap_i64 (by omega) (by omega);have w4:IntKind.i64.wrap (at_ + 4 + 4 * i) = at_ + 4 + 4 * i:=wrap_i64 (by omega) (by omega);have w5:IntKind.i64.wrap (at_ + 6 + 4 * i) = at_ + 6 + 4 * i:=wrap_i64 (by omega) (by omega);have vw:veq (vwB t.data) (vwB t.data) = true:=veq_agg (l:=[lv encB t.data]) fun u hu => by simp at hu; subst hu; exact veq_B t.data
  refine nrm_gc ⟨_,?_,hx (s16 (gU t.data (at_ + 4 + 4 * i) 2),s16 (gU t.data (at_ + 6 + 4 * i) 2))⟩ (fl _ _ _).alive;simp -implicitDefEqProofs (disch:=omega) [ζz,h0,h1,hc,hg,q1,q2,w1,w2,w3,w4,w5,vw]
end Go.Sw
end
section
namespace Go.Sw
open Go.RowKit
theorem s16_two {b:List Int} (hb:Byt b) (i:Int):-32768 ≤ s16 (gU b i 2) ∧ s16 (gU b i 2) < 32768:=by
 have:=gU_two hb i;unfold s16;split <;> omega
theorem pgA_ok (t:ATab) (hb:Byt t.data):PgOk (getA t):=by
 intro id i p h;unfold getA at h;split at h
 ·split at h
  ·injection h with h;subst h;exact ⟨(s16_two hb _).1,(s16_two hb _).2,(s16_two hb _).1,(s16_two hb _).2⟩
  ·cases h
 ·cases h
theorem pgA_at (k:Nat) (t:ATab) (ht:t.ok) (H:Heap):AnkAt k (ankV t) (getA t) H:=fun id i H' _ => ζj5 k t ht id i H'
end Go.Sw
end
section
namespace Go.Sw
open Go.RowKit
def pB:Plan:=⟨[4,5],[[0,0,0,0,1,2],[0,0,0,0,1,2]],[⟨0,0,65535,0⟩,⟨0,32768,65535,0⟩,⟨0,0,0,0⟩],2⟩
def bB:List Int:=roomB pB 1 (kb 1) ([0,0].map m16)
def tB:BTab:=⟨⟨6,(8,[⟨0,1,[4,5]⟩]),[[0,0,0,0,1,2],[0,0,0,0,1,2]],[⟨0,0,65535,0⟩,⟨0,32768,65535,0⟩,⟨0,0,0,0⟩]⟩,1,[0,0,0,0]⟩
theorem bindS_B:bindS bB 9 = some tB:=by kernel_rfl
theorem bB_len:bB.length = 76:=by kernel_rfl
theorem bB_byt:Byt bB:=by
 have h:(bB.all fun x => decide (0 ≤ x ∧ x < 256)) = true:=by kernel_rfl
 intro x hx;simpa using List.all_eq_true.1 h x hx
theorem tB_ok:tB.ok:=bindS_ok bB_byt (by omega) (by omega) (by rw [bB_len]; omega) bindS_B
def idsB (ms:List Bool):List Int:=ms.map fun b => if b then 1 else 0
def lastB (ms:List Bool):Nat → Int
 | 0 => -1
 | j + 1 => if (ms[j]?).getD false then lastB ms j else j
theorem lastB_is (ms:List Bool):∀ j,j ≤ ms.length → (lastB ms j = -1) ∨ (∃ i:Nat,lastB ms j = i ∧ i < j ∧ ms[i]? = some false)
 | 0,_ => .inl rfl
 | j + 1,h => by
  unfold lastB;rw [List.getElem?_eq_getElem (by omega),Option.getD_some];cases hb:ms[j] with
  | true =>
   rcases lastB_is ms j (by omega) with h | ⟨i,h1,h2,h3⟩
   ·exact .inl (by simpa using h)
   ·exact .inr ⟨i,by simpa using h1,by omega,h3⟩
  | false => exact .inr ⟨j,by simp,by omega,by rw [List.getElem?_eq_getElem (by omega),hb]⟩
theorem newG_get (ids:List Int) (j:Nat):(newG ids)[j]? = (ids[j]?).map fun x => ⟨x,(j:Nat)⟩:=by
 unfold newG;rw [List.getElem?_map,List.getElem?_zipIdx];cases ids[j]? <;> simp
theorem atG_B {ms:List Bool} {j:Nat} {b:Bool} (h:ms[j]? = some b):atG (newG (idsB ms)) j = some ⟨if b then 1 else 0,(j:Nat)⟩:=by
 have hj:=(List.getElem?_eq_some_iff.1 h).1;unfold atG;rw [if_pos ⟨by omega,by simp [idsB]; omega⟩,Int.toNat_natCast,newG_get];simp [idsB,h]
theorem atG_end (ms:List Bool):atG (newG (idsB ms)) (ms.length:Nat) = none:=by
 unfold atG;rw [if_neg];simp [idsB]
theorem ent_mark {ms:List Bool} {j:Nat} (z r:Int) (h:ms[j]? = some true):entS tB.m (newG (idsB ms)) ⟨0,j,z,r⟩ = ⟨0,0,0,0⟩:=by
 unfold entS clsS;rw [atG_B h];rfl
theorem ent_base {ms:List Bool} {j:Nat} (z r:Int) (h:ms[j]? = some false):entS tB.m (newG (idsB ms)) ⟨0,j,z,r⟩ = ⟨0,32768,65535,0⟩:=by
 unfold entS clsS;rw [atG_B h];rfl
theorem ent_end (ms:List Bool) (z r:Int):entS tB.m (newG (idsB ms)) ⟨0,(ms.length:Nat),z,r⟩ = ⟨0,0,65535,0⟩:=by
 unfold entS clsS;rw [atG_end];rfl
def wantB (ms:List Bool) (x y:Int) (i:Nat):Pl:=if (ms[i]?).getD false = true ∧ 0 ≤ lastB ms i then ⟨0,x,y⟩ else ⟨0,0,0⟩
theorem bound_eq (ms:List Bool) (pg:Int → Int → Option (Int × Int)) (p q:Int × Int) (hp:pg 0 0 = some p) (hq:pg 1 0 = some q) (hx:-65536 < p.1 - q.1 ∧ p.1 - q.1 < 65536) (hy:-65536 < p.2 - q.2 ∧ p.2 - q.2 < 65536) :
  (runB tB pg (newG (idsB ms)) (newPl (List.replicate ms.length 0))).2 = 0 ∧ (runB tB pg (newG (idsB ms)) (newPl (List.replicate ms.length 0))).1.length = ms.length ∧
   ∀ i,i < ms.length → (runB tB pg (newG (idsB ms)) (newPl (List.replicate ms.length 0))).1[i]? = some (wantB ms (p.1 - q.1) (p.2 - q.2) i):=by
 have hlen:(newG (idsB ms)).length = ms.length:=by simp [idsB]
 have add0:∀ {n:Int},-65536 < n ∧ n < 65536 → addI 0 n = n:=fun h => by unfold addI clampI; repeat' split <;> try omega
 obtain ⟨s',st',⟨h0,h1,h2,h3⟩,hrun⟩:=runD_go tB.m (fun _:List Pl × Int => newG (idsB ms)) (fun s i e => (doBi tB pg (newG (idsB ms)) s i e,i,i + 1)) (2 * ((newG (idsB ms)).length:Int) + 128) ms.length (by omega)
  (fun j s st => st = 0 ∧ s.2 = lastB ms j ∧ s.1.length = ms.length ∧ ∀ i,i < ms.length → s.1[i]? = some (if i < j then wantB ms (p.1 - q.1) (p.2 - q.2) i else ⟨0,0,0⟩)) (fun j s st _ => hlen)
  (fun j s st hj ⟨h0,h1,h2,h3⟩ => by
   subst h0;by_cases hjl:j = ms.length
   ·subst hjl;rw [ent_end];exact ⟨by decide,rfl,fun h => absurd h (by omega)⟩
   have hjl:j < ms.length:=by omega
   obtain ⟨b,hb⟩:∃ b,ms[j]? = some b:=⟨_,List.getElem?_eq_getElem hjl⟩
   have hat:=atG_B hb;have hl1:lastB ms (j + 1) = if b then lastB ms j else (j:Int):=by
    show (if (ms[j]?).getD false = true then lastB ms j else (j:Int)) = _;rw [hb,Option.getD_some]
   have step:∀ i,i ≠ j → ((i < j + 1) ↔ i < j):=fun i h => by omega
   cases b with
   | false =>
    rw [ent_base _ _ hb];refine ⟨by decide,rfl,fun _ => ⟨rfl,?_,?_,?_⟩⟩
    ·unfold doBi;rw [hat,hl1];simp
    ·unfold doBi;rw [ζbm]; exact h2
    ·intro i hi;unfold doBi bindPl;rw [if_pos rfl,h3 i hi];by_cases hij:i = j
     ·subst hij;simp [wantB,hb]
     ·simp only [step i hij]
   | true =>
    rw [ent_mark _ _ hb];refine ⟨by decide,rfl,fun _ => ⟨rfl,?_,?_,?_⟩⟩
    ·unfold doBi;rw [hl1];simp [h1]
    ·unfold doBi;rw [ζbm]; exact h2
    ·intro i hi;unfold doBi bindPl;rw [if_neg (by decide),hat,h1];rcases lastB_is ms j (by omega) with hm | ⟨i0,e1,e2,e3⟩
     ·rw [hm,show atG (newG (idsB ms)) (-1) = none from by unfold atG; rw [if_neg (by omega)]];rw [h3 i hi];by_cases hij:i = j
      ·subst hij;simp [wantB,hm]
      ·simp only [step i hij]
     ·rw [e1,atG_B e3];have hps:ptsS tB pg 0 0 1 = some (p,q):=by
       show (pg 0 0).bind (fun p => (pg 1 0).map fun q => (p,q)) = _;rw [hp,hq];rfl
      simp only [Bool.false_eq_true,if_false,if_true,hps];unfold shiftPl;rw [updPl_at,h3 i hi];by_cases hij:i = j
      ·subst hij;simp [wantB,hb,e1,add0 hx,add0 hy]
      ·simp only [step i hij];simp [hij])
  ms.length 0 (2 * (newG (idsB ms)).length + 128) 0 (newPl (List.replicate ms.length 0),-1) 0 rfl (by omega) (by omega) ⟨rfl,rfl,by simp,fun i hi => by
   unfold newPl;rw [List.map_replicate,List.getElem?_replicate,if_pos hi,if_neg (by omega)];rfl⟩
 have hB:runB tB pg (newG (idsB ms)) (newPl (List.replicate ms.length 0)) = (s'.1,0):=by
  unfold runB runBr;rw [hrun];dsimp only;unfold doBi bindPl;subst h0;rw [ent_end];rfl
 rw [hB];exact ⟨rfl,h2,fun i hi => by rw [h3 i hi,if_pos hi]⟩
end Go.Sw
end
section
set_option maxRecDepth 100000
set_option linter.unusedVariables false
namespace Go.Sw
noncomputable section
end
end Go.Sw
end
section
namespace Go.Sw
open Go.RowKit
end Go.Sw
end
section
namespace Go.Sw
open Go.RowKit
structure PW where
 l:Int
 r:Int
 v:Int
def PW.ok (p:PW):Prop:=(0 ≤ p.l ∧ p.l < 65536) ∧ (0 ≤ p.r ∧ p.r < 65536) ∧ -32768 ≤ p.v ∧ p.v < 32768
def PW.key (p:PW):Int:=p.l * 65536 + p.r
end Go.Sw
end
section
namespace Go.Sw
open Go.RowKit
end Go.Sw
end
section
namespace Go.Sw
open Go.RowKit
end Go.Sw
end
section
namespace Go.Sw
open Go.RowKit
theorem SbSl.one {H:Heap} {b:Nat} {x:Int × List Int} {e:Nat} (hb:H.get b = some ⟨encSb x,e,false⟩):SbSl H (.slice (some ⟨b,0,none⟩) 1 1) [x]:=by
 refine ⟨fun H' => by simp,fun j y hy => ?_⟩;cases j with
 | succ j => simp at hy
 | zero =>
  simp at hy;subst hy;exact ⟨ptrV b,fun H' => by simp [ixS],fun H' hx => by have:=hx.get hb; simp [this]⟩
end Go.Sw
end
section
namespace Go.Sw
open Go.RowKit
end Go.Sw
end
section
namespace Go.Sw
open Go.RowKit
end Go.Sw
end
section
namespace Go.Sw
open Go.RowKit
def okO (o:List Int):Prop:=(∀ k,k ∈ o → 0 ≤ k ∧ k < o.length) ∧ o.Nodup
instance (o:List Int):Decidable (okO o):=by unfold okO; infer_instance
end Go.Sw
end
section
namespace Go.Sw
open Go.RowKit
section
variable {α:Type} {enc:α → List Value}
end
abbrev encBo (b:Bool):List Value:=[.bool b]
theorem ζi9 (b:Bool):(encBo b).length = 1:=rfl
def toO (o:List Int) (n j:Nat):Prop:=(∀ k,k ∈ o.take j → 0 ≤ k ∧ k < n) ∧ (o.take j).Nodup
end Go.Sw
end
section
set_option maxRecDepth 100000
set_option linter.unusedVariables false
namespace Go.Sw
noncomputable section
def ζ24 (k:Nat) (call:Caller):Env → Heap → Res (AExit × Env):=loopB (C k) call F.ζ4 [1,1,1,1,1,1,1,1,0,1,0,0]
def ζ49 (k:Nat) (call:Caller):Kont Value:=kBlock 0 (kSeq (pieceK (C k) call F.ζ4 [1,1,1,1,1,1,1,1,1]) (kDone Prog (resOf Prog F.ζ4)))
def ζ4z (k:Nat) (call:Caller) (a2 a3 a4 a9 a11 a13 a16 a71 a72 a73:Value) (h:Heap):Res (AExit × Env) :=
 kSeq (pieceK (C k) call F.ζ4 [1,1,1,1,1,1,1,1,0,1,0,0,1,1,0,0,1,1,1]) (kBlock 1 (kSeq (pieceK (C k) call F.ζ4 [1,1,1,1,1,1,1,1,0,1,0,0,1,1,1]) (kRound (ownOf (C k) F.ζ4 [1,1,1,1,1,1,1,1,0,1,0,0])))) .normal [(2,a2),(3,a3),(4,a4),(9,a9),(11,a11),(13,a13),(16,a16),(71,a71),(72,a72),(73,a73)] h
def ζ50 (k:Nat) (call:Caller) (a2 a3 a4 a9 a11 a13 a16 a71 a72 a73 a77:Value) (h:Heap):Res (AExit × Env) :=
 kSeq (pieceK (C k) call F.ζ4 [1,1,1,1,1,1,1,1,0,1,0,0,1,1,0,0,1,1,1]) (kBlock 1 (kSeq (pieceK (C k) call F.ζ4 [1,1,1,1,1,1,1,1,0,1,0,0,1,1,1]) (kRound (ownOf (C k) F.ζ4 [1,1,1,1,1,1,1,1,0,1,0,0])))) .normal [(2,a2),(3,a3),(4,a4),(9,a9),(11,a11),(13,a13),(16,a16),(71,a71),(72,a72),(73,a73),(77,a77)] h
def ζ25 (k:Nat) (call:Caller):Env → Heap → Res (AExit × Env):=loopB (C k) call F.ζ4 [1,1,1,1,1,1,1,1,1,1,1,1,0,1,0,0]
def ζ4a (k:Nat) (call:Caller):Kont Value:=kBlock 2 (kSeq (pieceK (C k) call F.ζ4 [1,1,1,1,1,1,1,1,1,1,1,1,1]) (kDone Prog (resOf Prog F.ζ4)))
def ζ51 (k:Nat) (call:Caller) (a2 a3 a4 a13 a17 a19 a20 a21 a22 a97 a98 a99:Value) (h:Heap):Res (AExit × Env) :=
 kSeq (pieceK (C k) call F.ζ4 [1,1,1,1,1,1,1,1,1,1,1,1,0,1,0,0,1,1,0,0,1,1,1]) (kBlock 3 (kSeq (pieceK (C k) call F.ζ4 [1,1,1,1,1,1,1,1,1,1,1,1,0,1,0,0,1,1,1]) (kRound (ownOf (C k) F.ζ4 [1,1,1,1,1,1,1,1,1,1,1,1,0,1,0,0])))) .normal [(2,a2),(3,a3),(4,a4),(13,a13),(17,a17),(19,a19),(20,a20),(21,a21),(22,a22),(97,a97),(98,a98),(99,a99)] h
def ζ52 (k:Nat) (call:Caller) (a2 a3 a4 a13 a17 a19 a20 a21 a22 a97 a98 a99 a110:Value) (h:Heap):Res (AExit × Env) :=
 kSeq (pieceK (C k) call F.ζ4 [1,1,1,1,1,1,1,1,1,1,1,1,0,1,0,0,1,1,0,0,1,1,1]) (kBlock 3 (kSeq (pieceK (C k) call F.ζ4 [1,1,1,1,1,1,1,1,1,1,1,1,0,1,0,0,1,1,1]) (kRound (ownOf (C k) F.ζ4 [1,1,1,1,1,1,1,1,1,1,1,1,0,1,0,0])))) .normal [(2,a2),(3,a3),(4,a4),(13,a13),(17,a17),(19,a19),(20,a20),(21,a21),(22,a22),(97,a97),(98,a98),(99,a99),(110,a110)] h
def ζ4 (k:Nat) (call:Caller) (a0 a1 a2:Value) (h:Heap):Res Value :=
 (boxR a0 h).bind fun v1 h2 =>
 (boxR a1 h2).bind fun v3 h4 =>
 (buildSliceR Prog 22 2 [(0,(.int .u8 4)),(1,(.int .u8 5))] h4).bind fun v5 h6 =>
 (buildSliceR Prog 22 6 [(0,(.int .u8 0)),(1,(.int .u8 0)),(2,(.int .u8 0)),(3,(.int .u8 0)),(4,(.int .u8 1)),(5,(.int .u8 2))] h6).bind fun v7 h8 =>
 (buildSliceR Prog 22 6 [(0,(.int .u8 0)),(1,(.int .u8 0)),(2,(.int .u8 0)),(3,(.int .u8 0)),(4,(.int .u8 1)),(5,(.int .u8 2))] h8).bind fun v9 h10 =>
 (buildSliceR Prog 23 2 [(0,v7),(1,v9)] h10).bind fun v11 h12 =>
 (buildR Prog 129 [(2,(.int .i64 65535))] h12).bind fun v13 h14 =>
 (buildR Prog 129 [(1,(.int .i64 32768)),(2,(.int .i64 65535))] h14).bind fun v15 h16 =>
 (buildR Prog 129 [] h16).bind fun v17 h18 =>
 (buildSliceR Prog 24 3 [(0,v13),(1,v15),(2,v17)] h18).bind fun v19 h20 =>
 (buildR Prog 26 [(0,v5),(3,(.int .u8 2)),(1,v11),(2,v19)] h20).bind fun v21 h22 =>
 (allocR Prog 26 h22).bind fun v23 h24 =>
 (storeR Prog 26 v23 v21 h24).bind fun _v25 h26 =>
 (loadR Prog 26 v23 h26).bind fun v27 h28 =>
 (buildSliceR Prog 27 2 [(0,(.int .i16 0)),(1,(.int .i16 0))] h28).bind fun v29 h30 =>
 (buildR Prog 69 [(0,v27),(1,(.int .u8 1)),(2,v29)] h30).bind fun v31 h32 =>
 (call F.ζx [v31] h32).bind fun v33 h34 =>
 (buildR Prog 104 [(0,(.int .u32 4)),(1,v33)] h34).bind fun v35 h36 =>
 (buildSliceR Prog 94 1 [(0,v35)] h36).bind fun v37 h38 =>
 (call F.ζ1e [v37] h38).bind fun v39 h40 =>
 (call F.ζ59 [v39,(.int .i64 9)] h40).bind fun v41 h42 =>
 (extractR v41 0 h42).bind fun v43 h44 =>
 (extractR v41 1 h44).bind fun v45 h46 =>
 (loadR Prog 126 v1 h46).bind fun v47 h48 =>
 (buildSliceR Prog 130 1 [(0,v47)] h48).bind fun v49 h50 =>
 (loadR Prog 126 v3 h50).bind fun v51 h52 =>
 (buildSliceR Prog 130 1 [(0,v51)] h52).bind fun v53 h54 =>
 (buildSliceR Prog 70 2 [(0,v49),(1,v53)] h54).bind fun v55 h56 =>
 (call F.ζm [v55] h56).bind fun v57 h58 =>
 (call F.ζ57 [v57,(.int .i64 9)] h58).bind fun v59 h60 =>
 (extractR v59 0 h60).bind fun v61 h62 =>
 (extractR v59 1 h62).bind fun v63 h64 =>
 (binR Prog .neq 37 v45 (.int .i64 0) h64).bind fun v65 h66 =>
 ((bif wantVal v65 false then Res.ok v63 h66 else Res.ok undef h66)).bind fun v67 h68 =>
 ((bif wantVal v65 false then binR Prog .neq 37 v67 (.int .i64 0) h68 else Res.ok undef h68)).bind fun v69 h70 =>
 (condV (some v65) (Res.ok (.bool true) h70) (Res.ok v69 h70)).bind fun v71 h72 =>
 ((bif wantVal v71 false then Res.ok v43 h72 else Res.ok undef h72)).bind fun v73 h74 =>
 ((bif wantVal v71 false then binR Prog .eql 98 v73 (.pointer none) h74 else Res.ok undef h74)).bind fun v75 h76 =>
 (condV (some v71) (Res.ok (.bool true) h76) (Res.ok v75 h76)).bind fun v77 h78 =>
 ((bif wantVal v77 false then Res.ok v61 h78 else Res.ok undef h78)).bind fun v79 h80 =>
 ((bif wantVal v77 false then binR Prog .eql 82 v79 (.pointer none) h80 else Res.ok undef h80)).bind fun v81 h82 =>
 (condV (some v77) (Res.ok (.bool true) h82) (Res.ok v81 h82)).bind fun v83 h84 =>
 condV (some v83) (
 .ok (.bool false) h84)
 (
 (builtinV Prog .len [127] [a2] h84).bind fun v85 h86 =>
 (binR Prog .gtr 3 v85 (.int .i64 60) h86).bind fun v87 h88 =>
 condV (some v87) (
 .ok (.bool true) h88)
 (
 (builtinV Prog .len [127] [a2] h88).bind fun v89 h90 =>
 (loopN (ζ24 k call) loopFuel [(2,a2),(3,v1),(4,v3),(9,v43),(11,v61),(13,(.slice none 0 0)),(71,a2),(72,v89),(73,(.int .i64 0))] h90).bind fun r91 h92 =>
 ζ49 k call r91.1 r91.2 h92))
theorem ζ8r (k:Nat) (a0 a1 a2:Value) (h:Heap):R (T k) F.ζ4 [a0,a1,a2] h = nrm .gc h (ζ4 k (R (T k)) a0 a1 a2 h) :=
 (R_body (t:=T k) (T_scott k) (by kernel_rfl) (by kernel_rfl) _ _).trans (by kernel_rfl)
theorem ζ3u (k:Nat) (call:Caller) (a2 a3 a4 a9 a11 a13 a71 a72 a73:Value) (h:Heap):ζ24 k call [(2,a2),(3,a3),(4,a4),(9,a9),(11,a11),(13,a13),(71,a71),(72,a72),(73,a73)] h =
 (binR Prog .lss 3 a73 a72 h).bind fun v93 h94 =>
 condV (some v93) (
 (indexAddrR Prog 127 a71 a73 h94).bind fun v95 h96 =>
 (loadR Prog 4 v95 h96).bind fun v97 h98 =>
 condV (some v97) (
 ζ4z k call a2 a3 a4 a9 a11 a13 (.int .i64 1) a71 a72 a73 h98)
 (
 ζ50 k call a2 a3 a4 a9 a11 a13 (.int .i64 0) a71 a72 a73 v97 h98))
 (
 .ok ((.exit 0),[(2,a2),(3,a3),(4,a4),(9,a9),(11,a11),(13,a13),(71,a71),(72,a72),(73,a73),(74,v93)]) h94) :=
 (loopB_eq _ _).trans (by kernel_rfl)
theorem ζ6t (k:Nat) (call:Caller) (a2 a3 a4 a9 a11 a13 a16 a71 a72 a73:Value) (h:Heap):ζ4z k call a2 a3 a4 a9 a11 a13 a16 a71 a72 a73 h =
 (buildSliceR Prog 30 1 [(0,a16)] h).bind fun v99 h100 =>
 (builtinV Prog .append [30,30] [a13,v99] h100).bind fun v101 h102 =>
 (binR Prog .add 3 a73 (.int .i64 1) h102).bind fun v103 h104 =>
 .ok (.normal,[(2,a2),(3,a3),(4,a4),(9,a9),(11,a11),(13,v101),(71,a71),(72,a72),(73,v103)]) h104:=by kernel_rfl
theorem ζ6u (k:Nat) (call:Caller) (a2 a3 a4 a9 a11 a13 a16 a71 a72 a73 a77:Value) (h:Heap):ζ50 k call a2 a3 a4 a9 a11 a13 a16 a71 a72 a73 a77 h =
 (buildSliceR Prog 30 1 [(0,a16)] h).bind fun v105 h106 =>
 (builtinV Prog .append [30,30] [a13,v105] h106).bind fun v107 h108 =>
 (binR Prog .add 3 a73 (.int .i64 1) h108).bind fun v109 h110 =>
 .ok (.normal,[(2,a2),(3,a3),(4,a4),(9,a9),(11,a11),(13,v107),(71,a71),(72,a72),(73,v109)]) h110:=by kernel_rfl
theorem ζ6i (k:Nat) (call:Caller) (a2 a3 a4 a9 a11 a13 a71 a72 a73 a74:Value) (h:Heap):ζ49 k call (.exit 0) [(2,a2),(3,a3),(4,a4),(9,a9),(11,a11),(13,a13),(71,a71),(72,a72),(73,a73),(74,a74)] h =
 (builtinV Prog .len [30] [a13] h).bind fun v111 h112 =>
 (makeSliceV Prog 30 v111 v111 h112).bind fun v113 h114 =>
 (call F.ζ4k [(.int .i64 0),v113] h114).bind fun v115 h116 =>
 (call F.line_New [a13] h116).bind fun v117 h118 =>
 (call F.ζt [a9,v117,v115,(.int .i64 0),a11] h118).bind fun v119 h120 =>
 (allocR Prog 109 h120).bind fun v121 h122 =>
 (storeR Prog 109 v121 v119 h122).bind fun _v123 h124 =>
 (loadR Prog 109 v121 h124).bind fun v125 h126 =>
 (buildR Prog 109 [] h126).bind fun v127 h128 =>
 (binR Prog .neq 109 v125 v127 h128).bind fun v129 h130 =>
 condV (some v129) (
 .ok (.bool false) h130)
 (
 (call F.ζ1w [v115] h130).bind fun v131 h132 =>
 (builtinV Prog .len [56] [v131] h132).bind fun v133 h134 =>
 (loopN (ζ25 k call) loopFuel [(2,a2),(3,a3),(4,a4),(13,a13),(17,v115),(19,(.bool false)),(97,v131),(98,v133),(99,(.int .i64 0))] h134).bind fun r135 h136 =>
 ζ4a k call r135.1 r135.2 h136):=by kernel_rfl
theorem ζ2e (k:Nat) (call:Caller) (a2 a3 a4 a13 a17 a19 a97 a98 a99:Value) (h:Heap):ζ25 k call [(2,a2),(3,a3),(4,a4),(13,a13),(17,a17),(19,a19),(97,a97),(98,a98),(99,a99)] h =
 (binR Prog .lss 3 a99 a98 h).bind fun v137 h138 =>
 condV (some v137) (
 (indexAddrR Prog 56 a97 a99 h138).bind fun v139 h140 =>
 (loadR Prog 93 v139 h140).bind fun v141 h142 =>
 (allocR Prog 93 h142).bind fun v143 h144 =>
 (storeR Prog 93 v143 v141 h144).bind fun _v145 h146 =>
 (allocR Prog 93 h146).bind fun v147 h148 =>
 (indexAddrR Prog 127 a2 a99 h148).bind fun v149 h150 =>
 (loadR Prog 4 v149 h150).bind fun v151 h152 =>
 ((bif wantVal v151 true then Res.ok a19 h152 else Res.ok undef h152)).bind fun v153 h154 =>
 (condV (some v151) (Res.ok v153 h154) (Res.ok (.bool false) h154)).bind fun v155 h156 =>
 condV (some v155) (
 (indexAddrR Prog 126 a3 (.int .i64 0) h156).bindN fun v157 h158 =>
 (loadR Prog 125 v157 h158).bindN fun v159 h160 =>
 (convR Prog 125 21 v159 h160).bindN fun v161 h162 =>
 (indexAddrR Prog 126 a4 (.int .i64 0) h162).bindN fun v163 h164 =>
 (loadR Prog 125 v163 h164).bindN fun v165 h166 =>
 (convR Prog 125 21 v165 h166).bindN fun v167 h168 =>
 (binR Prog .sub 21 v161 v167 h168).bindN fun v169 h170 =>
 (indexAddrR Prog 126 a3 (.int .i64 1) h170).bindN fun v171 h172 =>
 (loadR Prog 125 v171 h172).bindN fun v173 h174 =>
 (convR Prog 125 21 v173 h174).bindN fun v175 h176 =>
 (indexAddrR Prog 126 a4 (.int .i64 1) h176).bindN fun v177 h178 =>
 (loadR Prog 125 v177 h178).bindN fun v179 h180 =>
 (convR Prog 125 21 v179 h180).bindN fun v181 h182 =>
 (binR Prog .sub 21 v175 v181 h182).bindN fun v183 h184 =>
 (fieldAddrR Prog 93 v147 1 h184).bindN fun v185 h186 =>
 (storeR Prog 21 v185 v169 h186).bindN fun _v187 h188 =>
 (fieldAddrR Prog 93 v147 2 h188).bindN fun v189 h190 =>
 (storeR Prog 21 v189 v183 h190).bindN fun _v191 h192 =>
 chkR ((okVal (loadR Prog 125 v171 h188) v173 && true) && ((okVal (loadR Prog 125 v177 h188) v179 && true) && true)) (
 ζ51 k call a2 a3 a4 a13 a17 a19 a99 v143 v147 a97 a98 a99 h192))
 (
 ζ52 k call a2 a3 a4 a13 a17 a19 a99 v143 v147 a97 a98 a99 v155 h156))
 (
 .ok ((.exit 2),[(2,a2),(3,a3),(4,a4),(13,a13),(17,a17),(19,a19),(97,a97),(98,a98),(99,a99),(100,v137)]) h138) :=
 (loopB_eq _ _).trans (by kernel_rfl)
theorem ζ6v (k:Nat) (call:Caller) (a2 a3 a4 a13 a17 a19 a20 a21 a22 a97 a98 a99:Value) (h:Heap):ζ51 k call a2 a3 a4 a13 a17 a19 a20 a21 a22 a97 a98 a99 h =
 (loadR Prog 93 a21 h).bind fun v193 h194 =>
 (loadR Prog 93 a22 h194).bind fun v195 h196 =>
 (binR Prog .neq 93 v193 v195 h196).bind fun v197 h198 =>
 condV (some v197) (
 .ok (.ret,[(6,(.bool false))]) h198)
 (
 ((bif wantVal a19 false then Res.ok a2 h198 else Res.ok undef h198)).bind fun v199 h200 =>
 ((bif wantVal a19 false then Res.ok a20 h200 else Res.ok undef h200)).bind fun v201 h202 =>
 ((bif wantVal a19 false then indexAddrR Prog 127 v199 v201 h202 else Res.ok undef h202)).bind fun v203 h204 =>
 ((bif wantVal a19 false then loadR Prog 4 v203 h204 else Res.ok undef h204)).bind fun v205 h206 =>
 ((bif wantVal a19 false then unR .not v205 h206 else Res.ok undef h206)).bind fun v207 h208 =>
 (condV (some a19) (Res.ok (.bool true) h208) (Res.ok v207 h208)).bind fun v209 h210 =>
 (binR Prog .add 3 a99 (.int .i64 1) h210).bind fun v211 h212 =>
 .ok (.normal,[(2,a2),(3,a3),(4,a4),(13,a13),(17,a17),(19,v209),(97,a97),(98,a98),(99,v211)]) h212):=by kernel_rfl
theorem ζ3t (k:Nat) (call:Caller) (a2 a3 a4 a13 a17 a19 a20 a21 a22 a97 a98 a99 a110:Value) (h:Heap):ζ52 k call a2 a3 a4 a13 a17 a19 a20 a21 a22 a97 a98 a99 a110 h =
 (loadR Prog 93 a21 h).bind fun v213 h214 =>
 (loadR Prog 93 a22 h214).bind fun v215 h216 =>
 (binR Prog .neq 93 v213 v215 h216).bind fun v217 h218 =>
 condV (some v217) (
 .ok (.ret,[(6,(.bool false))]) h218)
 (
 ((bif wantVal a19 false then Res.ok a2 h218 else Res.ok undef h218)).bind fun v219 h220 =>
 ((bif wantVal a19 false then Res.ok a20 h220 else Res.ok undef h220)).bind fun v221 h222 =>
 ((bif wantVal a19 false then indexAddrR Prog 127 v219 v221 h222 else Res.ok undef h222)).bind fun v223 h224 =>
 ((bif wantVal a19 false then loadR Prog 4 v223 h224 else Res.ok undef h224)).bind fun v225 h226 =>
 ((bif wantVal a19 false then unR .not v225 h226 else Res.ok undef h226)).bind fun v227 h228 =>
 (condV (some a19) (Res.ok (.bool true) h228) (Res.ok v227 h228)).bind fun v229 h230 =>
 (binR Prog .add 3 a99 (.int .i64 1) h230).bind fun v231 h232 =>
 .ok (.normal,[(2,a2),(3,a3),(4,a4),(13,a13),(17,a17),(19,v229),(97,a97),(98,a98),(99,v231)]) h232):=by kernel_rfl
theorem ζ6j (k:Nat) (call:Caller) (a2 a3 a4 a13 a17 a19 a97 a98 a99 a100:Value) (h:Heap):ζ4a k call (.exit 2) [(2,a2),(3,a3),(4,a4),(13,a13),(17,a17),(19,a19),(97,a97),(98,a98),(99,a99),(100,a100)] h =
 (call F.ζ2d [a17] h).bind fun v233 h234 =>
 (builtinV Prog .len [30] [a13] h234).bind fun v235 h236 =>
 (binR Prog .eql 3 v233 v235 h236).bind fun v237 h238 =>
 .ok v237 h238:=by kernel_rfl
end
end Go.Sw
end
section
namespace Go.Sw
open Go.RowKit
theorem bound_l1 (k:Nat) (ms:List Bool) (hm:ms.length ≤ 60) (v1 v3 t pt:Value) {H0 H:Heap} {L:List It} (g:Star H0 H L) :
  ∃ s o zz H',loopN (ζ24 k (R (T k))) loopFuel [(2,lv encBo ms),(3,v1),(4,v3),(9,t),(11,pt),(13,.slice none 0 0),(71,lv encBo ms),(72,.int .i64 ms.length),(73,.int .i64 0)] H =
   .ok (.exit 0,[(2,lv encBo ms),(3,v1),(4,v3),(9,t),(11,pt),(13,s),(71,lv encBo ms),(72,.int .i64 ms.length),(73,zz),(74,.bool false)]) H' ∧ Star H0 H' (L ++ [itRow o 1 s encI (idsB ms)]):=by
 have at_:∀ x:It,(L ++ [x])[L.length]? = some x:=fun x => by simp
 have set_:∀ x y:It,(L ++ [x]).set L.length y = L ++ [y]:=fun x y => by simp
 have g0:=g.more_row (Ext.refl _) (OwnO.nil encI _ 1) (fun b hb => by cases hb)
 obtain ⟨xx,e',H1,hr1,rfl,s,o,rfl,g1⟩:=loop_up (body:=ζ24 k (R (T k))) ms.length
  (fun j e H' => ∃ s o,e = [(2,lv encBo ms),(3,v1),(4,v3),(9,t),(11,pt),(13,s),(71,lv encBo ms),(72,.int .i64 ms.length),(73,.int .i64 j)] ∧ Star H0 H' (L ++ [itRow o 1 s encI (idsB (ms.take j))]))
  (fun xx e H' => xx = .exit 0 ∧ ∃ s o,e = [(2,lv encBo ms),(3,v1),(4,v3),(9,t),(11,pt),(13,s),(71,lv encBo ms),(72,.int .i64 ms.length),(73,.int .i64 ms.length),(74,.bool false)] ∧ Star H0 H' (L ++ [itRow o 1 s encI (idsB ms)]))
  (e0:=[(2,lv encBo ms),(3,v1),(4,v3),(9,t),(11,pt),(13,.slice none 0 0),(71,lv encBo ms),(72,.int .i64 ms.length),(73,.int .i64 0)]) (H0:=H) ⟨_,none,rfl,by simpa [idsB] using g0⟩ (by omega)
  (fun j e H' hj ⟨s,o,he,g⟩ => by
   subst he;have hjl:(j:Int) < ms.length:=by omega
   obtain ⟨b,hb⟩:∃ b,ms[j]? = some b:=⟨_,List.getElem?_eq_getElem hj⟩
   have i1:=fun H' => ixS_lvN ζi9 ms .i64 j b hb H';have hw3:IntKind.i64.wrap ((j:Int) + 1) = ((j + 1:Nat):Int):=by rw [wrap_i64 (by omega) (by omega)]; omega
   obtain ⟨s2,o2,H2,e2,g2⟩:=g.append1 (bytes:=8) L.length encI_len (at_ _) (if b then 1 else 0) (by unfold idsB; rw [List.length_map,List.length_take]; omega) (by decide);have hid:idsB (ms.take j) ++ [if b then 1 else 0] = idsB (ms.take (j + 1)):=by unfold idsB; rw [ζ2j hb,List.map_append]; rfl
   rw [set_,hid] at g2;have g2:=g2.take (L.length + 1);rw [List.take_of_length_le (by simp)] at g2;refine .inl ⟨_,H2,?_,s2,o2,rfl,g2⟩;rw [ζ3u];cases b with
   | true =>
    simp only [if_true] at e2;simp -implicitDefEqProofs (disch:=omega) [hjl,i1,hw3,e2,ζ6t]
   | false =>
    simp only [Bool.false_eq_true,if_false] at e2;simp -implicitDefEqProofs (disch:=omega) [hjl,i1,hw3,e2,ζ6u])
  (fun e H' ⟨s,o,he,g⟩ => by
   subst he;rw [List.take_of_length_le (by simp)] at g;refine ⟨.exit 0,_,H',?_,by simp,rfl,s,o,rfl,g⟩;rw [ζ3u];simp -implicitDefEqProofs)
 exact ⟨s,o,_,H1,hr1,g1⟩
theorem ζl1 (ms:List Bool) {j:Nat} {b:Bool} (h:ms[j]? = some b):decide (0 ≤ lastB ms (j + 1)) = (decide (0 ≤ lastB ms j) || !b):=by
 have:lastB ms (j + 1) = if b then lastB ms j else (j:Int):=by
  show (if (ms[j]?).getD false = true then lastB ms j else (j:Int)) = _;rw [h,Option.getD_some]
 rw [this];cases b <;> simp
set_option maxHeartbeats 1000000 in
theorem bound_l2 (k:Nat) (ms:List Bool) (hm:ms.length ≤ 60) (b0 b1 m0 m1:Int) (hb0:-32768 ≤ b0 ∧ b0 < 32768) (hb1:-32768 ≤ b1 ∧ b1 < 32768) (hm0:-32768 ≤ m0 ∧ m0 < 32768) (hm1:-32768 ≤ m1 ∧ m1 < 32768) (p q:Nat) (a13 a17:Value) (l:List Pl) (hl:l.length = ms.length) (hw:∀ i,i < ms.length → l[i]? = some (wantB ms (b0 - m0) (b1 - m1) i)) {H:Heap}
  (hp:H.get p = some ⟨[.int .i16 b0,.int .i16 b1],1,false⟩) (hq:H.get q = some ⟨[.int .i16 m0,.int .i16 m1],1,false⟩) :
  ∃ zz z2 H',loopN (ζ25 k (R (T k))) loopFuel [(2,lv encBo ms),(3,ptrV p),(4,ptrV q),(13,a13),(17,a17),(19,.bool false),(97,lv encP l),(98,.int .i64 ms.length),(99,.int .i64 0)] H =
   .ok (.exit 2,[(2,lv encBo ms),(3,ptrV p),(4,ptrV q),(13,a13),(17,a17),(19,z2),(97,lv encP l),(98,.int .i64 ms.length),(99,zz),(100,.bool false)]) H' ∧ Ext H H':=by
 obtain ⟨xx,e',H1,hr1,rfl,rfl,hx⟩:=loop_up (body:=ζ25 k (R (T k))) ms.length
  (fun j e H' => e = [(2,lv encBo ms),(3,ptrV p),(4,ptrV q),(13,a13),(17,a17),(19,.bool (decide (0 ≤ lastB ms j))),(97,lv encP l),(98,.int .i64 ms.length),(99,.int .i64 j)] ∧ Ext H H')
  (fun xx e H' => xx = .exit 2 ∧ e = [(2,lv encBo ms),(3,ptrV p),(4,ptrV q),(13,a13),(17,a17),(19,.bool (decide (0 ≤ lastB ms ms.length))),(97,lv encP l),(98,.int .i64 ms.length),(99,.int .i64 ms.length),(100,.bool false)] ∧ Ext H H')
  (e0:=[(2,lv encBo ms),(3,ptrV p),(4,ptrV q),(13,a13),(17,a17),(19,.bool false),(97,lv encP l),(98,.int .i64 ms.length),(99,.int .i64 0)]) (H0:=H) ⟨rfl,Ext.refl H⟩ (by omega)
  (fun j e H' hj ⟨he,hx⟩ => by
   subst he;have hjl:(j:Int) < ms.length:=by omega
   obtain ⟨b,hb⟩:∃ b,ms[j]? = some b:=⟨_,List.getElem?_eq_getElem hj⟩
   have i1:=fun H' => ixS_lvN ζi9 ms .i64 j b hb H';have i2:=fun H' => ixS_lvN encP_len l .i64 j _ (hw j hj) H';have hw3:IntKind.i64.wrap ((j:Int) + 1) = ((j + 1:Nat):Int):=by rw [wrap_i64 (by omega) (by omega)]; omega
   have hst:=ζl1 ms hb;have w0:IntKind.i32.wrap (b0 - m0) = b0 - m0:=wrap_i32 (by omega) (by omega);have w1:IntKind.i32.wrap (b1 - m1) = b1 - m1:=wrap_i32 (by omega) (by omega);have u0:IntKind.i32.wrap b0 = b0:=wrap_i32 (by omega) (by omega);have u1:IntKind.i32.wrap b1 = b1:=wrap_i32 (by omega) (by omega);have u2:IntKind.i32.wrap m0 = m0:=wrap_i32 (by omega) (by omega);have u3:IntKind.i32.wrap m1 = m1:=wrap_i32 (by omega) (by omega);have hp':=hx.get hp;have hq':=hx.get hq;have np:p < H'.n:=Heap.get_lt hp';have nq:q < H'.n:=Heap.get_lt hq';have n1:¬ p = H'.n:=by omega
   have n2:¬ q = H'.n:=by omega
   have n3:¬ p = H'.n + 1:=by omega
   have n4:¬ q = H'.n + 1:=by omega
   by_cases hc:b = true ∧ 0 ≤ lastB ms j
   ·obtain ⟨rfl,hc⟩:=hc;have hwant:wantB ms (b0 - m0) (b1 - m1) j = ⟨0,b0 - m0,b1 - m1⟩:=by unfold wantB; rw [hb,if_pos ⟨rfl,hc⟩]
    rw [hwant] at i2;rw [decide_eq_true hc] at hst;rw [decide_eq_true hc];have g0:=(((Star.nil H').push ⟨encP ⟨0,b0 - m0,b1 - m1⟩,1,false⟩).push ⟨[.int .i32 0,.int .i32 0,.int .i32 0],1,false⟩)
    simp only [List.nil_append,List.cons_append,hn_push] at g0;obtain ⟨H2,e2,g2,_⟩:=g0.stCell 1 rfl 1 (v:=.int .i32 (b0 - m0)) rfl rfl (by simp);simp only [List.set_cons_zero,List.set_cons_succ] at g2;obtain ⟨H3,e3,g3,_⟩:=g2.stCell 1 rfl 2 (v:=.int .i32 (b1 - m1)) rfl rfl (by simp);simp only [List.set_cons_zero,List.set_cons_succ] at g3;have c0:=g3.get 0 rfl;have c1:=g3.get 1 rfl;have p3:=g3.ext.get hp';have q3:=g3.ext.get hq';have p2:=g2.ext.get hp';have q2:=g2.ext.get hq';refine .inl ⟨_,H3,?_,rfl,hx.trans g3.ext⟩;rw [ζ2e];simp -implicitDefEqProofs (disch:=omega) [hjl,i1,i2,hp',hq',n1,n2,n3,n4,u0,u1,u2,u3,w0,w1,e2,e3,p2,q2,p3,q3,c0,c1,ζ6v,hst,hw3,ixA]
   ·have hwant:wantB ms (b0 - m0) (b1 - m1) j = ⟨0,0,0⟩:=by
     unfold wantB;rw [hb,Option.getD_some,if_neg hc]
    rw [hwant] at i2;have hx2:=(hx.push ⟨encP ⟨0,0,0⟩,1,false⟩).push ⟨[.int .i32 0,.int .i32 0,.int .i32 0],1,false⟩;refine .inl ⟨_,_,?_,rfl,hx2⟩;rw [ζ2e];cases b with
    | false =>
     generalize decide (0 ≤ lastB ms j) = d at hst ⊢;cases d <;> simp -implicitDefEqProofs (disch:=omega) [hjl,i1,i2,ζ3t,hst,hw3]
    | true =>
     have hc:¬ 0 ≤ lastB ms j:=fun h => hc ⟨rfl,h⟩;rw [decide_eq_false hc] at hst;rw [decide_eq_false hc];simp -implicitDefEqProofs (disch:=omega) [hjl,i1,i2,ζ3t,hst,hw3])
  (fun e H' ⟨he,hx⟩ => by
   subst he;refine ⟨.exit 2,_,H',?_,by simp,rfl,rfl,hx⟩;rw [ζ2e];simp -implicitDefEqProofs)
 exact ⟨_,_,H1,hr1,hx⟩
end Go.Sw
end
section
namespace Go.Sw
abbrev tyM:Nat:=235
abbrev tyS:Nat:=216
theorem alM (h:Heap):allocR Prog tyM h = newP [.map none] h:=al_eq (z:=.map none) (by kernel_rfl) h
theorem alU (h:Heap):allocR Prog tyS h = newP [] h:=al_eq (z:=.agg #[]) (by kernel_rfl) h
theorem ldM (a:Value) (h:Heap):loadR Prog tyM a h = ld1 a h:=ld1_eq (by kernel_rfl) a h
theorem stM (a v:Value) (h:Heap):storeR Prog tyM a v h = stR 1 a v h:=st_eq (by kernel_rfl) a v h
theorem stU (a v:Value) (h:Heap):storeR Prog tyS a v h = stR 0 a v h:=st_eq (by kernel_rfl) a v h
end Go.Sw
end
section
namespace Go.Sw
open Go.RowKit
def ptL (p:Pt):List (List Int):=(List.range (p.last - p.first + 1).toNat).map fun j => [p.first + (j:Nat),(p.num (p.first + (j:Nat))).getD 0]
theorem mapM_all {α β:Type} {f:α → Option β} {g:α → β}:∀ {l:List α},(∀ y,y ∈ l → f y = some (g y)) → l.mapM f = some (l.map g)
 | [],_ => rfl
 | y :: l,h => by rw [List.mapM_cons,h y (by simp),mapM_all (fun z hz => h z (by simp [hz]))]; rfl
theorem ζn8 (l:List Int) (i:Nat):(rows encI l)[i]? = (l[i]?).map (Value.int .i64):=by
 unfold rows
 induction l generalizing i with
 | nil => rfl
 | cons x l ih =>
  cases i with
  | zero => rfl
  | succ i => simpa using ih i
theorem partE_pt (p:Pt) (h:p.ok):partE p.first p.last (rows encI p.vals) = some (ptL p):=by
 obtain ⟨h1,h2,h3,h4,h5,h6⟩:=h;have hl:0 < p.vals.length:=List.length_pos_iff.2 h4;have hlen:(rows encI p.vals).length = p.vals.length:=by simpa using ζe encI_len p.vals
 unfold partE;rw [if_pos ⟨h1,by omega,by rw [hlen]; omega⟩];refine mapM_all fun j hj => ?_;have hj:=List.mem_range.1 hj;obtain ⟨x,hx⟩:∃ x,p.vals[min j (p.vals.length - 1)]? = some x:=⟨_,List.getElem?_eq_getElem (by omega)⟩
 rw [ζn8,hlen,hx];have:p.num (p.first + (j:Nat)) = some x:=by
  unfold Pt.num;rw [show (min (p.first + (j:Int) - p.first) ((p.vals.length:Int) - 1)).toNat = min j (p.vals.length - 1) by omega];exact hx
 simp [this]
theorem ζgr:∀ (ps:List Pt),(∀ p,p ∈ ps → p.ok) → partsE ps.length (rows encPt ps) = some (ps.flatMap ptL)
 | [],_ => rfl
 | p :: ps,h => by
  have h1:=partE_pt p (h p (by simp));have h2:=ζgr ps fun q hq => h q (by simp [hq]);have hlen:(rows encI p.vals).length = p.vals.length:=by simpa using ζe encI_len p.vals
  rw [ζ35,List.length_cons];show partsE (ps.length + 1) (.int .i64 p.first :: .int .i64 p.last :: lv encI p.vals :: rows encPt ps) = _;unfold lv listV;simp [partsE,h1,h2,hlen]
theorem itS_tab (x:Int × List Pt) (hok:∀ p,p ∈ x.2 → p.ok) (hl:x.2.length < 2 ^ 31) (n:Nat) (H:Heap) (hH:H.get n = some ⟨[tabV x],1,false⟩) :
  itS (.func (.func F.ζ3h) #[] #[.pointer (some ⟨n,0,none⟩)]) H = some (x.2.flatMap ptL):=by
 have h1:=ζgr x.2 hok;unfold itS itAll;unfold tabV boxV lv listV at hH;simp only [hH];simp only [Nat.beq_refl,Bool.and_true,cond_true,Array.size_empty];rw [if_pos (show x.2.length < 1152921504606846976 by omega)];exact h1
theorem ζjr (k:Nat) (x:Int × List Pt) (H:Heap):R (T k) F.ζ1v [tabV x] H = .ok (.func (.func F.ζ3h) #[] #[.pointer (some ⟨H.n,0,none⟩)]) (H.push ⟨[tabV x],1,false⟩):=by
 rw [ζaa];simp [ζ1v]
end Go.Sw
end
