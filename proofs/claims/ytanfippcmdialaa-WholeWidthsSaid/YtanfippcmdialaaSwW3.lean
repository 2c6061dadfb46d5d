/-
  Functions' forms, and what is proved of them, part 3.
-/
import Derived.Test.YtanfippcmdialaaSwW2
import Derived.Test.YtanfippcmdialaaSwW1
import Derived.Test.YtanfippcmdialaaSwCfg
import Derived.Test.YtanfippcmdialaaSwLib8
set_option linter.unusedSimpArgs false
set_option linter.unusedVariables false
set_option linter.unusedSectionVars false
section
namespace Go.Sw
open Go.RowKit
def TabAt (b:List Int) (rs:List (ByteArray × Int × Int)) (t:ByteArray) (x:List Int):Prop:=∃ i r,FoundAt rs t i ∧ rs[i]? = some r ∧ pieceS b r.2.1 r.2.2 = some x
theorem tab_run (k:Nat) {b:List Int} {rs:List (ByteArray × Int × Int)} (h:FontAt b rs) {t:ByteArray} {x:List Int} (ht:TabAt b rs t x) (H:Heap):R (T k) F.face_table [lv encB b,.string t] H = .ok (vwF x) H:=by
 obtain ⟨i,r,h1,h2,h3⟩:=ht;exact table_run k h h1 h2 h3 H
theorem find_run (k:Nat) {b:List Int} {rs:List (ByteArray × Int × Int)} (h:FontAt b rs) {t:ByteArray} {x:List Int} (ht:TabAt b rs t x) (H:Heap):R (T k) F.sfnt_Find [lv encB b,.string t] H = .ok (.tuple #[vwF x,.bool true]) H:=by
 obtain ⟨i,r,h1,h2,h3⟩:=ht;exact Find_run k h h1 h2 h3 H
theorem TabAt.byt {b:List Int} {rs:List (ByteArray × Int × Int)} (h:FontAt b rs) {t:ByteArray} {x:List Int} (ht:TabAt b rs t x):Byt x ∧ x.length < 2 ^ 30:=by
 obtain ⟨i,r,_,_,h3⟩:=ht;refine ⟨(h.byt.piece h3).1,?_⟩;obtain ⟨⟨h1,h2,h3,h4⟩,rfl⟩:=pieceS_iff.1 h3;have:=h.len;simp;omega
structure FaceAt (b:List Int) (g em m:Int):Prop where
 font:∃ rs,FontAt b rs ∧ (∃ M,TabAt b rs wMaxp M ∧ uS M 0 4 = some 65536 ∧ uS M 4 2 = some g) ∧ (∃ D,TabAt b rs wHead D ∧ (∃ D',pieceS D 0 54 = some D') ∧ uS D 12 4 = some 1594834165 ∧ uS D 18 2 = some em) ∧ (∃ E,TabAt b rs wHhea E ∧ (∃ E',pieceS E 0 36 = some E') ∧ uS E 34 2 = some m)
 bnd:1 ≤ m ∧ m ≤ g ∧ g ≤ 65535 ∧ 16 ≤ em ∧ em ≤ 16384
abbrev faceC (g em m:Int):List Value:=[.int .i64 g,.int .i64 em,.int .i64 m]
theorem Flat.faceV (g em m:Int):Flat (.agg (faceC g em m).toArray):=.aggL (.cons (.int _ _) (.cons (.int _ _) (.cons (.int _ _) .nil)))
set_option maxHeartbeats 1000000 in
theorem face_take_run (k:Nat) {b:List Int} {g em m:Int} (h:FaceAt b g em m) (H:Heap):R (T k) F.face_take [lv encB b] H = .ok (.agg (faceC g em m).toArray) H:=by
 obtain ⟨⟨rs,hf,⟨M,tM,m0,m4⟩,⟨D,tD,⟨D',d0⟩,d12,d18⟩,⟨E,tE,⟨E',e0⟩,e34⟩⟩,bnd⟩:=h;have r1:=fun H => tab_run k hf tM H;have r2:=fun H => tab_run k hf tD H;have r3:=fun H => tab_run k hf tE H;obtain ⟨bM,lM⟩:=tM.byt hf;obtain ⟨bD,lD⟩:=tD.byt hf;obtain ⟨bE,lE⟩:=tE.byt hf;have c1:=fun H => U32F k bM (by omega) m0 H;have c2:=fun H => CutF k (by omega) d0 H;have c3:=fun H => U32F k bD (by omega) d12 H;have c4:=fun H => CutF k (by omega) e0 H;have c5:=fun H => U16F k bM (by omega) m4 H;have c6:=fun H => U16F k bD (by omega) d18 H;have c7:=fun H => U16F k bE (by omega) e34 H;have nt:=fun H => Need_true k H;have g1:g ≥ 1:=by omega
 have g2:em ≥ 16:=by omega
 have g3:em ≤ 16384:=by omega
 have g4:m ≥ 1:=by omega
 have g5:m ≤ g:=by omega
 rw [face_take_R];refine nrm_gc ⟨(((((H.push ⟨faceC g em m,1,false⟩).push ⟨[lv encB M],1,false⟩).push ⟨[lv encB D],1,false⟩).push ⟨[lv encB E],1,false⟩).push ⟨faceC g em m,1,false⟩),?_,(((((Ext.refl H).push _).push _).push _).push _).push _⟩ (Flat.faceV g em m).alive;simp -implicitDefEqProofs (disch:=omega) [face_take,r1,r2,r3,c1,c2,c3,c4,c5,c6,c7,nt,g1,g2,g3,g4,g5]
theorem face_in1_run (k:Nat) {b:List Int} {g em m:Int} (h:FaceAt b g em m) {H:Heap} (p q:Nat) {old:List Value} (h1:H.get p = some ⟨[lv encB b],1,false⟩) (h2:H.get q = some ⟨old,1,false⟩) (hl:old.length = 3) :
  R (T k) F.face_Read_in1 [ptrV p,ptrV q] H = .ok (.tuple #[]) (H.set q (some ⟨faceC g em m,1,false⟩)):=by
 have ht:=fun H => face_take_run k h H
 match old,hl with
 | [x,y,z],_ =>
  rw [face_Read_in1_R];simp -implicitDefEqProofs (disch:=omega) [face_Read_in1,h1,h2,ht,nrm_no]
theorem face_Read_run (k:Nat) {b:List Int} {g em m:Int} (h:FaceAt b g em m) (H:Heap):R (T k) F.face_Read [lv encB b] H = .ok (.tuple #[.agg (faceC g em m).toArray,.int .i64 0]) H:=by
 have hin:=face_in1_run k h (H:=(H.push ⟨[lv encB b],1,false⟩).push ⟨faceC 0 0 0,1,false⟩) H.n (H.n + 1) (old:=faceC 0 0 0) (by simp) (by simp) rfl;have ht:=Try_ok k F.face_Read_in1 #[ptrV H.n,ptrV (H.n + 1)] hin;simp at ht;have fl:Flat (.tuple #[.agg (faceC g em m).toArray,.int .i64 0]):=.tupleL (l:=[.agg (faceC g em m).toArray,.int .i64 0]) (.cons (Flat.faceV g em m) (.cons (.int _ _) .nil));rw [face_Read_R];refine nrm_gc ⟨(H.push ⟨[lv encB b],1,false⟩).push ⟨faceC g em m,1,false⟩,?_,((Ext.refl H).push _).push _⟩ fl.alive;simp -implicitDefEqProofs (disch:=omega) [face_Read,ht]
theorem width_in1_run (k:Nat) {X W:List Int} {g em m:Int} (hX:X.length < 2 ^ 30) (hb:1 ≤ m ∧ m ≤ g ∧ g ≤ 65535) (hW:pieceS X 0 (4 * m + 2 * (g - m)) = some W) {H:Heap} (p q:Nat) (h1:H.get p = some ⟨[lv encB X],1,false⟩) (h2:H.get q = some ⟨faceC g em m,1,false⟩) (hpq:p ≠ q) :
  R (T k) F.width_Read_in1 [ptrV p,ptrV q] H = .ok (.tuple #[]) (H.set p (some ⟨[lv encB W],1,false⟩)):=by
 have c1:=fun H => CutF k (by omega) hW H;have lW:W.length ≤ 2 ^ 30:=by obtain ⟨_,rfl⟩:=pieceS_iff.1 hW; simp; omega
 have c2:=fun H => Bytes_run k (Sl.lv H 1 W) lW;have c3:=fun H => Of_lvF k W H;rw [width_Read_in1_R];simp -implicitDefEqProofs (disch:=omega) [width_Read_in1,h1,h2,c1,c2,c3,nrm_no]
abbrev widV (g em m:Int) (W:List Int):Value:=boxV #[.int .i64 g,.int .i64 em,.int .i64 m,lv encB W]
set_option maxHeartbeats 1000000 in
theorem width_Read_run (k:Nat) {b X W:List Int} {g em m:Int} (h:FaceAt b g em m) {rs:List (ByteArray × Int × Int)} (hf:FontAt b rs) (ht:TabAt b rs wHmtx X) (hW:pieceS X 0 (4 * m + 2 * (g - m)) = some W) (H:Heap) :
  R (T k) F.width_Read [lv encB b] H = .ok (.tuple #[widV g em m W,.int .i64 0]) H:=by
 have hfa:=fun H => face_Read_run k h H;have hfi:=fun H => find_run k hf ht H;obtain ⟨bX,lX⟩:=ht.byt hf;have hin:=width_in1_run k lX ⟨h.bnd.1,h.bnd.2.1,h.bnd.2.2.1⟩ hW (H:=(H.push ⟨faceC g em m,1,false⟩).push ⟨[lv encB X],1,false⟩) (em:=em) (H.n + 1) H.n (by simp) (by simp) (by omega);have htr:=Try_ok k F.width_Read_in1 #[ptrV (H.n + 1),ptrV H.n] hin;simp at htr;have fl:Flat (.tuple #[widV g em m W,.int .i64 0]):=.tupleL (l:=[widV g em m W,.int .i64 0]) (.cons (Flat.boxV (l:=[.int .i64 g,.int .i64 em,.int .i64 m,lv encB W]) (.cons (.int _ _) (.cons (.int _ _) (.cons (.int _ _) (.cons (Flat.B _) .nil))))) (.cons (.int _ _) .nil));rw [width_Read_R];refine nrm_fz (v:=.tuple #[ptrV (H.n + 2),.int .i64 0]) (H':=((H.push ⟨faceC g em m,1,false⟩).push ⟨[lv encB W],1,false⟩).push ⟨[.int .i64 g,.int .i64 em,.int .i64 m,lv encB W],1,false⟩) (L:=[H.n + 2]) ?_ ?_ ((((Ext.refl H).push _).push _).push _) fl.alive
 ·simp -implicitDefEqProofs (disch:=omega) [width_Read,hfa,hfi,htr]
 ·exact fz_tuple (l:=[ptrV (H.n + 2),.int .i64 0]) (mapF_cons (L1:=[H.n + 2]) (fz_box (by omega) (get_push_eq _ _ _ (by simp)) (mapF_cons (v:=.int .i64 g) (u:=.int .i64 g) (L1:=[]) rfl (mapF_cons (v:=.int .i64 em) (u:=.int .i64 em) (L1:=[]) rfl (mapF_cons (v:=.int .i64 m) (u:=.int .i64 m) (L1:=[]) rfl (mapF_one (v:=lv encB W) (u:=lv encB W) (L:=[]) rfl))))) (mapF_one (v:=.int .i64 0) (u:=.int .i64 0) (L:=[]) rfl))
theorem widFace_run (k:Nat) (g em m:Int) (W:List Int) (H:Heap):R (T k) F.width_Width_Face [widV g em m W] H = .ok (.agg (faceC g em m).toArray) H:=by
 rw [width_Width_Face_R];refine nrm_gc ⟨H.push ⟨faceC g em m,1,false⟩,?_,(Ext.refl H).push _⟩ (Flat.faceV g em m).alive;simp -implicitDefEqProofs (disch:=omega) [width_Width_Face]
theorem Advance_run (k:Nat) {g em m:Int} {W:List Int} (hb:Byt W) (lW:W.length < 2 ^ 30) (hm:1 ≤ m ∧ m ≤ g ∧ g ≤ 65535) {i x:Int} (hi:0 ≤ i ∧ i < m) (hx:uS W (4 * i) 2 = some x) (H:Heap):R (T k) F.width_Width_Advance [widV g em m W,.int .i64 i] H = .ok (.int .i64 x) H:=by
 have c1:=fun H => U16F k hb (by omega) hx H;have h1:¬ i < 0:=by omega
 have h2:¬ i ≥ g:=by omega
 have h3:(if m - 1 < i then m - 1 else i) = i:=by omega
 rw [width_Width_Advance_R];refine nrm_gc ⟨H,?_,Ext.refl H⟩ (.int _ _);simp -implicitDefEqProofs (disch:=omega) [width_Width_Advance,h1,h2,h3,c1]
end Go.Sw
end
section
namespace Go.Sw
open Go.RowKit
theorem insertion_star (k:Nat) {H0 H:Heap} {L:List It} {i:Nat} {o:Option Nat} {s:Value} {l:List (ByteArray × List Int)} (hi:L[i]? = some (itRow o 2 s encPart l)) (g:Star H0 H L) (hl:l.length < 2 ^ 30) (hpos:0 < l.length) :
  ∃ H',R (T k) F.slices_insertionSortCmpFunc_of_sfnt_Part [s,.int .i64 0,.int .i64 l.length,cmpV] H = .ok (.tuple #[]) H' ∧ Star H0 H' (L.set i (itRow o 2 s encPart (sortW l (l.length - 1)))):=by
 have hlt:=(List.getElem?_eq_some_iff.1 hi).1;have same:L.set i (itRow o 2 s encPart l) = L:=by
  obtain ⟨hlt,hx⟩:=List.getElem?_eq_some_iff.1 hi;rw [← hx,List.set_getElem_self]
 obtain ⟨xx,e',H1,hr1,rfl,⟨z,rfl⟩,g⟩:=loop_up (body:=slices_insertionSortCmpFunc_of_sfnt_Part_l1 k (R (T k))) (l.length - 1)
  (fun j e H' => e = [(0,s),(1,.int .i64 0),(2,.int .i64 l.length),(3,cmpV),(8,.int .i64 ((j:Int) + 1))] ∧ Star H0 H' (L.set i (itRow o 2 s encPart (sortW l j))))
  (fun xx e H' => xx = .exit 0 ∧ (∃ z,e = [(0,s),(1,.int .i64 0),(2,.int .i64 l.length),(3,cmpV),(8,z),(14,.bool false)]) ∧ Star H0 H' (L.set i (itRow o 2 s encPart (sortW l (l.length - 1)))))
  (e0:=[(0,s),(1,.int .i64 0),(2,.int .i64 l.length),(3,cmpV),(8,.int .i64 1)]) (H0:=H) ⟨rfl,by show Star H0 H (L.set i (itRow o 2 s encPart l)); rw [same]; exact g⟩ (by omega)
  (fun j e H' hj ⟨he,g⟩ => by
   subst he;have hself:(L.set i (itRow o 2 s encPart (sortW l j)))[i]? = some (itRow o 2 s encPart (sortW l j)):=List.getElem?_set_self hlt;have hjl:(j:Int) + 1 < l.length:=by omega
   obtain ⟨z,w,H2,e2,g2⟩:=insert_l2 k hself g (j + 1) (by rw [sortW_len]; omega) (by rw [sortW_len]; exact hl) (.int .i64 l.length) (.int .i64 ((j:Int) + 1));rw [List.set_set] at g2;have hcast:((j + 1:Nat):Int) = (j:Int) + 1:=rfl;rw [hcast] at e2;refine .inl ⟨_,H2,?_,rfl,g2⟩;rw [slices_insertionSortCmpFunc_of_sfnt_Part_l1_eq,hcast];simp -implicitDefEqProofs (disch:=omega) [hjl,e2,slices_insertionSortCmpFunc_of_sfnt_Part_l2k_x2])
  (fun e H' ⟨he,g⟩ => by
   subst he;have hjl:¬ ((l.length - 1:Nat):Int) + 1 < l.length:=by omega
   refine ⟨.exit 0,_,H',?_,by simp,rfl,⟨.int .i64 (((l.length - 1:Nat):Int) + 1),rfl⟩,g⟩;rw [slices_insertionSortCmpFunc_of_sfnt_Part_l1_eq];simp -implicitDefEqProofs (disch:=omega) [hjl])
 refine ⟨H1,?_,g⟩;rw [slices_insertionSortCmpFunc_of_sfnt_Part_R];simp -implicitDefEqProofs (disch:=omega) [slices_insertionSortCmpFunc_of_sfnt_Part,hr1,slices_insertionSortCmpFunc_of_sfnt_Part_l1k_x0,nrm_no]
theorem sort_star (k:Nat) {H0 H:Heap} {L:List It} {i:Nat} {o:Option Nat} {s:Value} {l:List (ByteArray × List Int)} (hi:L[i]? = some (itRow o 2 s encPart l)) (g:Star H0 H L) (hl:l.length < 20) (hpos:0 < l.length) :
  ∃ H',R (T k) F.slices_SortStableFunc_of_sfnt_Part_sfnt_Part [s,cmpV] H = .ok (.tuple #[]) H' ∧ Star H0 H' (L.set i (itRow o 2 s encPart (sortW l (l.length - 1)))):=by
 have hln:∀ H',lnS s H' = .ok (.int .i64 l.length) H':=(g.row i hi).len;obtain ⟨H2,e2,g2⟩:=insertion_star k hi g (by omega) hpos;have h20:¬ (20:Int) ≤ l.length:=by omega
 have h20':¬ (20:Int) < l.length:=by omega
 obtain ⟨xx,e',H1,hr1,rfl,rfl,rfl⟩:=loop_up (body:=slices_stableCmpFunc_of_sfnt_Part_l1 k (R (T k))) 0
  (fun _ e H' => H' = H ∧ e = [(0,s),(1,.int .i64 l.length),(2,cmpV),(6,.int .i64 20),(7,.int .i64 0),(8,.int .i64 20)])
  (fun xx e H' => H' = H ∧ xx = .exit 0 ∧ e = [(0,s),(1,.int .i64 l.length),(2,cmpV),(6,.int .i64 20),(7,.int .i64 0),(8,.int .i64 20),(13,.bool false)])
  (e0:=[(0,s),(1,.int .i64 l.length),(2,cmpV),(6,.int .i64 20),(7,.int .i64 0),(8,.int .i64 20)]) (H0:=H) ⟨rfl,rfl⟩ (by omega) (fun j _ _ hj _ => by omega)
  (fun e H' ⟨hH,he⟩ => by
   subst hH he;refine ⟨.exit 0,_,_,?_,by simp,rfl,rfl,rfl⟩;rw [slices_stableCmpFunc_of_sfnt_Part_l1_eq];simp -implicitDefEqProofs (disch:=omega) [h20])
 obtain ⟨xx,e',H3,hr3,rfl,rfl,rfl⟩:=loop_up (body:=slices_stableCmpFunc_of_sfnt_Part_l2 k (R (T k))) 0
  (fun _ e H' => H' = H2 ∧ e = [(0,s),(1,.int .i64 l.length),(2,cmpV),(6,.int .i64 20)])
  (fun xx e H' => H' = H2 ∧ xx = .exit 2 ∧ e = [(0,s),(1,.int .i64 l.length),(2,cmpV),(6,.int .i64 20),(30,.bool false)])
  (e0:=[(0,s),(1,.int .i64 l.length),(2,cmpV),(6,.int .i64 20)]) (H0:=H2) ⟨rfl,rfl⟩ (by omega) (fun j _ _ hj _ => by omega)
  (fun e H' ⟨hH,he⟩ => by
   subst hH he;refine ⟨.exit 2,_,_,?_,by simp,rfl,rfl,rfl⟩;rw [slices_stableCmpFunc_of_sfnt_Part_l2_eq];simp -implicitDefEqProofs (disch:=omega) [h20'])
 have hst:R (T k) F.slices_stableCmpFunc_of_sfnt_Part [s,.int .i64 l.length,cmpV] H1 = .ok (.tuple #[]) H3:=by
  rw [slices_stableCmpFunc_of_sfnt_Part_R];simp -implicitDefEqProofs (disch:=omega) [slices_stableCmpFunc_of_sfnt_Part,hr1,slices_stableCmpFunc_of_sfnt_Part_l1k_x0,e2,hr3,slices_stableCmpFunc_of_sfnt_Part_l2k_x2,nrm_no]
 refine ⟨H3,?_,g2⟩;rw [slices_SortStableFunc_of_sfnt_Part_sfnt_Part_R];simp -implicitDefEqProofs (disch:=omega) [slices_SortStableFunc_of_sfnt_Part_sfnt_Part,hln,hst,nrm_no]
end Go.Sw
end
section
namespace Go.Sw
open Go.RowKit
def tagB (t:ByteArray):List Int:=t.data.toList.map fun b => (b.toNat:Int)
theorem tagB_len (t:ByteArray):(tagB t).length = t.size:=by
 unfold tagB;simp
theorem tagB_byt (t:ByteArray):Byt (tagB t):=fun n hn => by
 unfold tagB at hn;obtain ⟨b,_,rfl⟩:=List.mem_map.1 hn;have:=b.toNat_lt;omega
theorem tag_first (t:ByteArray) (H:Heap):firstV 1 (tagB t).length (.string t) H = some (rows encB (tagB t)):=by
 have he:(t.extract 0 t.size) = t:=by simp
 unfold firstV;rw [tagB_len];simp only [BEq.rfl,if_true,he];unfold tagB rows;congr 1
 induction t.data.toList with
 | nil => rfl
 | cons b l ih => simpa using ih
def padN (n:Nat):Nat:=(n + 3) / 4 * 4
def atJ (l:List (ByteArray × List Int)) (a:Nat):Nat → Nat
 | 0 => a
 | j + 1 => atJ l a j + padN ((l[j]?).elim 0 fun x => x.2.length)
def rowM (x:ByteArray × List Int) (a:Nat):List Int:=tagB x.1 ++ bytesOf (sumS x.2) 4 ++ bytesOf a 4 ++ bytesOf x.2.length 4
def rowsJ (l:List (ByteArray × List Int)) (a:Nat):Nat → List Int
 | 0 => []
 | j + 1 => rowsJ l a j ++ (l[j]?).elim [] fun x => rowM x (atJ l a j)
def padB (b:List Int):List Int:=b ++ List.replicate (padN b.length - b.length) 0
def dataJ (l:List (ByteArray × List Int)):Nat → List Int
 | 0 => []
 | j + 1 => dataJ l j ++ (l[j]?).elim [] fun x => padB x.2
def headM (n near most:Int):List Int:=bytesOf 65536 4 ++ bytesOf n 2 ++ bytesOf near 2 ++ bytesOf most 2 ++ bytesOf (16 * n - near) 2
def makeB (l:List (ByteArray × List Int)) (near most:Int):List Int:=headM l.length near most ++ rowsJ l (12 + 16 * l.length) l.length ++ dataJ l l.length
theorem padB_len (b:List Int):(padB b).length = padN b.length:=by
 unfold padB padN;simp;omega
theorem headM_len (n near most:Int):(headM n near most).length = 12:=by simp [headM]
theorem rowM_len (x:ByteArray × List Int) (a:Nat) (h:x.1.size = 4):(rowM x a).length = 16:=by simp [rowM,tagB_len,h]
theorem rowsJ_len {l:List (ByteArray × List Int)} (h:∀ x,x ∈ l → x.1.size = 4) (a:Nat):∀ j,j ≤ l.length → (rowsJ l a j).length = 16 * j
 | 0,_ => rfl
 | j + 1,hj => by
  obtain ⟨x,hx⟩:∃ x,l[j]? = some x:=⟨_,List.getElem?_eq_getElem (by omega)⟩
  unfold rowsJ;rw [hx,List.length_append,rowsJ_len h a j (by omega)];have:=rowM_len x (atJ l a j) (h x (List.mem_of_getElem? hx));simp only [Option.elim_some,this];omega
theorem dataJ_mod (l:List (ByteArray × List Int)):∀ j,(dataJ l j).length % 4 = 0
 | 0 => rfl
 | j + 1 => by
  have ih:=dataJ_mod l j;unfold dataJ;rw [List.length_append];cases l[j]? with
  | none => simpa using ih
  | some x => simp only [Option.elim_some,padB_len,padN]; omega
theorem dataJ_le {l:List (ByteArray × List Int)} {N:Nat} (h:∀ x,x ∈ l → x.2.length ≤ N):∀ j,(dataJ l j).length ≤ j * (N + 4)
 | 0 => Nat.zero_le _
 | j + 1 => by
  have ih:=dataJ_le h j;unfold dataJ;rw [List.length_append,Nat.succ_mul];cases hx:l[j]? with
  | none => simp; omega
  | some x =>
   have:=h x (List.mem_of_getElem? hx);simp only [Option.elim_some,padB_len,padN];omega
theorem atJ_le {l:List (ByteArray × List Int)} {N:Nat} (h:∀ x,x ∈ l → x.2.length ≤ N) (a:Nat):∀ j,atJ l a j ≤ a + j * (N + 4)
 | 0 => by simp [atJ]
 | j + 1 => by
  have ih:=atJ_le h a j;unfold atJ;rw [Nat.succ_mul];cases hx:l[j]? with
  | none => simp [padN]; omega
  | some x =>
   have:=h x (List.mem_of_getElem? hx);simp only [Option.elim_some,padN];omega
theorem make_l1 (k:Nat) {H0 H:Heap} {s:Value} {o:Option Nat} {l:List (ByteArray × List Int)} (g:Star H0 H [itRow o 2 s encPart l]) (hl:l.length < 20) (ht:∀ x,x ∈ l → x.1.size = 4) (hd:∀ (j:Nat) x y,l[j]? = some x → l[j + 1]? = some y → (x.1 == y.1) = false) :
  ∃ z H',loopN (sfnt_Make_l1 k (R (T k))) loopFuel [(0,s),(18,s),(19,.int .i64 l.length),(20,.int .i64 0)] H = .ok (.exit 0,[(0,s),(18,s),(19,.int .i64 l.length),(20,z),(21,.bool false)]) H' ∧ Star H0 H' [itRow o 2 s encPart l]:=by
 obtain ⟨xx,e',H1,hr1,rfl,rfl,g⟩:=loop_up (body:=sfnt_Make_l1 k (R (T k))) l.length
  (fun j e H' => e = [(0,s),(18,s),(19,.int .i64 l.length),(20,.int .i64 j)] ∧ Star H0 H' [itRow o 2 s encPart l])
  (fun xx e H' => xx = .exit 0 ∧ e = [(0,s),(18,s),(19,.int .i64 l.length),(20,.int .i64 l.length),(21,.bool false)] ∧ Star H0 H' [itRow o 2 s encPart l])
  (e0:=[(0,s),(18,s),(19,.int .i64 l.length),(20,.int .i64 0)]) (H0:=H) ⟨rfl,g⟩ (by omega)
  (fun j e H' hj ⟨he,g⟩ => by
   subst he;have hjl:(j:Int) < l.length:=by omega
   obtain ⟨x,hx⟩:∃ x,l[j]? = some x:=⟨_,List.getElem?_eq_getElem hj⟩
   have hsz:=ht x (List.mem_of_getElem? hx);have hls:∀ h,lnStr (.string x.1) h = .ok (.int .i64 4) h:=fun h => by unfold lnStr; dsimp only; rw [hsz]; rfl
   obtain ⟨c,hc,hgc,ix⟩:=g.ix 0 rfl .i64 j (by omega);have ld:=ldA_row encPart_len hgc hx;have gp:=g.push ⟨encPart x,1,false⟩;have hcn:¬ c = H'.n:=by have:=Heap.get_lt hgc; omega
   have g2:=gp.take 1;simp only [List.cons_append,List.nil_append,List.take_succ_cons,List.take_zero] at g2;cases j with
   | zero =>
    have h00:((0:Nat):Int) = 0:=rfl;rw [h00] at hjl ix ⊢;have hpos:0 < l.length:=hj;refine .inl ⟨_,H'.push ⟨encPart x,1,false⟩,?_,rfl,g2⟩;rw [sfnt_Make_l1_eq];simp -implicitDefEqProofs (disch:=omega) [-ldA_ptr,ldA_ptr 2 H'.n,hpos,hjl,ix,ld,hls]
   | succ j =>
    obtain ⟨y,hy⟩:∃ y,l[j]? = some y:=⟨_,List.getElem?_eq_getElem (by omega)⟩
    have hne:=hd j y x hy hx;obtain ⟨c',hc',_,ixB⟩:=gp.ix 0 rfl .i64 j (by omega);have:c' = c:=by rw [hc] at hc'; exact (Option.some.inj hc').symm
    subst this;have hgc2:=gp.ext;have hg2:(H'.push ⟨encPart x,1,false⟩).get c' = some ⟨rows encPart l,2,false⟩:=by rw [get_push_ne _ _ _ hcn]; exact hgc
    have l1:=ld1_row encPart_len hg2 (i:=j) (c:=0) (v:=.string y.1) hy (by decide) rfl;simp only [Nat.add_zero] at l1;have hcast:((j + 1:Nat):Int) = (j:Int) + 1:=rfl;rw [hcast] at hjl ix ⊢;have hgt:(j:Int) + 1 > 0:=by omega
    have hsub:(j:Int) + 1 - 1 = j:=by omega
    have heq:∀ h,binR Prog .eql 9 (.string y.1) (.string x.1) h = .ok (.bool false) h:=fun h => by rw [← hne]; rfl
    refine .inl ⟨_,H'.push ⟨encPart x,1,false⟩,?_,rfl,g2⟩;rw [sfnt_Make_l1_eq];simp -implicitDefEqProofs (disch:=omega) [-ldA_ptr,ldA_ptr 2 H'.n,-ld1_ptr,ld1_ptr H'.n,hjl,ix,ld,hls,hgt,hsub,ixB,l1,heq])
  (fun e H' ⟨he,g⟩ => by
   subst he;refine ⟨.exit 0,_,H',?_,by simp,rfl,rfl,g⟩;rw [sfnt_Make_l1_eq];simp -implicitDefEqProofs)
 exact ⟨_,H1,hr1,g⟩
end Go.Sw
end
section
namespace Go.Sw
open Go.RowKit
theorem make_l2 (k:Nat) {H0 H:Heap} {s v:Value} {o ob:Option Nat} {l:List (ByteArray × List Int)} {hb:List Int} (g:Star H0 H [itRow o 2 s encPart l,itRow ob 1 v encB hb]) (hl:l.length < 20) (ht:∀ x,x ∈ l → x.1.size = 4) (hN:∀ x,x ∈ l → x.2.length ≤ 10000) (a:Nat) (ha:a ≤ 10000) (hhb:hb.length ≤ 10000) :
  ∃ v' ob' zz H',loopN (sfnt_Make_l2 k (R (T k))) loopFuel [(0,s),(8,v),(9,.int .i64 a),(74,s),(75,.int .i64 l.length),(76,.int .i64 0)] H = .ok (.exit 2,[(0,s),(8,v'),(9,.int .i64 (atJ l a l.length)),(74,s),(75,.int .i64 l.length),(76,zz),(77,.bool false)]) H' ∧ Star H0 H' [itRow o 2 s encPart l,itRow ob' 1 v' encB (hb ++ rowsJ l a l.length)]:=by
 obtain ⟨xx,e',H1,hr1,rfl,v',ob',rfl,g⟩:=loop_up (body:=sfnt_Make_l2 k (R (T k))) l.length
  (fun j e H' => ∃ v' ob',e = [(0,s),(8,v'),(9,.int .i64 (atJ l a j)),(74,s),(75,.int .i64 l.length),(76,.int .i64 j)] ∧ Star H0 H' [itRow o 2 s encPart l,itRow ob' 1 v' encB (hb ++ rowsJ l a j)])
  (fun xx e H' => xx = .exit 2 ∧ ∃ v' ob',e = [(0,s),(8,v'),(9,.int .i64 (atJ l a l.length)),(74,s),(75,.int .i64 l.length),(76,.int .i64 l.length),(77,.bool false)] ∧ Star H0 H' [itRow o 2 s encPart l,itRow ob' 1 v' encB (hb ++ rowsJ l a l.length)])
  (e0:=[(0,s),(8,v),(9,.int .i64 a),(74,s),(75,.int .i64 l.length),(76,.int .i64 0)]) (H0:=H) ⟨v,ob,rfl,by simpa [rowsJ] using g⟩ (by omega)
  (fun j e H' hj ⟨v',ob',he,g⟩ => by
   subst he;have hjl:(j:Int) < l.length:=by omega
   obtain ⟨x,hx⟩:∃ x,l[j]? = some x:=⟨_,List.getElem?_eq_getElem hj⟩
   have hmem:=List.mem_of_getElem? hx;have hsz:=ht x hmem;have hxl:=hN x hmem;have hrl:=rowsJ_len ht a j (by omega);have hat:=atJ_le hN a j;have hat2:j * (10000 + 4) ≤ 20 * 10004:=Nat.mul_le_mul (by omega) (by omega);have hrow:rowsJ l a (j + 1) = rowsJ l a j ++ rowM x (atJ l a j):=by
    show rowsJ l a j ++ (l[j]?).elim [] _ = _;rw [hx]; rfl
   have hatn:atJ l a (j + 1) = atJ l a j + padN x.2.length:=by
    show atJ l a j + padN ((l[j]?).elim 0 _) = _;rw [hx]; rfl
   obtain ⟨c,hc,hgc,ix⟩:=g.ix 0 rfl .i64 j (by omega);have ld:=ldA_row encPart_len hgc hx;have g:=g.push ⟨encPart x,1,false⟩;simp only [List.cons_append,List.nil_append] at g;have p0:=g.get 2 rfl;have tl4:(tagB x.1).length = 4:=by rw [tagB_len,hsz]
   obtain ⟨v1,o1,H1,e1,g⟩:=g.append (bytes:=1) 1 encB_len rfl (b:=.string x.1) (l2:=tagB x.1) (by rw [tagB_len]; rfl) (tag_first x.1 _) (by rw [List.length_append,hrl,tl4]; omega) (by decide);simp only [List.set_cons_zero,List.set_cons_succ] at g;have p1:=g.get 2 rfl;have hsum:=fun H => sfntSum_run k x.2 (by omega) H;obtain ⟨v2,o2,H2,e2,g⟩:=sfntPut_star k g 1 rfl (sumS x.2) 4 4 rfl (by omega) (by simp only [List.length_append,hrl,tl4]; omega);simp only [List.set_cons_zero,List.set_cons_succ] at g;have p2:=g.get 2 rfl;obtain ⟨v3,o3,H3,e3,g⟩:=sfntPut_star k g 1 rfl (atJ l a j:Nat) 4 4 rfl (by omega) (by simp only [List.length_append,hrl,tl4,bytesOf_len]; omega);simp only [List.set_cons_zero,List.set_cons_succ] at g;have p3:=g.get 2 rfl;obtain ⟨v4,o4,H4,e4,g⟩:=sfntPut_star k g 1 rfl (x.2.length:Nat) 4 4 rfl (by omega) (by simp only [List.length_append,hrl,tl4,bytesOf_len]; omega);simp only [List.set_cons_zero,List.set_cons_succ] at g;have p4:=g.get 2 rfl;have g2:=g.take 2;simp only [List.take_succ_cons,List.take_zero] at g2;have hfin:hb ++ rowsJ l a j ++ tagB x.1 ++ bytesOf (sumS x.2) 4 ++ bytesOf ((atJ l a j:Nat):Int) 4 ++ bytesOf ((x.2.length:Nat):Int) 4 = hb ++ rowsJ l a (j + 1):=by
    rw [hrow];unfold rowM;simp only [List.append_assoc]
   rw [hfin] at g2;have hq:=fun H => bin_quo Prog 3 H .i64 ((x.2.length:Int) + 3) 4 (by decide);rw [Int.tdiv_eq_ediv_of_nonneg (by omega)] at hq;obtain ⟨w,hw,hwb⟩:∃ w:Int,w = ((x.2.length:Int) + 3) / 4 ∧ 0 ≤ w ∧ w ≤ 10003:=⟨_,rfl,by omega,by omega⟩
   have hpad:((padN x.2.length:Nat):Int) = w * 4:=by unfold padN; omega
   rw [← hw] at hq;refine .inl ⟨_,H4,?_,v4,o4,rfl,g2⟩;rw [sfnt_Make_l2_eq,hatn];have hcast:((atJ l a j + padN x.2.length:Nat):Int) = ((atJ l a j:Nat):Int) + w * 4:=by rw [← hpad]; omega
   rw [hcast];generalize atJ l a j = aj at *;have hq0:¬ c = H'.n:=by have:=Heap.get_lt hgc; omega
   simp -implicitDefEqProofs (disch:=omega) [-ldA_ptr,ldA_ptr 2 H'.n,hjl,ix,ld,p0,e1,hsum,p1,e2,p2,e3,p3,e4,p4,hq])
  (fun e H' ⟨v',ob',he,g⟩ => by
   subst he;refine ⟨.exit 2,_,H',?_,by simp,rfl,v',ob',rfl,g⟩;rw [sfnt_Make_l2_eq];simp -implicitDefEqProofs)
 exact ⟨v',ob',_,H1,hr1,g⟩
theorem make_l4 (k:Nat) {H0 H:Heap} {s v:Value} {o ob:Option Nat} {l:List (ByteArray × List Int)} {hb:List Int} (g:Star H0 H [itRow o 2 s encPart l,itRow ob 1 v encB hb]) (hhb:hb.length ≤ 2 ^ 29) (a105 a106:Value) (p:Nat) (hp:(hb.length + p) % 4 = 0) (hp4:p < 4) :
  ∃ v' ob' zz H',loopN (sfnt_Make_l4 k (R (T k))) loopFuel [(8,v),(104,s),(105,a105),(106,a106)] H = .ok (.exit 6,[(8,v'),(104,s),(105,a105),(106,a106),(117,zz)]) H' ∧ Star H0 H' [itRow o 2 s encPart l,itRow ob' 1 v' encB (hb ++ List.replicate p 0)]:=by
 obtain ⟨xx,e',H1,hr1,rfl,v',ob',zz,rfl,g⟩:=loopDec (body:=sfnt_Make_l4 k (R (T k)))
  (fun m e H' => ∃ v' ob' b',e = [(8,v'),(104,s),(105,a105),(106,a106)] ∧ Star H0 H' [itRow o 2 s encPart l,itRow ob' 1 v' encB b'] ∧ b' ++ List.replicate m 0 = hb ++ List.replicate p 0 ∧ m ≤ p)
  (fun xx e H' => xx = .exit 6 ∧ ∃ v' ob' zz,e = [(8,v'),(104,s),(105,a105),(106,a106),(117,zz)] ∧ Star H0 H' [itRow o 2 s encPart l,itRow ob' 1 v' encB (hb ++ List.replicate p 0)])
  p (e0:=[(8,v),(104,s),(105,a105),(106,a106)]) (H0:=H) ⟨v,ob,hb,rfl,g,rfl,Nat.le_refl _⟩ (by omega)
  (fun m e H' ⟨v',ob',b',he,g,hb',hm⟩ => by
   subst he;have hlen:b'.length + m = hb.length + p:=by
    have:=congrArg List.length hb';simpa using this
   have hln:∀ H',lnS v' H' = .ok (.int .i64 b'.length) H':=(g.row 1 rfl).len;have hrem:=fun H => bin_rem Prog 3 H .i64 (b'.length:Int) 4 (by decide);rw [Int.tmod_eq_emod_of_nonneg (by omega)] at hrem;cases m with
   | zero =>
    have hz:¬ (b'.length:Int) % 4 > 0:=by omega
    rw [List.replicate_zero,List.append_nil] at hb';rw [hb'] at g;refine .inr ⟨.exit 6,_,H',?_,by simp,rfl,v',ob',.bool false,rfl,g⟩;rw [sfnt_Make_l4_eq];simp -implicitDefEqProofs (disch:=omega) [hln,hrem,hz]
   | succ m =>
    have hz:(b'.length:Int) % 4 > 0:=by omega
    obtain ⟨v2,o2,H2,e2,g2⟩:=g.append1 (bytes:=1) 1 encB_len rfl 0 (by omega) (by decide);simp only [List.set_cons_zero,List.set_cons_succ] at g2;refine .inl ⟨m,_,H2,?_,by omega,v2,o2,_,rfl,g2,by rw [← hb',List.append_assoc,List.replicate_succ]; rfl,by omega⟩;rw [sfnt_Make_l4_eq];simp -implicitDefEqProofs (disch:=omega) [hln,hrem,hz,e2])
 exact ⟨v',ob',zz,H1,hr1,g⟩
theorem make_l3 (k:Nat) {H0 H:Heap} {s v:Value} {o ob:Option Nat} {l:List (ByteArray × List Int)} {hb:List Int} (g:Star H0 H [itRow o 2 s encPart l,itRow ob 1 v encB hb]) (hl:l.length < 20) (hN:∀ x,x ∈ l → x.2.length ≤ 10000) (hhb:hb.length ≤ 20000) (hh4:hb.length % 4 = 0) :
  ∃ v' ob' zz H',loopN (sfnt_Make_l3 k (R (T k))) loopFuel [(8,v),(104,s),(105,.int .i64 l.length),(106,.int .i64 0)] H = .ok (.exit 4,[(8,v'),(104,s),(105,.int .i64 l.length),(106,zz),(107,.bool false)]) H' ∧ Star H0 H' [itRow o 2 s encPart l,itRow ob' 1 v' encB (hb ++ dataJ l l.length)]:=by
 obtain ⟨xx,e',H1,hr1,rfl,v',ob',rfl,g⟩:=loop_up (body:=sfnt_Make_l3 k (R (T k))) l.length
  (fun j e H' => ∃ v' ob',e = [(8,v'),(104,s),(105,.int .i64 l.length),(106,.int .i64 j)] ∧ Star H0 H' [itRow o 2 s encPart l,itRow ob' 1 v' encB (hb ++ dataJ l j)])
  (fun xx e H' => xx = .exit 4 ∧ ∃ v' ob',e = [(8,v'),(104,s),(105,.int .i64 l.length),(106,.int .i64 l.length),(107,.bool false)] ∧ Star H0 H' [itRow o 2 s encPart l,itRow ob' 1 v' encB (hb ++ dataJ l l.length)])
  (e0:=[(8,v),(104,s),(105,.int .i64 l.length),(106,.int .i64 0)]) (H0:=H) ⟨v,ob,rfl,by simpa [dataJ] using g⟩ (by omega)
  (fun j e H' hj ⟨v',ob',he,g⟩ => by
   subst he;have hjl:(j:Int) < l.length:=by omega
   obtain ⟨x,hx⟩:∃ x,l[j]? = some x:=⟨_,List.getElem?_eq_getElem hj⟩
   have hxl:=hN x (List.mem_of_getElem? hx);have hdl:=dataJ_le hN j;have hd2:j * (10000 + 4) ≤ 20 * 10004:=Nat.mul_le_mul (by omega) (by omega);have hd4:=dataJ_mod l j;have hdn:dataJ l (j + 1) = dataJ l j ++ padB x.2:=by
    show dataJ l j ++ (l[j]?).elim [] _ = _;rw [hx]; rfl
   obtain ⟨c,hc,hgc,ix⟩:=g.ix 0 rfl .i64 j (by omega);have ld:=ldA_row encPart_len hgc hx;have g:=g.push ⟨encPart x,1,false⟩;simp only [List.cons_append,List.nil_append] at g;have p0:=g.get 2 rfl;obtain ⟨v1,o1,H1,e1,g⟩:=g.append (bytes:=1) 1 encB_len rfl (b:=lv encB x.2) (l2:=x.2) rfl (lv_first encB_len x.2 _) (by simp only [List.length_append]; omega) (by decide);simp only [List.set_cons_zero,List.set_cons_succ] at g;have g:=g.take 2;simp only [List.take_succ_cons,List.take_zero] at g;obtain ⟨v2,o2,z2,H2,e2,g2⟩:=make_l4 k g (by simp only [List.length_append]; omega) (.int .i64 l.length) (.int .i64 j) (padN x.2.length - x.2.length) (by simp only [List.length_append]; unfold padN; omega) (by unfold padN; omega);have hfin:hb ++ dataJ l j ++ x.2 ++ List.replicate (padN x.2.length - x.2.length) 0 = hb ++ dataJ l (j + 1):=by
    rw [hdn];unfold padB;simp only [List.append_assoc]
   rw [hfin] at g2;refine .inl ⟨_,H2,?_,v2,o2,rfl,g2⟩;rw [sfnt_Make_l3_eq];simp -implicitDefEqProofs (disch:=omega) [-ldA_ptr,ldA_ptr 2 H'.n,hjl,ix,ld,p0,e1,e2,sfnt_Make_l4k_x6])
  (fun e H' ⟨v',ob',he,g⟩ => by
   subst he;refine ⟨.exit 4,_,H',?_,by simp,rfl,v',ob',rfl,g⟩;rw [sfnt_Make_l3_eq];simp -implicitDefEqProofs)
 exact ⟨v',ob',_,H1,hr1,g⟩
theorem clonePt_R (k:Nat) {v s:Value} {H H':Heap} (h:cloneV 2 40 [v] H = .ok s H'):R (T k) F.slices_Clone_of_sfnt_Part_sfnt_Part [v] H = .ok s H' :=
 (R_sp (t:=T k) (T_scott k) (s:=fun _ args H => cloneV 2 40 args H) (by kernel_rfl) [v] H).trans (by
  show nrm (mdS k F.slices_Clone_of_sfnt_Part_sfnt_Part H.n) H _ = _;rw [show mdS k F.slices_Clone_of_sfnt_Part_sfnt_Part H.n = .no from by kernel_rfl];exact nrm_of h)
theorem makeF_run (k:Nat) (l:List (ByteArray × List Int)) {near most:Int} (hn:(l.length = 1 ∧ near = 16 ∧ most = 0) ∨ (l.length = 4 ∧ near = 64 ∧ most = 2)) (ls:List (ByteArray × List Int)) (hls:sortW l (l.length - 1) = ls) (ht:∀ x,x ∈ ls → x.1.size = 4) (hd:∀ (j:Nat) x y,ls[j]? = some x → ls[j + 1]? = some y → (x.1 == y.1) = false) (hN:∀ x,x ∈ ls → x.2.length ≤ 10000) (H:Heap) :
  nrm .fz H (sfnt_Make k (R (T k)) (lv encPart l) H) = .ok (lv encB (makeB ls near most)) H:=by
 have hll:ls.length = l.length:=by rw [← hls,sortW_len]
 have hl20:l.length < 20:=by omega
 obtain ⟨s,H1,e1,ho,x1⟩:=clone_sl (bytes:=40) encPart_len (Sl.lv H 2 l (enc:=encPart)) (by omega) (by decide);obtain ⟨o,ho1,ho2⟩:=ho.toO;have g:Star H H1 ([] ++ [itRow o 2 s encPart l]):=(Star.nil H).more_row x1 ho1 fun b hb => ⟨ho2 b hb,ho1.lt b hb⟩
 simp only [List.nil_append] at g;have c1:=clonePt_R k e1;obtain ⟨H2,e2,g⟩:=sort_star k (i:=0) rfl g hl20 (by omega);simp only [List.set_cons_zero] at g;rw [hls] at g;have hln:∀ H',lnS s H' = .ok (.int .i64 ls.length) H':=(g.row 0 rfl).len;obtain ⟨z3,H3,e3,g⟩:=make_l1 k g (by omega) ht hd;have g:=g.more_row (Ext.refl _) (OwnO.nil encB _ 1) (fun b hb => by cases hb);simp only [List.cons_append,List.nil_append] at g;have hNm:ls.length = 1 ∨ ls.length = 4:=by omega
 have hLen:=fun H => Len_small k ls.length hNm H;have hmost:most = (if ls.length = 1 then (1:Int) else 3) - 1:=by rcases hn with ⟨h1,h2,h3⟩ | ⟨h1,h2,h3⟩ <;> (rw [hll,h1,h3]; rfl)
 have hgt:¬ (ls.length:Int) > 4000:=by omega
 have hw64:IntKind.u64.wrap (ls.length:Int) = ls.length:=by unfold IntKind.wrap; simp [IntKind.signed,IntKind.bits]; omega
 have hne0:((ls.length:Int) == 0) = false:=by rw [beq_eq_false_iff_ne]; omega
 have hgt0:(ls.length:Int) > 0:=by omega
 have hposn:0 < ls.length:=by omega
 have hnear:∀ H,binR Prog .shl 3 (.int .i64 16) (.int .i64 most) H = .ok (.int .i64 near) H:=fun H => by
  rcases hn with ⟨_,rfl,rfl⟩ | ⟨_,rfl,rfl⟩ <;> rfl
 have hsub1:IntKind.i64.wrap ((if ls.length = 1 then (1:Int) else 3) - 1) = most:=by rw [← hmost]; rcases hn with ⟨_,_,rfl⟩ | ⟨_,_,rfl⟩ <;> rfl
 obtain ⟨q1,r1,J1,f1,g⟩:=sfntPut_star k g 1 rfl 65536 4 4 rfl (by omega) (by simp);simp only [List.set_cons_zero,List.set_cons_succ,List.nil_append] at g;obtain ⟨q2,r2,J2,f2,g⟩:=sfntPut_star k g 1 rfl (ls.length:Nat) 2 2 rfl (by omega) (by simp);simp only [List.set_cons_zero,List.set_cons_succ] at g;obtain ⟨q3,r3,J3,f3,g⟩:=sfntPut_star k g 1 rfl near 2 2 rfl (by omega) (by simp);simp only [List.set_cons_zero,List.set_cons_succ] at g;obtain ⟨q4,r4,J4,f4,g⟩:=sfntPut_star k g 1 rfl most 2 2 rfl (by omega) (by simp);simp only [List.set_cons_zero,List.set_cons_succ] at g;obtain ⟨q5,r5,J5,f5,g⟩:=sfntPut_star k g 1 rfl (16 * (ls.length:Nat) - near) 2 2 rfl (by omega) (by simp);simp only [List.set_cons_zero,List.set_cons_succ] at g;have hnb:0 ≤ near ∧ near ≤ 64:=by rcases hn with ⟨_,rfl,_⟩ | ⟨_,rfl,_⟩ <;> omega
 obtain ⟨q6,r6,z6,J6,f6,g⟩:=make_l2 k g (by omega) ht hN (12 + 16 * ls.length) (by omega) (by simp);have hrl:=rowsJ_len ht (12 + 16 * ls.length) ls.length (Nat.le_refl _);obtain ⟨q7,r7,z7,J7,f7,g⟩:=make_l3 k g (by omega) hN (by simp only [List.length_append,hrl,bytesOf_len]; omega) (by simp only [List.length_append,hrl,bytesOf_len]; omega);have hfin:bytesOf 65536 4 ++ bytesOf (ls.length:Nat) 2 ++ bytesOf near 2 ++ bytesOf most 2 ++ bytesOf (16 * (ls.length:Nat) - near) 2 ++ rowsJ ls (12 + 16 * ls.length) ls.length ++ dataJ ls ls.length = makeB ls near most:=rfl;rw [hfin] at g;have hcast:(((12 + 16 * ls.length:Nat)):Int) = 12 + 16 * (ls.length:Int):=by omega
 rw [hcast] at f6;obtain ⟨Lk,hf⟩:=(g.own 1 rfl).freeze encB_len (fun n _ v hv => by simp at hv; subst hv; trivial) 6;refine nrm_fz (v:=q7) (H':=J7) ?_ hf g.ext (Flat.B _).alive;simp -implicitDefEqProofs (disch:=omega) [sfnt_Make,c1,e2,hln,e3,sfnt_Make_l1k_x0,hgt,hw64,hLen,hsub1,hne0,sfnt_Make_j2_eq,hgt0,hposn,hnear,sfnt_Make_j3_eq,f1,f2,f3,f4,f5,f6,sfnt_Make_l2k_x2,f7,sfnt_Make_l3k_x4]
end Go.Sw
end
section
namespace Go.Sw
open Go.RowKit
theorem seg_at (S:List (List Int)) (j:Nat) {x:List Int} (h:S[j]? = some x) {i k:Int} (hi:i = (S.take j).flatten.length) (hk:k = x.length):pieceS S.flatten i k = some x:=by
 have he:S = S.take j ++ (x :: S.drop (j + 1)):=by
  obtain ⟨hj,hx⟩:=List.getElem?_eq_some_iff.1 h;conv => lhs; rw [← List.take_append_drop j S]
  rw [List.drop_eq_getElem_cons hj,hx]
 have:S.flatten = (S.take j).flatten ++ (x ++ (S.drop (j + 1)).flatten):=by
  conv => lhs; rw [he]
  simp
 rw [this];exact pieceS_at _ _ _ _ _ hi hk
theorem seg_u (S:List (List Int)) (j:Nat) {n:Int} {z:Nat} (h:S[j]? = some (bytesOf n z)) {i k:Int} (hi:i = (S.take j).flatten.length) (hk:k = z) (h0:0 ≤ n) (h1:n < 256 ^ z):uS S.flatten i k = some n:=by
 unfold uS;rw [seg_at S j h hi (by simpa using hk),Option.map_some,num_bytesOf h0 h1]
theorem sg1:signsV (tagB wHead) = wHead:=by kernel_rfl
theorem sg2:signsV (tagB wHhea) = wHhea:=by kernel_rfl
theorem sg3:signsV (tagB wHmtx) = wHmtx:=by kernel_rfl
theorem sg4:signsV (tagB wMaxp) = wMaxp:=by kernel_rfl
theorem k11:cmpW wHead wHead = 0:=by kernel_rfl
theorem k12:cmpW wHead wHhea = -1:=by kernel_rfl
theorem k13:cmpW wHead wHmtx = -1:=by kernel_rfl
theorem k14:cmpW wHead wMaxp = -1:=by kernel_rfl
theorem k21:cmpW wHhea wHead = 1:=by kernel_rfl
theorem k22:cmpW wHhea wHhea = 0:=by kernel_rfl
theorem k23:cmpW wHhea wHmtx = -1:=by kernel_rfl
theorem k24:cmpW wHhea wMaxp = -1:=by kernel_rfl
theorem k31:cmpW wHmtx wHead = 1:=by kernel_rfl
theorem k32:cmpW wHmtx wHhea = 1:=by kernel_rfl
theorem k33:cmpW wHmtx wHmtx = 0:=by kernel_rfl
theorem k34:cmpW wHmtx wMaxp = -1:=by kernel_rfl
theorem k41:cmpW wMaxp wHead = 1:=by kernel_rfl
theorem k42:cmpW wMaxp wHhea = 1:=by kernel_rfl
theorem k43:cmpW wMaxp wHmtx = 1:=by kernel_rfl
theorem k44:cmpW wMaxp wMaxp = 0:=by kernel_rfl
theorem z1:(tagB wHead).length = 4:=by kernel_rfl
theorem z2:(tagB wHhea).length = 4:=by kernel_rfl
theorem z3:(tagB wHmtx).length = 4:=by kernel_rfl
theorem z4:(tagB wMaxp).length = 4:=by kernel_rfl
def partsF (hd hh hx mx:List Int):List (ByteArray × List Int):=[(wHead,hd),(wHhea,hh),(wHmtx,hx),(wMaxp,mx)]
theorem sort_up (hd hh hx mx:List Int):sortW [(wHmtx,hx),(wMaxp,mx),(wHead,hd),(wHhea,hh)] 3 = partsF hd hh hx mx:=by
 have h1:insW [(wHmtx,hx),(wMaxp,mx),(wHead,hd),(wHhea,hh)] 1 = [(wHmtx,hx),(wMaxp,mx),(wHead,hd),(wHhea,hh)]:=by
  simp [insW,k43]
 have h2:insW [(wHmtx,hx),(wMaxp,mx),(wHead,hd),(wHhea,hh)] 2 = [(wHead,hd),(wHmtx,hx),(wMaxp,mx),(wHhea,hh)]:=by
  simp [insW,swapW,k14,k13]
 have h3:insW [(wHead,hd),(wHmtx,hx),(wMaxp,mx),(wHhea,hh)] 3 = partsF hd hh hx mx:=by
  simp [insW,swapW,k24,k23,k21,partsF]
 show insW (insW (insW [(wHmtx,hx),(wMaxp,mx),(wHead,hd),(wHhea,hh)] 1) 2) 3 = _;rw [h1,h2,h3]
theorem sort_down (hd hh hx mx:List Int):sortW [(wHhea,hh),(wHead,hd),(wMaxp,mx),(wHmtx,hx)] 3 = partsF hd hh hx mx:=by
 have h1:insW [(wHhea,hh),(wHead,hd),(wMaxp,mx),(wHmtx,hx)] 1 = [(wHead,hd),(wHhea,hh),(wMaxp,mx),(wHmtx,hx)]:=by
  simp [insW,swapW,k12]
 have h2:insW [(wHead,hd),(wHhea,hh),(wMaxp,mx),(wHmtx,hx)] 2 = [(wHead,hd),(wHhea,hh),(wMaxp,mx),(wHmtx,hx)]:=by
  simp [insW,k42]
 have h3:insW [(wHead,hd),(wHhea,hh),(wMaxp,mx),(wHmtx,hx)] 3 = partsF hd hh hx mx:=by
  simp [insW,swapW,k34,k32,partsF]
 show insW (insW (insW [(wHhea,hh),(wHead,hd),(wMaxp,mx),(wHmtx,hx)] 1) 2) 3 = _;rw [h1,h2,h3]
theorem parts_tag (hd hh hx mx:List Int):∀ x,x ∈ partsF hd hh hx mx → x.1.size = 4:=fun x hx => by
 simp only [partsF,List.mem_cons,List.not_mem_nil,or_false] at hx;rcases hx with rfl | rfl | rfl | rfl <;> rfl
theorem d12:(wHead == wHhea) = false:=by kernel_rfl
theorem d23:(wHhea == wHmtx) = false:=by kernel_rfl
theorem d34:(wHmtx == wMaxp) = false:=by kernel_rfl
theorem parts_ne (hd hh hx mx:List Int):∀ (j:Nat) x y,(partsF hd hh hx mx)[j]? = some x → (partsF hd hh hx mx)[j + 1]? = some y → (x.1 == y.1) = false
 | 0,x,y,h1,h2 => by injection h1 with h1; injection h2 with h2; subst h1 h2; exact d12
 | 1,x,y,h1,h2 => by injection h1 with h1; injection h2 with h2; subst h1 h2; exact d23
 | 2,x,y,h1,h2 => by injection h1 with h1; injection h2 with h2; subst h1 h2; exact d34
 | 3,x,y,h1,h2 => by simp [partsF] at h2
 | j + 4,x,y,h1,h2 => by simp [partsF] at h2
def segF (hd hh hx mx:List Int) (n:Nat):List (List Int):=[bytesOf 65536 4,bytesOf 4 2,bytesOf 64 2,bytesOf 2 2,bytesOf 0 2,
 tagB wHead,bytesOf (sumS hd) 4,bytesOf 76 4,bytesOf 54 4,tagB wHhea,bytesOf (sumS hh) 4,bytesOf 132 4,bytesOf 36 4,
 tagB wHmtx,bytesOf (sumS hx) 4,bytesOf 168 4,bytesOf ((4 * n:Nat):Int) 4,tagB wMaxp,bytesOf (sumS mx) 4,bytesOf ((168 + 4 * n:Nat):Int) 4,bytesOf 6 4,
 hd,List.replicate 2 0,hh,hx,mx,List.replicate 2 0]
theorem make_seg {hd hh hx mx:List Int} {n:Nat} (h1:hd.length = 54) (h2:hh.length = 36) (h3:hx.length = 4 * n) (h4:mx.length = 6):makeB (partsF hd hh hx mx) 64 2 = (segF hd hh hx mx n).flatten:=by
 have a1:atJ (partsF hd hh hx mx) 76 1 = 132:=by
  show 76 + padN hd.length = 132;rw [h1]; rfl
 have a2:atJ (partsF hd hh hx mx) 76 2 = 168:=by
  show atJ (partsF hd hh hx mx) 76 1 + padN hh.length = 168;rw [a1,h2]; rfl
 have a3:atJ (partsF hd hh hx mx) 76 3 = 168 + 4 * n:=by
  show atJ (partsF hd hh hx mx) 76 2 + padN hx.length = 168 + 4 * n;rw [a2,h3]; unfold padN; omega
 have r:rowsJ (partsF hd hh hx mx) 76 4 = [] ++ rowM (wHead,hd) 76 ++ rowM (wHhea,hh) (atJ (partsF hd hh hx mx) 76 1) ++ rowM (wHmtx,hx) (atJ (partsF hd hh hx mx) 76 2) ++ rowM (wMaxp,mx) (atJ (partsF hd hh hx mx) 76 3):=rfl;have d:dataJ (partsF hd hh hx mx) 4 = [] ++ padB hd ++ padB hh ++ padB hx ++ padB mx:=rfl;have p1:padB hd = hd ++ List.replicate 2 0:=by unfold padB; rw [h1]; rfl
 have p2:padB hh = hh:=by unfold padB; rw [h2]; exact List.append_nil _
 have p3:padB hx = hx:=by unfold padB; rw [h3,show padN (4 * n) - 4 * n = 0 by unfold padN; omega]; exact List.append_nil _
 have p4:padB mx = mx ++ List.replicate 2 0:=by unfold padB; rw [h4]; rfl
 show headM 4 64 2 ++ rowsJ (partsF hd hh hx mx) 76 4 ++ dataJ (partsF hd hh hx mx) 4 = _;rw [r,d,a1,a2,a3,p1,p2,p3,p4];unfold rowM segF headM;rw [h1,h2,h3,h4];simp only [List.flatten_cons,List.flatten_nil,List.append_assoc,List.append_nil,List.nil_append];rfl
def tabF (n:Nat):List (ByteArray × Int × Int):=[(wHead,76,54),(wHhea,132,36),(wHmtx,168,((4 * n:Nat):Int)),(wMaxp,((168 + 4 * n:Nat):Int),6)]
theorem rep0_byt (m:Nat):Byt (List.replicate m (0:Int)):=fun x hx => by rw [List.eq_of_mem_replicate hx]; omega
theorem BytS.nil:∀ r,r ∈ ([]:List (List Int)) → Byt r:=fun r hr => by cases hr
theorem BytS.cons {a:List Int} {l:List (List Int)} (h:Byt a) (hl:∀ r,r ∈ l → Byt r):∀ r,r ∈ a :: l → Byt r:=fun r hr => by
 rcases List.mem_cons.1 hr with rfl | hr
 ·exact h
 ·exact hl r hr
theorem segF_len {hd hh hx mx:List Int} {n:Nat} (h1:hd.length = 54) (h2:hh.length = 36) (h3:hx.length = 4 * n) (h4:mx.length = 6):(segF hd hh hx mx n).flatten.length = 176 + 4 * n:=by
 simp only [segF,List.flatten_cons,List.flatten_nil,List.length_append,List.length_nil,List.length_replicate,bytesOf_len,z1,z2,z3,z4,h1,h2,h3,h4];generalize 4 * n = x;simp only [Nat.add_zero,← Nat.add_assoc,Nat.reduceAdd];omega
set_option maxHeartbeats 1000000 in
theorem font_of {hd hh hx mx:List Int} {n:Nat} (h1:hd.length = 54) (h2:hh.length = 36) (h3:hx.length = 4 * n) (h4:mx.length = 6) (hn:n ≤ 1000) (b1:Byt hd) (b2:Byt hh) (b3:Byt hx) (b4:Byt mx):FontAt (makeB (partsF hd hh hx mx) 64 2) (tabF n):=by
 rw [make_seg h1 h2 h3 h4];have hlen:=segF_len h1 h2 h3 h4;have q1:pieceS (segF hd hh hx mx n).flatten 76 54 = some hd:=seg_at _ 21 rfl (by simp [segF,z1,z2,z3,z4]) (by rw [h1]; rfl);have q2:pieceS (segF hd hh hx mx n).flatten 132 36 = some hh:=seg_at _ 23 rfl (by simp [segF,z1,z2,z3,z4,h1]) (by rw [h2]; rfl);have q3:pieceS (segF hd hh hx mx n).flatten 168 ((4 * n:Nat):Int) = some hx:=seg_at _ 24 rfl (by simp [segF,z1,z2,z3,z4,h1,h2]) (by rw [h3]);have q4:pieceS (segF hd hh hx mx n).flatten ((168 + 4 * n:Nat):Int) 6 = some mx:=seg_at _ 25 rfl (by simp [segF,z1,z2,z3,z4,h1,h2,h3]; omega) (by rw [h4]; rfl);refine ⟨?_,by rw [hlen]; omega,?_,?_,by rw [hlen]; show 12 + 16 * 4 ≤ _; omega,?_,?_⟩
 ·exact Byt.flat (BytS.cons (bytesOf_byt _ _) (BytS.cons (bytesOf_byt _ _) (BytS.cons (bytesOf_byt _ _) (BytS.cons (bytesOf_byt _ _) (BytS.cons (bytesOf_byt _ _) (BytS.cons (tagB_byt _) (BytS.cons (bytesOf_byt _ _) (BytS.cons (bytesOf_byt _ _) (BytS.cons (bytesOf_byt _ _) (BytS.cons (tagB_byt _) (BytS.cons (bytesOf_byt _ _) (BytS.cons (bytesOf_byt _ _) (BytS.cons (bytesOf_byt _ _) (BytS.cons (tagB_byt _) (BytS.cons (bytesOf_byt _ _) (BytS.cons (bytesOf_byt _ _) (BytS.cons (bytesOf_byt _ _) (BytS.cons (tagB_byt _) (BytS.cons (bytesOf_byt _ _) (BytS.cons (bytesOf_byt _ _) (BytS.cons (bytesOf_byt _ _) (BytS.cons b1 (BytS.cons (rep0_byt 2) (BytS.cons b2 (BytS.cons b3 (BytS.cons b4 (BytS.cons (rep0_byt 2) BytS.nil)))))))))))))))))))))))))))
 ·exact seg_u _ 0 (n:=65536) (z:=4) rfl rfl rfl (by omega) (by omega)
 ·exact seg_u _ 1 (n:=4) (z:=2) rfl (by simp [segF]) rfl (by omega) (by omega)
 ·intro i r hr
  match i,hr with
  | 0,hr =>
   injection hr with hr; subst hr;exact ⟨⟨tagB wHead,seg_at _ 5 rfl (by simp [segF]) (by rw [z1]; rfl),sg1⟩,seg_u _ 7 (n:=76) (z:=4) rfl (by simp [segF,z1]) rfl (by omega) (by omega),seg_u _ 8 (n:=54) (z:=4) rfl (by simp [segF,z1]) rfl (by omega) (by omega),_,q1⟩
  | 1,hr =>
   injection hr with hr; subst hr;exact ⟨⟨tagB wHhea,seg_at _ 9 rfl (by simp [segF,z1]) (by rw [z2]; rfl),sg2⟩,seg_u _ 11 (n:=132) (z:=4) rfl (by simp [segF,z1,z2]) rfl (by omega) (by omega),seg_u _ 12 (n:=36) (z:=4) rfl (by simp [segF,z1,z2]) rfl (by omega) (by omega),_,q2⟩
  | 2,hr =>
   injection hr with hr; subst hr;exact ⟨⟨tagB wHmtx,seg_at _ 13 rfl (by simp [segF,z1,z2]) (by rw [z3]; rfl),sg3⟩,seg_u _ 15 (n:=168) (z:=4) rfl (by simp [segF,z1,z2,z3]) rfl (by omega) (by omega),seg_u _ 16 (n:=((4 * n:Nat):Int)) (z:=4) rfl (by simp [segF,z1,z2,z3]) rfl (by omega) (by omega),_,q3⟩
  | 3,hr =>
   injection hr with hr; subst hr;exact ⟨⟨tagB wMaxp,seg_at _ 17 rfl (by simp [segF,z1,z2,z3]) (by rw [z4]; rfl),sg4⟩,seg_u _ 19 (n:=((168 + 4 * n:Nat):Int)) (z:=4) rfl (by simp [segF,z1,z2,z3,z4]) rfl (by omega) (by omega),seg_u _ 20 (n:=6) (z:=4) rfl (by simp [segF,z1,z2,z3,z4]) rfl (by omega) (by omega),_,q4⟩
  | i + 4,hr => simp [tabF] at hr
 ·intro i r q hr hq;have l12:lessW wHead wHhea = true:=by kernel_rfl
  have l23:lessW wHhea wHmtx = true:=by kernel_rfl
  have l34:lessW wHmtx wMaxp = true:=by kernel_rfl
  match i,hr,hq with
  | 0,hr,hq => injection hr with hr; injection hq with hq; subst hr hq; exact l12
  | 1,hr,hq => injection hr with hr; injection hq with hq; subst hr hq; exact l23
  | 2,hr,hq => injection hr with hr; injection hq with hq; subst hr hq; exact l34
  | 3,hr,hq => simp [tabF] at hq
  | i + 4,hr,hq => simp [tabF] at hr
theorem found_of {n:Nat} {t:ByteArray} {i:Nat} (hi:i < 4) (h:∀ (j:Nat) (r:ByteArray × Int × Int),(tabF n)[j]? = some r → (j < i → cmpW r.1 t = -1) ∧ (j = i → cmpW r.1 t = 0) ∧ (i < j → cmpW r.1 t = 1)):FoundAt (tabF n) t i :=
 ⟨hi,fun j r hr hj => by rw [(h j r hr).1 hj]; omega,fun r hr => (h i r hr).2.1 rfl,fun j r hr hj => by rw [(h j r hr).2.2 hj]; omega⟩
theorem tab_all {n:Nat} {Q:Nat → ByteArray × Int × Int → Prop} (a:∀ x,Q 0 (wHead,x)) (b:∀ x,Q 1 (wHhea,x)) (c:∀ x,Q 2 (wHmtx,x)) (d:∀ x,Q 3 (wMaxp,x)):∀ (j:Nat) r,(tabF n)[j]? = some r → Q j r
 | 0,r,hr => by injection hr with hr; subst hr; exact a _
 | 1,r,hr => by injection hr with hr; subst hr; exact b _
 | 2,r,hr => by injection hr with hr; subst hr; exact c _
 | 3,r,hr => by injection hr with hr; subst hr; exact d _
 | j + 4,r,hr => by simp [tabF] at hr
theorem tabs_of {hd hh hx mx:List Int} {n:Nat} (h1:hd.length = 54) (h2:hh.length = 36) (h3:hx.length = 4 * n) (h4:mx.length = 6) :
  TabAt (makeB (partsF hd hh hx mx) 64 2) (tabF n) wHead hd ∧ TabAt (makeB (partsF hd hh hx mx) 64 2) (tabF n) wHhea hh ∧ TabAt (makeB (partsF hd hh hx mx) 64 2) (tabF n) wHmtx hx ∧ TabAt (makeB (partsF hd hh hx mx) 64 2) (tabF n) wMaxp mx:=by
 rw [make_seg h1 h2 h3 h4];have q1:pieceS (segF hd hh hx mx n).flatten 76 54 = some hd:=seg_at _ 21 rfl (by simp [segF,z1,z2,z3,z4]) (by rw [h1]; rfl);have q2:pieceS (segF hd hh hx mx n).flatten 132 36 = some hh:=seg_at _ 23 rfl (by simp [segF,z1,z2,z3,z4,h1]) (by rw [h2]; rfl);have q3:pieceS (segF hd hh hx mx n).flatten 168 ((4 * n:Nat):Int) = some hx:=seg_at _ 24 rfl (by simp [segF,z1,z2,z3,z4,h1,h2]) (by rw [h3]);have q4:pieceS (segF hd hh hx mx n).flatten ((168 + 4 * n:Nat):Int) 6 = some mx:=seg_at _ 25 rfl (by simp [segF,z1,z2,z3,z4,h1,h2,h3]; omega) (by rw [h4]; rfl);refine ⟨⟨0,_,found_of (by omega) ?_,rfl,q1⟩,⟨1,_,found_of (by omega) ?_,rfl,q2⟩,⟨2,_,found_of (by omega) ?_,rfl,q3⟩,⟨3,_,found_of (by omega) ?_,rfl,q4⟩⟩
 ·exact tab_all (fun _ => ⟨by omega,fun _ => k11,by omega⟩) (fun _ => ⟨by omega,by omega,fun _ => k21⟩) (fun _ => ⟨by omega,by omega,fun _ => k31⟩) (fun _ => ⟨by omega,by omega,fun _ => k41⟩)
 ·exact tab_all (fun _ => ⟨fun _ => k12,by omega,by omega⟩) (fun _ => ⟨by omega,fun _ => k22,by omega⟩) (fun _ => ⟨by omega,by omega,fun _ => k32⟩) (fun _ => ⟨by omega,by omega,fun _ => k42⟩)
 ·exact tab_all (fun _ => ⟨fun _ => k13,by omega,by omega⟩) (fun _ => ⟨fun _ => k23,by omega,by omega⟩) (fun _ => ⟨by omega,fun _ => k33,by omega⟩) (fun _ => ⟨by omega,by omega,fun _ => k43⟩)
 ·exact tab_all (fun _ => ⟨fun _ => k14,by omega,by omega⟩) (fun _ => ⟨fun _ => k24,by omega,by omega⟩) (fun _ => ⟨fun _ => k34,by omega,by omega⟩) (fun _ => ⟨by omega,fun _ => k44,by omega⟩)
theorem maxpB_len (n:Int):(maxpB n).length = 6:=by simp [maxpB]
theorem headB_len (em:Int):(headB em).length = 54:=by simp [headB]
theorem hheaB_len (m:Int):(hheaB m).length = 36:=by simp [hheaB]
theorem maxpB_byt (n:Int):Byt (maxpB n):=(bytesOf_byt _ _).app (bytesOf_byt _ _)
theorem headB_byt (em:Int):Byt (headB em):=((((rep0_byt 12).app (bytesOf_byt _ _)).app (rep0_byt 2)).app (bytesOf_byt _ _)).app (rep0_byt 34)
theorem hheaB_byt (m:Int):Byt (hheaB m):=(rep0_byt 34).app (bytesOf_byt _ _)
def hmtxB (l:List Int):List Int:=(l.map fun a => bytesOf a 2 ++ bytesOf 0 2).flatten
theorem hmtxB_snoc (l:List Int) (a:Int):hmtxB (l ++ [a]) = hmtxB l ++ bytesOf a 2 ++ bytesOf 0 2:=by simp [hmtxB]
theorem hmtxB_byt (l:List Int):Byt (hmtxB l):=Byt.flat fun r hr => by
 obtain ⟨a,_,rfl⟩:=List.mem_map.1 hr;exact (bytesOf_byt _ _).app (bytesOf_byt _ _)
theorem hmtxB_len:∀ l:List Int,(hmtxB l).length = 4 * l.length
 | [] => rfl
 | a :: l => by
  have:=hmtxB_len l;unfold hmtxB at this ⊢;simp only [List.map_cons,List.flatten_cons,List.length_append,this,bytesOf_len,List.length_cons];omega
theorem hmtxB_at {l:List Int} {i:Nat} {a:Int} (h:l[i]? = some a) (h0:0 ≤ a) (h1:a < 65536):uS (hmtxB l) (4 * (i:Int)) 2 = some a:=by
 obtain ⟨hi,hx⟩:=List.getElem?_eq_some_iff.1 h;have he:l = l.take i ++ (a :: l.drop (i + 1)):=by
  conv => lhs; rw [← List.take_append_drop i l]
  rw [List.drop_eq_getElem_cons hi,hx]
 have:hmtxB l = hmtxB (l.take i) ++ (bytesOf a 2 ++ (bytesOf 0 2 ++ hmtxB (l.drop (i + 1)))):=by
  conv => lhs; rw [he]
  simp [hmtxB]
 rw [this];exact uS_at _ _ _ _ (by rw [hmtxB_len,List.length_take]; omega) rfl h0 (by omega)
theorem face_of {l:List Int} {em:Int} (hl:1 ≤ l.length ∧ l.length ≤ 300) (he:16 ≤ em ∧ em ≤ 16384):FaceAt (makeB (partsF (headB em) (hheaB l.length) (hmtxB l) (maxpB l.length)) 64 2) l.length em l.length:=by
 have hf:=font_of (headB_len em) (hheaB_len l.length) (hmtxB_len l) (maxpB_len l.length) (by omega) (headB_byt _) (hheaB_byt _) (hmtxB_byt _) (maxpB_byt _);obtain ⟨t1,t2,t3,t4⟩:=tabs_of (headB_len em) (hheaB_len l.length) (hmtxB_len l) (maxpB_len l.length);refine ⟨⟨_,hf,⟨_,t4,?_,?_⟩,⟨_,t1,⟨_,pieceS_iff.2 ⟨by rw [headB_len]; omega,rfl⟩⟩,?_,?_⟩,⟨_,t2,⟨_,pieceS_iff.2 ⟨by rw [hheaB_len]; omega,rfl⟩⟩,?_⟩⟩,by omega⟩
 ·exact uS_at [] _ (n:=65536) (k:=4) 0 4 rfl rfl (by omega) (by omega)
 ·have:=uS_at (bytesOf 65536 4) [] (n:=(l.length:Int)) (k:=2) 4 2 (by simp) rfl (by omega) (by omega);rw [List.append_nil] at this;exact this
 ·have:headB em = List.replicate 12 0 ++ (bytesOf 1594834165 4 ++ ([0,0] ++ (bytesOf em 2 ++ List.replicate 34 0))):=by simp only [headB,List.append_assoc]
  rw [this];exact uS_at _ _ (n:=1594834165) (k:=4) 12 4 (by simp) rfl (by omega) (by omega)
 ·have:headB em = (List.replicate 12 0 ++ (bytesOf 1594834165 4 ++ [0,0])) ++ (bytesOf em 2 ++ List.replicate 34 0):=by simp only [headB,List.append_assoc]
  rw [this];exact uS_at _ _ (n:=em) (k:=2) 18 2 (by simp) rfl (by omega) (by omega)
 ·have:=uS_at (List.replicate 34 0) [] (n:=(l.length:Int)) (k:=2) 34 2 (by simp) rfl (by omega) (by omega);rw [List.append_nil] at this;exact this
end Go.Sw
end
section
set_option maxRecDepth 100000
set_option linter.unusedVariables false
namespace Go.Sw
noncomputable section
def swashtop_WholeWidths_l1 (k:Nat) (call:Caller):Env → Heap → Res (AExit × Env):=loopB (C k) call F.swashtop_WholeWidths [1,1,1,1,1,0,1,0,0]
def swashtop_WholeWidths_l1k (k:Nat) (call:Caller):Kont Value:=kBlock 0 (kSeq (pieceK (C k) call F.swashtop_WholeWidths [1,1,1,1,1,1]) (kDone Prog (resOf Prog F.swashtop_WholeWidths)))
def swashtop_WholeWidths_l2 (k:Nat) (call:Caller):Env → Heap → Res (AExit × Env):=loopB (C k) call F.swashtop_WholeWidths [1,1,1,1,1,1,1,0,1,0,0]
def swashtop_WholeWidths_l2k (k:Nat) (call:Caller):Kont Value:=kBlock 2 (kSeq (pieceK (C k) call F.swashtop_WholeWidths [1,1,1,1,1,1,1,1]) (kDone Prog (resOf Prog F.swashtop_WholeWidths)))
def swashtop_WholeWidths_j1 (k:Nat) (call:Caller) (a0 a2 a8 a12 a58 a59 a60:Value) (h:Heap):Res (AExit × Env) :=
 kSeq (pieceK (C k) call F.swashtop_WholeWidths [1,1,1,1,1,1,1,0,1,0,0,1,1,1]) (kRound (ownOf (C k) F.swashtop_WholeWidths [1,1,1,1,1,1,1,0,1,0,0])) .normal [(0,a0),(2,a2),(8,a8),(12,a12),(58,a58),(59,a59),(60,a60)] h
def swashtop_WholeWidths_l3 (k:Nat) (call:Caller):Env → Heap → Res (AExit × Env):=loopB (C k) call F.swashtop_WholeWidths [1,1,1,1,1,1,1,1,1,1,0,1,0,0]
def swashtop_WholeWidths_l3k (k:Nat) (call:Caller):Kont Value:=kBlock 4 (kSeq (pieceK (C k) call F.swashtop_WholeWidths [1,1,1,1,1,1,1,1,1,1,1]) (kDone Prog (resOf Prog F.swashtop_WholeWidths)))
def swashtop_WholeWidths (k:Nat) (call:Caller) (a0 a1 a2:Value) (h:Heap):Res Value :=
 (buildR Prog 140 [(0,(.string ⟨#[97,98,99,100]⟩))] h).bind fun v1 h2 =>
 (buildSliceR Prog 142 1 [(0,v1)] h2).bind fun v3 h4 =>
 (call F.sfnt_Make [v3] h4).bind fun v5 h6 =>
 (builtinV Prog .len [31] [v5] h6).bind fun v7 h8 =>
 (binR Prog .neq 3 v7 (.int .i64 28) h8).bind fun v9 h10 =>
 condV (some v9) (
 .ok (.bool false) h10)
 (
 (builtinV Prog .len [106] [a0] h10).bind fun v11 h12 =>
 (binR Prog .eql 3 v11 (.int .i64 0) h12).bind fun v13 h14 =>
 ((bif wantVal v13 false then Res.ok a0 h14 else Res.ok undef h14)).bind fun v15 h16 =>
 ((bif wantVal v13 false then builtinV Prog .len [106] [v15] h16 else Res.ok undef h16)).bind fun v17 h18 =>
 ((bif wantVal v13 false then binR Prog .gtr 3 v17 (.int .i64 300) h18 else Res.ok undef h18)).bind fun v19 h20 =>
 (condV (some v13) (Res.ok (.bool true) h20) (Res.ok v19 h20)).bind fun v21 h22 =>
 condV (some v21) (
 .ok (.bool true) h22)
 (
 (convR Prog 80 3 a1 h22).bind fun v23 h24 =>
 (binR Prog .rem 3 v23 (.int .i64 16000) h24).bind fun v25 h26 =>
 (binR Prog .add 3 (.int .i64 16) v25 h26).bind fun v27 h28 =>
 (builtinV Prog .len [106] [a0] h28).bind fun v29 h30 =>
 (loopN (swashtop_WholeWidths_l1 k call) loopFuel [(0,a0),(2,a2),(8,v27),(9,(.slice none 0 0)),(38,a0),(39,v29),(40,(.int .i64 0))] h30).bind fun r31 h32 =>
 swashtop_WholeWidths_l1k k call r31.1 r31.2 h32))
theorem swashtop_WholeWidths_R (k:Nat) (a0 a1 a2:Value) (h:Heap):R (T k) F.swashtop_WholeWidths [a0,a1,a2] h = nrm .gc h (swashtop_WholeWidths k (R (T k)) a0 a1 a2 h) :=
 (R_body (t:=T k) (T_scott k) (by kernel_rfl) (by kernel_rfl) _ _).trans (by kernel_rfl)
theorem swashtop_WholeWidths_l1_eq (k:Nat) (call:Caller) (a0 a2 a8 a9 a38 a39 a40:Value) (h:Heap):swashtop_WholeWidths_l1 k call [(0,a0),(2,a2),(8,a8),(9,a9),(38,a38),(39,a39),(40,a40)] h =
 (binR Prog .lss 3 a40 a39 h).bind fun v33 h34 =>
 condV (some v33) (
 (indexAddrR Prog 106 a38 a40 h34).bind fun v35 h36 =>
 (loadR Prog 80 v35 h36).bind fun v37 h38 =>
 (convR Prog 80 3 v37 h38).bind fun v39 h40 =>
 (call F.swashref02_Put [a9,v39,(.int .i64 2)] h40).bind fun v41 h42 =>
 (call F.swashref02_Put [v41,(.int .i64 0),(.int .i64 2)] h42).bind fun v43 h44 =>
 (binR Prog .add 3 a40 (.int .i64 1) h44).bind fun v45 h46 =>
 .ok (.normal,[(0,a0),(2,a2),(8,a8),(9,v43),(38,a38),(39,a39),(40,v45)]) h46)
 (
 .ok ((.exit 0),[(0,a0),(2,a2),(8,a8),(9,a9),(38,a38),(39,a39),(40,a40),(41,v33)]) h34) :=
 (loopB_eq _ _).trans (by kernel_rfl)
theorem swashtop_WholeWidths_l1k_x0 (k:Nat) (call:Caller) (a0 a2 a8 a9 a38 a39 a40 a41:Value) (h:Heap):swashtop_WholeWidths_l1k k call (.exit 0) [(0,a0),(2,a2),(8,a8),(9,a9),(38,a38),(39,a39),(40,a40),(41,a41)] h =
 (buildR Prog 140 [(0,(.string ⟨#[104,109,116,120]⟩)),(1,a9)] h).bind fun v47 h48 =>
 (buildSliceR Prog 142 1 [(0,v47)] h48).bind fun v49 h50 =>
 (builtinV Prog .len [106] [a0] h50).bind fun v51 h52 =>
 (builtinV Prog .len [106] [a0] h52).bind fun v53 h54 =>
 (call F.swashlaw03_Plain [v51,a8,v53] h54).bind fun v55 h56 =>
 (builtinV Prog .len [143] [v55] h56).bind fun v57 h58 =>
 (loopN (swashtop_WholeWidths_l2 k call) loopFuel [(0,a0),(2,a2),(8,a8),(12,v49),(58,v55),(59,v57),(60,(.int .i64 0))] h58).bind fun r59 h60 =>
 swashtop_WholeWidths_l2k k call r59.1 r59.2 h60:=by kernel_rfl
theorem swashtop_WholeWidths_l2_eq (k:Nat) (call:Caller) (a0 a2 a8 a12 a58 a59 a60:Value) (h:Heap):swashtop_WholeWidths_l2 k call [(0,a0),(2,a2),(8,a8),(12,a12),(58,a58),(59,a59),(60,a60)] h =
 (binR Prog .lss 3 a60 a59 h).bind fun v61 h62 =>
 condV (some v61) (
 (indexAddrR Prog 143 a58 a60 h62).bind fun v63 h64 =>
 (loadR Prog 145 v63 h64).bind fun v65 h66 =>
 (allocR Prog 145 h66).bind fun v67 h68 =>
 (storeR Prog 145 v67 v65 h68).bind fun _v69 h70 =>
 (fieldAddrR Prog 145 v67 0 h70).bind fun v71 h72 =>
 (loadR Prog 9 v71 h72).bind fun v73 h74 =>
 (fieldAddrR Prog 145 v67 1 h74).bind fun v75 h76 =>
 (loadR Prog 31 v75 h76).bind fun v77 h78 =>
 (buildR Prog 140 [(0,v73),(1,v77)] h78).bind fun v79 h80 =>
 (allocR Prog 140 h80).bind fun v81 h82 =>
 (storeR Prog 140 v81 v79 h82).bind fun _v83 h84 =>
 condV (some a2) (
 (loadR Prog 140 v81 h84).bind fun v85 h86 =>
 (buildSliceR Prog 142 1 [(0,v85)] h86).bind fun v87 h88 =>
 (builtinV Prog .append [142,142] [v87,a12] h88).bind fun v89 h90 =>
 swashtop_WholeWidths_j1 k call a0 a2 a8 v89 a58 a59 a60 h90)
 (
 (loadR Prog 140 v81 h84).bind fun v91 h92 =>
 (buildSliceR Prog 142 1 [(0,v91)] h92).bind fun v93 h94 =>
 (builtinV Prog .append [142,142] [a12,v93] h94).bind fun v95 h96 =>
 swashtop_WholeWidths_j1 k call a0 a2 a8 v95 a58 a59 a60 h96))
 (
 .ok ((.exit 2),[(0,a0),(2,a2),(8,a8),(12,a12),(58,a58),(59,a59),(60,a60),(61,v61)]) h62) :=
 (loopB_eq _ _).trans (by kernel_rfl)
theorem swashtop_WholeWidths_j1_eq (k:Nat) (call:Caller) (a0 a2 a8 a12 a58 a59 a60:Value) (h:Heap):swashtop_WholeWidths_j1 k call a0 a2 a8 a12 a58 a59 a60 h =
 (binR Prog .add 3 a60 (.int .i64 1) h).bind fun v97 h98 =>
 .ok (.normal,[(0,a0),(2,a2),(8,a8),(12,a12),(58,a58),(59,a59),(60,v97)]) h98:=by kernel_rfl
theorem swashtop_WholeWidths_l2k_x2 (k:Nat) (call:Caller) (a0 a2 a8 a12 a58 a59 a60 a61:Value) (h:Heap):swashtop_WholeWidths_l2k k call (.exit 2) [(0,a0),(2,a2),(8,a8),(12,a12),(58,a58),(59,a59),(60,a60),(61,a61)] h =
 (call F.sfnt_Make [a12] h).bind fun v99 h100 =>
 (call F.width_Read [v99] h100).bind fun v101 h102 =>
 (extractR v101 0 h102).bind fun v103 h104 =>
 (extractR v101 1 h104).bind fun v105 h106 =>
 (binR Prog .neq 33 v105 (.int .i64 0) h106).bind fun v107 h108 =>
 ((bif wantVal v107 false then Res.ok v103 h108 else Res.ok undef h108)).bind fun v109 h110 =>
 ((bif wantVal v107 false then binR Prog .eql 146 v109 (.pointer none) h110 else Res.ok undef h110)).bind fun v111 h112 =>
 (condV (some v107) (Res.ok (.bool true) h112) (Res.ok v111 h112)).bind fun v113 h114 =>
 ((bif wantVal v113 false then Res.ok v103 h114 else Res.ok undef h114)).bind fun v115 h116 =>
 ((bif wantVal v113 false then call F.width_Width_Face [v115] h116 else Res.ok undef h116)).bind fun v117 h118 =>
 ((bif wantVal v113 false then fieldR Prog 150 v117 1 h118 else Res.ok undef h118)).bind fun v119 h120 =>
 ((bif wantVal v113 false then Res.ok a8 h120 else Res.ok undef h120)).bind fun v121 h122 =>
 ((bif wantVal v113 false then binR Prog .neq 3 v119 v121 h122 else Res.ok undef h122)).bind fun v123 h124 =>
 (condV (some v113) (Res.ok (.bool true) h124) (Res.ok v123 h124)).bind fun v125 h126 =>
 ((bif wantVal v125 false then Res.ok v103 h126 else Res.ok undef h126)).bind fun v127 h128 =>
 ((bif wantVal v125 false then call F.width_Width_Face [v127] h128 else Res.ok undef h128)).bind fun v129 h130 =>
 ((bif wantVal v125 false then fieldR Prog 150 v129 0 h130 else Res.ok undef h130)).bind fun v131 h132 =>
 ((bif wantVal v125 false then Res.ok a0 h132 else Res.ok undef h132)).bind fun v133 h134 =>
 ((bif wantVal v125 false then builtinV Prog .len [106] [v133] h134 else Res.ok undef h134)).bind fun v135 h136 =>
 ((bif wantVal v125 false then binR Prog .neq 3 v131 v135 h136 else Res.ok undef h136)).bind fun v137 h138 =>
 (condV (some v125) (Res.ok (.bool true) h138) (Res.ok v137 h138)).bind fun v139 h140 =>
 condV (some v139) (
 .ok (.bool false) h140)
 (
 (builtinV Prog .len [106] [a0] h140).bind fun v141 h142 =>
 (loopN (swashtop_WholeWidths_l3 k call) loopFuel [(16,v103),(106,a0),(107,v141),(108,(.int .i64 0))] h142).bind fun r143 h144 =>
 swashtop_WholeWidths_l3k k call r143.1 r143.2 h144):=by kernel_rfl
theorem swashtop_WholeWidths_l3_eq (k:Nat) (call:Caller) (a16 a106 a107 a108:Value) (h:Heap):swashtop_WholeWidths_l3 k call [(16,a16),(106,a106),(107,a107),(108,a108)] h =
 (binR Prog .lss 3 a108 a107 h).bind fun v145 h146 =>
 condV (some v145) (
 (indexAddrR Prog 106 a106 a108 h146).bind fun v147 h148 =>
 (loadR Prog 80 v147 h148).bind fun v149 h150 =>
 (call F.width_Width_Advance [a16,a108] h150).bind fun v151 h152 =>
 (convR Prog 80 3 v149 h152).bind fun v153 h154 =>
 (binR Prog .neq 3 v151 v153 h154).bind fun v155 h156 =>
 condV (some v155) (
 .ok (.ret,[(6,(.bool false))]) h156)
 (
 (binR Prog .add 3 a108 (.int .i64 1) h156).bind fun v157 h158 =>
 .ok (.normal,[(16,a16),(106,a106),(107,a107),(108,v157)]) h158))
 (
 .ok ((.exit 4),[(16,a16),(106,a106),(107,a107),(108,a108),(109,v145)]) h146) :=
 (loopB_eq _ _).trans (by kernel_rfl)
theorem swashtop_WholeWidths_l3k_x4 (k:Nat) (call:Caller) (a16 a106 a107 a108 a109:Value) (h:Heap):swashtop_WholeWidths_l3k k call (.exit 4) [(16,a16),(106,a106),(107,a107),(108,a108),(109,a109)] h =
 .ok (.bool true) h:=by kernel_rfl
end
end Go.Sw
end
section
namespace Go.Sw
open Go.RowKit
abbrev encA2 (n:Int):List Value:=[.int .u16 n]
abbrev ptV (x:ByteArray × List Int):(ByteArray × List Int) × Value:=(x,lv encB x.2)
def rvJ (hm:(ByteArray × List Int) × Value) (pl:List (ByteArray × List Int)) (t:Bool) (j:Nat):List ((ByteArray × List Int) × Value) :=
 if t then ((pl.take j).map ptV).reverse ++ [hm] else [hm] ++ (pl.take j).map ptV
theorem rvJ_len (hm:(ByteArray × List Int) × Value) (pl:List (ByteArray × List Int)) (t:Bool) (j:Nat):(rvJ hm pl t j).length ≤ j + 1:=by
 unfold rvJ;split
 ·simp; omega
 ·simp; omega
theorem Star.permF {H0 H:Heap} {L L':List It} (h:Star H0 H L) (hp:L.Perm L'):Star H0 H L':=by
 have hpw:L.Pairwise fun x y => ∀ b,b ∈ x.o → b ∉ y.o:=List.pairwise_iff_getElem.2 fun i j hi hj hij b hb => h.2.2 i j _ _ (by omega) (List.getElem?_eq_getElem hi) (List.getElem?_eq_getElem hj) b hb;have hpw':=(hp.pairwise_iff (fun {x y} hxy b hb hb2 => hxy b hb2 hb)).1 hpw;refine ⟨h.1,fun i x hx => ?_,fun i j x y hij hx hy b hb => ?_⟩
 ·obtain ⟨j,hj⟩:=List.getElem?_of_mem (hp.mem_iff.2 (List.mem_of_getElem? hx));exact h.2.1 j x hj
 ·obtain ⟨hi,rfl⟩:=List.getElem?_eq_some_iff.1 hx;obtain ⟨hj,rfl⟩:=List.getElem?_eq_some_iff.1 hy;rcases Nat.lt_or_gt_of_ne hij with hlt | hgt
  ·exact List.pairwise_iff_getElem.1 hpw' i j hi hj hlt b hb
  ·exact fun hb2 => List.pairwise_iff_getElem.1 hpw' j i hj hi hgt b hb2 hb
theorem widths_l1 (k:Nat) {H:Heap} (a2 a8:Value) (l:List Int) (hl:l.length ≤ 300) (hb:∀ x,x ∈ l → 0 ≤ x ∧ x < 65536) :
  ∃ s o zz H',loopN (swashtop_WholeWidths_l1 k (R (T k))) loopFuel [(0,lv encA2 l),(2,a2),(8,a8),(9,.slice none 0 0),(38,lv encA2 l),(39,.int .i64 l.length),(40,.int .i64 0)] H = .ok (.exit 0,[(0,lv encA2 l),(2,a2),(8,a8),(9,s),(38,lv encA2 l),(39,.int .i64 l.length),(40,zz),(41,.bool false)]) H' ∧ Star H H' [itRow o 1 s encB (hmtxB l)]:=by
 have g:=(Star.nil H).more_row (Ext.refl _) (OwnO.nil encB _ 1) (fun b hb => by cases hb);simp only [List.nil_append] at g
 obtain ⟨xx,e',H1,hr1,rfl,s,o,rfl,g⟩:=loop_up (body:=swashtop_WholeWidths_l1 k (R (T k))) l.length
  (fun j e H' => ∃ s o,e = [(0,lv encA2 l),(2,a2),(8,a8),(9,s),(38,lv encA2 l),(39,.int .i64 l.length),(40,.int .i64 j)] ∧ Star H H' [itRow o 1 s encB (hmtxB (l.take j))])
  (fun xx e H' => xx = .exit 0 ∧ ∃ s o,e = [(0,lv encA2 l),(2,a2),(8,a8),(9,s),(38,lv encA2 l),(39,.int .i64 l.length),(40,.int .i64 l.length),(41,.bool false)] ∧ Star H H' [itRow o 1 s encB (hmtxB l)])
  (e0:=[(0,lv encA2 l),(2,a2),(8,a8),(9,.slice none 0 0),(38,lv encA2 l),(39,.int .i64 l.length),(40,.int .i64 0)]) (H0:=H) ⟨_,none,rfl,by simpa [hmtxB] using g⟩ (by omega)
  (fun j e H' hj ⟨s,o,he,g⟩ => by
   subst he;have hjl:(j:Int) < l.length:=by omega
   obtain ⟨x,hx⟩:∃ x,l[j]? = some x:=⟨_,List.getElem?_eq_getElem hj⟩
   have hxb:=hb x (List.mem_of_getElem? hx);have ix:=fun H => ixS_lvN (enc:=encA2) (m:=1) (fun _ => rfl) l .i64 j x hx H;have hwx:IntKind.i64.wrap x = x:=wrap_i64 (by omega) (by omega);obtain ⟨t1,u1,J1,f1,g⟩:=Put_star k g 0 rfl x 2 2 rfl (by omega) (by omega) (by omega) (by rw [hmtxB_len,List.length_take]; omega);simp only [List.set_cons_zero] at g;obtain ⟨t2,u2,J2,f2,g⟩:=Put_star k g 0 rfl 0 2 2 rfl (by omega) (by omega) (by omega) (by rw [List.length_append,hmtxB_len,List.length_take]; simp; omega);simp only [List.set_cons_zero] at g;rw [← hmtxB_snoc,← take_snoc hx] at g;refine .inl ⟨_,J2,?_,t2,u2,rfl,g⟩;rw [swashtop_WholeWidths_l1_eq];simp -implicitDefEqProofs (disch:=omega) [hjl,ix,hwx,f1,f2])
  (fun e H' ⟨s,o,he,g⟩ => by
   subst he;rw [List.take_length] at g;refine ⟨.exit 0,_,H',?_,by simp,rfl,s,o,rfl,g⟩;rw [swashtop_WholeWidths_l1_eq];simp -implicitDefEqProofs)
 exact ⟨s,o,_,H1,hr1,g⟩
theorem widths_l2 (k:Nat) {H0 H:Heap} {s9 s12:Value} {o9 o12:Option Nat} {hb:List Int} {pl:List (ByteArray × List Int)} (hm:(ByteArray × List Int) × Value) (t:Bool) (a0 a8:Value) (g:Star H0 H [itRow o9 1 s9 encB hb,itRow o12 2 s12 encPV [hm]]) (hpl:pl.length < 100) :
  ∃ s o zz H',loopN (swashtop_WholeWidths_l2 k (R (T k))) loopFuel [(0,a0),(2,.bool t),(8,a8),(12,s12),(58,lv encPart pl),(59,.int .i64 pl.length),(60,.int .i64 0)] H = .ok (.exit 2,[(0,a0),(2,.bool t),(8,a8),(12,s),(58,lv encPart pl),(59,.int .i64 pl.length),(60,zz),(61,.bool false)]) H' ∧ Star H0 H' [itRow o9 1 s9 encB hb,itRow o 2 s encPV (rvJ hm pl t pl.length)]:=by
 have h00:rvJ hm pl t 0 = [hm]:=by unfold rvJ; cases t <;> simp
 obtain ⟨xx,e',H1,hr1,rfl,s,o,rfl,g⟩:=loop_up (body:=swashtop_WholeWidths_l2 k (R (T k))) pl.length
  (fun j e H' => ∃ s o,e = [(0,a0),(2,.bool t),(8,a8),(12,s),(58,lv encPart pl),(59,.int .i64 pl.length),(60,.int .i64 j)] ∧ Star H0 H' [itRow o9 1 s9 encB hb,itRow o 2 s encPV (rvJ hm pl t j)])
  (fun xx e H' => xx = .exit 2 ∧ ∃ s o,e = [(0,a0),(2,.bool t),(8,a8),(12,s),(58,lv encPart pl),(59,.int .i64 pl.length),(60,.int .i64 pl.length),(61,.bool false)] ∧ Star H0 H' [itRow o9 1 s9 encB hb,itRow o 2 s encPV (rvJ hm pl t pl.length)])
  (e0:=[(0,a0),(2,.bool t),(8,a8),(12,s12),(58,lv encPart pl),(59,.int .i64 pl.length),(60,.int .i64 0)]) (H0:=H) ⟨s12,o12,rfl,by rw [h00]; exact g⟩ (by omega)
  (fun j e H' hj ⟨s,o,he,g⟩ => by
   subst he;have hjl:(j:Int) < pl.length:=by omega
   obtain ⟨x,hx⟩:∃ x,pl[j]? = some x:=⟨_,List.getElem?_eq_getElem hj⟩
   have ix:=fun H => ixS_lvN encPart_len pl .i64 j x hx H;have hrl:=rvJ_len hm pl t j;have g2:=(g.push ⟨encPart x,1,false⟩).push ⟨encPart x,1,false⟩;simp only [List.cons_append,List.nil_append,hn_push] at g2;have p0:=g2.get 2 rfl;have p1:=g2.get 3 rfl;cases t with
   | false =>
    have hnx:rvJ hm pl false (j + 1) = rvJ hm pl false j ++ [ptV x]:=by
     simp [rvJ,take_snoc hx]
    obtain ⟨s2,o2,H2,e2,g3⟩:=g2.append1 (bytes:=40) 1 encPV_len rfl (ptV x) (by omega) (by decide);simp only [List.set_cons_zero,List.set_cons_succ] at g3;have g3:=g3.take 2;simp only [List.take_succ_cons,List.take_zero] at g3;rw [← hnx] at g3;simp only [hn_push] at e2;refine .inl ⟨_,H2,?_,s2,o2,rfl,g3⟩;rw [swashtop_WholeWidths_l2_eq];simp -implicitDefEqProofs (disch:=omega) [-ldA_ptr,ldA_ptr 2 H'.n,ldA_ptr 2 (H'.n + 1),hjl,ix,p0,p1,e2,swashtop_WholeWidths_j1_eq]
   | true =>
    have hnx:rvJ hm pl true (j + 1) = ptV x :: rvJ hm pl true j:=by
     simp [rvJ,take_snoc hx]
    have oo:OwnO (((H'.push ⟨encPart x,1,false⟩).push ⟨encPart x,1,false⟩).push ⟨encPart x,2,false⟩) (some (H'.n + 2)) 2 (.slice (some ⟨H'.n + 2,0,none⟩) 1 1) encPV [ptV x]:=.inr ⟨H'.n + 2,rfl,rfl,get_push_eq _ _ _ (by simp)⟩;have g3:=g2.more_row ((Ext.refl _).push ⟨encPart x,2,false⟩) oo (fun b hb => by injection hb with hb; subst hb; simp);simp only [List.cons_append,List.nil_append] at g3;obtain ⟨s2,o2,H2,e2,g3⟩:=g3.appendRow (bytes:=40) 4 1 encPV_len rfl rfl (by simp only [List.length_singleton]; omega) (by decide);simp only [List.set_cons_zero,List.set_cons_succ] at g3;have g3:=g3.permF ((List.perm_append_comm (l₁:=[_,_,_]) (l₂:=[_])).cons _);simp only [List.cons_append,List.nil_append] at g3;have g3:=g3.take 2;simp only [List.take_succ_cons,List.take_zero] at g3;rw [← hnx] at g3;refine .inl ⟨_,H2,?_,s2,o2,rfl,g3⟩;rw [swashtop_WholeWidths_l2_eq];simp -implicitDefEqProofs (disch:=omega) [-ldA_ptr,ldA_ptr 2 H'.n,ldA_ptr 2 (H'.n + 1),hjl,ix,p0,p1,e2,swashtop_WholeWidths_j1_eq])
  (fun e H' ⟨s,o,he,g⟩ => by
   subst he;refine ⟨.exit 2,_,H',?_,by simp,rfl,s,o,rfl,g⟩;rw [swashtop_WholeWidths_l2_eq];simp -implicitDefEqProofs)
 exact ⟨s,o,_,H1,hr1,g⟩
theorem widths_l3 (k:Nat) {H:Heap} {em:Int} (l:List Int) (hl:1 ≤ l.length ∧ l.length ≤ 300) (hb:∀ x,x ∈ l → 0 ≤ x ∧ x < 65536) :
  ∃ zz,loopN (swashtop_WholeWidths_l3 k (R (T k))) loopFuel [(16,widV l.length em l.length (hmtxB l)),(106,lv encA2 l),(107,.int .i64 l.length),(108,.int .i64 0)] H = .ok (.exit 4,[(16,widV l.length em l.length (hmtxB l)),(106,lv encA2 l),(107,.int .i64 l.length),(108,zz),(109,.bool false)]) H:=by
 obtain ⟨xx,e',H1,hr1,rfl,rfl,rfl⟩:=loop_up (body:=swashtop_WholeWidths_l3 k (R (T k))) l.length
  (fun j e H' => H' = H ∧ e = [(16,widV l.length em l.length (hmtxB l)),(106,lv encA2 l),(107,.int .i64 l.length),(108,.int .i64 j)])
  (fun xx e H' => H' = H ∧ xx = .exit 4 ∧ e = [(16,widV l.length em l.length (hmtxB l)),(106,lv encA2 l),(107,.int .i64 l.length),(108,.int .i64 l.length),(109,.bool false)])
  (e0:=[(16,widV l.length em l.length (hmtxB l)),(106,lv encA2 l),(107,.int .i64 l.length),(108,.int .i64 0)]) (H0:=H) ⟨rfl,rfl⟩ (by omega)
  (fun j e H' hj ⟨hH,he⟩ => by
   subst he hH;have hjl:(j:Int) < l.length:=by omega
   obtain ⟨x,hx⟩:∃ x,l[j]? = some x:=⟨_,List.getElem?_eq_getElem hj⟩
   have hxb:=hb x (List.mem_of_getElem? hx);have ix:=fun H => ixS_lvN (enc:=encA2) (m:=1) (fun _ => rfl) l .i64 j x hx H;have hwx:IntKind.i64.wrap x = x:=wrap_i64 (by omega) (by omega);have had:=fun H => Advance_run k (em:=em) (hmtxB_byt l) (by rw [hmtxB_len]; omega) (g:=l.length) (m:=l.length) (by omega) (i:=j) (by omega) (hmtxB_at hx hxb.1 hxb.2) H;refine .inl ⟨_,H',?_,rfl,rfl⟩;rw [swashtop_WholeWidths_l3_eq];simp -implicitDefEqProofs (disch:=omega) [hjl,ix,hwx,had])
  (fun e H' ⟨hH,he⟩ => by
   subst he hH;refine ⟨.exit 4,_,H',?_,by simp,rfl,rfl,rfl⟩;rw [swashtop_WholeWidths_l3_eq];simp -implicitDefEqProofs)
 exact ⟨_,hr1⟩
end Go.Sw
end
section
namespace Go.Sw
theorem wf_u16 {n:Int} (h:(Lit.int .u16 n).wf = true):0 ≤ n ∧ n < 65536:=by
 simp [Lit.wf,IntKind.min,IntKind.max,IntKind.signed,IntKind.bits] at h;omega
theorem arg_b {v:Value} (h:ArgLay (.one .bool) v):∃ b,v = .bool b:=by
 obtain ⟨d,h1⟩:=h.cell;exact h1.boolv
end Go.Sw
end
