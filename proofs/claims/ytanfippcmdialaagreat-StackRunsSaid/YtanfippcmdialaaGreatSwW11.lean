/-
  Functions' forms, and what is proved of them, part 11.
-/
import Derived.Test.YtanfippcmdialaaGreatSwW10
import Derived.Test.YtanfippcmdialaaGreatSwW5
import Derived.Test.YtanfippcmdialaaGreatSwW8
import Derived.Test.YtanfippcmdialaaGreatSwW2
import Derived.Test.YtanfippcmdialaaGreatSwW4
import Derived.Test.YtanfippcmdialaaGreatSwCfg
import Derived.Test.YtanfippcmdialaaGreatSwW7
import Derived.Test.YtanfippcmdialaaGreatSwW9
set_option linter.unusedSimpArgs false
set_option linter.unusedVariables false
set_option linter.unusedSectionVars false
section
namespace Go.Sw
open Go.RowKit
def stackP (o:Option STab):Value:=match o with | some t => stackV t | none => .pointer none
theorem ζqe (o:Option STab):Flat (stackP o):=by
 cases o with
 | none => exact .nilPtr
 | some t => exact Flat.stack t
theorem ζnr (k:Nat) {H:Heap} (b:List Int) (hb:Byt b) (g:Int) (hg:1 ≤ g ∧ g ≤ 65535) (hl:b.length < 2 ^ 31) (p2 p3 p4:Nat) (old:Value)
  (h2:H.get p2 = some ⟨[lv encB b],1,false⟩) (h3:H.get p3 = some ⟨[.int .i64 g],1,false⟩) (h4:H.get p4 = some ⟨[old],1,false⟩) (ht:∀ H',R (T k) F.ζ3a [vwB b,.int .i64 g] H' = orF (stackS b g) stackV H') :
  R (T k) F.ζ2t [ptrV p2,ptrV p3,ptrV p4] H = match stackS b g with
   | some t => .ok (.tuple #[]) (H.set p4 (some ⟨[stackV t],1,false⟩))
   | none => .panic failV H:=by
 rw [ζka];have ht:=ht H;cases h:stackS b g with
 | none =>
  rw [h] at ht;refine ζ1n ⟨H,?_,Ext.refl H⟩ Flat.fail.alive;simp -implicitDefEqProofs (disch:=omega) [ζ2t,h2,h3,ht]
 | some x =>
  rw [h] at ht;simp -implicitDefEqProofs (disch:=omega) [ζ2t,h2,h3,h4,ht]
def stackO (b:List Int) (g:Int):Option STab:=if 1 ≤ g ∧ g ≤ 65535 then stackS b g else none
def stackN (b:List Int) (g:Int):Int:=if 1 ≤ g ∧ g ≤ 65535 then (if (stackS b g).isSome then 0 else 2) else 1
theorem ζno (k:Nat) {H:Heap} {v:Value} {b:List Int} (hv:Sl H 1 v encB b) (hb:Byt b) (g:Int) (hl:b.length ≤ 2 ^ 30) (ht:(1 ≤ g ∧ g ≤ 65535) → ∀ H',R (T k) F.ζ3a [vwB b,.int .i64 g] H' = orF (stackS b g) stackV H') :
  R (T k) F.ζ5t [v,.int .i64 g] H = .ok (.tuple #[stackP (stackO b g),.int .i64 (stackN b g)]) H:=by
 rw [ζob];have hx2:=(Ext.refl H).push ⟨[.int .i64 g],1,false⟩;have al:∀ o n,Alive H (.tuple #[stackP o,.int .i64 n]):=fun o n => (Flat.tupleL (l:=[stackP o,.int .i64 n]) (.cons (ζqe o) (.cons (.int _ _) .nil))).alive;have fz:∀ H' o n,fzV H.n H' fzDepth (.tuple #[stackP o,.int .i64 n]) = some (.tuple #[stackP o,.int .i64 n],[]):=fun H' o n => by
  cases o <;> rfl
 by_cases hgg:1 ≤ g ∧ g ≤ 65535
 ·have c1:¬ g < 1:=by omega
  have c2:¬ g > 65535:=by omega
  have hx3:=hx2.push ⟨[.pointer none],1,false⟩;have o3:=Of_run k (hv.up hx3);have by3:=ζs6 k (hv.up hx3) hl;have o4:=fun H => Of_lv k b H;have hin:=ζnr k (H:=((H.push ⟨[.int .i64 g],1,false⟩).push ⟨[.pointer none],1,false⟩).push ⟨[lv encB b],1,false⟩) b hb g hgg (by omega) (H.n + 2) H.n (H.n + 1) (.pointer none) (by simp) (by simp) (by simp) (ht hgg);cases hlk:stackS b g with
  | none =>
   rw [hlk] at hin;have ht:=Try_no k F.ζ2t #[ptrV (H.n + 2),ptrV H.n,ptrV (H.n + 1)] hin;refine nrm_fz (H':=((H.push ⟨[.int .i64 g],1,false⟩).push ⟨[.pointer none],1,false⟩).push ⟨[lv encB b],1,false⟩) (v:=.tuple #[stackP none,.int .i64 2]) ?_ (by unfold stackO stackN; rw [if_pos hgg,if_pos hgg,hlk]; exact fz _ _ _) (hx3.push _) (al _ _);simp -implicitDefEqProofs (disch:=omega) [ζ5t,c1,c2,o3,by3,o4,ht,stackP]
  | some x =>
   rw [hlk] at hin;have ht:=Try_ok k F.ζ2t #[ptrV (H.n + 2),ptrV H.n,ptrV (H.n + 1)] hin;refine nrm_fz (H':=((H.push ⟨[.int .i64 g],1,false⟩).push ⟨[stackV x],1,false⟩).push ⟨[lv encB b],1,false⟩) (v:=.tuple #[stackP (some x),.int .i64 0]) ?_ (by unfold stackO stackN; rw [if_pos hgg,if_pos hgg,hlk]; exact fz _ _ _) ((hx2.push _).push _) (al _ _);simp at ht;simp -implicitDefEqProofs (disch:=omega) [ζ5t,c1,c2,o3,by3,o4,ht,stackP]
 ·refine nrm_fz (H':=(H.push ⟨[.int .i64 g],1,false⟩).push ⟨[.pointer none],1,false⟩) (v:=.tuple #[stackP none,.int .i64 1]) ?_ (by unfold stackO stackN; rw [if_neg hgg,if_neg hgg]; exact fz _ _ _) (hx2.push _) (al _ _);by_cases c1:g < 1
  ·simp -implicitDefEqProofs (disch:=omega) [ζ5t,c1,stackP]
  ·have c2:g > 65535:=by omega
   simp -implicitDefEqProofs (disch:=omega) [ζ5t,c1,c2,stackP]
end Go.Sw
end
section
namespace Go.Sw
open Go.RowKit
end Go.Sw
end
section
namespace Go.Sw
open Go.RowKit
variable {σ:Type}
end Go.Sw
end
section
namespace Go.Sw
open Go.RowKit
def sv (k i:Nat):Int:=if i + 1 = k then 2 * ((i:Int) + 1) + 1 else 2 * ((i:Int) + 1)
set_option maxRecDepth 10000 in
theorem ζtn (t:STab) (ht:t.m.ok) (gl:List Gl) (down cross:Bool) (l:List Pl):(runSt t gl down cross l).1.length = l.length:=by
 unfold runSt runStr;exact runD_inv t.m ht (fun _:List Pl × List Int => gl) (fun s i e => (doSt t (gl.length:Int) down cross s i e,i,i + 1)) (fun s:List Pl × List Int => s.1.length = l.length) (fun s i e hs _ _ => by
  dsimp only;rw [doSt_len];exact hs) (2 * (gl.length:Int) + 128) (2 * gl.length + 128) ((l,[]),⟨0,0,0,0⟩) rfl (Int.le_refl _) (Int.le_refl _) (by have:=ht.two; dsimp only; omega)
end Go.Sw
end
section
namespace Go.Sw
open Go.RowKit
end Go.Sw
end
section
namespace Go.Sw
open Go.RowKit
end Go.Sw
end
section
namespace Go.Sw
open Go.RowKit
theorem ζri (k:Nat) (ids:List Int) (hl:ids.length < 2 ^ 30) (H:Heap):R (T k) F.ζ2f [lv encI ids] H = .ok (lv encG (newG ids)) H:=by
 rw [ζkh];have g:=(Star.nil H).more_row (Ext.refl _) (OwnO.bare encG _ 2) (fun b hb => by cases hb);simp only [List.nil_append] at g
 obtain ⟨x,e',H1,hr1,rfl,z,s,o,rfl,g⟩:=loop_up (body:=ζ7j k (R (T k))) ids.length
  (fun j e H' => ∃ s o,e = [(0,lv encI ids),(3,s),(4,.int .i64 j)] ∧ Star H H' [itRow o 2 s encG (newG (ids.take j))])
  (fun x e H' => x = .exit 0 ∧ ∃ z s o,e = [(0,lv encI ids),(3,s),(4,z),(9,.bool false)] ∧ Star H H' [itRow o 2 s encG (newG ids)])
  (e0:=[(0,lv encI ids),(3,bareV),(4,.int .i64 0)]) (H0:=H) ⟨bareV,none,rfl,g⟩ (by omega)
  (fun j e H' hj ⟨s,o,he,g⟩ => by
   subst he;have hlt:(j:Int) < ids.length:=by omega
   obtain ⟨x,hx⟩:∃ x,ids[j]? = some x:=⟨_,List.getElem?_eq_getElem hj⟩
   have i1:=fun H' => ixS_lvN encI_len ids .i64 j x hx H';have hlen:(ids.take j).length = j:=by rw [List.length_take]; omega
   obtain ⟨s',o',H2,e2,g2⟩:=g.append1 (bytes:=16) 0 encG_len rfl (⟨x,j⟩:Gl) (by rw [newG_len]; omega) (by decide);simp only [List.set_cons_zero] at g2;simp only [encG] at e2;refine .inl ⟨_,H2,?_,s',o',rfl,by rw [ζ37 hx,ζp4,hlen]; exact g2⟩;rw [ζ8o];simp -implicitDefEqProofs (disch:=omega) [hlt,i1,e2])
  (fun e H' ⟨s,o,he,g⟩ => by
   subst he;rw [List.take_length] at g;refine ⟨.exit 0,_,H',?_,by simp,rfl,.int .i64 ids.length,s,o,rfl,g⟩;rw [ζ8o];simp -implicitDefEqProofs)
 obtain ⟨L,hf⟩:=(g.own 0 rfl).freeze encG_len (ζmr _) 6;refine nrm_fz (v:=s) (H':=H1) ?_ hf g.ext (Flat.Gls _).alive;simp -implicitDefEqProofs (disch:=omega) [ζ2f,hr1,ζco]
end Go.Sw
end
section
set_option maxRecDepth 100000
set_option linter.unusedVariables false
namespace Go.Sw
noncomputable section
def ζ32 (k:Nat) (call:Caller) (a0:Value) (h:Heap):Res Value :=
 (allocR Prog 171 h).bind fun v1 h2 =>
 (binR Prog .mul 3 (.int .i64 2) a0 h2).bind fun v3 h4 =>
 (binR Prog .add 3 v3 (.int .i64 128) h4).bind fun v5 h6 =>
 (buildR Prog 171 [(4,v5)] h6).bind fun v7 h8 =>
 (storeR Prog 171 v1 v7 h8).bind fun _v9 h10 =>
 (loadR Prog 171 v1 h10).bind fun v11 h12 =>
 .ok v11 h12
theorem ζfd (k:Nat) (a0:Value) (h:Heap):R (T k) F.ζ32 [a0] h = nrm .gc h (ζ32 k (R (T k)) a0 h) :=
 (R_body (t:=T k) (T_scott k) (by kernel_rfl) (by kernel_rfl) _ _).trans (by kernel_rfl)
def ζa8 (k:Nat) (call:Caller) (a3 a4 a6 a8:Value) (h:Heap):Res Value :=
 kSeq (pieceK (C k) call F.ζ1l [1,1,1,1]) (kDone Prog (resOf Prog F.ζ1l)) .normal [(3,a3),(4,a4),(6,a6),(8,a8)] h
def ζa9 (k:Nat) (call:Caller) (a2 a3 a4 a6 a8 a18:Value) (h:Heap):Res Value :=
 kSeq (pieceK (C k) call F.ζ1l [1,1,1,1]) (kDone Prog (resOf Prog F.ζ1l)) .normal [(2,a2),(3,a3),(4,a4),(6,a6),(8,a8),(18,a18)] h
def ζ1l (k:Nat) (call:Caller) (a0 a1 a2:Value) (h:Heap):Res Value :=
 (boxR a0 h).bind fun v1 h2 =>
 (boxR a1 h2).bind fun v3 h4 =>
 (allocR Prog 129 h4).bind fun v5 h6 =>
 (fieldAddrR Prog 171 v3 5 h6).bind fun v7 h8 =>
 (loadR Prog 4 v7 h8).bind fun v9 h10 =>
 condV (some v9) (
 (buildR Prog 129 [] h10).bind fun v11 h12 =>
 (storeR Prog 129 v5 v11 h12).bind fun _v13 h14 =>
 (loadR Prog 129 v5 h14).bind fun v15 h16 =>
 .ok (.tuple #[v15,(.bool false)]) h16)
 (
 (fieldAddrR Prog 171 v3 1 h10).bind fun v17 h18 =>
 (loadR Prog 3 v17 h18).bind fun v19 h20 =>
 (builtinV Prog .len [61] [a2] h20).bind fun v21 h22 =>
 (binR Prog .lss 3 v19 v21 h22).bind fun v23 h24 =>
 condV (some v23) (
 (loadR Prog 44 v1 h24).bindN fun v25 h26 =>
 (fieldAddrR Prog 171 v3 1 h26).bindN fun v27 h28 =>
 (loadR Prog 3 v27 h28).bindN fun v29 h30 =>
 (indexAddrR Prog 61 a2 v29 h30).bindN fun v31 h32 =>
 (fieldAddrR Prog 150 v31 0 h32).bindN fun v33 h34 =>
 (loadR Prog 3 v33 h34).bindN fun v35 h36 =>
 (call F.ζ20 [v25,v35] h36).bindT (fun p39 h40 => .panic p39 h40) fun v37 h38 =>
 ζa8 k call v1 v3 v5 v37 h38)
 (
 ζa9 k call a2 v1 v3 v5 (.int .i64 0) v23 h24))
theorem ζio (k:Nat) (a0 a1 a2:Value) (h:Heap):R (T k) F.ζ1l [a0,a1,a2] h = nrm .gc h (ζ1l k (R (T k)) a0 a1 a2 h) :=
 (R_body (t:=T k) (T_scott k) (by kernel_rfl) (by kernel_rfl) _ _).trans (by kernel_rfl)
theorem ζcq (k:Nat) (call:Caller) (a3 a4 a6 a8:Value) (h:Heap):ζa8 k call a3 a4 a6 a8 h =
 (loadR Prog 44 a3 h).bind fun v41 h42 =>
 (fieldAddrR Prog 171 a4 0 h42).bind fun v43 h44 =>
 (loadR Prog 3 v43 h44).bind fun v45 h46 =>
 (call F.ζ1s [v41,v45,a8] h46).bind fun v47 h48 =>
 (extractR v47 0 h48).bind fun v49 h50 =>
 (extractR v47 1 h50).bind fun v51 h52 =>
 (allocR Prog 129 h52).bind fun v53 h54 =>
 (storeR Prog 129 v53 v49 h54).bind fun _v55 h56 =>
 (loadR Prog 129 v53 h56).bind fun v57 h58 =>
 (storeR Prog 129 a6 v57 h58).bind fun _v59 h60 =>
 (loadR Prog 129 a6 h60).bind fun v61 h62 =>
 .ok (.tuple #[v61,v51]) h62:=by kernel_rfl
theorem ζcr (k:Nat) (call:Caller) (a2 a3 a4 a6 a8 a18:Value) (h:Heap):ζa9 k call a2 a3 a4 a6 a8 a18 h =
 (loadR Prog 44 a3 h).bind fun v63 h64 =>
 (fieldAddrR Prog 171 a4 0 h64).bind fun v65 h66 =>
 (loadR Prog 3 v65 h66).bind fun v67 h68 =>
 (call F.ζ1s [v63,v67,a8] h68).bind fun v69 h70 =>
 (extractR v69 0 h70).bind fun v71 h72 =>
 (extractR v69 1 h72).bind fun v73 h74 =>
 (allocR Prog 129 h74).bind fun v75 h76 =>
 (storeR Prog 129 v75 v71 h76).bind fun _v77 h78 =>
 (loadR Prog 129 v75 h78).bind fun v79 h80 =>
 (storeR Prog 129 a6 v79 h80).bind fun _v81 h82 =>
 (loadR Prog 129 a6 h82).bind fun v83 h84 =>
 .ok (.tuple #[v83,v73]) h84:=by kernel_rfl
def ζ8p (k:Nat) (call:Caller) (a5 a10 a11:Value) (h:Heap):Res Value :=
 kSeq (pieceK (C k) call F.ζc [1,1,1,1,1]) (kDone Prog (resOf Prog F.ζc)) .normal [(5,a5),(10,a10),(11,a11)] h
def ζbo (k:Nat) (call:Caller) (a5 a10 a11:Value) (h:Heap):Res Value :=
 kSeq (pieceK (C k) call F.ζc [1,1,1,1,1,1]) (kDone Prog (resOf Prog F.ζc)) .normal [(5,a5),(10,a10),(11,a11)] h
def ζbp (k:Nat) (call:Caller) (a5 a10 a11 a39:Value) (h:Heap):Res Value :=
 kSeq (pieceK (C k) call F.ζc [1,1,1,1,1,1]) (kDone Prog (resOf Prog F.ζc)) .normal [(5,a5),(10,a10),(11,a11),(39,a39)] h
def ζ4o (k:Nat) (call:Caller) (a5 a10:Value) (h:Heap):Res Value :=
 kSeq (pieceK (C k) call F.ζc [1,1,1,1,1,1,1]) (kDone Prog (resOf Prog F.ζc)) .normal [(5,a5),(10,a10)] h
def ζ8q (k:Nat) (call:Caller) (a5 a10 a52:Value) (h:Heap):Res Value :=
 kSeq (pieceK (C k) call F.ζc [1,1,1,1,1,1,1]) (kDone Prog (resOf Prog F.ζc)) .normal [(5,a5),(10,a10),(52,a52)] h
def ζc (k:Nat) (call:Caller) (a0 a1 a2 a3 a4:Value) (h:Heap):Res Value :=
 (boxR a0 h).bind fun v1 h2 =>
 (boxR a1 h2).bind fun v3 h4 =>
 (allocR Prog 171 h4).bind fun v5 h6 =>
 (fieldAddrR Prog 171 v1 1 h6).bind fun v7 h8 =>
 (loadR Prog 3 v7 h8).bind fun v9 h10 =>
 (binR Prog .geq 3 v9 a2 h10).bind fun v11 h12 =>
 (fieldAddrR Prog 171 v1 2 h12).bind fun v13 h14 =>
 (loadR Prog 3 v13 h14).bind fun v15 h16 =>
 (binR Prog .add 3 v15 (.int .i64 1) h16).bind fun v17 h18 =>
 (fieldAddrR Prog 171 v1 2 h18).bind fun v19 h20 =>
 (storeR Prog 3 v19 v17 h20).bind fun _v21 h22 =>
 (fieldAddrR Prog 129 v3 0 h22).bind fun v23 h24 =>
 (loadR Prog 3 v23 h24).bind fun v25 h26 =>
 (fieldAddrR Prog 171 v1 0 h26).bind fun v27 h28 =>
 (storeR Prog 3 v27 v25 h28).bind fun _v29 h30 =>
 (fieldAddrR Prog 129 v3 1 h30).bind fun v31 h32 =>
 (loadR Prog 3 v31 h32).bind fun v33 h34 =>
 (binR Prog .quo 3 v33 (.int .i64 16384) h34).bind fun v35 h36 =>
 (binR Prog .rem 3 v35 (.int .i64 2) h36).bind fun v37 h38 =>
 (binR Prog .eql 3 v37 (.int .i64 1) h38).bind fun v39 h40 =>
 condV (some v39) (
 (fieldAddrR Prog 171 v1 3 h40).bind fun v41 h42 =>
 (loadR Prog 3 v41 h42).bind fun v43 h44 =>
 (binR Prog .add 3 v43 (.int .i64 1) h44).bind fun v45 h46 =>
 (fieldAddrR Prog 171 v1 3 h46).bind fun v47 h48 =>
 (storeR Prog 3 v47 v45 h48).bind fun _v49 h50 =>
 (fieldAddrR Prog 171 v1 1 h50).bind fun v51 h52 =>
 (storeR Prog 3 v51 a3 h52).bind fun _v53 h54 =>
 ζ8p k call v1 v5 (.bool false) h54)
 (
 (fieldAddrR Prog 171 v1 3 h40).bind fun v55 h56 =>
 (storeR Prog 3 v55 (.int .i64 0) h56).bind fun _v57 h58 =>
 (fieldAddrR Prog 171 v1 1 h58).bind fun v59 h60 =>
 (storeR Prog 3 v59 a4 h60).bind fun _v61 h62 =>
 ζ8p k call v1 v5 v11 h62)
theorem ζkz (k:Nat) (a0 a1 a2 a3 a4:Value) (h:Heap):R (T k) F.ζc [a0,a1,a2,a3,a4] h = nrm .gc h (ζc k (R (T k)) a0 a1 a2 a3 a4 h) :=
 (R_body (t:=T k) (T_scott k) (by kernel_rfl) (by kernel_rfl) _ _).trans (by kernel_rfl)
theorem ζz (k:Nat) (call:Caller) (a5 a10 a11:Value) (h:Heap):ζ8p k call a5 a10 a11 h =
 (fieldAddrR Prog 171 a5 1 h).bind fun v63 h64 =>
 (loadR Prog 3 v63 h64).bind fun v65 h66 =>
 (binR Prog .lss 3 v65 (.int .i64 0) h66).bind fun v67 h68 =>
 condV (some v67) (
 (fieldAddrR Prog 171 a5 1 h68).bind fun v69 h70 =>
 (storeR Prog 3 v69 (.int .i64 0) h70).bind fun _v71 h72 =>
 ζbo k call a5 a10 a11 h72)
 (
 ζbp k call a5 a10 a11 v67 h68):=by kernel_rfl
theorem ζ2m (k:Nat) (call:Caller) (a5 a10 a11:Value) (h:Heap):ζbo k call a5 a10 a11 h =
 condV (some a11) (
 (fieldAddrR Prog 171 a5 5 h).bind fun v73 h74 =>
 (storeR Prog 4 v73 (.bool true) h74).bind fun _v75 h76 =>
 ζ4o k call a5 a10 h76)
 (
 (fieldAddrR Prog 171 a5 2 h).bind fun v77 h78 =>
 (loadR Prog 3 v77 h78).bind fun v79 h80 =>
 (fieldAddrR Prog 171 a5 4 h80).bind fun v81 h82 =>
 (loadR Prog 3 v81 h82).bind fun v83 h84 =>
 (binR Prog .geq 3 v79 v83 h84).bind fun v85 h86 =>
 ((bif wantVal v85 false then fieldAddrR Prog 171 a5 3 h86 else Res.ok undef h86)).bind fun v87 h88 =>
 ((bif wantVal v85 false then loadR Prog 3 v87 h88 else Res.ok undef h88)).bind fun v89 h90 =>
 ((bif wantVal v85 false then binR Prog .gtr 3 v89 (.int .i64 64) h90 else Res.ok undef h90)).bind fun v91 h92 =>
 (condV (some v85) (Res.ok (.bool true) h92) (Res.ok v91 h92)).bind fun v93 h94 =>
 condV (some v93) (
 (fieldAddrR Prog 171 a5 5 h94).bind fun v95 h96 =>
 (storeR Prog 4 v95 (.bool true) h96).bind fun _v97 h98 =>
 (fieldAddrR Prog 171 a5 6 h98).bind fun v99 h100 =>
 (storeR Prog 3 v99 (.int .i64 4) h100).bind fun _v101 h102 =>
 ζ4o k call a5 a10 h102)
 (
 ζ8q k call a5 a10 v93 h94)):=by kernel_rfl
theorem ζ2n (k:Nat) (call:Caller) (a5 a10 a11 a39:Value) (h:Heap):ζbp k call a5 a10 a11 a39 h =
 condV (some a11) (
 (fieldAddrR Prog 171 a5 5 h).bind fun v103 h104 =>
 (storeR Prog 4 v103 (.bool true) h104).bind fun _v105 h106 =>
 ζ4o k call a5 a10 h106)
 (
 (fieldAddrR Prog 171 a5 2 h).bind fun v107 h108 =>
 (loadR Prog 3 v107 h108).bind fun v109 h110 =>
 (fieldAddrR Prog 171 a5 4 h110).bind fun v111 h112 =>
 (loadR Prog 3 v111 h112).bind fun v113 h114 =>
 (binR Prog .geq 3 v109 v113 h114).bind fun v115 h116 =>
 ((bif wantVal v115 false then fieldAddrR Prog 171 a5 3 h116 else Res.ok undef h116)).bind fun v117 h118 =>
 ((bif wantVal v115 false then loadR Prog 3 v117 h118 else Res.ok undef h118)).bind fun v119 h120 =>
 ((bif wantVal v115 false then binR Prog .gtr 3 v119 (.int .i64 64) h120 else Res.ok undef h120)).bind fun v121 h122 =>
 (condV (some v115) (Res.ok (.bool true) h122) (Res.ok v121 h122)).bind fun v123 h124 =>
 condV (some v123) (
 (fieldAddrR Prog 171 a5 5 h124).bind fun v125 h126 =>
 (storeR Prog 4 v125 (.bool true) h126).bind fun _v127 h128 =>
 (fieldAddrR Prog 171 a5 6 h128).bind fun v129 h130 =>
 (storeR Prog 3 v129 (.int .i64 4) h130).bind fun _v131 h132 =>
 ζ4o k call a5 a10 h132)
 (
 ζ8q k call a5 a10 v123 h124)):=by kernel_rfl
theorem ζ1r (k:Nat) (call:Caller) (a5 a10:Value) (h:Heap):ζ4o k call a5 a10 h =
 (loadR Prog 171 a5 h).bind fun v133 h134 =>
 (storeR Prog 171 a10 v133 h134).bind fun _v135 h136 =>
 (loadR Prog 171 a10 h136).bind fun v137 h138 =>
 .ok v137 h138:=by kernel_rfl
theorem ζ4c (k:Nat) (call:Caller) (a5 a10 a52:Value) (h:Heap):ζ8q k call a5 a10 a52 h =
 (loadR Prog 171 a5 h).bind fun v139 h140 =>
 (storeR Prog 171 a10 v139 h140).bind fun _v141 h142 =>
 (loadR Prog 171 a10 h142).bind fun v143 h144 =>
 .ok v143 h144:=by kernel_rfl
end
end Go.Sw
end
section
namespace Go.Sw
open Go.RowKit
structure Way where
 st:Int
 pl:Int
 stp:Int
 rest:Int
 most:Int
 over:Bool
 code:Int
abbrev wayC (w:Way):List Value:=[.int .i64 w.st,.int .i64 w.pl,.int .i64 w.stp,.int .i64 w.rest,.int .i64 w.most,.bool w.over,.int .i64 w.code]
abbrev wayV (w:Way):Value:=.agg (wayC w).toArray
theorem Flat.way (w:Way):Flat (wayV w):=.aggL (.cons (.int _ _) (.cons (.int _ _) (.cons (.int _ _) (.cons (.int _ _) (.cons (.int _ _) (.cons (.bool _) (.cons (.int _ _) .nil)))))))
theorem ζs5 (k:Nat) (n:Int) (h0:0 ≤ n) (h1:n < 2 ^ 40) (H:Heap):R (T k) F.ζ32 [.int .i64 n] H = .ok (wayV ⟨0,0,0,0,2 * n + 128,false,0⟩) H:=by
 rw [ζfd];refine nrm_gc ⟨H.push ⟨wayC ⟨0,0,0,0,2 * n + 128,false,0⟩,1,false⟩,?_,(Ext.refl H).push _⟩ (Flat.way _).alive;simp -implicitDefEqProofs (disch:=omega) [ζ32]
def goS (w:Way) (e:En) (n stay on:Int):Way :=
 let s:Bool:=decide (e.flags / 16384 % 2 = 1)
 let rest:=if s then w.rest + 1 else 0
 let pl:=max (if s then stay else on) 0
 let fin:Bool:=!s && decide (w.pl ≥ n)
 if fin then ⟨e.next,pl,w.stp + 1,rest,w.most,true,w.code⟩
 else if w.stp + 1 ≥ w.most ∨ rest > 64 then ⟨e.next,pl,w.stp + 1,rest,w.most,true,4⟩
 else ⟨e.next,pl,w.stp + 1,rest,w.most,w.over,w.code⟩
set_option maxHeartbeats 1000000 in
theorem Go_run (k:Nat) (w:Way) (e:En) (n stay on:Int) (hw:0 ≤ w.stp ∧ w.stp < 2 ^ 50 ∧ 0 ≤ w.rest ∧ w.rest < 2 ^ 50) (he:0 ≤ e.flags ∧ e.flags < 65536) (H:Heap) :
  R (T k) F.ζc [wayV w,encE e,.int .i64 n,.int .i64 stay,.int .i64 on] H = .ok (wayV (goS w e n stay on)) H:=by
 rw [ζkz];have q1:=fun H => bin_quo Prog 3 H .i64 e.flags 16384 (by decide);rw [Int.tdiv_eq_ediv_of_nonneg he.1] at q1;have hq:0 ≤ e.flags / 16384:=Int.ediv_nonneg he.1 (by decide);have q2:=fun H => bin_rem Prog 3 H .i64 (e.flags / 16384) 2 (by decide);rw [Int.tmod_eq_emod_of_nonneg hq] at q2;refine nrm_gc ⟨((H.push ⟨wayC (goS w e n stay on),1,false⟩).push ⟨encEn e,1,false⟩).push ⟨wayC (goS w e n stay on),1,false⟩,?_,(((Ext.refl H).push _).push _).push _⟩ (Flat.way _).alive;unfold goS;by_cases c1:e.flags / 16384 % 2 = 1
 ·have m1:max stay 0 = if stay < 0 then 0 else stay:=by split <;> omega
  by_cases c2:stay < 0
  ·by_cases c3:w.stp + 1 ≥ w.most
   ·simp -implicitDefEqProofs (disch:=omega) [ζc,q1,q2,c1,m1,c2,c3,ζz,ζ2m,ζ1r]
   ·by_cases c4:w.rest + 1 > 64
    ·simp -implicitDefEqProofs (disch:=omega) [ζc,q1,q2,c1,m1,c2,c3,c4,ζz,ζ2m,ζ1r]
    ·simp -implicitDefEqProofs (disch:=omega) [ζc,q1,q2,c1,m1,c2,c3,c4,ζz,ζ2m,ζ4c]
  ·by_cases c3:w.stp + 1 ≥ w.most
   ·simp -implicitDefEqProofs (disch:=omega) [ζc,q1,q2,c1,m1,c2,c3,ζz,ζ2n,ζ1r]
   ·by_cases c4:w.rest + 1 > 64
    ·simp -implicitDefEqProofs (disch:=omega) [ζc,q1,q2,c1,m1,c2,c3,c4,ζz,ζ2n,ζ1r]
    ·simp -implicitDefEqProofs (disch:=omega) [ζc,q1,q2,c1,m1,c2,c3,c4,ζz,ζ2n,ζ4c]
 ·have c1':(e.flags / 16384 % 2 == 1) = false:=by simpa using c1
  have m1:max on 0 = if on < 0 then 0 else on:=by split <;> omega
  by_cases c5:w.pl ≥ n
  ·by_cases c2:on < 0
   ·simp -implicitDefEqProofs (disch:=omega) [ζc,q1,q2,c1,c1',m1,c2,c5,ζz,ζ2m,ζ1r]
   ·simp -implicitDefEqProofs (disch:=omega) [ζc,q1,q2,c1,c1',m1,c2,c5,ζz,ζ2n,ζ1r]
  ·by_cases c3:w.stp + 1 ≥ w.most
   ·by_cases c2:on < 0
    ·simp -implicitDefEqProofs (disch:=omega) [ζc,q1,q2,c1,c1',m1,c2,c3,c5,ζz,ζ2m,ζ1r]
    ·simp -implicitDefEqProofs (disch:=omega) [ζc,q1,q2,c1,c1',m1,c2,c3,c5,ζz,ζ2n,ζ1r]
   ·by_cases c2:on < 0
    ·simp -implicitDefEqProofs (disch:=omega) [ζc,q1,q2,c1,c1',m1,c2,c3,c5,ζz,ζ2m,ζ4c]
    ·simp -implicitDefEqProofs (disch:=omega) [ζc,q1,q2,c1,c1',m1,c2,c3,c5,ζz,ζ2n,ζ4c]
end Go.Sw
end
section
namespace Go.Sw
open Go.RowKit
theorem ζsi (m:Mach) (l:List Gl) (pl:Int) (h:0 ≤ pl):(clsS m l pl).1 = if pl < l.length then (match l[pl.toNat]? with | some g => classS m g.id | none => 0) else 0:=by
 unfold clsS atG;by_cases h2:pl < l.length
 ·rw [if_pos ⟨h,h2⟩,if_pos h2];obtain ⟨g,hg⟩:∃ g,l[pl.toNat]? = some g:=⟨_,List.getElem?_eq_getElem (by omega)⟩
  rw [hg]
 ·rw [if_neg (fun hc => h2 hc.2),if_neg h2]
set_option maxHeartbeats 1000000 in
theorem Next_run (k:Nat) {b:List Int} (hb:Byt b) {g w:Int} (hg:1 ≤ g ∧ g ≤ 65535) (hw:w = 0 ∨ w = 1 ∨ w = 2) (hl:b.length < 2 ^ 31) {m:Mach} (hm:m.ok) (h:machS b g w = some m) (y:Way) (hy:y.over = false) (hp:0 ≤ y.pl) (l:List Gl) (hll:l.length < 2 ^ 40) (H:Heap) :
  R (T k) F.ζ1l [rmV (rmOf b g w m),wayV y,lv encG l] H = .ok (.tuple #[encEA (stepS m y.st (clsS m l y.pl).1),.bool (stepS m y.st (clsS m l y.pl).1).isSome]) H:=by
 rw [ζio];have hstep:=fun c H' => ζtt k hb hw hl hm h y.st c H';have hcls:=fun id H' => ζqr k hb hg hl hm h id H';have hc:=ζsi m l y.pl hp;obtain ⟨st,pl,stp,rest,most,over,code⟩:=y;dsimp only at hy hp hstep hc ⊢;subst hy;generalize rmOf b g w m = r at hstep hcls ⊢;have fl:∀ o:Option En,Flat (.tuple #[encEA o,.bool o.isSome]):=fun o => .tupleL (.cons (ζjk _) (.cons (.bool _) .nil));by_cases h2:pl < l.length
 ·rw [if_pos h2] at hc;obtain ⟨gl,hgl⟩:∃ gl,l[pl.toNat]? = some gl:=⟨_,List.getElem?_eq_getElem (by omega)⟩
  rw [hgl] at hc;dsimp only at hc;have i1:=fun H' => ixS_lv encG_len l .i64 pl gl hp hgl H';rw [hc];generalize hs:stepS m st (classS m gl.id) = o;have hst:=fun H' => hstep (classS m gl.id) H';rw [hs] at hst;have fo:=fl o;unfold encEA at hst fo ⊢;generalize o.isSome = z at hst fo ⊢;generalize o.getD ⟨0,0,0,0⟩ = e at hst fo ⊢;refine nrm_gc ⟨((((H.push ⟨rmCells r.b r.cl r.rowsAt r.entsAt r.states r.n r.words r.tb r.parts,1,false⟩).push ⟨[.int .i64 st,.int .i64 pl,.int .i64 stp,.int .i64 rest,.int .i64 most,.bool false,.int .i64 code],1,false⟩).push ⟨encEn e,1,false⟩).push ⟨encEn e,1,false⟩),?_,((((Ext.refl H).push _).push _).push _).push _⟩ fo.alive;simp -implicitDefEqProofs (disch:=omega) [ζ1l,h2,i1,hcls,ζcq,hst]
 ·rw [if_neg h2] at hc;rw [hc];generalize hs:stepS m st 0 = o;have hst:=fun H' => hstep 0 H';rw [hs] at hst;have fo:=fl o;unfold encEA at hst fo ⊢;generalize o.isSome = z at hst fo ⊢;generalize o.getD ⟨0,0,0,0⟩ = e at hst fo ⊢;refine nrm_gc ⟨((((H.push ⟨rmCells r.b r.cl r.rowsAt r.entsAt r.states r.n r.words r.tb r.parts,1,false⟩).push ⟨[.int .i64 st,.int .i64 pl,.int .i64 stp,.int .i64 rest,.int .i64 most,.bool false,.int .i64 code],1,false⟩).push ⟨encEn e,1,false⟩).push ⟨encEn e,1,false⟩),?_,((((Ext.refl H).push _).push _).push _).push _⟩ fo.alive;simp -implicitDefEqProofs (disch:=omega) [ζ1l,h2,ζcr,hst]
end Go.Sw
end
section
namespace Go.Sw
open Go.RowKit
end Go.Sw
end
section
namespace Go.Sw
open Go.RowKit
variable {σ:Type}
abbrev drvW (y:Way):Drv:=⟨y.st,y.pl,y.stp,y.rest⟩
def docStepG (m:Mach) (ln:σ → List Gl) (f:σ → Int → En → σ × Int × Int) (x:σ × Way):σ × Way :=
 ((f x.1 x.2.pl (entS m (ln x.1) (drvW x.2))).1,goS x.2 (entS m (ln x.1) (drvW x.2)) ((ln x.1).length:Int) (f x.1 x.2.pl (entS m (ln x.1) (drvW x.2))).2.1 (f x.1 x.2.pl (entS m (ln x.1) (drvW x.2))).2.2)
def docRG (m:Mach) (ln:σ → List Gl) (f:σ → Int → En → σ × Int × Int):Nat → σ × Way → σ × Way
 | 0,x => x
 | n + 1,x => if x.2.over = true then x else docRG m ln f n (docStepG m ln f x)
theorem ζb5 (m:Mach) (ln:σ → List Gl) (f:σ → Int → En → σ × Int × Int) (n:Nat) (x:σ × Way) (h:x.2.over = true):docRG m ln f n x = x:=by
 cases n with
 | zero => rfl
 | succ n => unfold docRG; rw [if_pos h]
theorem clsS_end (m:Mach) (l:List Gl) (p:Int) (h:0 ≤ p):(clsS m l p).2 = decide (p ≥ l.length):=by
 unfold clsS atG;by_cases h2:p < l.length
 ·obtain ⟨g,hg⟩:∃ g,l[p.toNat]? = some g:=⟨_,List.getElem?_eq_getElem (by omega)⟩
  rw [if_pos ⟨h,h2⟩,hg,decide_eq_false (by omega)]
 ·rw [if_neg (fun hc => h2 hc.2),decide_eq_true (by omega)]
theorem doc_runG (m:Mach) (ln:σ → List Gl) (f:σ → Int → En → σ × Int × Int) (N:Int):∀ (n:Nat) (s:σ) (y:Way),y.over = false → y.code = 0 → 0 ≤ y.pl → y.most = N → y.stp < N → N - y.stp ≤ n →
  runD m ln f N n (s,drvW y) = ((docRG m ln f n (s,y)).2.stp,(docRG m ln f n (s,y)).2.code,(docRG m ln f n (s,y)).1)
 | 0,s,y,_,_,_,_,h1,h2 => by omega
 | n + 1,s,y,hov,hc0,hp,hN,hlt,hn => by
  have hend:=clsS_end m (ln s) y.pl hp;have hd:docRG m ln f (n + 1) (s,y) = docRG m ln f n (docStepG m ln f (s,y)):=by
   show (if y.over = true then (s,y) else docRG m ln f n (docStepG m ln f (s,y))) = _;rw [if_neg (by rw [hov]; simp)]
  rw [hd];unfold runD;rw [if_pos hlt];unfold docStepG stepD;dsimp only;generalize entS m (ln s) (drvW y) = e;generalize f s y.pl e = r;rw [hend];unfold goS;dsimp only;by_cases c1:e.flags / 16384 % 2 = 1
  ·rw [if_pos c1,decide_eq_true c1];simp only [Bool.not_true,Bool.false_and,Bool.false_eq_true,if_false,if_true];by_cases c2:y.rest + 1 > 64
   ·rw [if_pos c2,if_pos (Or.inr c2)];rw [ζb5 _ _ _ _ _ rfl]
   ·rw [if_neg c2];by_cases c3:y.stp + 1 ≥ y.most
    ·rw [if_pos (Or.inl c3),ζb5 _ _ _ _ _ rfl];cases n with
     | zero => rfl
     | succ n => unfold runD; dsimp only; rw [if_neg (by omega)]
    ·rw [if_neg (by omega)];exact doc_runG m ln f N n _ ⟨e.next,max r.2.1 0,y.stp + 1,y.rest + 1,y.most,y.over,y.code⟩ hov hc0 (by dsimp only; omega) hN (by dsimp only; omega) (by dsimp only; omega)
  ·rw [if_neg c1,decide_eq_false c1];simp only [Bool.not_false,Bool.true_and,Bool.false_eq_true,if_false];by_cases c4:y.pl ≥ (ln s).length
   ·rw [decide_eq_true c4];simp only [if_true];rw [ζb5 _ _ _ _ _ rfl,hc0]
   ·rw [decide_eq_false c4];simp only [Bool.false_eq_true,if_false];rw [if_neg (show ¬ (0:Int) > 64 by decide)];by_cases c3:y.stp + 1 ≥ y.most
    ·rw [if_pos (Or.inl c3),ζb5 _ _ _ _ _ rfl];cases n with
     | zero => rfl
     | succ n => unfold runD; dsimp only; rw [if_neg (by omega)]
    ·rw [if_neg (by omega)];exact doc_runG m ln f N n _ ⟨e.next,max r.2.2 0,y.stp + 1,0,y.most,y.over,y.code⟩ hov hc0 (by dsimp only; omega) hN (by dsimp only; omega) (by dsimp only; omega)
theorem goS_all (y:Way) (e:En) (n stay on:Int) (hr:0 ≤ y.rest):let z:=goS y e n stay on
  z.most = y.most ∧ z.stp = y.stp + 1 ∧ z.st = e.next ∧ 0 ≤ z.pl ∧ z.pl ≤ max (max stay on) 0 ∧ 0 ≤ z.rest ∧ z.rest ≤ y.rest + 1 ∧ (z.over = false → z.stp < z.most ∧ z.rest ≤ 64):=by
 intro z;have hz:z = goS y e n stay on:=rfl
 clear_value z
 unfold goS at hz;dsimp only at hz;by_cases c1:e.flags / 16384 % 2 = 1
 ·rw [decide_eq_true c1] at hz;simp only [Bool.not_true,Bool.false_and,Bool.false_eq_true,if_false,if_true] at hz;split at hz <;> subst hz <;> dsimp only <;> refine ⟨rfl,rfl,rfl,by omega,by omega,by omega,by omega,fun h => ?_⟩
  ·cases h
  ·omega
 ·rw [decide_eq_false c1] at hz;simp only [Bool.not_false,Bool.true_and,Bool.false_eq_true,if_false] at hz;split at hz
  ·subst hz; dsimp only; exact ⟨rfl,rfl,rfl,by omega,by omega,by omega,by omega,fun h => by cases h⟩
  ·split at hz <;> subst hz <;> dsimp only <;> refine ⟨rfl,rfl,rfl,by omega,by omega,by omega,by omega,fun h => ?_⟩
   ·cases h
   ·omega
def WayOk (m:Mach) (N j:Nat) (y:Way):Prop:=y.over = false → y.stp = j ∧ y.stp < N ∧ y.most = N ∧ 0 ≤ y.pl ∧ y.pl ≤ 128 * j ∧ 0 ≤ y.rest ∧ y.rest ≤ j ∧ 0 ≤ y.st ∧ y.st < m.rows.length
theorem doc_loop {body:Env → Heap → Res (AExit × Env)} (m:Mach) (hm:m.ok) (ln:σ → List Gl) (f:σ → Int → En → σ × Int × Int) (N:Nat) (h0N:0 < N) (hN:N < 2 ^ 42)
  (At:σ × Way → Env → Heap → Prop) (Inv:σ → Prop) (Q:σ × Way → AExit → Env → Heap → Prop)
  (hover:∀ x e H,At x e H → Inv x.1 → x.2.over = true → ∃ xx e' H',body e H = .ok (xx,e') H' ∧ xx ≠ .normal ∧ Q x xx e' H')
  (hstep:∀ s y en e H,At (s,y) e H → Inv s → y.over = false → 0 ≤ y.pl → y.pl < 2 ^ 50 → 0 ≤ y.stp → y.stp < 2 ^ 50 → 0 ≤ y.rest → y.rest < 2 ^ 50 → en ∈ m.ents → en = entS m (ln s) (drvW y) →
   ∃ e' H',body e H = .ok (.normal,e') H' ∧ At ((f s y.pl en).1,goS y en ((ln s).length:Int) (f s y.pl en).2.1 (f s y.pl en).2.2) e' H' ∧ Inv (f s y.pl en).1 ∧ (f s y.pl en).2.1 ≤ y.pl + 128 ∧ (f s y.pl en).2.2 ≤ y.pl + 128)
  (s0:σ) {e0:Env} {H0:Heap} (hA:At (s0,⟨0,0,0,0,N,false,0⟩) e0 H0) (hI:Inv s0) :
  ∃ xx e' H',loopN body loopFuel e0 H0 = .ok (xx,e') H' ∧ Q (docRG m ln f N (s0,⟨0,0,0,0,N,false,0⟩)) xx e' H':=by
 generalize hr0:docRG m ln f N (s0,⟨0,0,0,0,N,false,0⟩) = r
 exact loop_up (body:=body) N
  (fun j e H' => ∃ x:σ × Way,At x e H' ∧ Inv x.1 ∧ docRG m ln f (N - j) x = r ∧ WayOk m N j x.2)
  (fun xx e H' => Q r xx e H')
  ⟨_,hA,hI,by rw [Nat.sub_zero]; exact hr0,fun _ => by have:=hm.two; dsimp only; omega⟩ (by omega)
  (fun j e H' hj ⟨x,hA,hI,hd,hnot⟩ => by
   obtain ⟨s,y⟩:=x;dsimp only at hI hnot;cases hov:y.over with
   | true =>
    rw [ζb5 _ _ _ _ _ hov] at hd;subst hd;obtain ⟨xx,e',H2,h1,h2,h3⟩:=hover (s,y) e H' hA hI hov;exact .inr ⟨xx,e',H2,h1,h2,h3⟩
   | false =>
    obtain ⟨n1,n2,n3,n4,n5,n6,n7,n8,n9⟩:=hnot hov;have hNj:N - j = (N - (j + 1)) + 1:=by omega
    rw [hNj] at hd;have hd2:docRG m ln f (N - (j + 1)) (docStepG m ln f (s,y)) = r:=by
     rw [← hd];show _ = (if y.over = true then _ else docRG m ln f (N - (j + 1)) (docStepG m ln f (s,y)))
     rw [if_neg (by rw [hov]; simp)]
    unfold docStepG at hd2;dsimp only at hd2;have hmem:=entS_mem hm (ln s) (drvW y) ⟨n8,n9⟩;have hent:=hm.ent _ hmem;obtain ⟨e',H2,h1,h2,h3,h4,h5⟩:=hstep s y _ e H' hA hI hov n4 (by omega) (by omega) (by omega) n6 (by omega) hmem rfl;refine .inl ⟨e',H2,h1,_,h2,h3,hd2,fun hz => ?_⟩;have g:=goS_all y (entS m (ln s) (drvW y)) ((ln s).length:Int) (f s y.pl (entS m (ln s) (drvW y))).2.1 (f s y.pl (entS m (ln s) (drvW y))).2.2 n6;dsimp only at g hz ⊢;obtain ⟨g1,g2,g3,g4,g5,g6,g7,g8⟩:=g;have:=g8 hz;refine ⟨by omega,by omega,by omega,g4,by omega,g6,by omega,by omega,by omega⟩)
  (fun e H' ⟨x,hA,hI,hd,hnot⟩ => by
   rw [Nat.sub_self] at hd;have hd:x = r:=hd;subst hd;have hov:x.2.over = true:=by
    cases h:x.2.over with
    | true => rfl
    | false => have:=hnot h; omega
   exact hover x e H' hA hI hov)
end Go.Sw
end
section
namespace Go.Sw
open Go.RowKit
end Go.Sw
end
section
namespace Go.Sw
open Go.RowKit
end Go.Sw
end
section
namespace Go.Sw
open Go.RowKit
abbrev zC10:List Value:=[.slice none 0 0,.int .i64 0,.int .i64 0,.int .i64 0,.int .i64 0,.int .i64 0,.int .i64 0,.slice none 0 0,.slice none 0 0,.slice none 0 0]
abbrev rmC (r:RMach):List Value:=rmCells r.b r.cl r.rowsAt r.entsAt r.states r.n r.words r.tb r.parts
end Go.Sw
end
section
namespace Go.Sw
open Go.RowKit
end Go.Sw
end
section
namespace Go.Sw
open Go.RowKit
end Go.Sw
end
section
namespace Go.Sw
open Go.RowKit
structure CPlan where
 m:Plan
 subs:List (List Int)
def CPlan.ok (p:CPlan):Prop:=(p.m.ok ∧ p.subs.length < 2 ^ 63) ∧ ∀ s,s ∈ p.subs → ∀ n,n ∈ s → 0 ≤ n ∧ n < 65536
def CSmall (p:CPlan) (n:Nat):Prop:=(∀ s,s ∈ p.subs → s.length ≤ 60) ∧ p.m.cls.length ≤ 40 ∧ p.m.rows.length ≤ 20 ∧ p.m.ents.length ≤ 40 ∧ p.subs.length ≤ 20 ∧ n ≤ 60
instance (p:CPlan) (n:Nat):Decidable (CSmall p n):=by unfold CSmall; infer_instance
end Go.Sw
end
section
namespace Go.Sw
open Go.RowKit
end Go.Sw
end
section
namespace Go.Sw
open Go.RowKit
end Go.Sw
end
section
namespace Go.Sw
open Go.RowKit
theorem arg_way {v:Value} (h:ArgLay (.agg [.int .i64,.bool]) v):∃ a c,v = .agg #[.int .i64 a,.bool c]:=by
 cases h with
 | agg ss ds vs h =>
  obtain ⟨_,v1,_,_,rfl,h1,h⟩:=h.head;obtain ⟨_,v2,_,_,rfl,h2,h⟩:=h.head;obtain rfl:=h.done;obtain ⟨a,rfl,_⟩:=h1.intv;obtain ⟨b,rfl⟩:=h2.boolv;exact ⟨a,b,rfl⟩
abbrev splSh:ASh:=.agg [.slice [.int .u8],.slice [.slice [.int .u8]],.slice [.int .i64,.int .i64,.int .i64,.int .i64],.int .u8,.slice [.int .i16]]
theorem row_16 {r:List Da} {cs:List Value} (h:LayRow [.int .i16] r cs):∃ n:Int,cs = enc16 n ∧ True:=by
 obtain ⟨_,v1,_,_,rfl,h1,h⟩:=h.head;obtain rfl:=h.done;obtain ⟨n,rfl,w⟩:=h1.intv;exact ⟨n,rfl,trivial⟩
theorem arg_spl {v:Value} (h:ArgLay splSh v):∃ x,v = splV x ∧ x.ok:=by
 cases h with
 | agg ss ds vs h =>
  obtain ⟨_,v1,_,_,rfl,h1,h⟩:=h.head;obtain ⟨_,v2,_,_,rfl,h2,h⟩:=h.head;obtain ⟨_,v3,_,_,rfl,h3,h⟩:=h.head;obtain ⟨_,v4,_,_,rfl,h4,h⟩:=h.head;obtain ⟨_,v5,_,_,rfl,h5,h⟩:=h.head;obtain rfl:=h.done;obtain ⟨a,rfl,wa⟩:=Lay.list (enc:=encB) (ok:=fun n => 0 ≤ n ∧ n < 256) (fun r cs h => row_B h) h1;obtain ⟨b,rfl,wb⟩:=Lay.list (enc:=encBR) (ok:=Byt) (fun r cs h => row_BR h) h2;obtain ⟨c,rfl,wc⟩:=Lay.list (enc:=encEn) (ok:=fun _ => True) (fun r cs h => row_En h) h3;obtain ⟨d,rfl,wd⟩:=h4.intv;obtain ⟨f,rfl,wf⟩:=Lay.list (enc:=enc16) (ok:=fun _ => True) (fun r cs h => row_16 h) h5;exact ⟨⟨⟨a,b,c,d⟩,f⟩,rfl,wa,wb,wf_u8 wd⟩
end Go.Sw
end
