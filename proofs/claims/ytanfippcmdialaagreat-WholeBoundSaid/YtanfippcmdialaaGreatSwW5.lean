/-
  Functions' forms, and what is proved of them, part 5.
-/
import Derived.Test.YtanfippcmdialaaGreatSwW4
import Derived.Test.YtanfippcmdialaaGreatSwCfg
import Derived.Test.YtanfippcmdialaaGreatSwLib8
import Derived.Test.YtanfippcmdialaaGreatSwW3
import Derived.Test.YtanfippcmdialaaGreatSwW2
import Derived.Test.YtanfippcmdialaaGreatSwLib9
set_option linter.unusedSimpArgs false
set_option linter.unusedVariables false
set_option linter.unusedSectionVars false
section
namespace Go.Sw
open Go.RowKit
end Go.Sw
end
section
namespace Go.Sw
open Go.RowKit
end Go.Sw
end
section
namespace Go.Sw
open Go.RowKit
def RP.ok (r:RP):Prop:=-1 ≤ r.first ∧ r.first ≤ 65536 ∧ -1 ≤ r.last ∧ r.last ≤ 65536 ∧ -1 ≤ r.pos ∧ r.pos < 2 ^ 35 ∧ 0 ≤ r.step ∧ r.step ≤ 4 ∧ 0 ≤ r.size ∧ r.size ≤ 4
end Go.Sw
end
section
namespace Go.Sw
open Go.RowKit
def placeS (l:List Int) (x:Int):Option Nat:=l.findIdx? fun y => decide (y = x)
structure PTab.ok (t:PTab):Prop where
 byt:Byt t.vb
 len:t.vb.length < 2 ^ 31
 body:(t.rows = none ∧ t.cols = none ∧ t.size = 2 ∧ t.vb.length = t.pairs.length * 6 ∧ upS t.pairs = true ∧ t.pairs.length < 2 ^ 31) ∨
  ∃ r c,t.rows = some r ∧ t.cols = some c ∧ ((∀ p,p ∈ r.2 → p.ok) ∧ risesS r.2 = true ∧ r.2.length < 2 ^ 31) ∧ ((∀ p,p ∈ c.2 → p.ok) ∧ risesS c.2 = true ∧ c.2.length < 2 ^ 31) ∧
   (t.size = 2 ∨ t.size = 4) ∧ (t.step = 1 ∨ t.step = 2 ∨ t.step = 4) ∧ (pieceS t.vb (t.step * (max (mostS r.2) 0 + max (mostS c.2) 0)) t.size).isSome = true
def pvalS (t:PTab) (i:Int):Int:=if t.size = 4 then s32 (gU t.vb i 4) else s16 (gU t.vb i 2)
def pgetS (t:PTab) (l r:Int):Int :=
 match t.rows,t.cols with
 | some a,some c => pvalS t (t.step * ((getS a.2 l).getD 0 + (getS c.2 r).getD 0))
 | _,_ => if l < 0 ∨ l > 65535 ∨ r < 0 ∨ r > 65535 then 0 else match placeS t.pairs (l * 65536 + r) with | some i => pvalS t (6 * (i:Int) + 4) | none => 0
end Go.Sw
end
section
namespace Go.Sw
open Go.RowKit
theorem ζlv (k:Nat) (m:Mach) (hm:m.ok) (id:Int) (H:Heap):R (T k) F.ζu [machV m,.int .i64 id] H = .ok (.int .i64 (classS m id)) H:=by
 rw [ζ8o];refine nrm_gc (Pure.of ?_) (.int _ _);have hget:=fun H => Get_run k m.tab hm.pts hm.rise id hm.plen H;unfold classS;by_cases h:id = 65535
 ·subst h;simp -implicitDefEqProofs (disch:=omega) [ζu]
 ·have h':(id == 65535) = false:=by simpa using h
  rw [if_neg h];cases hg:getS m.tab.2 id with
  | none =>
   rw [hg] at hget;simp -implicitDefEqProofs (disch:=omega) [ζu,h',hget]
  | some x =>
   rw [hg] at hget;dsimp only;by_cases hx:x < m.classes
   ·simp -implicitDefEqProofs (disch:=omega) [ζu,h',hget,hx]
   ·simp -implicitDefEqProofs (disch:=omega) [ζu,h',hget,hx]
def encEA (o:Option En):Value:=.agg (encEn (o.getD ⟨0,0,0,0⟩)).toArray
theorem ζko (o:Option En):Flat (encEA o):=Flat.ofEn _
theorem ζh1 {m:Mach} (hm:m.ok) {s c:Int} (h:0 ≤ s ∧ s < m.rows.length ∧ 0 ≤ c ∧ c < m.classes) :
  ∃ r x e,m.rows[s.toNat]? = some r ∧ r[c.toNat]? = some x ∧ 0 ≤ x ∧ m.ents[x.toNat]? = some e ∧ stepS m s c = some e:=by
 obtain ⟨r,hr⟩:∃ r,m.rows[s.toNat]? = some r:=⟨_,List.getElem?_eq_getElem (by omega)⟩
 have hrm:=hm.row r (List.mem_of_getElem? hr);obtain ⟨x,hx⟩:∃ x,r[c.toNat]? = some x:=⟨_,List.getElem?_eq_getElem (by omega)⟩
 have hxm:=hrm.2 x (List.mem_of_getElem? hx);obtain ⟨e,he⟩:∃ e,m.ents[x.toNat]? = some e:=⟨_,List.getElem?_eq_getElem (by omega)⟩
 refine ⟨r,x,e,hr,hx,hxm.1,he,?_⟩;unfold stepS;rw [if_pos h,hr,Option.bind_some,hx,Option.bind_some,he]
theorem Step_run (k:Nat) (m:Mach) (hm:m.ok) (s c:Int) (H:Heap):R (T k) F.ζs [machV m,.int .i64 s,.int .i64 c] H = .ok (.tuple #[encEA (stepS m s c),.bool (stepS m s c).isSome]) H:=by
 rw [ζ9f];have fl:Flat (.tuple #[encEA (stepS m s c),.bool (stepS m s c).isSome]):=.tupleL (.cons (ζko _) (.cons (.bool _) .nil));have no:¬ (0 ≤ s ∧ s < m.rows.length ∧ 0 ≤ c ∧ c < m.classes) → stepS m s c = none:=fun h => by unfold stepS; rw [if_neg h]
 have hx:Ext H (H.push ⟨[.int .i64 0,.int .i64 0,.int .i64 0,.int .i64 0],1,false⟩):=(Ext.refl H).push _;by_cases h1:s < 0
 ·rw [no (by omega)] at fl ⊢;refine nrm_gc ⟨_,?_,hx⟩ fl.alive;simp -implicitDefEqProofs (disch:=omega) [ζs,h1,encEA]
 by_cases h2:s ≥ m.rows.length
 ·rw [no (by omega)] at fl ⊢;refine nrm_gc ⟨_,?_,hx⟩ fl.alive;simp -implicitDefEqProofs (disch:=omega) [ζs,h1,h2,encEA]
 by_cases h3:c < 0
 ·rw [no (by omega)] at fl ⊢;refine nrm_gc ⟨_,?_,hx⟩ fl.alive;simp -implicitDefEqProofs (disch:=omega) [ζs,h1,h2,h3,encEA]
 by_cases h4:c ≥ m.classes
 ·rw [no (by omega)] at fl ⊢;refine nrm_gc ⟨_,?_,hx⟩ fl.alive;simp -implicitDefEqProofs (disch:=omega) [ζs,h1,h2,h3,h4,encEA]
 obtain ⟨r,x,e,hr,hxx,hx0,he,hs⟩:=ζh1 hm (s:=s) (c:=c) (by omega);rw [hs] at fl ⊢;have i1:=fun H' => ixS_lv ζkq m.rows .i64 s r (by omega) hr H';have i2:=fun H' => ixS_lv encI_len r .i64 c x (by omega) hxx H';have i3:=fun H' => ixS_lv ζ58 m.ents .i64 x e hx0 he H';refine nrm_gc ⟨H.push ⟨encEn e,1,false⟩,?_,(Ext.refl H).push _⟩ fl.alive;simp -implicitDefEqProofs (disch:=omega) [ζs,h1,h2,h3,h4,i1,i2,i3,encEA]
theorem ζj0 (k:Nat) (hk:k < 1000000) (m:Mach) (hl:m.ents.length ≤ 65536) (H:Heap):R (T k) F.ζ11 [machV m] H = .ok (lv encEn m.ents) H:=by
 have ho:own k = .fz:=by unfold own; rw [show Nat.blt k 1000000 = true from Nat.ble_eq_true_of_le hk]; rfl
 rw [ζ7i,ho];have g:=(Star.nil H).more_row (Ext.refl _) (OwnO.bare encEn _ 4) (fun b hb => by cases hb);obtain ⟨s,o,H1,e1,g⟩:=g.append (bytes:=32) 0 ζ58 rfl (b:=lv encEn m.ents) (l2:=m.ents) rfl (lv_first ζ58 m.ents H) (by simp; omega) (by decide);simp only [List.nil_append,List.set_cons_zero] at g;obtain ⟨L,hf⟩:=(g.own 0 rfl).freeze ζ58 (ζdq _) 6;refine nrm_fz (v:=s) (H':=H1) ?_ hf g.ext (Flat.Ens _).alive;simp -implicitDefEqProofs (disch:=omega) [ζ11,e1]
end Go.Sw
end
section
set_option maxRecDepth 100000
set_option linter.unusedVariables false
namespace Go.Sw
noncomputable section
def ζ9b (k:Nat) (call:Caller):Env → Heap → Res (AExit × Env):=loopB (C k) call F.ζ4k [1,1,0,1,0,0]
def ζav (k:Nat) (call:Caller):Kont Value:=kBlock 0 (kSeq (pieceK (C k) call F.ζ4k [1,1,1]) (kDone Prog (resOf Prog F.ζ4k)))
def ζ4k (k:Nat) (call:Caller) (a0 a1:Value) (h:Heap):Res Value :=
 (binR Prog .eql 3 a0 (.int .i64 2) h).bind fun v1 h2 =>
 (buildR Prog 145 [(0,v1)] h2).bind fun v3 h4 =>
 (boxR v3 h4).bind fun v5 h6 =>
 (builtinV Prog .len [30] [a1] h6).bind fun v7 h8 =>
 (loopN (ζ9b k call) loopFuel [(5,v5),(12,a1),(13,v7),(14,(.int .i64 0))] h8).bind fun r9 h10 =>
 ζav k call r9.1 r9.2 h10
theorem ζjw (k:Nat) (a0 a1:Value) (h:Heap):R (T k) F.ζ4k [a0,a1] h = nrm .no h (ζ4k k (R (T k)) a0 a1 h) :=
 (R_body (t:=T k) (T_scott k) (by kernel_rfl) (by kernel_rfl) _ _).trans (by kernel_rfl)
theorem ζ8w (k:Nat) (call:Caller) (a5 a12 a13 a14:Value) (h:Heap):ζ9b k call [(5,a5),(12,a12),(13,a13),(14,a14)] h =
 (binR Prog .lss 3 a14 a13 h).bind fun v11 h12 =>
 condV (some v11) (
 (indexAddrR Prog 30 a12 a14 h12).bind fun v13 h14 =>
 (loadR Prog 3 v13 h14).bind fun v15 h16 =>
 (nilR a5 h16).bindN fun v17 h18 =>
 (fieldAddrR Prog 145 v17 1 h18).bindN fun v19 h20 =>
 (loadR Prog 56 v19 h20).bindN fun v21 h22 =>
 (call F.ζ3o [v15] h22).bindT (fun p25 h26 => .panic p25 h26) fun v23 h24 =>
 (buildR Prog 93 [(0,v23)] h24).bindN fun v27 h28 =>
 (buildSliceR Prog 56 1 [(0,v27)] h28).bindN fun v29 h30 =>
 (builtinV Prog .append [56,56] [v21,v29] h30).bindN fun v31 h32 =>
 (nilR a5 h32).bindN fun v33 h34 =>
 (fieldAddrR Prog 145 v33 1 h34).bindN fun v35 h36 =>
 (storeR Prog 56 v35 v31 h36).bindN fun _v37 h38 =>
 chkR ((okVal (loadR Prog 56 v19 h24) v21 && (okVal (loadR Prog 56 v19 h30) v21 && true)) && true) (
 (binR Prog .add 3 a14 (.int .i64 1) h38).bind fun v39 h40 =>
 .ok (.normal,[(5,a5),(12,a12),(13,a13),(14,v39)]) h40))
 (
 .ok ((.exit 0),[(5,a5),(12,a12),(13,a13),(14,a14),(15,v11)]) h12) :=
 (loopB_eq _ _).trans (by kernel_rfl)
theorem ζcl (k:Nat) (call:Caller) (a5 a12 a13 a14 a15:Value) (h:Heap):ζav k call (.exit 0) [(5,a5),(12,a12),(13,a13),(14,a14),(15,a15)] h =
 .ok a5 h:=by kernel_rfl
def ζ1h (k:Nat) (call:Caller) (a0 a1 a2 a3:Value) (h:Heap):Res Value :=
 (call F.ζ1u [a0,a1] h).bind fun v1 h2 =>
 (nilR v1 h2).bindN fun v3 h4 =>
 (fieldAddrR Prog 93 v3 1 h4).bindN fun v5 h6 =>
 (loadR Prog 21 v5 h6).bindN fun v7 h8 =>
 (call F.ζ73 [v7,a2] h8).bindT (fun p11 h12 => (nilR v1 h8).bindN fun v13 h14 => (fieldAddrR Prog 93 v13 2 h14).bindN fun v15 h16 => (loadR Prog 21 v15 h16).bindN fun v17 h18 => chkR ((okVal (loadR Prog 21 v15 h2) v17 && true) && true) (.panic p11 h12)) fun v9 h10 =>
 (nilR v1 h10).bindN fun v19 h20 =>
 (fieldAddrR Prog 93 v19 2 h20).bindN fun v21 h22 =>
 (loadR Prog 21 v21 h22).bindN fun v23 h24 =>
 (call F.ζ73 [v23,a3] h24).bindT (fun p27 h28 => chkR ((okVal (loadR Prog 21 v21 h2) v23 && true) && true) (.panic p27 h28)) fun v25 h26 =>
 (nilR v1 h26).bindN fun v29 h30 =>
 (fieldAddrR Prog 93 v29 1 h30).bindN fun v31 h32 =>
 (storeR Prog 21 v31 v9 h32).bindN fun _v33 h34 =>
 (nilR v1 h34).bindN fun v35 h36 =>
 (fieldAddrR Prog 93 v35 2 h36).bindN fun v37 h38 =>
 (storeR Prog 21 v37 v25 h38).bindN fun _v39 h40 =>
 chkR ((okVal (loadR Prog 21 v21 h2) v23 && true) && true) (
 .ok (.tuple #[]) h40)
theorem ζ9c (k:Nat) (a0 a1 a2 a3:Value) (h:Heap):R (T k) F.ζ1h [a0,a1,a2,a3] h = nrm .no h (ζ1h k (R (T k)) a0 a1 a2 a3 h) :=
 (R_body (t:=T k) (T_scott k) (by kernel_rfl) (by kernel_rfl) _ _).trans (by kernel_rfl)
def ζ1w (k:Nat) (call:Caller) (a0:Value) (h:Heap):Res Value :=
 (nilR a0 h).bind fun v1 h2 =>
 (fieldAddrR Prog 145 v1 1 h2).bind fun v3 h4 =>
 (loadR Prog 56 v3 h4).bind fun v5 h6 =>
 (call F.ζc [v5] h6).bind fun v7 h8 =>
 .ok v7 h8
theorem ζag (k:Nat) (a0:Value) (h:Heap):R (T k) F.ζ1w [a0] h = nrm (own k) h (ζ1w k (R (T k)) a0 h) :=
 (R_body (t:=T k) (T_scott k) (by kernel_rfl) (by kernel_rfl) _ _).trans (by kernel_rfl)
def ζ2d (k:Nat) (call:Caller) (a0:Value) (h:Heap):Res Value :=
 (nilR a0 h).bind fun v1 h2 =>
 (fieldAddrR Prog 145 v1 1 h2).bind fun v3 h4 =>
 (loadR Prog 56 v3 h4).bind fun v5 h6 =>
 (builtinV Prog .len [56] [v5] h6).bind fun v7 h8 =>
 .ok v7 h8
theorem ζah (k:Nat) (a0:Value) (h:Heap):R (T k) F.ζ2d [a0] h = nrm .gc h (ζ2d k (R (T k)) a0 h) :=
 (R_body (t:=T k) (T_scott k) (by kernel_rfl) (by kernel_rfl) _ _).trans (by kernel_rfl)
def ζ3o (k:Nat) (call:Caller) (a0:Value) (h:Heap):Res Value :=
 (builtinV Prog .max [3,3] [a0,(.int .i64 (-2147483648))] h).bind fun v1 h2 =>
 (builtinV Prog .min [3,3] [v1,(.int .i64 2147483647)] h2).bind fun v3 h4 =>
 (convR Prog 3 21 v3 h4).bind fun v5 h6 =>
 .ok v5 h6
theorem ζgs (k:Nat) (a0:Value) (h:Heap):R (T k) F.ζ3o [a0] h = nrm .gc h (ζ3o k (R (T k)) a0 h) :=
 (R_body (t:=T k) (T_scott k) (by kernel_rfl) (by kernel_rfl) _ _).trans (by kernel_rfl)
def ζ1u (k:Nat) (call:Caller) (a0 a1:Value) (h:Heap):Res Value :=
 (binR Prog .lss 3 a1 (.int .i64 0) h).bind fun v1 h2 =>
 ((bif wantVal v1 false then Res.ok a1 h2 else Res.ok undef h2)).bind fun v3 h4 =>
 ((bif wantVal v1 false then Res.ok a0 h4 else Res.ok undef h4)).bind fun v5 h6 =>
 ((bif wantVal v1 false then nilR v5 h6 else Res.ok undef h6)).bind fun v7 h8 =>
 ((bif wantVal v1 false then fieldAddrR Prog 145 v7 1 h8 else Res.ok undef h8)).bind fun v9 h10 =>
 ((bif wantVal v1 false then loadR Prog 56 v9 h10 else Res.ok undef h10)).bind fun v11 h12 =>
 ((bif wantVal v1 false then builtinV Prog .len [56] [v11] h12 else Res.ok undef h12)).bind fun v13 h14 =>
 ((bif wantVal v1 false then binR Prog .geq 3 v3 v13 h14 else Res.ok undef h14)).bind fun v15 h16 =>
 (condV (some v1) (Res.ok (.bool true) h16) (Res.ok v15 h16)).bind fun v17 h18 =>
 condV (some v17) (
 (allocR Prog 93 h18).bind fun v19 h20 =>
 .ok v19 h20)
 (
 (nilR a0 h18).bind fun v21 h22 =>
 (fieldAddrR Prog 145 v21 1 h22).bind fun v23 h24 =>
 (loadR Prog 56 v23 h24).bind fun v25 h26 =>
 (indexAddrR Prog 56 v25 a1 h26).bind fun v27 h28 =>
 .ok v27 h28)
theorem ζb6 (k:Nat) (a0 a1:Value) (h:Heap):R (T k) F.ζ1u [a0,a1] h = nrm .no h (ζ1u k (R (T k)) a0 a1 h) :=
 (R_body (t:=T k) (T_scott k) (by kernel_rfl) (by kernel_rfl) _ _).trans (by kernel_rfl)
def ζ73 (k:Nat) (call:Caller) (a0 a1:Value) (h:Heap):Res Value :=
 (convR Prog 21 3 a0 h).bind fun v1 h2 =>
 (call F.ζ3o [a1] h2).bind fun v3 h4 =>
 (convR Prog 21 3 v3 h4).bind fun v5 h6 =>
 (binR Prog .add 3 v1 v5 h6).bind fun v7 h8 =>
 (call F.ζ3o [v7] h8).bind fun v9 h10 =>
 .ok v9 h10
theorem ζjv (k:Nat) (a0 a1:Value) (h:Heap):R (T k) F.ζ73 [a0,a1] h = nrm .gc h (ζ73 k (R (T k)) a0 a1 h) :=
 (R_body (t:=T k) (T_scott k) (by kernel_rfl) (by kernel_rfl) _ _).trans (by kernel_rfl)
def ζi (k:Nat) (call:Caller) (a0:Value) (h:Heap):Res Value :=
 (nilR a0 h).bind fun v1 h2 =>
 (fieldAddrR Prog 145 v1 1 h2).bind fun v3 h4 =>
 (loadR Prog 56 v3 h4).bind fun v5 h6 =>
 (call F.ζ7 [v5] h6).bind fun v7 h8 =>
 .ok (.tuple #[]) h8
theorem ζ69 (k:Nat) (a0:Value) (h:Heap):R (T k) F.ζi [a0] h = nrm .no h (ζi k (R (T k)) a0 h) :=
 (R_body (t:=T k) (T_scott k) (by kernel_rfl) (by kernel_rfl) _ _).trans (by kernel_rfl)
end
end Go.Sw
end
section
set_option maxRecDepth 100000
set_option linter.unusedVariables false
namespace Go.Sw
noncomputable section
end
end Go.Sw
end
section
namespace Go.Sw
def clampI (n:Int):Int:=if n > 2147483647 then 2147483647 else if n < -2147483648 then -2147483648 else n
theorem ζeo (n:Int):-2147483648 ≤ clampI n:=by unfold clampI; omega
theorem ζen (n:Int):clampI n ≤ 2147483647:=by unfold clampI; omega
@[simp] theorem ζol (k:Nat) (x:Int) (H:Heap):R (T k) F.ζ3o [.int .i64 x] H = .ok (.int .i32 (clampI x)) H:=by
 rw [ζgs];refine nrm_gc (Pure.of ?_) (.int _ _);simp only [ζ3o,max_int,min_int,Res.bind_ok,cv_3_21,cvK_int];congr 2;unfold clampI;rw [wrap_i32] <;> omega
def addI (a n:Int):Int:=clampI (a + clampI n)
theorem addI_lo (a n:Int):-2147483648 ≤ addI a n:=ζeo _
theorem addI_hi (a n:Int):addI a n ≤ 2147483647:=ζen _
theorem Add_run (k:Nat) (a x:Int) (h1:-2147483648 ≤ a) (h2:a ≤ 2147483647) (H:Heap):R (T k) F.ζ73 [.int .i32 a,.int .i64 x] H = .ok (.int .i32 (addI a x)) H:=by
 have:=ζeo x;have:=ζen x;rw [ζjv];refine nrm_gc (Pure.of ?_) (.int _ _);simp (disch:=omega) [ζ73,addI]
structure Pl where
 adv:Int
 x:Int
 y:Int
 deriving DecidableEq
def Pl.ok (p:Pl):Prop:=(-2147483648 ≤ p.adv ∧ p.adv ≤ 2147483647) ∧ (-2147483648 ≤ p.x ∧ p.x ≤ 2147483647) ∧ (-2147483648 ≤ p.y ∧ p.y ≤ 2147483647)
abbrev encP (p:Pl):List Value:=[.int .i32 p.adv,.int .i32 p.x,.int .i32 p.y]
theorem encP_len (p:Pl):(encP p).length = 3:=rfl
theorem ζkp (l:List Pl):∀ p,p ∈ l → ∀ v,v ∈ encP p → Still v:=by
 intro p _ v hv;simp [encP] at hv;rcases hv with rfl | rfl | rfl <;> trivial
theorem ζmb (l:List Pl):∀ p,p ∈ l → Flats (encP p):=fun p _ => .cons (.int _ _) (.cons (.int _ _) (.cons (.int _ _) .nil))
end Go.Sw
end
section
namespace Go.Sw
def newPl (l:List Int):List Pl:=l.map fun n => ⟨clampI n,0,0⟩
def updPl (l:List Pl) (i:Int) (f:Pl → Pl):List Pl:=if 0 ≤ i then l.modify i.toNat f else l
def levelPl (l:List Pl) (down:Bool) (i:Int):List Pl:=updPl l i fun p => if down then ⟨p.adv,0,p.y⟩ else ⟨p.adv,p.x,0⟩
end Go.Sw
end
section
namespace Go.Sw
def PlAt (H:Heap) (p:Nat) (o:Option Nat) (down:Bool) (l:List Pl):Prop :=
 (∀ b,o = some b → b ≠ p) ∧ ∃ s,H.get p = some ⟨[.bool down,s],1,false⟩ ∧ OwnO H o 3 s encP l
theorem PlAt.up {H H':Heap} {p:Nat} {o:Option Nat} {down:Bool} {l:List Pl} (h:PlAt H p o down l) (hp:H'.get p = H.get p) (ho:∀ b,o = some b → H'.get b = H.get b):PlAt H' p o down l:=by
 obtain ⟨h1,s,h2,h3⟩:=h;exact ⟨h1,s,by rw [hp]; exact h2,h3.up ho⟩
theorem PlAt.lt {H:Heap} {p:Nat} {o:Option Nat} {down:Bool} {l:List Pl} (h:PlAt H p o down l):p < H.n:=by
 obtain ⟨_,s,h2,_⟩:=h;exact Heap.get_lt h2
theorem PlAt.lto {H:Heap} {p:Nat} {o:Option Nat} {down:Bool} {l:List Pl} (h:PlAt H p o down l):∀ b,o = some b → b < H.n:=by
 obtain ⟨_,s,_,h3⟩:=h;intro b hb;rcases h3 with ⟨h4,_⟩ | ⟨c,h4,_,h5⟩
 ·rw [h4] at hb; cases hb
 ·rw [h4] at hb; injection hb with hb; subst hb; exact Heap.get_lt h5
theorem PlAt.ext {H H':Heap} {p:Nat} {o:Option Nat} {down:Bool} {l:List Pl} (h:PlAt H p o down l) (hx:Ext H H'):PlAt H' p o down l :=
 h.up (hx.2 p h.lt (by simp)) fun b hb => hx.2 b (h.lto b hb) (by simp)
def fpP (p:Nat) (o:Option Nat):List Nat:=p :: o.toList
theorem Len_run (k:Nat) {H:Heap} {p:Nat} {o:Option Nat} {down:Bool} {l:List Pl} (h:PlAt H p o down l):R (T k) F.ζ2d [.pointer (some ⟨p,0,none⟩)] H = .ok (.int .i64 l.length) H:=by
 obtain ⟨_,s,h2,h3⟩:=h;rw [ζah];refine nrm_gc (Pure.of ?_) (.int _ _);simp -implicitDefEqProofs [ζ2d,h2,h3.len]
theorem plAt_run (k:Nat) {H:Heap} {p:Nat} {o:Option Nat} {down:Bool} {l:List Pl} (h:PlAt H p o down l) (hok:∀ q,q ∈ l → q.ok) (i:Int) :
  ∃ H1 b j l' q e,R (T k) F.ζ1u [.pointer (some ⟨p,0,none⟩),.int .i64 i] H = .ok (.pointer (some ⟨b,j * 3,none⟩)) H1 ∧ b ≠ p ∧ H1.get b = some ⟨rows encP l',e,false⟩ ∧ l'[j]? = some q ∧ q.ok ∧ H1.get p = H.get p ∧
   ∀ (H2:Heap) (f:Pl → Pl),H2.get b = some ⟨rows encP (l'.set j (f q)),e,false⟩ → (∀ c,c ≠ b → H2.get c = H1.get c) → H2.n = H1.n → PlAt H2 p o down (updPl l i f) ∧ Keeps (fpP p o) H H2:=by
 have hh:=h;have hlt:=h.lt;have hlto:=h.lto;obtain ⟨hne,s,h2,h3⟩:=h;rw [ζb6];by_cases hi:0 ≤ i ∧ i < l.length
 ·obtain ⟨n,rfl⟩:∃ n:Nat,i = n:=⟨i.toNat,by omega⟩
  have hn:n < l.length:=by omega
  obtain ⟨q,hq⟩:∃ q,l[n]? = some q:=⟨l[n],List.getElem?_eq_getElem hn⟩
  obtain ⟨b,rfl,rfl,hb,hix⟩:=h3.ix .i64 n hn;have h0:¬ (n:Int) < 0:=by omega
  have h1:¬ (l.length:Int) ≤ n:=by omega
  refine ⟨H,b,n,l,q,3,by simp -implicitDefEqProofs [ζ1u,h2,h0,h1,hix],hne b rfl,hb,hq,hok q (List.mem_of_getElem? hq),rfl,fun H2 f g1 g2 g3 => ⟨⟨hne,_,by rw [g2 p (fun e => hne b rfl e.symm)]; exact h2,?_⟩,by rw [g3]; exact Nat.le_refl _,fun c hc hs => g2 c fun e => hs (by simp [fpP,e])⟩⟩;have:updPl l n f = l.set n (f q):=by
   unfold updPl;rw [if_pos (by omega),Int.toNat_natCast,ζgh _ l n q hq]
  rw [this];exact .inr ⟨b,rfl,by simp,g1⟩
 ·refine ⟨H.push ⟨[.int .i32 0,.int .i32 0,.int .i32 0],1,false⟩,H.n,0,[⟨0,0,0⟩],⟨0,0,0⟩,1,?_,by omega,by rw [Heap.get_push,if_pos rfl]; rfl,rfl,by unfold Pl.ok; simp,ζ1p _ _ _ hlt,fun H2 f g1 g2 g3 => ?_⟩
  ·by_cases h0:i < 0
   ·simp -implicitDefEqProofs [ζ1u,h0]
   ·have h1:(l.length:Int) ≤ i:=by omega
    simp -implicitDefEqProofs [ζ1u,h0,h2,h3.len,h1]
  ·have:updPl l i f = l:=by
    unfold updPl;split
    ·exact ζe1 _ _ _ (by omega)
    ·rfl
   rw [this];have hx:Ext H H2:=⟨by rw [g3]; simp,fun c hc hs => by rw [g2 c (by omega)]; exact ζ1p _ _ _ hc⟩
   exact ⟨hh.ext hx,hx.1,fun c hc _ => hx.2 c hc (by simp)⟩
end Go.Sw
end
section
namespace Go.Sw
theorem cloneP_R (k:Nat) (a:Value) (H:Heap):R (T k) F.ζc [a] H = nrm .no H (cloneV 3 12 [a] H) :=
 R_sp (t:=T k) (T_scott k) (s:=fun _ args H => cloneV 3 12 args H) (by kernel_rfl) _ _
theorem ζlx (k:Nat) {H:Heap} {p:Nat} {o:Option Nat} {down:Bool} {l:List Pl} (h:PlAt H p o down l) (hok:∀ q,q ∈ l → q.ok) (i x y:Int) :
  ∃ H2,R (T k) F.ζ1h [.pointer (some ⟨p,0,none⟩),.int .i64 i,.int .i64 x,.int .i64 y] H = .ok (.tuple #[]) H2 ∧ PlAt H2 p o down (updPl l i fun q => ⟨q.adv,addI q.x x,addI q.y y⟩) ∧ Keeps (fpP p o) H H2:=by
 obtain ⟨H1,b,j,l',q,e,a1,_,a2,a3,a4,_,a5⟩:=plAt_run k h hok i;have hj:=(List.getElem?_eq_some_iff.1 a3).1;have r1:=ld1_row encP_len a2 (c:=1) a3 (by decide) rfl;have r2:=ld1_row encP_len a2 (c:=2) a3 (by decide) rfl;obtain ⟨H2,s1,g1,k1,n1⟩:=st_row encP_len a2 (c:=1) (n:=1) ⟨q.adv,addI q.x x,q.y⟩ (v:=.int .i32 (addI q.x x)) a3 rfl rfl (by decide) rfl;have hq2:(l'.set j ⟨q.adv,addI q.x x,q.y⟩)[j]? = some ⟨q.adv,addI q.x x,q.y⟩:=by rw [List.getElem?_set_self hj]
 obtain ⟨H3,s2,g2,k2,n2⟩:=st_row encP_len g1 (c:=2) (n:=1) ⟨q.adv,addI q.x x,addI q.y y⟩ (v:=.int .i32 (addI q.y y)) hq2 rfl rfl (by decide) rfl;rw [List.set_set] at g2;obtain ⟨b1,b2⟩:=a5 H3 (fun q => ⟨q.adv,addI q.x x,addI q.y y⟩) g2 (fun c hc => by rw [k2 c hc,k1 c hc]) (by rw [n2,n1]);refine ⟨H3,?_,b1,b2⟩;rw [ζ9c];simp -implicitDefEqProofs [-ld1_ptr,-stR_ptr,ζ1h,a1,r1,r2,s1,s2,Add_run _ _ _ a4.2.1.1 a4.2.1.2,Add_run _ _ _ a4.2.2.1 a4.2.2.2]
theorem All_run (k:Nat) (hk:k < 1000000) {H:Heap} {p:Nat} {o:Option Nat} {down:Bool} {l:List Pl} (h:PlAt H p o down l) (hl:l.length ≤ 2 ^ 20):R (T k) F.ζ1w [.pointer (some ⟨p,0,none⟩)] H = .ok (lv encP l) H:=by
 obtain ⟨_,s,h2,h3⟩:=h;obtain ⟨s',H',e1,o1,x1⟩:=ζm8 (bytes:=12) encP_len h3 (by omega) (by decide);have ho:own k = .fz:=by unfold own; rw [show Nat.blt k 1000000 = true from Nat.ble_eq_true_of_le hk]; rfl
 rw [ζag,ho];obtain ⟨L,hf⟩:=o1.freeze encP_len (ζkp _) 6;refine nrm_fz (v:=s') (H':=H') ?_ hf x1 (Flat.alive (Flat.lv (ζmb _)));simp -implicitDefEqProofs [ζ1w,h2,cloneP_R,e1]
theorem New_runG (k:Nat) (dir:Int) (l:List Int) (hl:l.length ≤ 2 ^ 20) (H:Heap) {av:Value} (hv:Sl H 1 av encI l) :
  ∃ H' o,R (T k) F.ζ4k [.int .i64 dir,av] H = .ok (.pointer (some ⟨H.n,0,none⟩)) H' ∧ PlAt H' H.n o (dir == 2) (newPl l) ∧ (∀ b,o = some b → H.n < b) ∧ Ext H H':=by
 rw [ζjw]
 obtain ⟨x,e',H1,hr,v,rfl,rfl,o,ho,hf,hx⟩:=loop_up (body:=ζ9b k (R (T k))) l.length
  (fun i e H' => e = [(5,.pointer (some ⟨H.n,0,none⟩)),(12,av),(13,.int .i64 l.length),(14,.int .i64 i)] ∧ ∃ o,PlAt H' H.n o (dir == 2) (newPl (l.take i)) ∧ (∀ b,o = some b → H.n < b) ∧ Ext H H')
  (fun x e H' => ∃ v,x = .exit 0 ∧ e = [(5,.pointer (some ⟨H.n,0,none⟩)),(12,av),(13,.int .i64 l.length),(14,.int .i64 l.length),(15,v)] ∧ ∃ o,PlAt H' H.n o (dir == 2) (newPl l) ∧ (∀ b,o = some b → H.n < b) ∧ Ext H H')
  (e0:=[(5,.pointer (some ⟨H.n,0,none⟩)),(12,av),(13,.int .i64 l.length),(14,.int .i64 0)]) (H0:=H.push ⟨[.bool (dir == 2),.slice none 0 0],1,false⟩)
  ⟨rfl,none,⟨(fun b hb => by cases hb),.slice none 0 0,by rw [Heap.get_push,if_pos rfl],.inl ⟨rfl,rfl,.inl rfl⟩⟩,(fun b hb => by cases hb),(Ext.refl H).push _⟩ (by omega)
  (fun i e H' hi ⟨he,o,⟨hne,s,h2,h3⟩,hof,hx⟩ => by
   subst he;obtain ⟨n,hg⟩:∃ n,l[i]? = some n:=⟨l[i],List.getElem?_eq_getElem hi⟩
   have hlt:(i:Int) < l.length:=by omega
   have hpn:H.n < H'.n:=Heap.get_lt h2;have hlto:∀ b,o = some b → b < H'.n:=fun b hb => by
    rcases h3 with ⟨h4,_⟩ | ⟨c,h4,_,h5⟩
    ·rw [h4] at hb; cases hb
    ·rw [h4] at hb; injection hb with hb; subst hb; exact Heap.get_lt h5
   have hlen:(newPl (l.take i)).length < 2 ^ 31:=by simp [newPl]; omega
   obtain ⟨s',H2,e1,o1,n1,k1⟩:=ap1_ownO (bytes:=12) encP_len h3 hlto ⟨clampI n,0,0⟩ hlen (by decide);have k2:=k1 H.n hpn fun e => hne H.n e rfl;rw [h2] at k2;have hne2:¬ H.n = H'.n:=by omega
   obtain ⟨pt,hix,hld⟩:=hv.ix1 encI_len i n hg _ rfl;have hld:=hld H' hx;refine .inl ⟨_,H2.set H.n (some ⟨[.bool (dir == 2),s'],1,false⟩),?_,rfl,some (H'.n + 1),⟨fun b hb => by injection hb; omega,s',by rw [Heap.get_set k2,if_pos rfl],?_⟩,fun b hb => by injection hb; omega,?_⟩
   ·rw [ζ8w];simp -implicitDefEqProofs (disch:=omega) [hlt,hix,hld,h2,e1,k2,hne2,h3.veq,o1.storable,o1.cells]
   ·have:=o1.up (H':=H2.set H.n (some ⟨[.bool (dir == 2),s'],1,false⟩)) fun b hb => by
     injection hb with hb;exact ζ2k _ _ _ _ (by omega)
    have e:newPl (l.take (i + 1)) = newPl (l.take i) ++ [⟨clampI n,0,0⟩]:=by
     rw [List.take_add_one,hg]; simp [newPl]
    rw [e];exact this
   ·refine ⟨by rw [Heap.n_set,n1]; have:=hx.n; omega,fun c hc hs => ?_⟩;rw [ζ2k _ _ _ _ (by omega),k1 c (by omega) (fun e => by have:=hof c e; omega)];exact hx.2 c hc hs)
  (fun e H' ⟨he,o,ho,hof,hx⟩ => by
   subst he;rw [ζ8w];exact ⟨.exit 0,_,H',by simp -implicitDefEqProofs <;> rfl,by simp,_,rfl,rfl,o,by simpa using ho,hof,hx⟩)
 have hln:=fun H' => hv.len H';refine ⟨H1,o,?_,ho,hf,hx⟩;simp -implicitDefEqProofs [ζ4k,hln,hr,ζcl]
end Go.Sw
end
section
namespace Go.Sw
open Go.RowKit
theorem ζh6 (k:Nat) {H:Heap} {o:Option Nat} {s:Value} {l:List Pl} (h:OwnO H o 3 s encP l) (hl:l.length < 2 ^ 31) :
  ∃ H',R (T k) F.ζ7 [s] H = .ok (.tuple #[]) H' ∧ OwnO H' o 3 s encP l.reverse ∧ H'.n = H.n ∧ ∀ c,o ≠ some c → H'.get c = H.get c:=by
 rw [ζ37];have hlen:=h.len;rcases h with ⟨h0,rfl,hs⟩ | ⟨b,rfl,rfl,hb⟩
 ·refine ⟨H,?_,.inl ⟨h0,rfl,hs⟩,rfl,fun _ _ => rfl⟩
  obtain ⟨x,e',H1,hr,rfl,rfl,v,rfl⟩:=loop_up (body:=ζk k (R (T k))) 0
   (fun _ e H' => H' = H ∧ e = [(0,s),(2,.int .i64 0),(3,.int .i64 (-1))]) (fun x e H' => H' = H ∧ x = .exit 0 ∧ ∃ v,e = [(0,s),(2,.int .i64 0),(3,.int .i64 (-1)),(9,v)]) (e0:=[(0,s),(2,.int .i64 0),(3,.int .i64 (-1))]) (H0:=H) ⟨rfl,rfl⟩ (by omega) (fun i _ _ hi _ => by omega)
   (fun e H' ⟨hH,he⟩ => by
    subst hH he;refine ⟨.exit 0,_,_,?_,by simp,rfl,rfl,.bool false,rfl⟩;rw [ζr];simp -implicitDefEqProofs)
  simp -implicitDefEqProofs [ζ7,hlen,hr,ζ1d]
 ·have ix:∀ (i:Nat) (H':Heap),i < l.length → ixS 3 (.slice (some ⟨b,0,none⟩) l.length l.length) (.int .i64 i) H' = .ok (.pointer (some ⟨b,i * 3,none⟩)) H':=fun i H' hi => by
   unfold ixS;dsimp only;rw [if_pos ⟨by omega,by omega⟩];simp
  obtain ⟨x,e',H1,hr,rfl,⟨a1,v,rfl⟩,a2,a3⟩:=loop_up (body:=ζk k (R (T k))) (l.length / 2)
   (fun i e H' => e = [(0,.slice (some ⟨b,0,none⟩) l.length l.length),(2,.int .i64 i),(3,.int .i64 (l.length - 1 - i))] ∧ (∃ r,RevTo l r i ∧ H'.get b = some ⟨rows encP r,3,false⟩) ∧ H'.n = H.n ∧ ∀ c,c ≠ b → H'.get c = H.get c)
   (fun x e H' => x = .exit 0 ∧ (∃ a v,e = [(0,.slice (some ⟨b,0,none⟩) l.length l.length),(2,a),(3,v),(9,.bool false)]) ∧ H'.get b = some ⟨rows encP l.reverse,3,false⟩ ∧ H'.n = H.n ∧ ∀ c,c ≠ b → H'.get c = H.get c)
   (e0:=[(0,.slice (some ⟨b,0,none⟩) l.length l.length),(2,.int .i64 0),(3,.int .i64 (l.length - 1))]) (H0:=H) ⟨by simp,⟨l,.zero l,hb⟩,rfl,fun _ _ => rfl⟩ (by omega)
   (fun i e H' hi ⟨he,⟨r,hr,hg⟩,hn,hk⟩ => by
    subst he;obtain ⟨x,y,e1,e2,hr'⟩:=hr.step (by omega);obtain ⟨H2,H3,s1,s2,g3,k3,n3⟩:=swap_row encP_len (fun _ => rfl) hg e1 e2;have hlt:(i:Int) < l.length - 1 - i:=by omega
    have hj:((l.length:Int) - 1 - i) = ((l.length - 1 - i:Nat):Int):=by omega
    have i1:=fun H' => ix i H' (by omega);have i2:=fun H' => ix (l.length - 1 - i) H' (by omega);rw [← hj] at i2;have l1:=ldA_row encP_len hg e1;have l2:=ldA_row encP_len hg e2;refine .inl ⟨_,H3,?_,rfl,⟨_,hr',g3⟩,by rw [n3,hn],fun c hc => by rw [k3 c hc,hk c hc]⟩;rw [ζr];simp -implicitDefEqProofs (disch:=omega) [-ldA_ptr,-stR_ptr,hlt,i1,i2,l1,l2,s1,s2];omega)
   (fun e H' ⟨he,⟨r,hr,hg⟩,hn,hk⟩ => by
    subst he;have hlt:¬ ((l.length / 2:Nat):Int) < l.length - 1 - (l.length / 2:Nat):=by omega
    refine ⟨.exit 0,_,H',?_,by simp,rfl,⟨.int .i64 (l.length / 2:Nat),.int .i64 (l.length - 1 - (l.length / 2:Nat)),rfl⟩,by rw [← hr.done]; exact hg,hn,hk⟩;rw [ζr];simp -implicitDefEqProofs (disch:=omega) only [bin_lss,Res.bind_ok,hlt,decide_false,ζfy,Bool.false_eq_true,if_false])
  refine ⟨H1,?_,.inr ⟨b,rfl,by simp,a2⟩,a3.1,fun c hc => a3.2 c fun e => hc (by rw [e])⟩;have hlt:1 ≤ l.length + 1:=by omega
  simp -implicitDefEqProofs (disch:=omega) [ζ7,hr,ζ1d]
theorem Turn_run (k:Nat) {H:Heap} {p:Nat} {o:Option Nat} {down:Bool} {l:List Pl} (h:PlAt H p o down l) (hl:l.length < 2 ^ 31) :
  ∃ H',R (T k) F.ζi [.pointer (some ⟨p,0,none⟩)] H = .ok (.tuple #[]) H' ∧ PlAt H' p o down l.reverse ∧ Keeps (fpP p o) H H':=by
 obtain ⟨h1,s,h2,h3⟩:=h;obtain ⟨H',e1,e2,e3,e4⟩:=ζh6 k h3 hl;refine ⟨H',?_,⟨h1,s,by rw [e4 p fun e => h1 p e rfl]; exact h2,e2⟩,by rw [e3]; exact Nat.le_refl _,fun c _ hc => e4 c fun e => hc (by simp [fpP,e])⟩;rw [ζ69];simp -implicitDefEqProofs [ζi,h2,e1]
end Go.Sw
end
section
namespace Go.Sw
open Go.RowKit
theorem newPl_ok (l:List Int):∀ q,q ∈ newPl l → q.ok:=by
 intro q hq;obtain ⟨n,_,rfl⟩:=List.mem_map.1 hq;have:=ζeo n;have:=ζen n;unfold Pl.ok;dsimp only;omega
@[simp] theorem ζow (l:List Int):(newPl l).length = l.length:=by simp [newPl]
theorem addI_ok (a n:Int):-2147483648 ≤ addI a n ∧ addI a n ≤ 2147483647:=⟨addI_lo _ _,addI_hi _ _⟩
theorem updPl_ok {l:List Pl} (h:∀ q,q ∈ l → q.ok) (i:Int) {f:Pl → Pl} (hf:∀ q,q.ok → (f q).ok):∀ q,q ∈ updPl l i f → q.ok:=by
 unfold updPl;split
 ·intro q hq;obtain ⟨j,hj⟩:=List.getElem?_of_mem hq;rw [List.getElem?_modify] at hj;cases hg:l[j]? with
  | none => rw [hg] at hj; simp at hj
  | some x =>
   have hx:=h x (List.mem_of_getElem? hg);rw [hg] at hj;simp at hj;subst hj;split
   ·exact hf x hx
   ·exact hx
 ·exact h
@[simp] theorem ζoz (l:List Pl) (i:Int) (f:Pl → Pl):(updPl l i f).length = l.length:=by
 unfold updPl;split <;> simp
end Go.Sw
end
section
set_option maxRecDepth 100000
set_option linter.unusedVariables false
namespace Go.Sw
noncomputable section
def ζ93 (k:Nat) (call:Caller):Env → Heap → Res (AExit × Env):=loopB (C k) call F.ζ3w [1,1,1,0,0,0]
def ζ67 (k:Nat) (call:Caller):Kont Value:=kBlock 0 (kSeq (pieceK (C k) call F.ζ3w [1,1,1,1]) (kDone Prog (resOf Prog F.ζ3w)))
def ζ3w (k:Nat) (call:Caller) (a0 a1 a2:Value) (h:Heap):Res Value :=
 (buildR Prog 228 [(0,a0),(1,a1)] h).bind fun v1 h2 =>
 (boxR v1 h2).bind fun v3 h4 =>
 (call F.ζ3l [a1] h4).bind fun v5 h6 =>
 (binR Prog .mul 3 (.int .i64 2) v5 h6).bind fun v7 h8 =>
 (binR Prog .add 3 v7 (.int .i64 128) h8).bind fun v9 h10 =>
 (loopN (ζ93 k call) loopFuel [(2,a2),(8,v3),(9,v9)] h10).bind fun r11 h12 =>
 ζ67 k call r11.1 r11.2 h12
theorem ζjd (k:Nat) (a0 a1 a2:Value) (h:Heap):R (T k) F.ζ3w [a0,a1,a2] h = nrm .no h (ζ3w k (R (T k)) a0 a1 a2 h) :=
 (R_body (t:=T k) (T_scott k) (by kernel_rfl) (by kernel_rfl) _ _).trans (by kernel_rfl)
theorem ζ4j (k:Nat) (call:Caller) (a2 a8 a9:Value) (h:Heap):ζ93 k call [(2,a2),(8,a8),(9,a9)] h =
 (nilR a8 h).bind fun v13 h14 =>
 (fieldAddrR Prog 228 v13 4 h14).bind fun v15 h16 =>
 (loadR Prog 3 v15 h16).bind fun v17 h18 =>
 (binR Prog .lss 3 v17 a9 h18).bind fun v19 h20 =>
 condV (some v19) (
 (call F.ζ1q [a8,a2] h20).bind fun v21 h22 =>
 condV (some v21) (
 (nilR a8 h22).bind fun v23 h24 =>
 (fieldAddrR Prog 228 v23 4 h24).bind fun v25 h26 =>
 (loadR Prog 3 v25 h26).bind fun v27 h28 =>
 .ok (.ret,[(6,v27),(7,(.int .i64 0))]) h28)
 (
 (nilR a8 h22).bind fun v29 h30 =>
 (fieldAddrR Prog 228 v29 5 h30).bind fun v31 h32 =>
 (loadR Prog 3 v31 h32).bind fun v33 h34 =>
 (binR Prog .gtr 3 v33 (.int .i64 64) h34).bind fun v35 h36 =>
 condV (some v35) (
 .ok ((.exit 0),[(2,a2),(8,a8),(9,a9),(35,v35)]) h36)
 (
 .ok (.normal,[(2,a2),(8,a8),(9,a9)]) h36)))
 (
 .ok ((.exit 0),[(2,a2),(8,a8),(9,a9),(23,v19)]) h20) :=
 (loopB_eq _ _).trans (by kernel_rfl)
theorem ζd8 (k:Nat) (call:Caller) (a6 a7:Value) (h:Heap):ζ67 k call .ret [(6,a6),(7,a7)] h =
 .ok (.tuple #[a6,a7]) h:=by kernel_rfl
theorem ζbu (k:Nat) (call:Caller) (a2 a8 a9 a35:Value) (h:Heap):ζ67 k call (.exit 0) [(2,a2),(8,a8),(9,a9),(35,a35)] h =
 (nilR a8 h).bind fun v37 h38 =>
 (fieldAddrR Prog 228 v37 4 h38).bind fun v39 h40 =>
 (loadR Prog 3 v39 h40).bind fun v41 h42 =>
 .ok (.tuple #[v41,(.int .i64 4)]) h42:=by kernel_rfl
theorem ζa8 (k:Nat) (call:Caller) (a2 a8 a9 a23:Value) (h:Heap):ζ67 k call (.exit 0) [(2,a2),(8,a8),(9,a9),(23,a23)] h =
 (nilR a8 h).bind fun v43 h44 =>
 (fieldAddrR Prog 228 v43 4 h44).bind fun v45 h46 =>
 (loadR Prog 3 v45 h46).bind fun v47 h48 =>
 .ok (.tuple #[v47,(.int .i64 4)]) h48:=by kernel_rfl
def ζ4c (k:Nat) (call:Caller) (a0:Value) (h:Heap):Res Value :=
 (boxR a0 h).bind fun v1 h2 =>
 .ok (.func (.func F.ζ1k) #[] #[v1]) h2
theorem ζg2 (k:Nat) (a0:Value) (h:Heap):R (T k) F.ζ4c [a0] h = nrm .gc h (ζ4c k (R (T k)) a0 h) :=
 (R_body (t:=T k) (T_scott k) (by kernel_rfl) (by kernel_rfl) _ _).trans (by kernel_rfl)
def ζ1q (k:Nat) (call:Caller) (a0 a1:Value) (h:Heap):Res Value :=
 (call F.ζ1f [a0] h).bind fun v1 h2 =>
 (extractR v1 0 h2).bind fun v3 h4 =>
 (extractR v1 1 h4).bind fun v5 h6 =>
 (nilR a0 h6).bindN fun v7 h8 =>
 (fieldAddrR Prog 228 v7 0 h8).bindN fun v9 h10 =>
 (loadR Prog 159 v9 h10).bindN fun v11 h12 =>
 (nilR a0 h12).bindN fun v13 h14 =>
 (fieldAddrR Prog 228 v13 2 h14).bindN fun v15 h16 =>
 (loadR Prog 3 v15 h16).bindN fun v17 h18 =>
 (call F.ζs [v11,v17,v3] h18).bindT (fun p21 h22 => (allocR Prog 129 h18).bindN fun v23 h24 => .panic p21 h22) fun v19 h20 =>
 (extractR v19 0 h20).bindN fun v25 h26 =>
 (extractR v19 1 h26).bindN fun v27 h28 =>
 (allocR Prog 129 h28).bindN fun v29 h30 =>
 (storeR Prog 129 v29 v25 h30).bindN fun _v31 h32 =>
 (nilR a0 h32).bind fun v33 h34 =>
 (fieldAddrR Prog 228 v33 4 h34).bind fun v35 h36 =>
 (loadR Prog 3 v35 h36).bind fun v37 h38 =>
 (binR Prog .add 3 v37 (.int .i64 1) h38).bind fun v39 h40 =>
 (nilR a0 h40).bind fun v41 h42 =>
 (fieldAddrR Prog 228 v41 4 h42).bind fun v43 h44 =>
 (storeR Prog 3 v43 v39 h44).bind fun _v45 h46 =>
 (fieldAddrR Prog 129 v29 0 h46).bind fun v47 h48 =>
 (loadR Prog 3 v47 h48).bind fun v49 h50 =>
 (nilR a0 h50).bind fun v51 h52 =>
 (fieldAddrR Prog 228 v51 2 h52).bind fun v53 h54 =>
 (storeR Prog 3 v53 v49 h54).bind fun _v55 h56 =>
 (nilR a0 h56).bindN fun v57 h58 =>
 (fieldAddrR Prog 228 v57 3 h58).bindN fun v59 h60 =>
 (loadR Prog 3 v59 h60).bindN fun v61 h62 =>
 (loadR Prog 129 v29 h62).bindN fun v63 h64 =>
 (callV call a1 [v61,v63] h64).bindT (fun p67 h68 => .panic p67 h68) fun v65 h66 =>
 (extractR v65 0 h66).bindN fun v69 h70 =>
 (extractR v65 1 h70).bindN fun v71 h72 =>
 (fieldAddrR Prog 129 v29 1 h72).bind fun v73 h74 =>
 (loadR Prog 3 v73 h74).bind fun v75 h76 =>
 (binR Prog .and 3 v75 (.int .i64 16384) h76).bind fun v77 h78 =>
 (binR Prog .neq 3 v77 (.int .i64 0) h78).bind fun v79 h80 =>
 condV (some v79) (
 (builtinV Prog .max [3,3] [v69,(.int .i64 0)] h80).bind fun v81 h82 =>
 (nilR a0 h82).bind fun v83 h84 =>
 (fieldAddrR Prog 228 v83 3 h84).bind fun v85 h86 =>
 (storeR Prog 3 v85 v81 h86).bind fun _v87 h88 =>
 (nilR a0 h88).bind fun v89 h90 =>
 (fieldAddrR Prog 228 v89 5 h90).bind fun v91 h92 =>
 (loadR Prog 3 v91 h92).bind fun v93 h94 =>
 (binR Prog .add 3 v93 (.int .i64 1) h94).bind fun v95 h96 =>
 (nilR a0 h96).bind fun v97 h98 =>
 (fieldAddrR Prog 228 v97 5 h98).bind fun v99 h100 =>
 (storeR Prog 3 v99 v95 h100).bind fun _v101 h102 =>
 .ok (.bool false) h102)
 (
 (builtinV Prog .max [3,3] [v71,(.int .i64 0)] h80).bind fun v103 h104 =>
 (nilR a0 h104).bind fun v105 h106 =>
 (fieldAddrR Prog 228 v105 3 h106).bind fun v107 h108 =>
 (storeR Prog 3 v107 v103 h108).bind fun _v109 h110 =>
 (nilR a0 h110).bind fun v111 h112 =>
 (fieldAddrR Prog 228 v111 5 h112).bind fun v113 h114 =>
 (storeR Prog 3 v113 (.int .i64 0) h114).bind fun _v115 h116 =>
 .ok v5 h116)
theorem ζ68 (k:Nat) (a0 a1:Value) (h:Heap):R (T k) F.ζ1q [a0,a1] h = nrm .no h (ζ1q k (R (T k)) a0 a1 h) :=
 (R_body (t:=T k) (T_scott k) (by kernel_rfl) (by kernel_rfl) _ _).trans (by kernel_rfl)
def ζ1k (k:Nat) (call:Caller) (a0 a1 a2:Value) (h:Heap):Res Value :=
 (boxR a1 h).bind fun v1 h2 =>
 (loadR Prog 168 a2 h2).bind fun v3 h4 =>
 (loadR Prog 129 v1 h4).bind fun v5 h6 =>
 (callV call v3 [a0,v5] h6).bind fun v7 h8 =>
 (binR Prog .add 3 a0 (.int .i64 1) h8).bind fun v9 h10 =>
 .ok (.tuple #[a0,v9]) h10
theorem ζb3 (k:Nat) (a0 a1 a2:Value) (h:Heap):R (T k) F.ζ1k [a0,a1,a2] h = nrm .no h (ζ1k k (R (T k)) a0 a1 a2 h) :=
 (R_body (t:=T k) (T_scott k) (by kernel_rfl) (by kernel_rfl) _ _).trans (by kernel_rfl)
def ζ1f (k:Nat) (call:Caller) (a0:Value) (h:Heap):Res Value :=
 (nilR a0 h).bindN fun v1 h2 =>
 (fieldAddrR Prog 228 v1 1 h2).bindN fun v3 h4 =>
 (loadR Prog 52 v3 h4).bindN fun v5 h6 =>
 (nilR a0 h6).bindN fun v7 h8 =>
 (fieldAddrR Prog 228 v7 3 h8).bindN fun v9 h10 =>
 (loadR Prog 3 v9 h10).bindN fun v11 h12 =>
 (call F.ζ2i [v5,v11] h12).bindT (fun p15 h16 => (allocR Prog 150 h12).bindN fun v17 h18 => .panic p15 h16) fun v13 h14 =>
 (extractR v13 0 h14).bindN fun v19 h20 =>
 (extractR v13 1 h20).bindN fun v21 h22 =>
 (allocR Prog 150 h22).bindN fun v23 h24 =>
 (storeR Prog 150 v23 v19 h24).bindN fun _v25 h26 =>
 (unR .not v21 h26).bind fun v27 h28 =>
 condV (some v27) (
 .ok (.tuple #[(.int .i64 0),(.bool true)]) h28)
 (
 (nilR a0 h28).bindN fun v29 h30 =>
 (fieldAddrR Prog 228 v29 0 h30).bindN fun v31 h32 =>
 (loadR Prog 159 v31 h32).bindN fun v33 h34 =>
 (fieldAddrR Prog 150 v23 0 h34).bindN fun v35 h36 =>
 (loadR Prog 3 v35 h36).bindN fun v37 h38 =>
 (call F.ζu [v33,v37] h38).bindT (fun p41 h42 => .panic p41 h42) fun v39 h40 =>
 .ok (.tuple #[v39,(.bool false)]) h40)
theorem ζ94 (k:Nat) (a0:Value) (h:Heap):R (T k) F.ζ1f [a0] h = nrm .gc h (ζ1f k (R (T k)) a0 h) :=
 (R_body (t:=T k) (T_scott k) (by kernel_rfl) (by kernel_rfl) _ _).trans (by kernel_rfl)
end
end Go.Sw
end
section
namespace Go.Sw
open Go.RowKit
theorem Star.stEnd {H0 H:Heap} {A B:List It} {c:Nat} {cells:List Value} {e:Nat} (h:Star H0 H (A ++ itBlk c ⟨cells,e,false⟩ :: B)) (off:Nat) {v:Value} (hs:storable v = true) (hc:v.cells = #[v]) (ho:off < cells.length) :
  ∃ H',stR 1 (.pointer (some ⟨c,off,none⟩)) v H = .ok undef H' ∧ Star H0 H' (A ++ itBlk c ⟨cells.set off v,e,false⟩ :: B):=by
 obtain ⟨H',h1,h2,_⟩:=h.stCell A.length (c:=c) (cells:=cells) (e:=e) (by simp) off hs hc ho;exact ⟨H',h1,by simpa using h2⟩
structure Drv where
 st:Int
 pl:Int
 stp:Int
 rest:Int
abbrev drvC (m:Mach) (c:Nat) (d:Drv):List Value:=[machV m,ptrV c,.int .i64 d.st,.int .i64 d.pl,.int .i64 d.stp,.int .i64 d.rest]
def clsS (m:Mach) (l:List Gl) (pl:Int):Int × Bool:=match atG l pl with | some g => (classS m g.id,false) | none => (0,true)
def entS (m:Mach) (l:List Gl) (d:Drv):En:=(stepS m d.st (clsS m l d.pl).1).getD ⟨0,0,0,0⟩
abbrev encE (e:En):Value:=.agg (encEn e).toArray
theorem take_mid {α:Type} (x:α) (B:List α):∀ A:List α,(A ++ x :: B).take (A.length + 1) = A ++ [x]
 | [] => rfl
 | a :: A => by simp [take_mid x B A]
theorem ζm0 (n:Nat):n &&& 2 ^ 14 = if n.testBit 14 then 2 ^ 14 else 0:=by
 apply Nat.eq_of_testBit_eq;intro i;rw [Nat.testBit_and,Nat.testBit_two_pow];by_cases h:14 = i
 ·subst h;cases hb:n.testBit 14 <;> simp <;> decide
 ·cases hb:n.testBit 14
  ·simp [h]
  ·simp only [h,decide_false,Bool.and_false,if_true,Nat.testBit_two_pow]
theorem and14 (P:Program) (t:TypeId) (H:Heap) {a:Int} (h0:0 ≤ a) (h1:a < 65536):binR P .and t (.int .i64 a) (.int .i64 16384) H = .ok (.int .i64 (if a / 16384 % 2 = 1 then 16384 else 0)) H:=by
 have e:(BitVec.ofInt 64 a &&& BitVec.ofInt 64 16384).toNat = (if a / 16384 % 2 = 1 then 16384 else 0):=by
  rw [BitVec.toNat_and,BitVec.toNat_ofInt,BitVec.toNat_ofInt];rw [show ((16384:Int) % ((2 ^ 64:Nat):Int)).toNat = 2 ^ 14 from by decide,ζm0,Nat.testBit_eq_decide_div_mod_eq];obtain ⟨n,rfl⟩:=Int.eq_ofNat_of_zero_le h0;rw [show (((n:Int)) % ((2 ^ 64:Nat):Int)).toNat = n by omega];by_cases h:(n:Int) / 16384 % 2 = 1
  ·rw [if_pos h,decide_eq_true (show n / 2 ^ 14 % 2 = 1 by omega)]; rfl
  ·rw [if_neg h,decide_eq_false (show ¬ n / 2 ^ 14 % 2 = 1 by omega)]; rfl
 have e1:binV P .and t (.int .i64 a) (.int .i64 16384) = some (.int .i64 (IntKind.i64.wrap (BitVec.ofInt 64 a &&& BitVec.ofInt 64 16384).toNat)):=rfl;unfold binR;rw [e1,e];by_cases h:a / 16384 % 2 = 1
 ·simp [h]
 ·simp [h]
theorem ζd9 (k:Nat) (m:Mach) (hm:m.ok) {H0 H:Heap} {L:List It} (h:Star H0 H L) {c q:Nat} {o:Option Nat} {l:List Gl} {d:Drv} (i:Nat) (hi:L[i]? = some (itLine c o l)) (hq:H.get q = some ⟨drvC m c d,1,false⟩) :
  R (T k) F.ζ1f [ptrV q] H = .ok (.tuple #[.int .i64 (clsS m l d.pl).1,.bool (clsS m l d.pl).2]) H:=by
 rw [ζ94];have hat:=ζcb k h i hi d.pl;have fl:∀ (a:Int) b,Flat (.tuple #[.int .i64 a,.bool b]):=fun a b => .tupleL (.cons (.int _ _) (.cons (.bool _) .nil));unfold clsS;have hqn:¬ q = H.n:=by have:=Heap.get_lt hq; omega
 cases ha:atG l d.pl with
 | none =>
  rw [ha] at hat;refine nrm_gc ⟨H.push ⟨[.int .i64 0,.int .i64 0],1,false⟩,?_,(Ext.refl H).push _⟩ (fl _ _).alive;unfold encA at hat;simp at hat;simp -implicitDefEqProofs (disch:=omega) [ζ1f,hq,hat]
 | some g =>
  rw [ha] at hat;have hc:=fun H' => ζlv k m hm g.id H';refine nrm_gc ⟨H.push ⟨encG g,1,false⟩,?_,(Ext.refl H).push _⟩ (fl _ _).alive;unfold encA at hat;simp at hat;simp -implicitDefEqProofs (disch:=omega) [ζ1f,hq,hqn,hat,hc]
theorem ζkr {m:Mach} (hm:m.ok) (l:List Gl) (d:Drv):let e:=entS m l d; 0 ≤ e.next ∧ e.next < 65536 ∧ 0 ≤ e.flags ∧ e.flags < 65536 ∧ 0 ≤ e.a ∧ e.a < 65536 ∧ 0 ≤ e.b ∧ e.b < 65536:=by
 dsimp only;unfold entS;cases h:stepS m d.st (clsS m l d.pl).1 with
 | none => simp
 | some x =>
  have hx:x ∈ m.ents:=by
   unfold stepS at h;split at h
   ·obtain ⟨r,_,h⟩:=Option.bind_eq_some_iff.1 h;obtain ⟨y,_,h⟩:=Option.bind_eq_some_iff.1 h;exact List.mem_of_getElem? h
   ·cases h
  have:=hm.ent x hx;have:=hm.two;simp only [Option.getD_some];omega
theorem getS_pos {ps:List Pt} (hok:∀ p,p ∈ ps → p.ok) {id x:Int} (h:getS ps id = some x):0 ≤ x:=by
 unfold getS at h;obtain ⟨p,hp,h⟩:=Option.bind_eq_some_iff.1 h;split at h
 ·exact ((hok p (List.mem_of_find?_eq_some hp)).2.2.2.2.2 x (List.mem_of_getElem? h)).1
 ·cases h
theorem ζhf {m:Mach} (hm:m.ok) (id:Int):0 ≤ classS m id ∧ classS m id < m.classes:=by
 have:=hm.cl;unfold classS;split
 ·omega
 ·split
  ·rename_i c hc;have:=getS_pos hm.pts hc;split <;> omega
  ·omega
theorem ζkj {m:Mach} (hm:m.ok) (l:List Gl) (p:Int):0 ≤ (clsS m l p).1 ∧ (clsS m l p).1 < m.classes:=by
 have:=hm.cl;unfold clsS;split
 ·exact ζhf hm _
 ·dsimp only; omega
theorem entS_mem {m:Mach} (hm:m.ok) (l:List Gl) (d:Drv) (h:0 ≤ d.st ∧ d.st < m.rows.length):entS m l d ∈ m.ents:=by
 have hc:=ζkj hm l d.pl;obtain ⟨r,x,e,_,_,_,he,hs⟩:=ζh1 hm (s:=d.st) (c:=(clsS m l d.pl).1) ⟨h.1,h.2,hc.1,hc.2⟩;unfold entS;rw [hs];exact List.mem_of_getElem? he
variable {σ:Type}
def ActOk (k:Nat) (m:Mach) (H0:Heap) (W:σ → List It) (Inv:σ → Prop) (a:Value) (f:σ → Int → En → σ × Int × Int):Prop :=
 ∀ s i e H X,Inv s → Star H0 H (W s ++ X) → 0 ≤ i → i < 2 ^ 50 → e ∈ m.ents →
  ∃ H',callV (R (T k)) a [.int .i64 i,encE e] H = .ok (.tuple #[.int .i64 (f s i e).2.1,.int .i64 (f s i e).2.2]) H' ∧ Star H0 H' (W (f s i e).1 ++ X) ∧ Inv (f s i e).1 ∧ (f s i e).2.1 ≤ i + 128 ∧ (f s i e).2.2 ≤ i + 128
def stepD (m:Mach) (ln:σ → List Gl) (f:σ → Int → En → σ × Int × Int) (x:σ × Drv):(σ × Drv) × Bool :=
 if (entS m (ln x.1) x.2).flags / 16384 % 2 = 1 then (((f x.1 x.2.pl (entS m (ln x.1) x.2)).1,⟨(entS m (ln x.1) x.2).next,max (f x.1 x.2.pl (entS m (ln x.1) x.2)).2.1 0,x.2.stp + 1,x.2.rest + 1⟩),false)
 else (((f x.1 x.2.pl (entS m (ln x.1) x.2)).1,⟨(entS m (ln x.1) x.2).next,max (f x.1 x.2.pl (entS m (ln x.1) x.2)).2.2 0,x.2.stp + 1,0⟩),(clsS m (ln x.1) x.2.pl).2)
set_option maxHeartbeats 2000000 in
theorem ζeq (k:Nat) (m:Mach) (hm:m.ok) {H0 H:Heap} (W:σ → List It) (Inv:σ → Prop) (ln:σ → List Gl) (c:Nat) (hW:∀ s,∃ (i:Nat) (o:Option Nat),(W s)[i]? = some (itLine c o (ln s))) (a:Value) (f:σ → Int → En → σ × Int × Int) (ha:ActOk k m H0 W Inv a f)
  (X:List It) (q:Nat) (s:σ) (d:Drv) (hI:Inv s) (h:Star H0 H (W s ++ X ++ [itBlk q ⟨drvC m c d,1,false⟩])) (hp:0 ≤ d.pl ∧ d.pl < 2 ^ 50) (hst:0 ≤ d.stp ∧ d.stp < 2 ^ 50) (hr:0 ≤ d.rest ∧ d.rest < 2 ^ 50) (hse:0 ≤ d.st ∧ d.st < m.rows.length) :
  ∃ H',R (T k) F.ζ1q [ptrV q,a] H = .ok (.bool (stepD m ln f (s,d)).2) H' ∧ Star H0 H' (W (stepD m ln f (s,d)).1.1 ++ X ++ [itBlk q ⟨drvC m c (stepD m ln f (s,d)).1.2,1,false⟩]) ∧ Inv (stepD m ln f (s,d)).1.1 ∧ (stepD m ln f (s,d)).1.2.pl ≤ d.pl + 128 ∧ 0 ≤ (stepD m ln f (s,d)).1.2.st ∧ (stepD m ln f (s,d)).1.2.st < m.rows.length:=by
 obtain ⟨i,o,ho⟩:=hW s;have hq:=h.memBlk (c:=q) (k:=⟨drvC m c d,1,false⟩) (by simp);have hline:(W s ++ X ++ [itBlk q ⟨drvC m c d,1,false⟩])[i]? = some (itLine c o (ln s)):=by
  have h0:i < (W s).length:=(List.getElem?_eq_some_iff.1 ho).1;rw [List.append_assoc,List.getElem?_append_left h0];exact ho
 have hcls:=ζd9 k m hm h i hline hq;have hstep:=fun H' => Step_run k m hm d.st (clsS m (ln s) d.pl).1 H';have heb:=ζkr hm (ln s) d;have hmem:=entS_mem hm (ln s) d hse;have hnx:=hm.ent _ hmem;have hee:encEA (stepS m d.st (clsS m (ln s) d.pl).1) = encE (entS m (ln s) d):=rfl;rw [hee] at hstep;have hx:=ha s d.pl (entS m (ln s) d);unfold stepD;dsimp only;generalize (stepS m d.st (clsS m (ln s) d.pl).1).isSome = z at hstep;generalize (clsS m (ln s) d.pl) = cl at hcls hstep;generalize entS m (ln s) d = e at hstep heb hx hmem hnx ⊢;dsimp only at heb;generalize f s d.pl e = r at hx ⊢;have g:=h.push ⟨encEn e,1,false⟩;rw [List.append_assoc,List.singleton_append] at g;have hqn:¬ q = H.n:=by have:=Heap.get_lt hq; omega
 obtain ⟨H2,e2,g⟩:=g.stEnd 4 (v:=.int .i64 (d.stp + 1)) rfl rfl (by simp);simp only [List.set_cons_zero,List.set_cons_succ] at g;have he2:=g.memBlk (c:=H.n) (k:=⟨encEn e,1,false⟩) (by simp);have hq2:=g.memBlk (c:=q) (k:=⟨[machV m,ptrV c,.int .i64 d.st,.int .i64 d.pl,.int .i64 (d.stp + 1),.int .i64 d.rest],1,false⟩) (by simp);obtain ⟨H3,e3,g⟩:=g.stEnd 2 (v:=.int .i64 e.next) rfl rfl (by simp);simp only [List.set_cons_zero,List.set_cons_succ] at g;have hq3:=g.memBlk (c:=q) (k:=⟨[machV m,ptrV c,.int .i64 e.next,.int .i64 d.pl,.int .i64 (d.stp + 1),.int .i64 d.rest],1,false⟩) (by simp);have he3:=g.memBlk (c:=H.n) (k:=⟨encEn e,1,false⟩) (by simp);rw [List.append_assoc] at g;obtain ⟨H4,e4,g4,hI4,hs4,ho4⟩:=hx H3 _ hI g hp.1 hp.2 hmem;rw [← List.append_assoc] at g4;have hq4:=g4.memBlk (c:=q) (k:=⟨[machV m,ptrV c,.int .i64 e.next,.int .i64 d.pl,.int .i64 (d.stp + 1),.int .i64 d.rest],1,false⟩) (by simp);have he4:=g4.memBlk (c:=H.n) (k:=⟨encEn e,1,false⟩) (by simp);have han:=fun H => and14 Prog 3 H heb.2.2.1 heb.2.2.2.1;rw [List.append_assoc] at g4;by_cases hfl:e.flags / 16384 % 2 = 1
 ·rw [if_pos hfl];rw [if_pos hfl] at han;have hmx:(if 0 > r.2.1 then 0 else r.2.1) = max r.2.1 0:=by split <;> omega
  obtain ⟨H5,e5,g5⟩:=Star.stEnd (A:=W r.1 ++ X) (by simpa using g4) 3 (v:=.int .i64 (max r.2.1 0)) rfl rfl (by simp);simp only [List.set_cons_zero,List.set_cons_succ] at g5;have hq5:=g5.memBlk (c:=q) (k:=⟨[machV m,ptrV c,.int .i64 e.next,.int .i64 (max r.2.1 0),.int .i64 (d.stp + 1),.int .i64 d.rest],1,false⟩) (by simp);obtain ⟨H6,e6,g6⟩:=g5.stEnd 5 (v:=.int .i64 (d.rest + 1)) rfl rfl (by simp);simp only [List.set_cons_zero,List.set_cons_succ] at g6;refine ⟨H6,?_,?_,hI4,by dsimp only; omega,hnx.1,hnx.2.1⟩
  ·rw [ζ68];simp -implicitDefEqProofs (disch:=omega) [-stR_ptr,ζ1q,hcls,hq,hqn,hstep,stR_ptr 4 H.n 0,e2,hq2,he2,e3,hq3,he3,e4,hq4,he4,han,hmx,e5,hq5,e6]
  ·have:=g6.take ((W r.1 ++ X).length + 1);rw [take_mid] at this;exact this
 ·rw [if_neg hfl];rw [if_neg hfl] at han;have hmx:(if 0 > r.2.2 then 0 else r.2.2) = max r.2.2 0:=by split <;> omega
  obtain ⟨H5,e5,g5⟩:=Star.stEnd (A:=W r.1 ++ X) (by simpa using g4) 3 (v:=.int .i64 (max r.2.2 0)) rfl rfl (by simp);simp only [List.set_cons_zero,List.set_cons_succ] at g5;have hq5:=g5.memBlk (c:=q) (k:=⟨[machV m,ptrV c,.int .i64 e.next,.int .i64 (max r.2.2 0),.int .i64 (d.stp + 1),.int .i64 d.rest],1,false⟩) (by simp);obtain ⟨H6,e6,g6⟩:=g5.stEnd 5 (v:=.int .i64 0) rfl rfl (by simp);simp only [List.set_cons_zero,List.set_cons_succ] at g6;refine ⟨H6,?_,?_,hI4,by dsimp only; omega,hnx.1,hnx.2.1⟩
  ·rw [ζ68];simp -implicitDefEqProofs (disch:=omega) [-stR_ptr,ζ1q,hcls,hq,hqn,hstep,stR_ptr 4 H.n 0,e2,hq2,he2,e3,hq3,he3,e4,hq4,he4,han,hmx,bne,e5,hq5,e6]
  ·have:=g6.take ((W r.1 ++ X).length + 1);rw [take_mid] at this;exact this
end Go.Sw
end
section
namespace Go.Sw
open Go.RowKit
def oddB (vs:List Int) (a:Int):Bool:=(List.range (vs.length / 2)).any fun i => decide (a ≤ (i:Int) ∧ gU vs (2 * (i:Int)) 2 % 2 = 1)
structure STab where
 m:Mach
 vals:List Int
def entOdd (vs:List Int) (e:En):Bool:=decide (e.a = 65535) || oddB vs e.a
def stackS (b:List Int) (g:Int):Option STab:=(machS b g 1).bind fun m => (uS b 16 4).bind fun p => (restS b p).bind fun vs => if m.ents.all (entOdd vs) then some ⟨m,vs⟩ else none
structure STab.ok (t:STab):Prop where
 m:t.m.ok
 byt:Byt t.vals
 len:t.vals.length < 2 ^ 31
 has:∀ e,e ∈ t.m.ents → e.a = 65535 ∨ oddB t.vals e.a = true
def valV (vs:List Int) (a:Int):Int:=s16 (gU vs (2 * a) 2) - s16 (gU vs (2 * a) 2) % 2
def lastS (vs:List Int) (a:Int):Bool:=decide (s16 (gU vs (2 * a) 2) % 2 = 1)
def onePl (down cross:Bool) (l:List Pl) (i v:Int):List Pl:=if cross = false then updPl l i fun p => ⟨addI p.adv v,p.x,p.y⟩ else if v = -32768 then levelPl l down i else updPl l i fun p => if down then ⟨p.adv,addI p.x v,p.y⟩ else ⟨p.adv,p.x,addI p.y v⟩
def moveS (vs:List Int) (down cross:Bool):List Int → Int → List Pl → List Pl × List Int
 | [],_,l => (l,[])
 | i :: ks,a,l => if lastS vs a then (onePl down cross l i (valV vs a),ks) else moveS vs down cross ks (a + 1) (onePl down cross l i (valV vs a))
def doSt (t:STab) (n:Int) (down cross:Bool) (s:List Pl × List Int) (i:Int) (e:En):List Pl × List Int :=
 let k1:=if e.flags / 8192 % 2 = 1 then [] else s.2
 let k2:=if e.flags ≥ 32768 ∧ i < n then (i :: k1).take 8 else k1
 if e.a = 65535 then (s.1,k2) else moveS t.vals down cross k2 e.a s.1
end Go.Sw
end
section
namespace Go.Sw
open Go.RowKit
def itPl (p:Nat) (o:Option Nat) (down:Bool) (l:List Pl):It :=
 ⟨fpP p o,fun H => PlAt H p o down l,fun _ _ h hk => h.up (hk p (by simp [fpP])) fun b hb => hk b (by simp [fpP,hb])⟩
theorem Star.pl {H0 H:Heap} {L:List It} (h:Star H0 H L) (i:Nat) {p:Nat} {o:Option Nat} {down:Bool} {l:List Pl} (hi:L[i]? = some (itPl p o down l)):PlAt H p o down l:=h.at i hi
theorem Star.plStep {H0 H H2:Heap} {L:List It} (h:Star H0 H L) (i:Nat) {p:Nat} {o:Option Nat} {down:Bool} {l l2:List Pl} (hi:L[i]? = some (itPl p o down l)) (hp:PlAt H2 p o down l2) (hk:Keeps (fpP p o) H H2):Star H0 H2 (L.set i (itPl p o down l2)) :=
 h.step i hi hk.1 (fun c hc hs => hk.2 c hc hs) _ hp fun b hb => .inl hb
theorem ζlh (k:Nat) {H0 H:Heap} {L:List It} (h:Star H0 H L) (i:Nat) {p:Nat} {o:Option Nat} {down:Bool} {l:List Pl} (hi:L[i]? = some (itPl p o down l)) (hok:∀ q,q ∈ l → q.ok) (j x y:Int) :
  ∃ H2,R (T k) F.ζ1h [ptrV p,.int .i64 j,.int .i64 x,.int .i64 y] H = .ok (.tuple #[]) H2 ∧ Star H0 H2 (L.set i (itPl p o down (updPl l j fun q => ⟨q.adv,addI q.x x,addI q.y y⟩))):=by
 obtain ⟨H2,e,h1,h2⟩:=ζlx k (h.pl i hi) hok j x y;exact ⟨H2,e,h.plStep i hi h1 h2⟩
theorem ζef (k:Nat) {H0 H:Heap} {L:List It} (h:Star H0 H L) (i:Nat) {p:Nat} {o:Option Nat} {down:Bool} {l:List Pl} (hi:L[i]? = some (itPl p o down l)) (hl:l.length < 2 ^ 31) :
  ∃ H2,R (T k) F.ζi [ptrV p] H = .ok (.tuple #[]) H2 ∧ Star H0 H2 (L.set i (itPl p o down l.reverse)):=by
 obtain ⟨H2,e,h1,h2⟩:=Turn_run k (h.pl i hi) hl;exact ⟨H2,e,h.plStep i hi h1 h2⟩
theorem ζf7 (k:Nat) {H0 H:Heap} {L:List It} (h:Star H0 H L) (dir:Int) (l:List Int) (hl:l.length ≤ 2 ^ 20) {av:Value} (hv:Sl H 1 av encI l) :
  ∃ o H',R (T k) F.ζ4k [.int .i64 dir,av] H = .ok (ptrV H.n) H' ∧ Star H0 H' (L ++ [itPl H.n o (dir == 2) (newPl l)]):=by
 obtain ⟨H',o,e,h1,h2,h3⟩:=New_runG k dir l hl H hv;refine ⟨o,H',e,h.more h3 _ h1 fun b hb => ?_⟩;have hlt:=h1.lt;rcases List.mem_cons.1 hb with rfl | hb
 ·omega
 ·have:=h2 b (Option.mem_toList.1 hb);have:=h1.lto b (Option.mem_toList.1 hb);omega
theorem ζhp (k:Nat) (hk:k < 1000000) {H0 H:Heap} {L:List It} (h:Star H0 H L) (i:Nat) {p:Nat} {o:Option Nat} {down:Bool} {l:List Pl} (hi:L[i]? = some (itPl p o down l)) (hl:l.length ≤ 2 ^ 20):R (T k) F.ζ1w [ptrV p] H = .ok (lv encP l) H:=All_run k hk (h.pl i hi) hl
end Go.Sw
end
section
set_option maxRecDepth 100000
set_option linter.unusedVariables false
namespace Go.Sw
noncomputable section
def ζ54 (k:Nat) (call:Caller):Env → Heap → Res (AExit × Env):=loopB (C k) call F.ζ3 [1,0,1,0,0]
def ζ6r (k:Nat) (call:Caller):Kont Value:=kBlock 0 (kSeq (pieceK (C k) call F.ζ3 [1,1]) (kDone Prog (resOf Prog F.ζ3)))
def ζ3e (k:Nat) (call:Caller):Env → Heap → Res (AExit × Env):=loopB (C k) call F.ζ3 [1,0,1,0,0,1,0,0,1,0,1,0,0]
def ζ6s (k:Nat) (call:Caller):Kont (AExit × Env):=kBlock 2 (kSeq (pieceK (C k) call F.ζ3 [1,0,1,0,0,1,0,0,1,1]) (kBlock 1 (kSeq (pieceK (C k) call F.ζ3 [1,0,1,0,0,1,1]) (kRound (ownOf (C k) F.ζ3 [1,0,1,0,0])))))
def ζ3 (k:Nat) (call:Caller) (a0 a1 a2:Value) (h:Heap):Res Value :=
 (binR Prog .sub 3 a2 (.int .i64 1) h).bind fun v1 h2 =>
 (loopN (ζ54 k call) loopFuel [(0,a0),(1,a1),(7,v1)] h2).bind fun r3 h4 =>
 ζ6r k call r3.1 r3.2 h4
theorem ζcx (k:Nat) (a0 a1 a2:Value) (h:Heap):R (T k) F.ζ3 [a0,a1,a2] h = nrm .no h (ζ3 k (R (T k)) a0 a1 a2 h) :=
 (R_body (t:=T k) (T_scott k) (by kernel_rfl) (by kernel_rfl) _ _).trans (by kernel_rfl)
theorem ζ64 (k:Nat) (call:Caller) (a0 a1 a7:Value) (h:Heap):ζ54 k call [(0,a0),(1,a1),(7,a7)] h =
 (binR Prog .geq 3 a7 (.int .i64 0) h).bind fun v5 h6 =>
 condV (some v5) (
 (loopN (ζ3e k call) loopFuel [(0,a0),(1,a1),(7,a7),(8,a1),(9,(.int .i64 0))] h6).bind fun r7 h8 =>
 ζ6s k call r7.1 r7.2 h8)
 (
 .ok ((.exit 0),[(0,a0),(1,a1),(7,a7),(13,v5)]) h6) :=
 (loopB_eq _ _).trans (by kernel_rfl)
theorem ζ65 (k:Nat) (call:Caller) (a0 a1 a7 a8 a9:Value) (h:Heap):ζ3e k call [(0,a0),(1,a1),(7,a7),(8,a8),(9,a9)] h =
 (binR Prog .lss 3 a9 a7 h).bind fun v9 h10 =>
 condV (some v9) (
 (binR Prog .quo 3 a8 (.int .i64 256) h10).bind fun v11 h12 =>
 (binR Prog .add 3 a9 (.int .i64 1) h12).bind fun v13 h14 =>
 .ok (.normal,[(0,a0),(1,a1),(7,a7),(8,v11),(9,v13)]) h14)
 (
 .ok ((.exit 2),[(0,a0),(1,a1),(7,a7),(8,a8),(9,a9),(19,v9)]) h10) :=
 (loopB_eq _ _).trans (by kernel_rfl)
theorem ζ8p (k:Nat) (call:Caller) (a0 a1 a7 a13:Value) (h:Heap):ζ6r k call (.exit 0) [(0,a0),(1,a1),(7,a7),(13,a13)] h =
 .ok a0 h:=by kernel_rfl
theorem ζ8q (k:Nat) (call:Caller) (a0 a1 a7 a8 a9 a19:Value) (h:Heap):ζ6s k call (.exit 2) [(0,a0),(1,a1),(7,a7),(8,a8),(9,a9),(19,a19)] h =
 (binR Prog .rem 3 a8 (.int .i64 256) h).bind fun v15 h16 =>
 (convR Prog 3 5 v15 h16).bind fun v17 h18 =>
 (buildSliceR Prog 22 1 [(0,v17)] h18).bind fun v19 h20 =>
 (builtinV Prog .append [22,22] [a0,v19] h20).bind fun v21 h22 =>
 (binR Prog .sub 3 a7 (.int .i64 1) h22).bind fun v23 h24 =>
 .ok (.normal,[(0,v21),(1,a1),(7,v23)]) h24:=by kernel_rfl
end
end Go.Sw
end
section
namespace Go.Sw
open Go.RowKit
theorem Put_in (k:Nat) (s:Value) (n:Int) (i:Nat) (h0:0 ≤ n) (hn:n < 2 ^ 62) (hi:i < 2 ^ 62) (H:Heap) :
  loopN (ζ3e k (R (T k))) loopFuel [(0,s),(1,.int .i64 n),(7,.int .i64 i),(8,.int .i64 n),(9,.int .i64 0)] H = .ok (.exit 2,[(0,s),(1,.int .i64 n),(7,.int .i64 i),(8,.int .i64 (n / 256 ^ i)),(9,.int .i64 i),(19,.bool false)]) H:=by
 obtain ⟨x,e',H1,hr,rfl,rfl,rfl⟩:=loop_up (body:=ζ3e k (R (T k))) i
  (fun j e H' => H' = H ∧ e = [(0,s),(1,.int .i64 n),(7,.int .i64 i),(8,.int .i64 (n / 256 ^ j)),(9,.int .i64 j)])
  (fun x e H' => H' = H ∧ x = .exit 2 ∧ e = [(0,s),(1,.int .i64 n),(7,.int .i64 i),(8,.int .i64 (n / 256 ^ i)),(9,.int .i64 i),(19,.bool false)])
  (e0:=[(0,s),(1,.int .i64 n),(7,.int .i64 i),(8,.int .i64 n),(9,.int .i64 0)]) (H0:=H) ⟨rfl,by simp⟩ (by omega)
  (fun j e H' hj ⟨hH,he⟩ => by
   subst he hH;have hlt:(j:Int) < i:=by omega
   have q0:0 ≤ n / 256 ^ j:=Int.ediv_nonneg h0 (Int.pow_nonneg (by decide));have q1:n / 256 ^ j ≤ n:=Int.ediv_le_self _ h0;have hq:(n / 256 ^ j).tdiv 256 = n / 256 ^ (j + 1):=by
    rw [Int.tdiv_eq_ediv_of_nonneg q0,Int.pow_succ,Int.ediv_ediv_of_nonneg (Int.pow_nonneg (by decide))]
   have q:=fun H => bin_quo Prog 3 H .i64 (n / 256 ^ j) 256 (by decide);rw [hq] at q;have q2:0 ≤ n / 256 ^ (j + 1):=Int.ediv_nonneg h0 (Int.pow_nonneg (by decide));have q3:n / 256 ^ (j + 1) ≤ n:=Int.ediv_le_self _ h0;generalize n / 256 ^ (j + 1) = m at q q2 q3 ⊢;generalize n / 256 ^ j = m0 at q ⊢;refine .inl ⟨_,H',?_,rfl,rfl⟩;rw [ζ65];simp -implicitDefEqProofs (disch:=omega) [hlt,q])
  (fun e H' ⟨hH,he⟩ => by
   subst he hH;refine ⟨.exit 2,_,H',?_,by simp,rfl,rfl,rfl⟩;rw [ζ65];simp -implicitDefEqProofs (disch:=omega))
 exact hr
theorem Put_star (k:Nat) {H0 H:Heap} {L:List It} (h:Star H0 H L) (i:Nat) {o:Option Nat} {s:Value} {b:List Int} (hi:L[i]? = some (itRow o 1 s encB b)) (n zi:Int) (z:Nat) (hzi:zi = z) (h0:0 ≤ n) (hn:n < 2 ^ 62) (hz:z ≤ 8) (hl:b.length < 2 ^ 30) :
  ∃ s' o' H',R (T k) F.ζ3 [s,.int .i64 n,.int .i64 zi] H = .ok s' H' ∧ Star H0 H' (L.set i (itRow o' 1 s' encB (b ++ bytesOf n z))):=by
 subst hzi;rw [ζcx];have hlt:i < L.length:=(List.getElem?_eq_some_iff.1 hi).1;have hself:L.set i (itRow o 1 s encB b) = L:=by
  obtain ⟨hlt,hx⟩:=List.getElem?_eq_some_iff.1 hi;rw [← hx,List.set_getElem_self]
 obtain ⟨x,e',H1,hr,s',o',rfl,⟨a,c,rfl⟩,ho⟩:=loopDec (body:=ζ54 k (R (T k)))
  (fun m e H' => ∃ s o acc,e = [(0,s),(1,.int .i64 n),(7,.int .i64 ((m:Int) - 1))] ∧ Star H0 H' (L.set i (itRow o 1 s encB acc)) ∧ acc ++ bytesOf n m = b ++ bytesOf n z ∧ m ≤ z)
  (fun x e H' => ∃ s' o',x = .exit 0 ∧ (∃ a c,e = [(0,s'),(1,.int .i64 n),(7,a),(13,c)]) ∧ Star H0 H' (L.set i (itRow o' 1 s' encB (b ++ bytesOf n z))))
  (e0:=[(0,s),(1,.int .i64 n),(7,.int .i64 ((z:Int) - 1))]) (H0:=H) z ⟨s,o,b,rfl,by rw [hself]; exact h,rfl,Nat.le_refl _⟩ (by omega)
  (fun m e H' ⟨s,o,acc,he,ho,ha,hmz⟩ => by
   subst he;cases m with
   | zero =>
    refine .inr ⟨.exit 0,_,H',?_,by simp,s,o,rfl,⟨.int .i64 ((0:Nat) - 1),.bool false,rfl⟩,by simpa [bytesOf] using (by simpa [bytesOf] using ha) ▸ ho⟩;rw [ζ64];simp -implicitDefEqProofs
   | succ m =>
    have hin:=Put_in k s n m h0 hn (by omega) H';have q0:0 ≤ n / 256 ^ m:=Int.ediv_nonneg h0 (Int.pow_nonneg (by decide));have hacc:acc.length < 2 ^ 31:=by
     have:=congrArg List.length ha;simp [ζo] at this;omega
    obtain ⟨s2,o2,H2,e1,o1⟩:=ho.append1 (bytes:=1) i encB_len (List.getElem?_set_self hlt) ((n / 256 ^ m) % 256) hacc (by decide);rw [List.set_set] at o1;have hrem:=fun H => bin_rem Prog 3 H .i64 (n / 256 ^ m) 256 (by decide);rw [Int.tmod_eq_emod_of_nonneg q0] at hrem;have hb:0 ≤ (n / 256 ^ m) % 256 ∧ (n / 256 ^ m) % 256 < 256:=by omega
    refine .inl ⟨m,_,H2,?_,by omega,s2,o2,acc ++ [(n / 256 ^ m) % 256],rfl,o1,by rw [List.append_assoc]; exact ha,by omega⟩;rw [ζ64];have hge:(m:Int) ≥ 0:=by omega
    rw [show (((m + 1:Nat):Int) - 1) = (m:Int) by omega];generalize (n / 256 ^ m) % 256 = y at e1 hrem hb;simp -implicitDefEqProofs (disch:=omega) [hge,hin,ζ8q,hrem,e1])
 refine ⟨s',o',H1,?_,ho⟩;simp -implicitDefEqProofs (disch:=omega) [ζ3,hr,ζ8p,nrm_no]
end Go.Sw
end
