/-
  Functions' forms, and what is proved of them, part 1.
-/
import Derived.Test.YtanfippcmdialaaSwCfg
import Derived.Test.YtanfippcmdialaaSwLib8
import Derived.Test.YtanfippcmdialaaSwLib9
set_option linter.unusedSimpArgs false
set_option linter.unusedVariables false
set_option linter.unusedSectionVars false
section
set_option maxRecDepth 100000
set_option linter.unusedVariables false
namespace Go.Sw
noncomputable section
def view_Of (k:Nat) (call:Caller) (a0:Value) (h:Heap):Res Value :=
 (allocR Prog 75 h).bind fun v1 h2 =>
 (buildR Prog 75 [(0,a0)] h2).bind fun v3 h4 =>
 (storeR Prog 75 v1 v3 h4).bind fun _v5 h6 =>
 (loadR Prog 75 v1 h6).bind fun v7 h8 =>
 .ok v7 h8
theorem view_Of_R (k:Nat) (a0:Value) (h:Heap):R (T k) F.view_Of [a0] h = nrm .gc h (view_Of k (R (T k)) a0 h) :=
 (R_body (t:=T k) (T_scott k) (by kernel_rfl) (by kernel_rfl) _ _).trans (by kernel_rfl)
def view_View_Bytes (k:Nat) (call:Caller) (a0:Value) (h:Heap):Res Value :=
 (boxR a0 h).bind fun v1 h2 =>
 (buildSliceR Prog 31 0 [] h2).bind fun v3 h4 =>
 (fieldAddrR Prog 75 v1 0 h4).bind fun v5 h6 =>
 (loadR Prog 31 v5 h6).bind fun v7 h8 =>
 (builtinV Prog .append [31,31] [v3,v7] h8).bind fun v9 h10 =>
 .ok v9 h10
theorem view_View_Bytes_R (k:Nat) (a0:Value) (h:Heap):R (T k) F.view_View_Bytes [a0] h = nrm .fz h (view_View_Bytes k (R (T k)) a0 h) :=
 (R_body (t:=T k) (T_scott k) (by kernel_rfl) (by kernel_rfl) _ _).trans (by kernel_rfl)
def view_View_U32 (k:Nat) (call:Caller) (a0 a1:Value) (h:Heap):Res Value :=
 (boxR a0 h).bind fun v1 h2 =>
 (loadR Prog 75 v1 h2).bind fun v3 h4 =>
 (call F.view_View_piece [v3,a1,(.int .i64 4)] h4).bind fun v5 h6 =>
 (indexAddrR Prog 31 v5 (.int .i64 0) h6).bindN fun v7 h8 =>
 (loadR Prog 5 v7 h8).bindN fun v9 h10 =>
 (convR Prog 5 3 v9 h10).bindN fun v11 h12 =>
 (binR Prog .shl 3 v11 (.int .u64 24) h12).bindN fun v13 h14 =>
 (indexAddrR Prog 31 v5 (.int .i64 1) h14).bindN fun v15 h16 =>
 (loadR Prog 5 v15 h16).bindN fun v17 h18 =>
 (convR Prog 5 3 v17 h18).bindN fun v19 h20 =>
 (binR Prog .shl 3 v19 (.int .u64 16) h20).bindN fun v21 h22 =>
 (binR Prog .or 3 v13 v21 h22).bindN fun v23 h24 =>
 (indexAddrR Prog 31 v5 (.int .i64 2) h24).bindN fun v25 h26 =>
 (loadR Prog 5 v25 h26).bindN fun v27 h28 =>
 (convR Prog 5 3 v27 h28).bindN fun v29 h30 =>
 (binR Prog .shl 3 v29 (.int .u64 8) h30).bindN fun v31 h32 =>
 (binR Prog .or 3 v23 v31 h32).bindN fun v33 h34 =>
 (indexAddrR Prog 31 v5 (.int .i64 3) h34).bindN fun v35 h36 =>
 (loadR Prog 5 v35 h36).bindN fun v37 h38 =>
 (convR Prog 5 3 v37 h38).bindN fun v39 h40 =>
 (binR Prog .or 3 v33 v39 h40).bindN fun v41 h42 =>
 .ok v41 h42
theorem view_View_U32_R (k:Nat) (a0 a1:Value) (h:Heap):R (T k) F.view_View_U32 [a0,a1] h = nrm .gc h (view_View_U32 k (R (T k)) a0 a1 h) :=
 (R_body (t:=T k) (T_scott k) (by kernel_rfl) (by kernel_rfl) _ _).trans (by kernel_rfl)
def view_Need (k:Nat) (call:Caller) (a0:Value) (h:Heap):Res Value :=
 (unR .not a0 h).bind fun v1 h2 =>
 condV (some v1) (
 (call F.view_Fail [] h2).bind fun v3 h4 =>
 .ok (.tuple #[]) h4)
 (
 .ok (.tuple #[]) h2)
theorem view_Need_R (k:Nat) (a0:Value) (h:Heap):R (T k) F.view_Need [a0] h = nrm .gc h (view_Need k (R (T k)) a0 h) :=
 (R_body (t:=T k) (T_scott k) (by kernel_rfl) (by kernel_rfl) _ _).trans (by kernel_rfl)
def view_View_U16 (k:Nat) (call:Caller) (a0 a1:Value) (h:Heap):Res Value :=
 (boxR a0 h).bind fun v1 h2 =>
 (loadR Prog 75 v1 h2).bind fun v3 h4 =>
 (call F.view_View_piece [v3,a1,(.int .i64 2)] h4).bind fun v5 h6 =>
 (indexAddrR Prog 31 v5 (.int .i64 0) h6).bindN fun v7 h8 =>
 (loadR Prog 5 v7 h8).bindN fun v9 h10 =>
 (convR Prog 5 3 v9 h10).bindN fun v11 h12 =>
 (binR Prog .shl 3 v11 (.int .u64 8) h12).bindN fun v13 h14 =>
 (indexAddrR Prog 31 v5 (.int .i64 1) h14).bindN fun v15 h16 =>
 (loadR Prog 5 v15 h16).bindN fun v17 h18 =>
 (convR Prog 5 3 v17 h18).bindN fun v19 h20 =>
 (binR Prog .or 3 v13 v19 h20).bindN fun v21 h22 =>
 .ok v21 h22
theorem view_View_U16_R (k:Nat) (a0 a1:Value) (h:Heap):R (T k) F.view_View_U16 [a0,a1] h = nrm .gc h (view_View_U16 k (R (T k)) a0 a1 h) :=
 (R_body (t:=T k) (T_scott k) (by kernel_rfl) (by kernel_rfl) _ _).trans (by kernel_rfl)
def view_View_Rows (k:Nat) (call:Caller) (a0 a1 a2 a3:Value) (h:Heap):Res Value :=
 (boxR a0 h).bind fun v1 h2 =>
 (allocR Prog 75 h2).bind fun v3 h4 =>
 (binR Prog .geq 3 a2 (.int .i64 0) h4).bind fun v5 h6 =>
 ((bif wantVal v5 true then Res.ok a3 h6 else Res.ok undef h6)).bind fun v7 h8 =>
 ((bif wantVal v5 true then binR Prog .geq 3 v7 (.int .i64 0) h8 else Res.ok undef h8)).bind fun v9 h10 =>
 (condV (some v5) (Res.ok v9 h10) (Res.ok (.bool false) h10)).bind fun v11 h12 =>
 ((bif wantVal v11 true then Res.ok a3 h12 else Res.ok undef h12)).bind fun v13 h14 =>
 ((bif wantVal v11 true then binR Prog .eql 3 v13 (.int .i64 0) h14 else Res.ok undef h14)).bind fun v15 h16 =>
 ((bif wantVal v11 true then Res.ok v15 h16 else Res.ok undef h16)).bind fun v17 h18 =>
 ((bif wantVal v17 false then Res.ok a2 h18 else Res.ok undef h18)).bind fun v19 h20 =>
 ((bif wantVal v17 false then fieldAddrR Prog 75 v1 0 h20 else Res.ok undef h20)).bind fun v21 h22 =>
 ((bif wantVal v17 false then loadR Prog 31 v21 h22 else Res.ok undef h22)).bind fun v23 h24 =>
 ((bif wantVal v17 false then builtinV Prog .len [31] [v23] h24 else Res.ok undef h24)).bind fun v25 h26 =>
 ((bif wantVal v17 false then Res.ok a3 h26 else Res.ok undef h26)).bind fun v27 h28 =>
 ((bif wantVal v17 false then binR Prog .quo 3 v25 v27 h28 else Res.ok undef h28)).bind fun v29 h30 =>
 ((bif wantVal v17 false then binR Prog .leq 3 v19 v29 h30 else Res.ok undef h30)).bind fun v31 h32 =>
 ((bif wantVal v11 true then condV (some v17) (Res.ok (.bool true) h32) (Res.ok v31 h32) else Res.ok undef h32)).bind fun v33 h34 =>
 (condV (some v11) (Res.ok v33 h34) (Res.ok (.bool false) h34)).bind fun v35 h36 =>
 (call F.view_Need [v35] h36).bind fun v37 h38 =>
 (loadR Prog 75 v1 h38).bind fun v39 h40 =>
 (binR Prog .mul 3 a2 a3 h40).bind fun v41 h42 =>
 (call F.view_View_Cut [v39,a1,v41] h42).bind fun v43 h44 =>
 (storeR Prog 75 v3 v43 h44).bind fun _v45 h46 =>
 (loadR Prog 75 v3 h46).bind fun v47 h48 =>
 .ok v47 h48
theorem view_View_Rows_R (k:Nat) (a0 a1 a2 a3:Value) (h:Heap):R (T k) F.view_View_Rows [a0,a1,a2,a3] h = nrm .gc h (view_View_Rows k (R (T k)) a0 a1 a2 a3 h) :=
 (R_body (t:=T k) (T_scott k) (by kernel_rfl) (by kernel_rfl) _ _).trans (by kernel_rfl)
def view_View_Cut (k:Nat) (call:Caller) (a0 a1 a2:Value) (h:Heap):Res Value :=
 (boxR a0 h).bind fun v1 h2 =>
 (allocR Prog 75 h2).bind fun v3 h4 =>
 (loadR Prog 75 v1 h4).bind fun v5 h6 =>
 (call F.view_View_piece [v5,a1,a2] h6).bind fun v7 h8 =>
 (buildR Prog 75 [(0,v7)] h8).bind fun v9 h10 =>
 (storeR Prog 75 v3 v9 h10).bind fun _v11 h12 =>
 (loadR Prog 75 v3 h12).bind fun v13 h14 =>
 .ok v13 h14
theorem view_View_Cut_R (k:Nat) (a0 a1 a2:Value) (h:Heap):R (T k) F.view_View_Cut [a0,a1,a2] h = nrm .gc h (view_View_Cut k (R (T k)) a0 a1 a2 h) :=
 (R_body (t:=T k) (T_scott k) (by kernel_rfl) (by kernel_rfl) _ _).trans (by kernel_rfl)
def view_Fail (k:Nat) (call:Caller) (h:Heap):Res Value :=
 (buildR Prog 190 [] h).bind fun v1 h2 =>
 (ifaceR Prog 190 v1 h2).bind fun v3 h4 =>
 (panicR v3 h4).bind fun _v5 h6 =>
 .ok (.tuple #[]) h6
theorem view_Fail_R (k:Nat) (h:Heap):R (T k) F.view_Fail [] h = nrm .gc h (view_Fail k (R (T k)) h) :=
 (R_body (t:=T k) (T_scott k) (by kernel_rfl) (by kernel_rfl) _ _).trans (by kernel_rfl)
def view_View_piece (k:Nat) (call:Caller) (a0 a1 a2:Value) (h:Heap):Res Value :=
 (boxR a0 h).bind fun v1 h2 =>
 (binR Prog .geq 3 a1 (.int .i64 0) h2).bind fun v3 h4 =>
 ((bif wantVal v3 true then Res.ok a2 h4 else Res.ok undef h4)).bind fun v5 h6 =>
 ((bif wantVal v3 true then binR Prog .geq 3 v5 (.int .i64 0) h6 else Res.ok undef h6)).bind fun v7 h8 =>
 (condV (some v3) (Res.ok v7 h8) (Res.ok (.bool false) h8)).bind fun v9 h10 =>
 ((bif wantVal v9 true then Res.ok a1 h10 else Res.ok undef h10)).bind fun v11 h12 =>
 ((bif wantVal v9 true then fieldAddrR Prog 75 v1 0 h12 else Res.ok undef h12)).bind fun v13 h14 =>
 ((bif wantVal v9 true then loadR Prog 31 v13 h14 else Res.ok undef h14)).bind fun v15 h16 =>
 ((bif wantVal v9 true then builtinV Prog .len [31] [v15] h16 else Res.ok undef h16)).bind fun v17 h18 =>
 ((bif wantVal v9 true then binR Prog .leq 3 v11 v17 h18 else Res.ok undef h18)).bind fun v19 h20 =>
 (condV (some v9) (Res.ok v19 h20) (Res.ok (.bool false) h20)).bind fun v21 h22 =>
 ((bif wantVal v21 true then Res.ok a2 h22 else Res.ok undef h22)).bind fun v23 h24 =>
 ((bif wantVal v21 true then fieldAddrR Prog 75 v1 0 h24 else Res.ok undef h24)).bind fun v25 h26 =>
 ((bif wantVal v21 true then loadR Prog 31 v25 h26 else Res.ok undef h26)).bind fun v27 h28 =>
 ((bif wantVal v21 true then builtinV Prog .len [31] [v27] h28 else Res.ok undef h28)).bind fun v29 h30 =>
 ((bif wantVal v21 true then Res.ok a1 h30 else Res.ok undef h30)).bind fun v31 h32 =>
 ((bif wantVal v21 true then binR Prog .sub 3 v29 v31 h32 else Res.ok undef h32)).bind fun v33 h34 =>
 ((bif wantVal v21 true then binR Prog .leq 3 v23 v33 h34 else Res.ok undef h34)).bind fun v35 h36 =>
 (condV (some v21) (Res.ok v35 h36) (Res.ok (.bool false) h36)).bind fun v37 h38 =>
 (call F.view_Need [v37] h38).bind fun v39 h40 =>
 (fieldAddrR Prog 75 v1 0 h40).bind fun v41 h42 =>
 (loadR Prog 31 v41 h42).bind fun v43 h44 =>
 (binR Prog .add 3 a1 a2 h44).bind fun v45 h46 =>
 (binR Prog .add 3 a1 a2 h46).bind fun v47 h48 =>
 (sliceR Prog 31 v43 (some a1) (some v45) (some v47) h48).bind fun v49 h50 =>
 .ok v49 h50
theorem view_View_piece_R (k:Nat) (a0 a1 a2:Value) (h:Heap):R (T k) F.view_View_piece [a0,a1,a2] h = nrm .gc h (view_View_piece k (R (T k)) a0 a1 a2 h) :=
 (R_body (t:=T k) (T_scott k) (by kernel_rfl) (by kernel_rfl) _ _).trans (by kernel_rfl)
end
end Go.Sw
end
section
namespace Go.Sw
open Go.RowKit
abbrev encB (n:Int):List Value:=[.int .u8 n]
theorem encB_len (n:Int):(encB n).length = 1:=rfl
def Byt (b:List Int):Prop:=∀ n,n ∈ b → 0 ≤ n ∧ n < 256
abbrev failV:Value:=.iface shortT (.agg #[])
abbrev vw (b:List Int):Value:=.agg #[lv encB b]
def orF {α:Type} (o:Option α) (f:α → Value) (H:Heap):Res Value:=match o with
 | some a => .ok (f a) H
 | none => .panic failV H
@[simp] theorem orF_some {α:Type} (a:α) (f:α → Value) (H:Heap):orF (some a) f H = .ok (f a) H:=rfl
@[simp] theorem orF_none {α:Type} (f:α → Value) (H:Heap):orF (none:Option α) f H = .panic failV H:=rfl
def pieceS (b:List Int) (i n:Int):Option (List Int):=if 0 ≤ i ∧ 0 ≤ n ∧ i ≤ b.length ∧ n ≤ b.length - i then some ((b.drop i.toNat).take n.toNat) else none
def num (l:List Int):Int:=l.foldl (fun x y => 256 * x + y) 0
def uS (b:List Int) (i n:Int):Option Int:=(pieceS b i n).map num
theorem Byt.piece {b:List Int} (h:Byt b) {i n:Int} {l:List Int} (hl:pieceS b i n = some l):Byt l ∧ (l.length:Int) = n:=by
 unfold pieceS at hl;split at hl
 ·rename_i hc;injection hl with hl; subst hl;refine ⟨fun x hx => h x (List.mem_of_mem_drop (List.mem_of_mem_take hx)),?_⟩;simp;omega
 ·cases hl
theorem Flat.fail:Flat failV:=.iface _ _ (.aggL .nil)
theorem Flat.unit:Flat (.tuple #[]):=.tupleL .nil
theorem Flat.B (b:List Int):Flat (Go.Sw.lv encB b):=.lv fun n _ => .cons (.int _ _) .nil
theorem Flat.vw (b:List Int):Flat (Go.Sw.vw b):=.aggL (.cons (.B b) .nil)
@[simp] theorem veq_B (b:List Int):veq (Go.Sw.lv encB b) (Go.Sw.lv encB b) = true:=veq_lv fun n _ v hv => by simp at hv; subst hv; simp
@[simp] theorem veq_vw (b:List Int):veq (.agg #[Go.Sw.lv encB b]) (.agg #[Go.Sw.lv encB b]) = true:=veq_agg (l:=[Go.Sw.lv encB b]) fun v hv => by simp at hv; subst hv; simp
@[simp] theorem Fail_run (k:Nat) (H:Heap):R (T k) F.view_Fail [] H = .panic failV H:=by
 rw [view_Fail_R];refine nrm_throw ⟨H,?_,Ext.refl H⟩ Flat.fail.alive;simp -implicitDefEqProofs [view_Fail]
theorem Need_true (k:Nat) (H:Heap):R (T k) F.view_Need [.bool true] H = .ok (.tuple #[]) H:=by
 rw [view_Need_R];refine nrm_gc (Pure.of ?_) Flat.unit.alive;simp -implicitDefEqProofs [view_Need]
theorem Need_false (k:Nat) (H:Heap):R (T k) F.view_Need [.bool false] H = .panic failV H:=by
 rw [view_Need_R];refine nrm_throw ⟨H,?_,Ext.refl H⟩ Flat.fail.alive;simp -implicitDefEqProofs [view_Need]
attribute [simp] Need_true Need_false
theorem pieceS_sl {H:Heap} {v:Value} {b l:List Int} (hv:Sl H 1 v encB b) {i n:Int} (h:pieceS b i n = some l):Sl H 1 (subV 1 v i.toNat n.toNat) encB l:=by
 unfold pieceS at h;split at h
 ·injection h with h; subst h;exact (hv.sub encB_len .i64 .i64 .i64 i.toNat n.toNat (by omega)).2
 ·cases h
theorem piece_run (k:Nat) {H:Heap} {v:Value} {b:List Int} (hv:Sl H 1 v encB b) (i n:Int) (hl:b.length < 2 ^ 62):R (T k) F.view_View_piece [.agg #[v],.int .i64 i,.int .i64 n] H = orF (pieceS b i n) (fun _ => subV 1 v i.toNat n.toNat) H:=by
 rw [view_View_piece_R];have bx:∀ H:Heap,boxR (.agg #[v]) H = newP [v] H:=fun _ => rfl;have hlen:=hv.len;by_cases h1:0 ≤ i
 ·by_cases h2:0 ≤ n
  ·by_cases h3:i ≤ b.length
   ·by_cases h4:n ≤ b.length - i
    ·have hp:pieceS b i n = some ((b.drop i.toNat).take n.toNat):=by rw [pieceS,if_pos ⟨h1,h2,h3,h4⟩]
     rw [hp];obtain ⟨i',rfl⟩:=Int.eq_ofNat_of_zero_le h1;obtain ⟨n',rfl⟩:=Int.eq_ofNat_of_zero_le h2;rw [Int.toNat_natCast,Int.toNat_natCast];obtain ⟨hs,hs2⟩:=hv.sub encB_len .i64 .i64 .i64 i' n' (by omega);have hs:=hs _ ((Ext.refl H).push ⟨[v],1,false⟩);rw [show (((i' + n':Nat):Nat):Int) = (i':Int) + n' by omega] at hs;refine nrm_gc ⟨H.push ⟨[v],1,false⟩,?_,(Ext.refl H).push _⟩ (hs2.alive fun _ _ => .cons (.int _ _) .nil);simp -implicitDefEqProofs (disch:=omega) [view_View_piece,bx,hlen,h3,h4,hs]
    ·have hp:pieceS b i n = none:=by rw [pieceS,if_neg (fun h => h4 h.2.2.2)]
     rw [hp];refine nrm_throw ⟨H.push ⟨[v],1,false⟩,?_,(Ext.refl H).push _⟩ Flat.fail.alive;simp -implicitDefEqProofs (disch:=omega) [view_View_piece,bx,hlen,h1,h2,h3,h4]
   ·have hp:pieceS b i n = none:=by rw [pieceS,if_neg (fun h => h3 h.2.2.1)]
    rw [hp];refine nrm_throw ⟨H.push ⟨[v],1,false⟩,?_,(Ext.refl H).push _⟩ Flat.fail.alive;simp -implicitDefEqProofs (disch:=omega) [view_View_piece,bx,hlen,h1,h2,h3]
  ·have hp:pieceS b i n = none:=by rw [pieceS,if_neg (fun h => h2 h.2.1)]
   rw [hp];refine nrm_throw ⟨H.push ⟨[v],1,false⟩,?_,(Ext.refl H).push _⟩ Flat.fail.alive;simp -implicitDefEqProofs (disch:=omega) [view_View_piece,bx,hlen,h1,h2]
 ·have hp:pieceS b i n = none:=by rw [pieceS,if_neg (fun h => h1 h.1)]
  rw [hp];refine nrm_throw ⟨H.push ⟨[v],1,false⟩,?_,(Ext.refl H).push _⟩ Flat.fail.alive;simp -implicitDefEqProofs (disch:=omega) [view_View_piece,bx,hlen,h1]
theorem pieceS_len {b:List Int} {i n:Int} {l:List Int} (h:pieceS b i n = some l):(l.length:Int) = n:=by
 unfold pieceS at h;split at h
 ·injection h with h; subst h;simp;omega
 ·cases h
theorem two_of {l:List Int} (h:(l.length:Int) = 2):∃ x y,l = [x,y]:=by
 match l,h with
 | [x,y],_ => exact ⟨x,y,rfl⟩
theorem four_of {l:List Int} (h:(l.length:Int) = 4):∃ x y z u,l = [x,y,z,u]:=by
 match l,h with
 | [x,y,z,u],_ => exact ⟨x,y,z,u,rfl⟩
theorem U16_run (k:Nat) {H:Heap} {v:Value} {b:List Int} (hv:Sl H 1 v encB b) (hb:Byt b) (i:Int) (hl:b.length < 2 ^ 62):R (T k) F.view_View_U16 [.agg #[v],.int .i64 i] H = orF (uS b i 2) (.int .i64) H:=by
 rw [view_View_U16_R];have hx1:Ext H (H.push ⟨[v],1,false⟩):=(Ext.refl H).push _;have hp:=piece_run k (hv.up hx1) i 2 hl;unfold uS;cases h:pieceS b i 2 with
 | none =>
  rw [h] at hp;refine nrm_throw ⟨_,?_,hx1⟩ Flat.fail.alive;simp -implicitDefEqProofs (disch:=omega) [view_View_U16,hp]
 | some l =>
  have hsl:=pieceS_sl (hv.up hx1) h;generalize subV 1 v i.toNat (2:Int).toNat = v' at hp hsl;obtain ⟨x,y,rfl⟩:=two_of (pieceS_len h);rw [h] at hp;have hx:=(hb.piece h).1 x (by simp);have hy:=(hb.piece h).1 y (by simp);obtain ⟨p0,i0,d0⟩:=hsl.ix1 encB_len 0 x rfl _ rfl;obtain ⟨p1,i1,d1⟩:=hsl.ix1 encB_len 1 y rfl _ rfl;have i0:∀ H',ixS 1 v' (.int .i64 0) H' = .ok p0 H':=i0 .i64;have i1:∀ H',ixS 1 v' (.int .i64 1) H' = .ok p1 H':=i1 .i64;have d0:=d0 _ (Ext.refl _);have d1:=d1 _ (Ext.refl _);refine nrm_gc ⟨_,?_,hx1⟩ (.int _ _);have or1:=fun H => bin_or Prog 3 H (x * 256) y 8 (by omega) (by omega) (by omega) (by omega) (by omega);simp -implicitDefEqProofs (disch:=omega) [view_View_U16,hp,i0,i1,d0,d1,or1,num];omega
theorem U32_run (k:Nat) {H:Heap} {v:Value} {b:List Int} (hv:Sl H 1 v encB b) (hb:Byt b) (i:Int) (hl:b.length < 2 ^ 62):R (T k) F.view_View_U32 [.agg #[v],.int .i64 i] H = orF (uS b i 4) (.int .i64) H:=by
 rw [view_View_U32_R];have hx1:Ext H (H.push ⟨[v],1,false⟩):=(Ext.refl H).push _;have hp:=piece_run k (hv.up hx1) i 4 hl;unfold uS;cases h:pieceS b i 4 with
 | none =>
  rw [h] at hp;refine nrm_throw ⟨_,?_,hx1⟩ Flat.fail.alive;simp -implicitDefEqProofs (disch:=omega) [view_View_U32,hp]
 | some l =>
  have hsl:=pieceS_sl (hv.up hx1) h;generalize subV 1 v i.toNat (4:Int).toNat = v' at hp hsl;obtain ⟨x,y,z,u,rfl⟩:=four_of (pieceS_len h);rw [h] at hp;have hx:=(hb.piece h).1 x (by simp);have hy:=(hb.piece h).1 y (by simp);have hz:=(hb.piece h).1 z (by simp);have hu:=(hb.piece h).1 u (by simp);obtain ⟨p0,i0,d0⟩:=hsl.ix1 encB_len 0 x rfl _ rfl;have i0:∀ H',ixS 1 v' (.int .i64 0) H' = .ok p0 H':=i0 .i64;have d0:=d0 _ (Ext.refl _);obtain ⟨p1,i1,d1⟩:=hsl.ix1 encB_len 1 y rfl _ rfl;have i1:∀ H',ixS 1 v' (.int .i64 1) H' = .ok p1 H':=i1 .i64;have d1:=d1 _ (Ext.refl _);obtain ⟨p2,i2,d2⟩:=hsl.ix1 encB_len 2 z rfl _ rfl;have i2:∀ H',ixS 1 v' (.int .i64 2) H' = .ok p2 H':=i2 .i64;have d2:=d2 _ (Ext.refl _);obtain ⟨p3,i3,d3⟩:=hsl.ix1 encB_len 3 u rfl _ rfl;have i3:∀ H',ixS 1 v' (.int .i64 3) H' = .ok p3 H':=i3 .i64;have d3:=d3 _ (Ext.refl _);refine nrm_gc ⟨_,?_,hx1⟩ (.int _ _);have or1:=fun H => bin_or Prog 3 H (x * 16777216) (y * 65536) 24 (by omega) (by omega) (by omega) (by omega) (by omega);have or2:=fun H => bin_or Prog 3 H (x * 16777216 + y * 65536) (z * 256) 16 (by omega) (by omega) (by omega) (by omega) (by omega);have or3:=fun H => bin_or Prog 3 H (x * 16777216 + y * 65536 + z * 256) u 8 (by omega) (by omega) (by omega) (by omega) (by omega);simp -implicitDefEqProofs (disch:=omega) [view_View_U32,hp,i0,i1,i2,i3,d0,d1,d2,d3,or1,or2,or3,num];omega
theorem uS_two {b:List Int} (hb:Byt b) {i x:Int} (h:uS b i 2 = some x):0 ≤ x ∧ x < 65536:=by
 unfold uS at h;obtain ⟨l,hl,rfl⟩:=Option.map_eq_some_iff.1 h;obtain ⟨x,y,rfl⟩:=two_of (pieceS_len hl);have hx:=(hb.piece hl).1 x (by simp);have hy:=(hb.piece hl).1 y (by simp);simp [num];omega
theorem Cut_run (k:Nat) {H:Heap} {v:Value} {b:List Int} (hv:Sl H 1 v encB b) (i n:Int) (hl:b.length < 2 ^ 62):R (T k) F.view_View_Cut [.agg #[v],.int .i64 i,.int .i64 n] H = orF (pieceS b i n) (fun _ => .agg #[subV 1 v i.toNat n.toNat]) H:=by
 rw [view_View_Cut_R];have hx2:Ext H ((H.push ⟨[v],1,false⟩).push ⟨[.slice none 0 0],1,false⟩):=((Ext.refl H).push _).push _;have hp:=piece_run k (hv.up hx2) i n hl;cases h:pieceS b i n with
 | none =>
  rw [h] at hp;refine nrm_throw ⟨_,?_,hx2⟩ Flat.fail.alive;simp -implicitDefEqProofs (disch:=omega) [view_View_Cut,hp]
 | some l =>
  rw [h] at hp;have hs:=pieceS_sl hv h;generalize subV 1 v i.toNat n.toNat = v' at hp hs ⊢;refine nrm_gc ⟨_,?_,((Ext.refl H).push ⟨[v],1,false⟩).push ⟨[v'],1,false⟩⟩ (.agg _ fun i u hu => ?_)
  ·simp -implicitDefEqProofs (disch:=omega) [view_View_Cut,hp,hs.storable,hs.cells]
  ·match i,hu with
   | 0,hu => simp at hu; subst hu; exact hs.alive fun _ _ => .cons (.int _ _) .nil
   | i + 1,hu => simp at hu
theorem alive_agg {H:Heap} {v:Value} (h:Alive H v):Alive H (.agg #[v]):=.agg _ fun i u hu => by
 match i,hu with
 | 0,hu => simp at hu; subst hu; exact h
 | i + 1,hu => simp at hu
theorem Sl.vw {H:Heap} {v:Value} {b:List Int} (hv:Sl H 1 v encB b):Alive H (.agg #[v]):=alive_agg (hv.alive fun _ _ => .cons (.int _ _) .nil)
def behind (b:List Int) (i:Int):Int:=if 0 > IntKind.i64.wrap ((b.length:Int) - i) then 0 else IntKind.i64.wrap ((b.length:Int) - i)
def rowsS (b:List Int) (i n s:Int):Option (List Int):=if 0 ≤ n ∧ 0 ≤ s ∧ (s = 0 ∨ n ≤ (b.length:Int) / s) then pieceS b i (n * s) else none
theorem rowsS_piece {b:List Int} {i n s:Int} {l:List Int} (h:rowsS b i n s = some l):pieceS b i (n * s) = some l:=by
 unfold rowsS at h;split at h
 ·exact h
 ·cases h
theorem Rows_run (k:Nat) {H:Heap} {v:Value} {b:List Int} (hv:Sl H 1 v encB b) (i n s:Int) (hl:b.length < 2 ^ 62):R (T k) F.view_View_Rows [.agg #[v],.int .i64 i,.int .i64 n,.int .i64 s] H = orF (rowsS b i n s) (fun _ => .agg #[subV 1 v i.toNat (n * s).toNat]) H:=by
 rw [view_View_Rows_R];have ext:Ext H ((H.push ⟨[v],1,false⟩).push ⟨[.slice none 0 0],1,false⟩):=((Ext.refl H).push _).push _;have hlen:=hv.len;by_cases h1:0 ≤ n
 ·by_cases h2:0 ≤ s
  ·have hcut:=Cut_run k (hv.up ext) i (n * s) hl;by_cases h3:s = 0
   ·subst h3;have e:rowsS b i n 0 = pieceS b i (n * 0):=by rw [rowsS,if_pos ⟨h1,h2,.inl rfl⟩]
    rw [e];cases h:pieceS b i (n * 0) with
    | none =>
     rw [h] at hcut;rw [Int.mul_zero] at hcut;refine nrm_throw ⟨_,?_,ext⟩ Flat.fail.alive;simp -implicitDefEqProofs (disch:=omega) [view_View_Rows,h1,hcut]
    | some l =>
     have hs:=pieceS_sl hv h;rw [h] at hcut;generalize subV 1 v i.toNat (n * 0).toNat = v' at hcut hs ⊢;rw [Int.mul_zero] at hcut;refine nrm_gc ⟨_,?_,((Ext.refl H).push ⟨[v],1,false⟩).push ⟨[v'],1,false⟩⟩ hs.vw;simp -implicitDefEqProofs (disch:=omega) [view_View_Rows,h1,hcut]
   ·have hq:((b.length:Int).tdiv s) = (b.length:Int) / s:=Int.tdiv_eq_ediv_of_nonneg (by omega);have hq0:0 ≤ (b.length:Int) / s:=Int.ediv_nonneg (by omega) h2;have hq1:(b.length:Int) / s ≤ b.length:=Int.ediv_le_self _ (by omega);have hb3:(s == 0) = false:=by simpa using h3
    have qr:=fun H => bin_quo Prog 3 H .i64 (b.length:Int) s h3;rw [hq] at qr;by_cases h4:n ≤ (b.length:Int) / s
    ·have e:rowsS b i n s = pieceS b i (n * s):=by rw [rowsS,if_pos ⟨h1,h2,.inr h4⟩]
     have hm:n * s ≤ b.length:=Int.le_trans (Int.mul_le_mul_of_nonneg_right h4 h2) (Int.ediv_mul_le _ h3);have hm0:0 ≤ n * s:=Int.mul_nonneg h1 h2;rw [e];cases h:pieceS b i (n * s) with
     | none =>
      rw [h] at hcut;refine nrm_throw ⟨_,?_,ext⟩ Flat.fail.alive;simp -implicitDefEqProofs (disch:=omega) [view_View_Rows,hlen,h1,h2,hb3,qr,h4,hcut]
     | some l =>
      have hs:=pieceS_sl hv h;rw [h] at hcut;generalize subV 1 v i.toNat (n * s).toNat = v' at hcut hs ⊢;refine nrm_gc ⟨_,?_,((Ext.refl H).push ⟨[v],1,false⟩).push ⟨[v'],1,false⟩⟩ hs.vw;simp -implicitDefEqProofs (disch:=omega) [view_View_Rows,hlen,h1,h2,hb3,qr,h4,hcut]
    ·have e:rowsS b i n s = none:=by rw [rowsS,if_neg (by omega)]
     rw [e];refine nrm_throw ⟨_,?_,ext⟩ Flat.fail.alive;simp -implicitDefEqProofs (disch:=omega) [view_View_Rows,hlen,h1,h2,hb3,qr,h4]
  ·have e:rowsS b i n s = none:=by rw [rowsS,if_neg (by omega)]
   rw [e];refine nrm_throw ⟨_,?_,ext⟩ Flat.fail.alive;simp -implicitDefEqProofs (disch:=omega) [view_View_Rows,h1,h2]
 ·have e:rowsS b i n s = none:=by rw [rowsS,if_neg (by omega)]
  rw [e];refine nrm_throw ⟨_,?_,ext⟩ Flat.fail.alive;simp -implicitDefEqProofs (disch:=omega) [view_View_Rows,h1]
theorem Of_run (k:Nat) {H:Heap} {v:Value} {b:List Int} (hv:Sl H 1 v encB b):R (T k) F.view_Of [v] H = .ok (.agg #[v]) H:=by
 rw [view_Of_R];refine nrm_gc ⟨_,?_,(Ext.refl H).push ⟨[v],1,false⟩⟩ hv.vw;simp -implicitDefEqProofs [view_Of,hv.storable,hv.cells]
end Go.Sw
end
section
set_option maxRecDepth 100000
set_option linter.unusedVariables false
namespace Go.Sw
noncomputable section
end
end Go.Sw
end
section
namespace Go.Sw
open Go.RowKit
end Go.Sw
end
section
set_option maxRecDepth 100000
set_option linter.unusedVariables false
namespace Go.Sw
noncomputable section
end
end Go.Sw
end
section
namespace Go.Sw
open Go.RowKit
end Go.Sw
end
section
namespace Go.Sw
open Go.RowKit
structure Pt where
 first:Int
 last:Int
 vals:List Int
def risesS:List Pt → Bool
 | [] => true
 | [_] => true
 | p :: q :: l => decide (p.last < q.first) && risesS (q :: l)
def Pt.num (p:Pt) (id:Int):Option Int:=p.vals[(min (id - p.first) ((p.vals.length:Int) - 1)).toNat]?
def Pt.ok (p:Pt):Prop:=0 ≤ p.first ∧ p.first ≤ p.last ∧ p.last < 65536 ∧ p.vals ≠ [] ∧ (p.vals.length:Int) ≤ 65536 ∧ ∀ x,x ∈ p.vals → 0 ≤ x ∧ x < 4294967296
theorem Pt.num_some {p:Pt} (h:p.ok) {id:Int} (hf:p.first ≤ id):∃ x,p.num id = some x ∧ 0 ≤ x ∧ x < 4294967296:=by
 obtain ⟨h1,h2,h3,h4,h5,h6⟩:=h;have hl:0 < p.vals.length:=List.length_pos_iff.2 h4;unfold Pt.num;have hi:(min (id - p.first) ((p.vals.length:Int) - 1)).toNat < p.vals.length:=by omega
 exact ⟨p.vals[(min (id - p.first) ((p.vals.length:Int) - 1)).toNat],List.getElem?_eq_getElem hi,h6 _ (List.getElem_mem _)⟩
end Go.Sw
end
section
namespace Go.Sw
open Go.RowKit
theorem pieceS_iff {b:List Int} {i n:Int} {r:List Int}:pieceS b i n = some r ↔ (0 ≤ i ∧ 0 ≤ n ∧ i ≤ b.length ∧ n ≤ b.length - i) ∧ r = (b.drop i.toNat).take n.toNat:=by
 unfold pieceS;split
 ·rename_i h;constructor
  ·intro e; injection e with e; exact ⟨h,e.symm⟩
  ·rintro ⟨_,rfl⟩; rfl
 ·rename_i h;constructor
  ·intro e; cases e
  ·rintro ⟨h',_⟩; exact absurd h' h
theorem uS_sub {b r:List Int} {p z:Int} (h:pieceS b p z = some r) {x y:Int} (hx:0 ≤ x) (hy:0 ≤ y) (hxy:x + y ≤ z):uS r x y = uS b (p + x) y:=by
 obtain ⟨⟨h1,h2,h3,h4⟩,rfl⟩:=pieceS_iff.1 h;have hl:((b.drop p.toNat).take z.toNat).length = z.toNat:=by simp; omega
 unfold uS;rw [pieceS_iff.2 ⟨by rw [hl]; omega,rfl⟩,pieceS_iff.2 ⟨by omega,rfl⟩,List.drop_take,List.take_take,List.drop_drop];rw [show min y.toNat (z.toNat - x.toNat) = y.toNat by omega,show p.toNat + x.toNat = (p + x).toNat by omega]
end Go.Sw
end
section
namespace Go.Sw
open Go.RowKit
def bytesOf (n:Int):Nat → List Int
 | 0 => []
 | k + 1 => (n / 256 ^ k) % 256 :: bytesOf n k
@[simp] theorem bytesOf_len (n:Int):∀ k,(bytesOf n k).length = k
 | 0 => rfl
 | k + 1 => by simp [bytesOf,bytesOf_len n k]
theorem bytesOf_byt (n:Int):∀ k,Byt (bytesOf n k)
 | 0 => fun x hx => by simp [bytesOf] at hx
 | k + 1 => fun x hx => by
  simp only [bytesOf,List.mem_cons] at hx;rcases hx with rfl | hx
  ·omega
  ·exact bytesOf_byt n k x hx
theorem num_cons (x:Int) (l:List Int):num (x :: l) = x * 256 ^ l.length + num l:=by
 have h:∀ (l:List Int) (a:Int),l.foldl (fun x y => 256 * x + y) a = a * 256 ^ l.length + l.foldl (fun x y => 256 * x + y) 0:=by
  intro l
  induction l with
  | nil => intro a; simp
  | cons y l ih =>
   intro a;simp only [List.foldl_cons,List.length_cons];rw [ih,ih (256 * 0 + y),Int.pow_succ];simp only [Int.mul_zero,Int.zero_add,Int.add_mul];rw [Int.mul_comm 256 a,Int.mul_assoc a 256,Int.mul_comm 256 (256 ^ l.length)];omega
 unfold num;rw [List.foldl_cons,h];simp
theorem num_mod (n:Int):∀ k,num (bytesOf n k) = n % 256 ^ k
 | 0 => by simp [bytesOf,num,Int.emod_one]
 | k + 1 => by
  rw [bytesOf,num_cons,num_mod n k,bytesOf_len,Int.pow_succ];have h1:=Int.emod_add_mul_ediv n (256 ^ k);have h2:=Int.emod_add_mul_ediv (n / 256 ^ k) 256;have hp:(0:Int) < 256 ^ k:=Int.pow_pos (by decide);have h3:n % (256 ^ k * 256) = n - 256 ^ k * 256 * (n / (256 ^ k * 256)):=by
   have:=Int.emod_add_mul_ediv n (256 ^ k * 256);omega
  rw [h3,← Int.ediv_ediv_of_nonneg (Int.le_of_lt hp),Int.mul_assoc];generalize n / 256 ^ k / 256 = d at h2 ⊢;generalize n / 256 ^ k = c at h1 h2 ⊢;generalize (256:Int) ^ k = p at *;have h4:c % 256 = c - 256 * d:=by omega
  rw [h4,Int.sub_mul];have:p * (256 * d) = 256 * d * p:=Int.mul_comm _ _;have:p * c = c * p:=Int.mul_comm _ _;omega
theorem num_bytesOf {n:Int} {k:Nat} (h0:0 ≤ n) (h1:n < 256 ^ k):num (bytesOf n k) = n:=by
 rw [num_mod,Int.emod_eq_of_lt h0 h1]
theorem pieceS_at (p m q:List Int) (i k:Int) (hi:i = p.length) (hk:k = m.length):pieceS (p ++ (m ++ q)) i k = some m:=by
 subst hi hk;rw [pieceS_iff];refine ⟨⟨by omega,by omega,by simp; omega,by simp; omega⟩,?_⟩;simp
theorem uS_at (p q:List Int) {n:Int} {k:Nat} (i z:Int) (hi:i = p.length) (hz:z = k) (h0:0 ≤ n) (h1:n < 256 ^ k):uS (p ++ (bytesOf n k ++ q)) i z = some n:=by
 unfold uS;rw [pieceS_at p (bytesOf n k) q i z hi (by simpa using hz),Option.map_some,num_bytesOf h0 h1]
theorem Byt.app {a b:List Int} (ha:Byt a) (hb:Byt b):Byt (a ++ b):=fun x hx => by
 rcases List.mem_append.1 hx with h | h
 ·exact ha x h
 ·exact hb x h
theorem Byt.flat {l:List (List Int)} (h:∀ r,r ∈ l → Byt r):Byt l.flatten:=fun x hx => by
 obtain ⟨r,hr,hx⟩:=List.mem_flatten.1 hx;exact h r hr x hx
structure Pr where
 id:Int
 x:Int
def Pr.ok (p:Pr):Prop:=0 ≤ p.id ∧ p.id < 65536 ∧ 0 ≤ p.x ∧ p.x < 65536
end Go.Sw
end
section
set_option maxRecDepth 100000
set_option linter.unusedVariables false
namespace Go.Sw
noncomputable section
def swashref02_Put_l1 (k:Nat) (call:Caller):Env → Heap → Res (AExit × Env):=loopB (C k) call F.swashref02_Put [1,0,1,0,0]
def swashref02_Put_l1k (k:Nat) (call:Caller):Kont Value:=kBlock 0 (kSeq (pieceK (C k) call F.swashref02_Put [1,1]) (kDone Prog (resOf Prog F.swashref02_Put)))
def swashref02_Put_l2 (k:Nat) (call:Caller):Env → Heap → Res (AExit × Env):=loopB (C k) call F.swashref02_Put [1,0,1,0,0,1,0,0,1,0,1,0,0]
def swashref02_Put_l2k (k:Nat) (call:Caller):Kont (AExit × Env):=kBlock 2 (kSeq (pieceK (C k) call F.swashref02_Put [1,0,1,0,0,1,0,0,1,1]) (kBlock 1 (kSeq (pieceK (C k) call F.swashref02_Put [1,0,1,0,0,1,1]) (kRound (ownOf (C k) F.swashref02_Put [1,0,1,0,0])))))
def swashref02_Put (k:Nat) (call:Caller) (a0 a1 a2:Value) (h:Heap):Res Value :=
 (binR Prog .sub 3 a2 (.int .i64 1) h).bind fun v1 h2 =>
 (loopN (swashref02_Put_l1 k call) loopFuel [(0,a0),(1,a1),(7,v1)] h2).bind fun r3 h4 =>
 swashref02_Put_l1k k call r3.1 r3.2 h4
theorem swashref02_Put_R (k:Nat) (a0 a1 a2:Value) (h:Heap):R (T k) F.swashref02_Put [a0,a1,a2] h = nrm .no h (swashref02_Put k (R (T k)) a0 a1 a2 h) :=
 (R_body (t:=T k) (T_scott k) (by kernel_rfl) (by kernel_rfl) _ _).trans (by kernel_rfl)
theorem swashref02_Put_l1_eq (k:Nat) (call:Caller) (a0 a1 a7:Value) (h:Heap):swashref02_Put_l1 k call [(0,a0),(1,a1),(7,a7)] h =
 (binR Prog .geq 3 a7 (.int .i64 0) h).bind fun v5 h6 =>
 condV (some v5) (
 (loopN (swashref02_Put_l2 k call) loopFuel [(0,a0),(1,a1),(7,a7),(8,a1),(9,(.int .i64 0))] h6).bind fun r7 h8 =>
 swashref02_Put_l2k k call r7.1 r7.2 h8)
 (
 .ok ((.exit 0),[(0,a0),(1,a1),(7,a7),(13,v5)]) h6) :=
 (loopB_eq _ _).trans (by kernel_rfl)
theorem swashref02_Put_l2_eq (k:Nat) (call:Caller) (a0 a1 a7 a8 a9:Value) (h:Heap):swashref02_Put_l2 k call [(0,a0),(1,a1),(7,a7),(8,a8),(9,a9)] h =
 (binR Prog .lss 3 a9 a7 h).bind fun v9 h10 =>
 condV (some v9) (
 (binR Prog .quo 3 a8 (.int .i64 256) h10).bind fun v11 h12 =>
 (binR Prog .add 3 a9 (.int .i64 1) h12).bind fun v13 h14 =>
 .ok (.normal,[(0,a0),(1,a1),(7,a7),(8,v11),(9,v13)]) h14)
 (
 .ok ((.exit 2),[(0,a0),(1,a1),(7,a7),(8,a8),(9,a9),(19,v9)]) h10) :=
 (loopB_eq _ _).trans (by kernel_rfl)
theorem swashref02_Put_l1k_x0 (k:Nat) (call:Caller) (a0 a1 a7 a13:Value) (h:Heap):swashref02_Put_l1k k call (.exit 0) [(0,a0),(1,a1),(7,a7),(13,a13)] h =
 .ok a0 h:=by kernel_rfl
theorem swashref02_Put_l2k_x2 (k:Nat) (call:Caller) (a0 a1 a7 a8 a9 a19:Value) (h:Heap):swashref02_Put_l2k k call (.exit 2) [(0,a0),(1,a1),(7,a7),(8,a8),(9,a9),(19,a19)] h =
 (binR Prog .rem 3 a8 (.int .i64 256) h).bind fun v15 h16 =>
 (convR Prog 3 5 v15 h16).bind fun v17 h18 =>
 (buildSliceR Prog 31 1 [(0,v17)] h18).bind fun v19 h20 =>
 (builtinV Prog .append [31,31] [a0,v19] h20).bind fun v21 h22 =>
 (binR Prog .sub 3 a7 (.int .i64 1) h22).bind fun v23 h24 =>
 .ok (.normal,[(0,v21),(1,a1),(7,v23)]) h24:=by kernel_rfl
end
end Go.Sw
end
section
namespace Go.Sw
open Go.RowKit
theorem Put_in (k:Nat) (s:Value) (n:Int) (i:Nat) (h0:0 ≤ n) (hn:n < 2 ^ 62) (hi:i < 2 ^ 62) (H:Heap) :
  loopN (swashref02_Put_l2 k (R (T k))) loopFuel [(0,s),(1,.int .i64 n),(7,.int .i64 i),(8,.int .i64 n),(9,.int .i64 0)] H = .ok (.exit 2,[(0,s),(1,.int .i64 n),(7,.int .i64 i),(8,.int .i64 (n / 256 ^ i)),(9,.int .i64 i),(19,.bool false)]) H:=by
 obtain ⟨x,e',H1,hr,rfl,rfl,rfl⟩:=loop_up (body:=swashref02_Put_l2 k (R (T k))) i
  (fun j e H' => H' = H ∧ e = [(0,s),(1,.int .i64 n),(7,.int .i64 i),(8,.int .i64 (n / 256 ^ j)),(9,.int .i64 j)])
  (fun x e H' => H' = H ∧ x = .exit 2 ∧ e = [(0,s),(1,.int .i64 n),(7,.int .i64 i),(8,.int .i64 (n / 256 ^ i)),(9,.int .i64 i),(19,.bool false)])
  (e0:=[(0,s),(1,.int .i64 n),(7,.int .i64 i),(8,.int .i64 n),(9,.int .i64 0)]) (H0:=H) ⟨rfl,by simp⟩ (by omega)
  (fun j e H' hj ⟨hH,he⟩ => by
   subst he hH;have hlt:(j:Int) < i:=by omega
   have q0:0 ≤ n / 256 ^ j:=Int.ediv_nonneg h0 (Int.pow_nonneg (by decide));have q1:n / 256 ^ j ≤ n:=Int.ediv_le_self _ h0;have hq:(n / 256 ^ j).tdiv 256 = n / 256 ^ (j + 1):=by
    rw [Int.tdiv_eq_ediv_of_nonneg q0,Int.pow_succ,Int.ediv_ediv_of_nonneg (Int.pow_nonneg (by decide))]
   have q:=fun H => bin_quo Prog 3 H .i64 (n / 256 ^ j) 256 (by decide);rw [hq] at q;have q2:0 ≤ n / 256 ^ (j + 1):=Int.ediv_nonneg h0 (Int.pow_nonneg (by decide));have q3:n / 256 ^ (j + 1) ≤ n:=Int.ediv_le_self _ h0;generalize n / 256 ^ (j + 1) = m at q q2 q3 ⊢;generalize n / 256 ^ j = m0 at q ⊢;refine .inl ⟨_,H',?_,rfl,rfl⟩;rw [swashref02_Put_l2_eq];simp -implicitDefEqProofs (disch:=omega) [hlt,q])
  (fun e H' ⟨hH,he⟩ => by
   subst he hH;refine ⟨.exit 2,_,H',?_,by simp,rfl,rfl,rfl⟩;rw [swashref02_Put_l2_eq];simp -implicitDefEqProofs (disch:=omega))
 exact hr
theorem Put_star (k:Nat) {H0 H:Heap} {L:List It} (h:Star H0 H L) (i:Nat) {o:Option Nat} {s:Value} {b:List Int} (hi:L[i]? = some (itRow o 1 s encB b)) (n zi:Int) (z:Nat) (hzi:zi = z) (h0:0 ≤ n) (hn:n < 2 ^ 62) (hz:z ≤ 8) (hl:b.length < 2 ^ 30) :
  ∃ s' o' H',R (T k) F.swashref02_Put [s,.int .i64 n,.int .i64 zi] H = .ok s' H' ∧ Star H0 H' (L.set i (itRow o' 1 s' encB (b ++ bytesOf n z))):=by
 subst hzi;rw [swashref02_Put_R];have hlt:i < L.length:=(List.getElem?_eq_some_iff.1 hi).1;have hself:L.set i (itRow o 1 s encB b) = L:=by
  obtain ⟨hlt,hx⟩:=List.getElem?_eq_some_iff.1 hi;rw [← hx,List.set_getElem_self]
 obtain ⟨x,e',H1,hr,s',o',rfl,⟨a,c,rfl⟩,ho⟩:=loopDec (body:=swashref02_Put_l1 k (R (T k)))
  (fun m e H' => ∃ s o acc,e = [(0,s),(1,.int .i64 n),(7,.int .i64 ((m:Int) - 1))] ∧ Star H0 H' (L.set i (itRow o 1 s encB acc)) ∧ acc ++ bytesOf n m = b ++ bytesOf n z ∧ m ≤ z)
  (fun x e H' => ∃ s' o',x = .exit 0 ∧ (∃ a c,e = [(0,s'),(1,.int .i64 n),(7,a),(13,c)]) ∧ Star H0 H' (L.set i (itRow o' 1 s' encB (b ++ bytesOf n z))))
  (e0:=[(0,s),(1,.int .i64 n),(7,.int .i64 ((z:Int) - 1))]) (H0:=H) z ⟨s,o,b,rfl,by rw [hself]; exact h,rfl,Nat.le_refl _⟩ (by omega)
  (fun m e H' ⟨s,o,acc,he,ho,ha,hmz⟩ => by
   subst he;cases m with
   | zero =>
    refine .inr ⟨.exit 0,_,H',?_,by simp,s,o,rfl,⟨.int .i64 ((0:Nat) - 1),.bool false,rfl⟩,by simpa [bytesOf] using (by simpa [bytesOf] using ha) ▸ ho⟩;rw [swashref02_Put_l1_eq];simp -implicitDefEqProofs
   | succ m =>
    have hin:=Put_in k s n m h0 hn (by omega) H';have q0:0 ≤ n / 256 ^ m:=Int.ediv_nonneg h0 (Int.pow_nonneg (by decide));have hacc:acc.length < 2 ^ 31:=by
     have:=congrArg List.length ha;simp [bytesOf_len] at this;omega
    obtain ⟨s2,o2,H2,e1,o1⟩:=ho.append1 (bytes:=1) i encB_len (List.getElem?_set_self hlt) ((n / 256 ^ m) % 256) hacc (by decide);rw [List.set_set] at o1;have hrem:=fun H => bin_rem Prog 3 H .i64 (n / 256 ^ m) 256 (by decide);rw [Int.tmod_eq_emod_of_nonneg q0] at hrem;have hb:0 ≤ (n / 256 ^ m) % 256 ∧ (n / 256 ^ m) % 256 < 256:=by omega
    refine .inl ⟨m,_,H2,?_,by omega,s2,o2,acc ++ [(n / 256 ^ m) % 256],rfl,o1,by rw [List.append_assoc]; exact ha,by omega⟩;rw [swashref02_Put_l1_eq];have hge:(m:Int) ≥ 0:=by omega
    rw [show (((m + 1:Nat):Int) - 1) = (m:Int) by omega];generalize (n / 256 ^ m) % 256 = y at e1 hrem hb;simp -implicitDefEqProofs (disch:=omega) [hge,hin,swashref02_Put_l2k_x2,hrem,e1])
 refine ⟨s',o',H1,?_,ho⟩;simp -implicitDefEqProofs (disch:=omega) [swashref02_Put,hr,swashref02_Put_l1k_x0,nrm_no]
end Go.Sw
end
section
namespace Go.Sw
open Go.RowKit
section
variable {α β γ δ:Type} {E:Heap → Prop} {o:Option β} {f:β → Value} {r:Res Value} {H:Heap} {Q:δ → γ → Heap → Prop}
end
section
variable {β:Type} {H:Heap} {r:Res Value} {o:Option β} {f:β → Value}
end
end Go.Sw
end
section
namespace Go.Sw
open Go.RowKit
section
variable {α:Type} {enc:α → List Value}
theorem Star.ix {H0 H:Heap} {L:List It} (h:Star H0 H L) (i:Nat) {o:Option Nat} {m:Nat} {s:Value} {l:List α} (hi:L[i]? = some (itRow o m s enc l)) (k:IntKind) (j:Nat) (hj:j < l.length) :
  ∃ b,o = some b ∧ H.get b = some ⟨rows enc l,m,false⟩ ∧ ∀ H',ixS m s (.int k j) H' = .ok (.pointer (some ⟨b,j * m,none⟩)) H':=by
 obtain ⟨b,h1,_,h3,h4⟩:=(h.row i hi).ix k j hj;exact ⟨b,h1,h3,h4⟩
end
section
variable {α:Type} {enc:α → List Value}
theorem Sl.lenL {H:Heap} {m:Nat} {v:Value} {l:List α} (h:Sl H m v enc l):Go.Sw.lenL v = some l.length:=by
 rcases h with rfl | ⟨rfl,rfl | rfl | rfl⟩ | ⟨b,off,cap,k,rfl,_⟩ <;> rfl
theorem Sl.first {H:Heap} {m:Nat} {v:Value} {l:List α} (he:∀ x,(enc x).length = m) (h:Sl H m v enc l):firstV m l.length v H = some (rows enc l):=by
 rcases h with rfl | ⟨rfl,rfl | rfl | rfl⟩ | ⟨b,off,cap,k,rfl,hc,hk,hr⟩
 ·exact lv_first he l H
 ·rfl
 ·rfl
 ·rfl
 ·unfold firstV;dsimp only;have hl:=rows_length he l;split
  ·rename_i h0;rw [List.length_eq_zero_iff.1 (hl.trans h0)]
  ·rename_i h0;rw [cellsAt_eq,hk,Option.bind_some,hr,if_pos];have:=congrArg List.length hr;rw [hl] at this;simp at this;omega
theorem clone_sl {m bytes:Nat} (he:∀ x,(enc x).length = m) {H:Heap} {v:Value} {l:List α} (h:Sl H m v enc l) (h31:l.length ≤ 2 ^ 31) (hby:bytes ≤ 2 ^ 10) :
  ∃ s' H',cloneV m bytes [v] H = .ok s' H' ∧ Own H H' m s' enc l ∧ Ext H H':=by
 unfold cloneV;dsimp only;rw [h.lenL];cases hl:l.length with
 | zero =>
  have:=List.length_eq_zero_iff.1 hl;subst this;exact ⟨_,_,rfl,.inl ⟨rfl,.inr (.inr rfl)⟩,Ext.refl H⟩
 | succ n =>
  obtain ⟨s',H',h1,h2,h3,_⟩:=apR_own (bytes:=bytes) he (Own.bare H H m) (Ext.refl H) (b:=v) (l2:=l) (lenL_lenV h.lenL) (h.first he) (by simp; omega) hby;exact ⟨s',H',h1,by simpa using h2,h3⟩
end
theorem take_snoc {α:Type} {l:List α} {j:Nat} {p:α} (h:l[j]? = some p):l.take (j + 1) = l.take j ++ [p]:=by
 rw [List.take_add_one,h]; rfl
theorem nrm_of {H H':Heap} {r:Res Value} {v:Value} (h:r = .ok v H'):nrm .no H r = .ok v H':=by rw [h]; rfl
theorem fz_box {n0:Nat} {H:Heap} {d c e:Nat} {cells r:List Value} {L:List Nat} (hn:n0 ≤ c) (hc:H.get c = some ⟨cells,e,false⟩) (h:mapF (fzV n0 H d) cells = some (r,L)):fzV n0 H (d + 1) (.pointer (some ⟨c,0,none⟩)) = some (boxV r.toArray,c :: L):=by
 have h1:Nat.blt c n0 = false:=by
  cases hb:Nat.blt c n0 with
  | false => rfl
  | true => exact absurd (Nat.le_of_ble_eq_true hb) (by omega)
 simp only [fzV,h1,cond_false,hc,List.drop_zero,h];rfl
theorem mapF_one {f:Value → Option (Value × List Nat)} {v u:Value} {L:List Nat} (h:f v = some (u,L)):mapF f [v] = some ([u],L):=by
 have:=mapF_cons (f:=f) h mapF_nil;simpa using this
end Go.Sw
end
section
set_option maxRecDepth 100000
set_option linter.unusedVariables false
namespace Go.Sw
noncomputable section
def sfnt_Make_l1 (k:Nat) (call:Caller):Env → Heap → Res (AExit × Env):=loopB (C k) call F.sfnt_Make [1,1,1,0,1,0,0]
def sfnt_Make_l1k (k:Nat) (call:Caller):Kont Value:=kBlock 0 (kSeq (pieceK (C k) call F.sfnt_Make [1,1,1,1]) (kDone Prog (resOf Prog F.sfnt_Make)))
def sfnt_Make_j1 (k:Nat) (call:Caller) (a0 a5 a6:Value) (h:Heap):Res Value :=
 kSeq (pieceK (C k) call F.sfnt_Make [1,1,1,1,1,1,1,1]) (kDone Prog (resOf Prog F.sfnt_Make)) .normal [(0,a0),(5,a5),(6,a6)] h
def sfnt_Make_j2 (k:Nat) (call:Caller) (a0 a5 a6 a54:Value) (h:Heap):Res Value :=
 kSeq (pieceK (C k) call F.sfnt_Make [1,1,1,1,1,1,1,1]) (kDone Prog (resOf Prog F.sfnt_Make)) .normal [(0,a0),(5,a5),(6,a6),(54,a54)] h
def sfnt_Make_j3 (k:Nat) (call:Caller) (a0 a5 a6 a7:Value) (h:Heap):Res Value :=
 kSeq (pieceK (C k) call F.sfnt_Make [1,1,1,1,1,1,1,1,1,1]) (kDone Prog (resOf Prog F.sfnt_Make)) .normal [(0,a0),(5,a5),(6,a6),(7,a7)] h
def sfnt_Make_j4 (k:Nat) (call:Caller) (a0 a5 a6 a7 a56:Value) (h:Heap):Res Value :=
 kSeq (pieceK (C k) call F.sfnt_Make [1,1,1,1,1,1,1,1,1,1]) (kDone Prog (resOf Prog F.sfnt_Make)) .normal [(0,a0),(5,a5),(6,a6),(7,a7),(56,a56)] h
def sfnt_Make_l2 (k:Nat) (call:Caller):Env → Heap → Res (AExit × Env):=loopB (C k) call F.sfnt_Make [1,1,1,1,1,1,1,1,1,1,1,1,0,1,0,0]
def sfnt_Make_l2k (k:Nat) (call:Caller):Kont Value:=kBlock 2 (kSeq (pieceK (C k) call F.sfnt_Make [1,1,1,1,1,1,1,1,1,1,1,1,1]) (kDone Prog (resOf Prog F.sfnt_Make)))
def sfnt_Make_l3 (k:Nat) (call:Caller):Env → Heap → Res (AExit × Env):=loopB (C k) call F.sfnt_Make [1,1,1,1,1,1,1,1,1,1,1,1,1,0,1,0,0]
def sfnt_Make_l3k (k:Nat) (call:Caller):Kont Value:=kBlock 4 (kSeq (pieceK (C k) call F.sfnt_Make [1,1,1,1,1,1,1,1,1,1,1,1,1,1]) (kDone Prog (resOf Prog F.sfnt_Make)))
def sfnt_Make_l4 (k:Nat) (call:Caller):Env → Heap → Res (AExit × Env):=loopB (C k) call F.sfnt_Make [1,1,1,1,1,1,1,1,1,1,1,1,1,0,1,0,0,1,1,0,0,1,1,0,0]
def sfnt_Make_l4k (k:Nat) (call:Caller):Kont (AExit × Env):=kBlock 6 (kBlock 5 (kSeq (pieceK (C k) call F.sfnt_Make [1,1,1,1,1,1,1,1,1,1,1,1,1,0,1,0,0,1,1,1]) (kRound (ownOf (C k) F.sfnt_Make [1,1,1,1,1,1,1,1,1,1,1,1,1,0,1,0,0]))))
def sfnt_Make (k:Nat) (call:Caller) (a0:Value) (h:Heap):Res Value :=
 (call F.slices_Clone_of_sfnt_Part_sfnt_Part [a0] h).bind fun v1 h2 =>
 (call F.slices_SortStableFunc_of_sfnt_Part_sfnt_Part [v1,(.func (.func F.sfnt_Make_in1) #[] #[])] h2).bind fun v3 h4 =>
 (builtinV Prog .len [142] [v1] h4).bind fun v5 h6 =>
 (loopN (sfnt_Make_l1 k call) loopFuel [(0,v1),(18,v1),(19,v5),(20,(.int .i64 0))] h6).bind fun r7 h8 =>
 sfnt_Make_l1k k call r7.1 r7.2 h8
theorem sfnt_Make_R (k:Nat) (a0:Value) (b0:Value) (h:Heap) (L:List Nat) (hf:mapF (fzV 0 h fzDepth) [a0] = some ([b0],L)):R (T k) F.sfnt_Make [a0] h = nrm .fz (killAll h L) (sfnt_Make k (R (T k)) b0 (killAll h L)) :=
 (R_bodyA (t:=T k) (T_scott k) (by kernel_rfl) (by kernel_rfl) hf (by kernel_rfl)).trans (by kernel_rfl)
theorem sfnt_Make_l1_eq (k:Nat) (call:Caller) (a0 a18 a19 a20:Value) (h:Heap):sfnt_Make_l1 k call [(0,a0),(18,a18),(19,a19),(20,a20)] h =
 (binR Prog .lss 3 a20 a19 h).bind fun v9 h10 =>
 condV (some v9) (
 (indexAddrR Prog 142 a18 a20 h10).bind fun v11 h12 =>
 (loadR Prog 140 v11 h12).bind fun v13 h14 =>
 (allocR Prog 140 h14).bind fun v15 h16 =>
 (storeR Prog 140 v15 v13 h16).bind fun _v17 h18 =>
 (fieldAddrR Prog 140 v15 0 h18).bindN fun v19 h20 =>
 (loadR Prog 9 v19 h20).bindN fun v21 h22 =>
 (builtinV Prog .len [9] [v21] h22).bindN fun v23 h24 =>
 (binR Prog .neq 3 v23 (.int .i64 4) h24).bindN fun v25 h26 =>
 ((bif wantVal v25 false then Res.ok a20 h26 else Res.ok undef h26)).bindN fun v27 h28 =>
 ((bif wantVal v25 false then binR Prog .gtr 3 v27 (.int .i64 0) h28 else Res.ok undef h28)).bindN fun v29 h30 =>
 ((bif wantVal v25 false then Res.ok v29 h30 else Res.ok undef h30)).bindN fun v31 h32 =>
 ((bif wantVal v31 true then Res.ok a0 h32 else Res.ok undef h32)).bindN fun v33 h34 =>
 ((bif wantVal v31 true then Res.ok a20 h34 else Res.ok undef h34)).bindN fun v35 h36 =>
 ((bif wantVal v31 true then binR Prog .sub 3 v35 (.int .i64 1) h36 else Res.ok undef h36)).bindN fun v37 h38 =>
 ((bif wantVal v31 true then indexAddrR Prog 142 v33 v37 h38 else Res.ok undef h38)).bindN fun v39 h40 =>
 ((bif wantVal v31 true then fieldAddrR Prog 140 v39 0 h40 else Res.ok undef h40)).bindN fun v41 h42 =>
 ((bif wantVal v31 true then loadR Prog 9 v41 h42 else Res.ok undef h42)).bindN fun v43 h44 =>
 ((bif wantVal v31 true then fieldAddrR Prog 140 v15 0 h44 else Res.ok undef h44)).bindN fun v45 h46 =>
 ((bif wantVal v31 true then loadR Prog 9 v45 h46 else Res.ok undef h46)).bindN fun v47 h48 =>
 ((bif wantVal v31 true then binR Prog .eql 9 v43 v47 h48 else Res.ok undef h48)).bindN fun v49 h50 =>
 ((bif wantVal v25 false then condV (some v31) (Res.ok v49 h50) (Res.ok (.bool false) h50) else Res.ok undef h50)).bindN fun v51 h52 =>
 (condV (some v25) (Res.ok (.bool true) h52) (Res.ok v51 h52)).bindN fun v53 h54 =>
 condV (some v53) (
 .ok (.ret,[(2,(.slice none 0 0))]) h54)
 (
 (binR Prog .add 3 a20 (.int .i64 1) h54).bind fun v55 h56 =>
 .ok (.normal,[(0,a0),(18,a18),(19,a19),(20,v55)]) h56))
 (
 .ok ((.exit 0),[(0,a0),(18,a18),(19,a19),(20,a20),(21,v9)]) h10) :=
 (loopB_eq _ _).trans (by kernel_rfl)
theorem sfnt_Make_l1k_x0 (k:Nat) (call:Caller) (a0 a18 a19 a20 a21:Value) (h:Heap):sfnt_Make_l1k k call (.exit 0) [(0,a0),(18,a18),(19,a19),(20,a20),(21,a21)] h =
 (builtinV Prog .len [142] [a0] h).bind fun v57 h58 =>
 (binR Prog .gtr 3 v57 (.int .i64 4000) h58).bind fun v59 h60 =>
 condV (some v59) (
 .ok (.slice none 0 0) h60)
 (
 (convR Prog 3 200 v57 h60).bind fun v61 h62 =>
 (call F.math_bits_Len [v61] h62).bind fun v63 h64 =>
 (binR Prog .sub 3 v63 (.int .i64 1) h64).bind fun v65 h66 =>
 (binR Prog .eql 3 v57 (.int .i64 0) h66).bind fun v67 h68 =>
 condV (some v67) (
 sfnt_Make_j1 k call a0 v57 (.int .i64 0) h68)
 (
 sfnt_Make_j2 k call a0 v57 v65 v67 h68)):=by kernel_rfl
theorem sfnt_Make_j2_eq (k:Nat) (call:Caller) (a0 a5 a6 a54:Value) (h:Heap):sfnt_Make_j2 k call a0 a5 a6 a54 h =
 (binR Prog .gtr 3 a5 (.int .i64 0) h).bind fun v73 h74 =>
 condV (some v73) (
 (binR Prog .shl 3 (.int .i64 16) a6 h74).bind fun v75 h76 =>
 sfnt_Make_j3 k call a0 a5 a6 v75 h76)
 (
 sfnt_Make_j4 k call a0 a5 a6 (.int .i64 0) v73 h74):=by kernel_rfl
theorem sfnt_Make_j3_eq (k:Nat) (call:Caller) (a0 a5 a6 a7:Value) (h:Heap):sfnt_Make_j3 k call a0 a5 a6 a7 h =
 (call F.sfnt_put [(.slice none 0 0),(.int .i64 65536),(.int .i64 4)] h).bind fun v77 h78 =>
 (call F.sfnt_put [v77,a5,(.int .i64 2)] h78).bind fun v79 h80 =>
 (call F.sfnt_put [v79,a7,(.int .i64 2)] h80).bind fun v81 h82 =>
 (call F.sfnt_put [v81,a6,(.int .i64 2)] h82).bind fun v83 h84 =>
 (binR Prog .mul 3 (.int .i64 16) a5 h84).bind fun v85 h86 =>
 (binR Prog .sub 3 v85 a7 h86).bind fun v87 h88 =>
 (call F.sfnt_put [v83,v87,(.int .i64 2)] h88).bind fun v89 h90 =>
 (binR Prog .mul 3 (.int .i64 16) a5 h90).bind fun v91 h92 =>
 (binR Prog .add 3 (.int .i64 12) v91 h92).bind fun v93 h94 =>
 (builtinV Prog .len [142] [a0] h94).bind fun v95 h96 =>
 (loopN (sfnt_Make_l2 k call) loopFuel [(0,a0),(8,v89),(9,v93),(74,a0),(75,v95),(76,(.int .i64 0))] h96).bind fun r97 h98 =>
 sfnt_Make_l2k k call r97.1 r97.2 h98:=by kernel_rfl
theorem sfnt_Make_l2_eq (k:Nat) (call:Caller) (a0 a8 a9 a74 a75 a76:Value) (h:Heap):sfnt_Make_l2 k call [(0,a0),(8,a8),(9,a9),(74,a74),(75,a75),(76,a76)] h =
 (binR Prog .lss 3 a76 a75 h).bind fun v121 h122 =>
 condV (some v121) (
 (indexAddrR Prog 142 a74 a76 h122).bind fun v123 h124 =>
 (loadR Prog 140 v123 h124).bind fun v125 h126 =>
 (allocR Prog 140 h126).bind fun v127 h128 =>
 (storeR Prog 140 v127 v125 h128).bind fun _v129 h130 =>
 (fieldAddrR Prog 140 v127 0 h130).bind fun v131 h132 =>
 (loadR Prog 9 v131 h132).bind fun v133 h134 =>
 (builtinV Prog .append [31,9] [a8,v133] h134).bind fun v135 h136 =>
 (fieldAddrR Prog 140 v127 1 h136).bindN fun v137 h138 =>
 (loadR Prog 31 v137 h138).bindN fun v139 h140 =>
 (call F.sfnt_sum [v139] h140).bindT (fun p143 h144 => (fieldAddrR Prog 140 v127 1 h140).bindN fun v145 h146 => (loadR Prog 31 v145 h146).bindN fun v147 h148 => (builtinV Prog .len [31] [v147] h148).bindN fun v149 h150 => chkR ((okVal (loadR Prog 31 v145 h136) v147 && true) && true) (.panic p143 h144)) fun v141 h142 =>
 (call F.sfnt_put [v135,v141,(.int .i64 4)] h142).bindT (fun p153 h154 => (fieldAddrR Prog 140 v127 1 h142).bindN fun v155 h156 => (loadR Prog 31 v155 h156).bindN fun v157 h158 => (builtinV Prog .len [31] [v157] h158).bindN fun v159 h160 => chkR ((okVal (loadR Prog 31 v155 h136) v157 && (okVal (loadR Prog 31 v155 h142) v157 && true)) && true) (.panic p153 h154)) fun v151 h152 =>
 (call F.sfnt_put [v151,a9,(.int .i64 4)] h152).bindT (fun p163 h164 => (fieldAddrR Prog 140 v127 1 h152).bindN fun v165 h166 => (loadR Prog 31 v165 h166).bindN fun v167 h168 => (builtinV Prog .len [31] [v167] h168).bindN fun v169 h170 => chkR ((okVal (loadR Prog 31 v165 h136) v167 && (okVal (loadR Prog 31 v165 h142) v167 && (okVal (loadR Prog 31 v165 h152) v167 && true))) && true) (.panic p163 h164)) fun v161 h162 =>
 (fieldAddrR Prog 140 v127 1 h162).bindN fun v171 h172 =>
 (loadR Prog 31 v171 h172).bindN fun v173 h174 =>
 (builtinV Prog .len [31] [v173] h174).bindN fun v175 h176 =>
 (call F.sfnt_put [v161,v175,(.int .i64 4)] h176).bindT (fun p179 h180 => chkR ((okVal (loadR Prog 31 v171 h136) v173 && (okVal (loadR Prog 31 v171 h142) v173 && (okVal (loadR Prog 31 v171 h152) v173 && true))) && true) (.panic p179 h180)) fun v177 h178 =>
 chkR ((okVal (loadR Prog 31 v171 h136) v173 && (okVal (loadR Prog 31 v171 h142) v173 && (okVal (loadR Prog 31 v171 h152) v173 && true))) && true) (
 (fieldAddrR Prog 140 v127 1 h178).bind fun v181 h182 =>
 (loadR Prog 31 v181 h182).bind fun v183 h184 =>
 (builtinV Prog .len [31] [v183] h184).bind fun v185 h186 =>
 (binR Prog .add 3 v185 (.int .i64 3) h186).bind fun v187 h188 =>
 (binR Prog .quo 3 v187 (.int .i64 4) h188).bind fun v189 h190 =>
 (binR Prog .mul 3 v189 (.int .i64 4) h190).bind fun v191 h192 =>
 (binR Prog .add 3 a9 v191 h192).bind fun v193 h194 =>
 (binR Prog .add 3 a76 (.int .i64 1) h194).bind fun v195 h196 =>
 .ok (.normal,[(0,a0),(8,v177),(9,v193),(74,a74),(75,a75),(76,v195)]) h196))
 (
 .ok ((.exit 2),[(0,a0),(8,a8),(9,a9),(74,a74),(75,a75),(76,a76),(77,v121)]) h122) :=
 (loopB_eq _ _).trans (by kernel_rfl)
theorem sfnt_Make_l2k_x2 (k:Nat) (call:Caller) (a0 a8 a9 a74 a75 a76 a77:Value) (h:Heap):sfnt_Make_l2k k call (.exit 2) [(0,a0),(8,a8),(9,a9),(74,a74),(75,a75),(76,a76),(77,a77)] h =
 (builtinV Prog .len [142] [a0] h).bind fun v197 h198 =>
 (loopN (sfnt_Make_l3 k call) loopFuel [(8,a8),(104,a0),(105,v197),(106,(.int .i64 0))] h198).bind fun r199 h200 =>
 sfnt_Make_l3k k call r199.1 r199.2 h200:=by kernel_rfl
theorem sfnt_Make_l3_eq (k:Nat) (call:Caller) (a8 a104 a105 a106:Value) (h:Heap):sfnt_Make_l3 k call [(8,a8),(104,a104),(105,a105),(106,a106)] h =
 (binR Prog .lss 3 a106 a105 h).bind fun v201 h202 =>
 condV (some v201) (
 (indexAddrR Prog 142 a104 a106 h202).bind fun v203 h204 =>
 (loadR Prog 140 v203 h204).bind fun v205 h206 =>
 (allocR Prog 140 h206).bind fun v207 h208 =>
 (storeR Prog 140 v207 v205 h208).bind fun _v209 h210 =>
 (fieldAddrR Prog 140 v207 1 h210).bind fun v211 h212 =>
 (loadR Prog 31 v211 h212).bind fun v213 h214 =>
 (builtinV Prog .append [31,31] [a8,v213] h214).bind fun v215 h216 =>
 (loopN (sfnt_Make_l4 k call) loopFuel [(8,v215),(104,a104),(105,a105),(106,a106)] h216).bind fun r217 h218 =>
 sfnt_Make_l4k k call r217.1 r217.2 h218)
 (
 .ok ((.exit 4),[(8,a8),(104,a104),(105,a105),(106,a106),(107,v201)]) h202) :=
 (loopB_eq _ _).trans (by kernel_rfl)
theorem sfnt_Make_l4_eq (k:Nat) (call:Caller) (a8 a104 a105 a106:Value) (h:Heap):sfnt_Make_l4 k call [(8,a8),(104,a104),(105,a105),(106,a106)] h =
 (builtinV Prog .len [31] [a8] h).bind fun v219 h220 =>
 (binR Prog .rem 3 v219 (.int .i64 4) h220).bind fun v221 h222 =>
 (binR Prog .gtr 3 v221 (.int .i64 0) h222).bind fun v223 h224 =>
 condV (some v223) (
 (buildSliceR Prog 31 1 [(0,(.int .u8 0))] h224).bind fun v225 h226 =>
 (builtinV Prog .append [31,31] [a8,v225] h226).bind fun v227 h228 =>
 .ok (.normal,[(8,v227),(104,a104),(105,a105),(106,a106)]) h228)
 (
 .ok ((.exit 6),[(8,a8),(104,a104),(105,a105),(106,a106),(117,v223)]) h224) :=
 (loopB_eq _ _).trans (by kernel_rfl)
theorem sfnt_Make_l3k_x4 (k:Nat) (call:Caller) (a8 a104 a105 a106 a107:Value) (h:Heap):sfnt_Make_l3k k call (.exit 4) [(8,a8),(104,a104),(105,a105),(106,a106),(107,a107)] h =
 .ok a8 h:=by kernel_rfl
theorem sfnt_Make_l4k_x6 (k:Nat) (call:Caller) (a8 a104 a105 a106 a117:Value) (h:Heap):sfnt_Make_l4k k call (.exit 6) [(8,a8),(104,a104),(105,a105),(106,a106),(117,a117)] h =
 (binR Prog .add 3 a106 (.int .i64 1) h).bind fun v229 h230 =>
 .ok (.normal,[(8,a8),(104,a104),(105,a105),(106,v229)]) h230:=by kernel_rfl
def sfnt_Make_in1 (k:Nat) (call:Caller) (a0 a1:Value) (h:Heap):Res Value :=
 (boxR a0 h).bind fun v1 h2 =>
 (boxR a1 h2).bind fun v3 h4 =>
 (fieldAddrR Prog 140 v1 0 h4).bind fun v5 h6 =>
 (loadR Prog 9 v5 h6).bind fun v7 h8 =>
 (fieldAddrR Prog 140 v3 0 h8).bind fun v9 h10 =>
 (loadR Prog 9 v9 h10).bind fun v11 h12 =>
 (call F.cmp_Compare_of_string [v7,v11] h12).bind fun v13 h14 =>
 .ok v13 h14
theorem sfnt_Make_in1_R (k:Nat) (a0 a1:Value) (h:Heap):R (T k) F.sfnt_Make_in1 [a0,a1] h = nrm .gc h (sfnt_Make_in1 k (R (T k)) a0 a1 h) :=
 (R_body (t:=T k) (T_scott k) (by kernel_rfl) (by kernel_rfl) _ _).trans (by kernel_rfl)
def sfnt_put_l1 (k:Nat) (call:Caller):Env → Heap → Res (AExit × Env):=loopB (C k) call F.sfnt_put [1,0,1,0,0]
def sfnt_put_l1k (k:Nat) (call:Caller):Kont Value:=kBlock 0 (kSeq (pieceK (C k) call F.sfnt_put [1,1]) (kDone Prog (resOf Prog F.sfnt_put)))
def sfnt_put (k:Nat) (call:Caller) (a0 a1 a2:Value) (h:Heap):Res Value :=
 (binR Prog .sub 3 a2 (.int .i64 1) h).bind fun v1 h2 =>
 (loopN (sfnt_put_l1 k call) loopFuel [(0,a0),(1,a1),(7,v1)] h2).bind fun r3 h4 =>
 sfnt_put_l1k k call r3.1 r3.2 h4
theorem sfnt_put_R (k:Nat) (a0 a1 a2:Value) (h:Heap):R (T k) F.sfnt_put [a0,a1,a2] h = nrm .no h (sfnt_put k (R (T k)) a0 a1 a2 h) :=
 (R_body (t:=T k) (T_scott k) (by kernel_rfl) (by kernel_rfl) _ _).trans (by kernel_rfl)
theorem sfnt_put_l1_eq (k:Nat) (call:Caller) (a0 a1 a7:Value) (h:Heap):sfnt_put_l1 k call [(0,a0),(1,a1),(7,a7)] h =
 (binR Prog .geq 3 a7 (.int .i64 0) h).bind fun v5 h6 =>
 condV (some v5) (
 (binR Prog .mul 3 (.int .i64 8) a7 h6).bind fun v7 h8 =>
 (binR Prog .shr 3 a1 v7 h8).bind fun v9 h10 =>
 (convR Prog 3 5 v9 h10).bind fun v11 h12 =>
 (buildSliceR Prog 31 1 [(0,v11)] h12).bind fun v13 h14 =>
 (builtinV Prog .append [31,31] [a0,v13] h14).bind fun v15 h16 =>
 (binR Prog .sub 3 a7 (.int .i64 1) h16).bind fun v17 h18 =>
 .ok (.normal,[(0,v15),(1,a1),(7,v17)]) h18)
 (
 .ok ((.exit 0),[(0,a0),(1,a1),(7,a7),(11,v5)]) h6) :=
 (loopB_eq _ _).trans (by kernel_rfl)
theorem sfnt_put_l1k_x0 (k:Nat) (call:Caller) (a0 a1 a7 a11:Value) (h:Heap):sfnt_put_l1k k call (.exit 0) [(0,a0),(1,a1),(7,a7),(11,a11)] h =
 .ok a0 h:=by kernel_rfl
def sfnt_sum_l1 (k:Nat) (call:Caller):Env → Heap → Res (AExit × Env):=loopB (C k) call F.sfnt_sum [1,1,0,1,0,0]
def sfnt_sum_l1k (k:Nat) (call:Caller):Kont Value:=kBlock 0 (kSeq (pieceK (C k) call F.sfnt_sum [1,1,1]) (kDone Prog (resOf Prog F.sfnt_sum)))
def sfnt_sum (k:Nat) (call:Caller) (a0:Value) (h:Heap):Res Value :=
 (builtinV Prog .len [31] [a0] h).bind fun v1 h2 =>
 (loopN (sfnt_sum_l1 k call) loopFuel [(3,(.int .u32 0)),(6,a0),(7,v1),(8,(.int .i64 0))] h2).bind fun r3 h4 =>
 sfnt_sum_l1k k call r3.1 r3.2 h4
theorem sfnt_sum_R (k:Nat) (a0:Value) (h:Heap):R (T k) F.sfnt_sum [a0] h = nrm .gc h (sfnt_sum k (R (T k)) a0 h) :=
 (R_body (t:=T k) (T_scott k) (by kernel_rfl) (by kernel_rfl) _ _).trans (by kernel_rfl)
theorem sfnt_sum_l1_eq (k:Nat) (call:Caller) (a3 a6 a7 a8:Value) (h:Heap):sfnt_sum_l1 k call [(3,a3),(6,a6),(7,a7),(8,a8)] h =
 (binR Prog .lss 3 a8 a7 h).bind fun v5 h6 =>
 condV (some v5) (
 (indexAddrR Prog 31 a6 a8 h6).bind fun v7 h8 =>
 (loadR Prog 5 v7 h8).bind fun v9 h10 =>
 (convR Prog 5 159 v9 h10).bind fun v11 h12 =>
 (binR Prog .rem 3 a8 (.int .i64 4) h12).bind fun v13 h14 =>
 (binR Prog .mul 3 (.int .i64 8) v13 h14).bind fun v15 h16 =>
 (binR Prog .sub 3 (.int .i64 24) v15 h16).bind fun v17 h18 =>
 (binR Prog .shl 159 v11 v17 h18).bind fun v19 h20 =>
 (binR Prog .add 159 a3 v19 h20).bind fun v21 h22 =>
 (binR Prog .add 3 a8 (.int .i64 1) h22).bind fun v23 h24 =>
 .ok (.normal,[(3,v21),(6,a6),(7,a7),(8,v23)]) h24)
 (
 .ok ((.exit 0),[(3,a3),(6,a6),(7,a7),(8,a8),(9,v5)]) h6) :=
 (loopB_eq _ _).trans (by kernel_rfl)
theorem sfnt_sum_l1k_x0 (k:Nat) (call:Caller) (a3 a6 a7 a8 a9:Value) (h:Heap):sfnt_sum_l1k k call (.exit 0) [(3,a3),(6,a6),(7,a7),(8,a8),(9,a9)] h =
 (convR Prog 159 3 a3 h).bind fun v25 h26 =>
 .ok v25 h26:=by kernel_rfl
def sfnt_Find (k:Nat) (call:Caller) (a0 a1:Value) (h:Heap):Res Value :=
 (allocR Prog 75 h).bind fun v1 h2 =>
 (call F.sfnt_Tables [a0] h2).bind fun v3 h4 =>
 (extractR v3 0 h4).bind fun v5 h6 =>
 (extractR v3 1 h6).bind fun v7 h8 =>
 (call F.slices_BinarySearchFunc_of_sfnt_Table_sfnt_Table_string [v5,a1,(.func (.func F.sfnt_Find_in1) #[] #[])] h8).bind fun v9 h10 =>
 (extractR v9 0 h10).bind fun v11 h12 =>
 (extractR v9 1 h12).bind fun v13 h14 =>
 (unR .not v13 h14).bind fun v15 h16 =>
 condV (some v15) (
 (buildR Prog 75 [] h16).bind fun v17 h18 =>
 (storeR Prog 75 v1 v17 h18).bind fun _v19 h20 =>
 (loadR Prog 75 v1 h20).bind fun v21 h22 =>
 .ok (.tuple #[v21,(.bool false)]) h22)
 (
 (call F.view_Of [a0] h16).bindT (fun p25 h26 => (indexAddrR Prog 299 v5 v11 h16).bindN fun v27 h28 => (fieldAddrR Prog 304 v27 1 h28).bindN fun v29 h30 => (loadR Prog 3 v29 h30).bindN fun v31 h32 => (indexAddrR Prog 299 v5 v11 h32).bindN fun v33 h34 => (fieldAddrR Prog 304 v33 2 h34).bindN fun v35 h36 => (loadR Prog 3 v35 h36).bindN fun v37 h38 => chkR ((okVal (loadR Prog 3 v29 h16) v31 && true) && ((okVal (loadR Prog 3 v35 h16) v37 && true) && true)) (.panic p25 h26)) fun v23 h24 =>
 (indexAddrR Prog 299 v5 v11 h24).bindN fun v39 h40 =>
 (fieldAddrR Prog 304 v39 1 h40).bindN fun v41 h42 =>
 (loadR Prog 3 v41 h42).bindN fun v43 h44 =>
 (indexAddrR Prog 299 v5 v11 h44).bindN fun v45 h46 =>
 (fieldAddrR Prog 304 v45 2 h46).bindN fun v47 h48 =>
 (loadR Prog 3 v47 h48).bindN fun v49 h50 =>
 (call F.view_View_Cut [v23,v43,v49] h50).bindT (fun p53 h54 => chkR ((okVal (loadR Prog 3 v41 h16) v43 && true) && ((okVal (loadR Prog 3 v47 h16) v49 && true) && true)) (.panic p53 h54)) fun v51 h52 =>
 (storeR Prog 75 v1 v51 h52).bindN fun _v55 h56 =>
 chkR ((okVal (loadR Prog 3 v41 h16) v43 && true) && ((okVal (loadR Prog 3 v47 h16) v49 && true) && true)) (
 (loadR Prog 75 v1 h56).bind fun v57 h58 =>
 .ok (.tuple #[v57,(.bool true)]) h58))
theorem sfnt_Find_R (k:Nat) (a0 a1:Value) (h:Heap):R (T k) F.sfnt_Find [a0,a1] h = nrm .gc h (sfnt_Find k (R (T k)) a0 a1 h) :=
 (R_body (t:=T k) (T_scott k) (by kernel_rfl) (by kernel_rfl) _ _).trans (by kernel_rfl)
def sfnt_Tables (k:Nat) (call:Caller) (a0:Value) (h:Heap):Res Value :=
 (boxR a0 h).bind fun v1 h2 =>
 (allocR Prog 299 h2).bind fun v3 h4 =>
 (call F.view_Try [(.func (.func F.sfnt_Tables_in1) #[] #[v1,v3])] h4).bind fun v5 h6 =>
 (unR .not v5 h6).bind fun v7 h8 =>
 condV (some v7) (
 (storeR Prog 299 v3 (.slice none 0 0) h8).bind fun _v9 h10 =>
 (loadR Prog 299 v3 h10).bind fun v11 h12 =>
 .ok (.tuple #[v11,(.int .i64 2)]) h12)
 (
 (loadR Prog 299 v3 h8).bind fun v13 h14 =>
 (storeR Prog 299 v3 v13 h14).bind fun _v15 h16 =>
 (loadR Prog 299 v3 h16).bind fun v17 h18 =>
 .ok (.tuple #[v17,(.int .i64 0)]) h18)
theorem sfnt_Tables_R (k:Nat) (a0:Value) (h:Heap):R (T k) F.sfnt_Tables [a0] h = nrm .fz h (sfnt_Tables k (R (T k)) a0 h) :=
 (R_body (t:=T k) (T_scott k) (by kernel_rfl) (by kernel_rfl) _ _).trans (by kernel_rfl)
def sfnt_Find_in1 (k:Nat) (call:Caller) (a0 a1:Value) (h:Heap):Res Value :=
 (boxR a0 h).bind fun v1 h2 =>
 (fieldAddrR Prog 304 v1 0 h2).bind fun v3 h4 =>
 (loadR Prog 9 v3 h4).bind fun v5 h6 =>
 (call F.cmp_Compare_of_string [v5,a1] h6).bind fun v7 h8 =>
 .ok v7 h8
theorem sfnt_Find_in1_R (k:Nat) (a0 a1:Value) (h:Heap):R (T k) F.sfnt_Find_in1 [a0,a1] h = nrm .gc h (sfnt_Find_in1 k (R (T k)) a0 a1 h) :=
 (R_body (t:=T k) (T_scott k) (by kernel_rfl) (by kernel_rfl) _ _).trans (by kernel_rfl)
def sfnt_Tables_in1 (k:Nat) (call:Caller) (a0 a1:Value) (h:Heap):Res Value :=
 (loadR Prog 31 a0 h).bind fun v1 h2 =>
 (call F.view_Of [v1] h2).bind fun v3 h4 =>
 (call F.sfnt_take [v3] h4).bind fun v5 h6 =>
 (storeR Prog 299 a1 v5 h6).bind fun _v7 h8 =>
 .ok (.tuple #[]) h8
theorem sfnt_Tables_in1_R (k:Nat) (a0 a1:Value) (h:Heap):R (T k) F.sfnt_Tables_in1 [a0,a1] h = nrm .no h (sfnt_Tables_in1 k (R (T k)) a0 a1 h) :=
 (R_body (t:=T k) (T_scott k) (by kernel_rfl) (by kernel_rfl) _ _).trans (by kernel_rfl)
def sfnt_take_l1 (k:Nat) (call:Caller):Env → Heap → Res (AExit × Env):=loopB (C k) call F.sfnt_take [1,1,1,1,1,1,0,1,0,0]
def sfnt_take_l1k (k:Nat) (call:Caller):Kont Value:=kBlock 0 (kSeq (pieceK (C k) call F.sfnt_take [1,1,1,1,1,1,1]) (kDone Prog (resOf Prog F.sfnt_take)))
def sfnt_take (k:Nat) (call:Caller) (a0:Value) (h:Heap):Res Value :=
 (boxR a0 h).bind fun v1 h2 =>
 (loadR Prog 75 v1 h2).bind fun v3 h4 =>
 (call F.view_View_U32 [v3,(.int .i64 0)] h4).bind fun v5 h6 =>
 (binR Prog .eql 3 v5 (.int .i64 65536) h6).bind fun v7 h8 =>
 ((bif wantVal v7 false then Res.ok v5 h8 else Res.ok undef h8)).bind fun v9 h10 =>
 ((bif wantVal v7 false then binR Prog .eql 3 v9 (.int .i64 1953658213) h10 else Res.ok undef h10)).bind fun v11 h12 =>
 (condV (some v7) (Res.ok (.bool true) h12) (Res.ok v11 h12)).bind fun v13 h14 =>
 (call F.view_Need [v13] h14).bind fun v15 h16 =>
 (loadR Prog 75 v1 h16).bind fun v17 h18 =>
 (call F.view_View_U16 [v17,(.int .i64 4)] h18).bind fun v19 h20 =>
 (loadR Prog 75 v1 h20).bind fun v21 h22 =>
 (call F.view_View_Rows [v21,(.int .i64 12),v19,(.int .i64 16)] h22).bind fun v23 h24 =>
 (allocR Prog 75 h24).bind fun v25 h26 =>
 (storeR Prog 75 v25 v23 h26).bind fun _v27 h28 =>
 (loopN (sfnt_take_l1 k call) loopFuel [(1,v1),(5,v25),(6,(.slice none 0 0)),(24,v19),(25,(.int .i64 0))] h28).bind fun r29 h30 =>
 sfnt_take_l1k k call r29.1 r29.2 h30
theorem sfnt_take_R (k:Nat) (a0:Value) (h:Heap):R (T k) F.sfnt_take [a0] h = nrm .fz h (sfnt_take k (R (T k)) a0 h) :=
 (R_body (t:=T k) (T_scott k) (by kernel_rfl) (by kernel_rfl) _ _).trans (by kernel_rfl)
theorem sfnt_take_l1_eq (k:Nat) (call:Caller) (a1 a5 a6 a24 a25:Value) (h:Heap):sfnt_take_l1 k call [(1,a1),(5,a5),(6,a6),(24,a24),(25,a25)] h =
 (binR Prog .lss 3 a25 a24 h).bind fun v31 h32 =>
 condV (some v31) (
 (loadR Prog 75 a5 h32).bind fun v33 h34 =>
 (binR Prog .mul 3 (.int .i64 16) a25 h34).bind fun v35 h36 =>
 (call F.view_View_Cut [v33,v35,(.int .i64 16)] h36).bind fun v37 h38 =>
 (allocR Prog 75 h38).bind fun v39 h40 =>
 (storeR Prog 75 v39 v37 h40).bind fun _v41 h42 =>
 (loadR Prog 75 v39 h42).bindN fun v43 h44 =>
 (call F.view_View_Cut [v43,(.int .i64 0),(.int .i64 4)] h44).bindT (fun p47 h48 => (loadR Prog 75 v39 h44).bindN fun v49 h50 => (loadR Prog 75 v39 h50).bindN fun v51 h52 => (allocR Prog 304 h52).bindN fun v53 h54 => chkR ((okVal (loadR Prog 75 v39 h42) v49 && true) && ((okVal (loadR Prog 75 v39 h42) v51 && true) && true)) (.panic p47 h48)) fun v45 h46 =>
 (call F.view_View_Bytes [v45] h46).bindT (fun p57 h58 => (loadR Prog 75 v39 h46).bindN fun v59 h60 => (loadR Prog 75 v39 h60).bindN fun v61 h62 => (allocR Prog 304 h62).bindN fun v63 h64 => chkR ((okVal (loadR Prog 75 v39 h42) v59 && (okVal (loadR Prog 75 v39 h46) v59 && true)) && ((okVal (loadR Prog 75 v39 h42) v61 && (okVal (loadR Prog 75 v39 h46) v61 && true)) && true)) (.panic p57 h58)) fun v55 h56 =>
 (convR Prog 31 9 v55 h56).bindN fun v65 h66 =>
 (loadR Prog 75 v39 h66).bindN fun v67 h68 =>
 (call F.view_View_U32 [v67,(.int .i64 8)] h68).bindT (fun p71 h72 => (loadR Prog 75 v39 h68).bindN fun v73 h74 => (allocR Prog 304 h74).bindN fun v75 h76 => chkR ((okVal (loadR Prog 75 v39 h42) v67 && (okVal (loadR Prog 75 v39 h46) v67 && true)) && ((okVal (loadR Prog 75 v39 h42) v73 && (okVal (loadR Prog 75 v39 h46) v73 && (okVal (loadR Prog 75 v39 h56) v73 && true))) && true)) (.panic p71 h72)) fun v69 h70 =>
 (loadR Prog 75 v39 h70).bindN fun v77 h78 =>
 (call F.view_View_U32 [v77,(.int .i64 12)] h78).bindT (fun p81 h82 => (allocR Prog 304 h78).bindN fun v83 h84 => chkR ((okVal (loadR Prog 75 v39 h42) v67 && (okVal (loadR Prog 75 v39 h46) v67 && true)) && ((okVal (loadR Prog 75 v39 h42) v77 && (okVal (loadR Prog 75 v39 h46) v77 && (okVal (loadR Prog 75 v39 h56) v77 && true))) && true)) (.panic p81 h82)) fun v79 h80 =>
 (buildR Prog 304 [(0,v65),(1,v69),(2,v79)] h80).bindN fun v85 h86 =>
 (allocR Prog 304 h86).bindN fun v87 h88 =>
 (storeR Prog 304 v87 v85 h88).bindN fun _v89 h90 =>
 chkR ((okVal (loadR Prog 75 v39 h42) v67 && (okVal (loadR Prog 75 v39 h46) v67 && true)) && ((okVal (loadR Prog 75 v39 h42) v77 && (okVal (loadR Prog 75 v39 h46) v77 && (okVal (loadR Prog 75 v39 h56) v77 && true))) && true)) (
 (loadR Prog 75 a1 h90).bind fun v91 h92 =>
 (fieldAddrR Prog 304 v87 1 h92).bind fun v93 h94 =>
 (loadR Prog 3 v93 h94).bind fun v95 h96 =>
 (fieldAddrR Prog 304 v87 2 h96).bind fun v97 h98 =>
 (loadR Prog 3 v97 h98).bind fun v99 h100 =>
 (call F.view_View_Cut [v91,v95,v99] h100).bind fun v101 h102 =>
 (binR Prog .eql 3 a25 (.int .i64 0) h102).bindN fun v103 h104 =>
 ((bif wantVal v103 false then Res.ok a6 h104 else Res.ok undef h104)).bindN fun v105 h106 =>
 ((bif wantVal v103 false then Res.ok a25 h106 else Res.ok undef h106)).bindN fun v107 h108 =>
 ((bif wantVal v103 false then binR Prog .sub 3 v107 (.int .i64 1) h108 else Res.ok undef h108)).bindN fun v109 h110 =>
 ((bif wantVal v103 false then indexAddrR Prog 299 v105 v109 h110 else Res.ok undef h110)).bindN fun v111 h112 =>
 ((bif wantVal v103 false then fieldAddrR Prog 304 v111 0 h112 else Res.ok undef h112)).bindN fun v113 h114 =>
 ((bif wantVal v103 false then loadR Prog 9 v113 h114 else Res.ok undef h114)).bindN fun v115 h116 =>
 ((bif wantVal v103 false then fieldAddrR Prog 304 v87 0 h116 else Res.ok undef h116)).bindN fun v117 h118 =>
 ((bif wantVal v103 false then loadR Prog 9 v117 h118 else Res.ok undef h118)).bindN fun v119 h120 =>
 ((bif wantVal v103 false then binR Prog .lss 9 v115 v119 h120 else Res.ok undef h120)).bindN fun v121 h122 =>
 (condV (some v103) (Res.ok (.bool true) h122) (Res.ok v121 h122)).bindN fun v123 h124 =>
 (call F.view_Need [v123] h124).bindT (fun p127 h128 => .panic p127 h128) fun v125 h126 =>
 (loadR Prog 304 v87 h126).bind fun v129 h130 =>
 (buildSliceR Prog 299 1 [(0,v129)] h130).bind fun v131 h132 =>
 (builtinV Prog .append [299,299] [a6,v131] h132).bind fun v133 h134 =>
 (binR Prog .add 3 a25 (.int .i64 1) h134).bind fun v135 h136 =>
 .ok (.normal,[(1,a1),(5,a5),(6,v133),(24,a24),(25,v135)]) h136))
 (
 .ok ((.exit 0),[(1,a1),(5,a5),(6,a6),(24,a24),(25,a25),(26,v31)]) h32) :=
 (loopB_eq _ _).trans (by kernel_rfl)
theorem sfnt_take_l1k_x0 (k:Nat) (call:Caller) (a1 a5 a6 a24 a25 a26:Value) (h:Heap):sfnt_take_l1k k call (.exit 0) [(1,a1),(5,a5),(6,a6),(24,a24),(25,a25),(26,a26)] h =
 .ok a6 h:=by kernel_rfl
end
end Go.Sw
end
section
set_option maxRecDepth 100000
set_option linter.unusedVariables false
namespace Go.Sw
noncomputable section
def cmp_Compare_of_string (k:Nat) (call:Caller) (a0 a1:Value) (h:Heap):Res Value :=
 (call F.cmp_isNaN_of_string [a0] h).bind fun v1 h2 =>
 (call F.cmp_isNaN_of_string [a1] h2).bind fun v3 h4 =>
 condV (some v1) (
 condV (some v3) (
 .ok (.int .i64 0) h4)
 (
 .ok (.int .i64 (-1)) h4))
 (
 condV (some v3) (
 .ok (.int .i64 1) h4)
 (
 (binR Prog .lss 9 a0 a1 h4).bind fun v5 h6 =>
 condV (some v5) (
 .ok (.int .i64 (-1)) h6)
 (
 (binR Prog .gtr 9 a0 a1 h6).bind fun v7 h8 =>
 condV (some v7) (
 .ok (.int .i64 1) h8)
 (
 .ok (.int .i64 0) h8))))
theorem cmp_Compare_of_string_R (k:Nat) (a0 a1:Value) (h:Heap):R (T k) F.cmp_Compare_of_string [a0,a1] h = nrm .gc h (cmp_Compare_of_string k (R (T k)) a0 a1 h) :=
 (R_body (t:=T k) (T_scott k) (by kernel_rfl) (by kernel_rfl) _ _).trans (by kernel_rfl)
def cmp_isNaN_of_string (k:Nat) (call:Caller) (a0:Value) (h:Heap):Res Value :=
 (binR Prog .neq 9 a0 a0 h).bind fun v1 h2 =>
 .ok v1 h2
theorem cmp_isNaN_of_string_R (k:Nat) (a0:Value) (h:Heap):R (T k) F.cmp_isNaN_of_string [a0] h = nrm .gc h (cmp_isNaN_of_string k (R (T k)) a0 h) :=
 (R_body (t:=T k) (T_scott k) (by kernel_rfl) (by kernel_rfl) _ _).trans (by kernel_rfl)
end
end Go.Sw
end
section
set_option maxRecDepth 100000
set_option linter.unusedVariables false
namespace Go.Sw
noncomputable section
def math_bits_Len (k:Nat) (call:Caller) (a0:Value) (h:Heap):Res Value :=
 condV (some (.bool false)) (
 (convR Prog 200 159 a0 h).bind fun v1 h2 =>
 (call F.math_bits_Len32 [v1] h2).bind fun v3 h4 =>
 .ok v3 h4)
 (
 (call F.math_bits_Len64 [a0] h).bind fun v5 h6 =>
 .ok v5 h6)
theorem math_bits_Len_R (k:Nat) (a0:Value) (h:Heap):R (T k) F.math_bits_Len [a0] h = nrm .gc h (math_bits_Len k (R (T k)) a0 h) :=
 (R_body (t:=T k) (T_scott k) (by kernel_rfl) (by kernel_rfl) _ _).trans (by kernel_rfl)
def math_bits_Len32_j1 (k:Nat) (call:Caller) (a0 a2:Value) (h:Heap):Res Value :=
 kSeq (pieceK (C k) call F.math_bits_Len32 [1,1]) (kDone Prog (resOf Prog F.math_bits_Len32)) .normal [(0,a0),(2,a2)] h
def math_bits_Len32_j2 (k:Nat) (call:Caller) (a0 a2 a4:Value) (h:Heap):Res Value :=
 kSeq (pieceK (C k) call F.math_bits_Len32 [1,1]) (kDone Prog (resOf Prog F.math_bits_Len32)) .normal [(0,a0),(2,a2),(4,a4)] h
def math_bits_Len32 (k:Nat) (call:Caller) (a0:Value) (h:Heap):Res Value :=
 (binR Prog .geq 159 a0 (.int .u32 65536) h).bind fun v1 h2 =>
 condV (some v1) (
 (binR Prog .shr 159 a0 (.int .u64 16) h2).bind fun v3 h4 =>
 math_bits_Len32_j1 k call v3 (.int .i64 16) h4)
 (
 math_bits_Len32_j2 k call a0 (.int .i64 0) v1 h2)
def math_bits_Len64_j1 (k:Nat) (call:Caller) (a0 a2:Value) (h:Heap):Res Value :=
 kSeq (pieceK (C k) call F.math_bits_Len64 [1,1]) (kDone Prog (resOf Prog F.math_bits_Len64)) .normal [(0,a0),(2,a2)] h
def math_bits_Len64_j2 (k:Nat) (call:Caller) (a0 a2 a4:Value) (h:Heap):Res Value :=
 kSeq (pieceK (C k) call F.math_bits_Len64 [1,1]) (kDone Prog (resOf Prog F.math_bits_Len64)) .normal [(0,a0),(2,a2),(4,a4)] h
def math_bits_Len64 (k:Nat) (call:Caller) (a0:Value) (h:Heap):Res Value :=
 (binR Prog .geq 297 a0 (.int .u64 4294967296) h).bind fun v1 h2 =>
 condV (some v1) (
 (binR Prog .shr 297 a0 (.int .u64 32) h2).bind fun v3 h4 =>
 math_bits_Len64_j1 k call v3 (.int .i64 32) h4)
 (
 math_bits_Len64_j2 k call a0 (.int .i64 0) v1 h2)
theorem math_bits_Len64_R (k:Nat) (a0:Value) (h:Heap):R (T k) F.math_bits_Len64 [a0] h = nrm .gc h (math_bits_Len64 k (R (T k)) a0 h) :=
 (R_body (t:=T k) (T_scott k) (by kernel_rfl) (by kernel_rfl) _ _).trans (by kernel_rfl)
end
end Go.Sw
end
