/-
  Functions' forms, and what is proved of them, part 1.
-/
import Derived.Test.YtanfippcmdialaaSwCfg
import Derived.Test.YtanfippcmdialaaSwLib8
set_option linter.unusedSimpArgs false
set_option linter.unusedVariables false
set_option linter.unusedSectionVars false
section
set_option maxRecDepth 100000
set_option linter.unusedVariables false
namespace Go.Sw
noncomputable section
def view_Of (k:Nat) (call:Caller) (a0:Value) (h:Heap):Res Value :=
 (allocR Prog 75 h).bind fun v1 h2 =>
 (buildR Prog 75 [(0,a0)] h2).bind fun v3 h4 =>
 (storeR Prog 75 v1 v3 h4).bind fun _v5 h6 =>
 (loadR Prog 75 v1 h6).bind fun v7 h8 =>
 .ok v7 h8
theorem ζti (k:Nat) (a0:Value) (h:Heap):R (T k) F.view_Of [a0] h = nrm .gc h (view_Of k (R (T k)) a0 h) :=
 (R_body (t:=T k) (T_scott k) (by kernel_rfl) (by kernel_rfl) _ _).trans (by kernel_rfl)
def ζ3o (k:Nat) (call:Caller) (a0:Value) (h:Heap):Res Value :=
 (boxR a0 h).bind fun v1 h2 =>
 (buildSliceR Prog 31 0 [] h2).bind fun v3 h4 =>
 (fieldAddrR Prog 75 v1 0 h4).bind fun v5 h6 =>
 (loadR Prog 31 v5 h6).bind fun v7 h8 =>
 (builtinV Prog .append [31,31] [v3,v7] h8).bind fun v9 h10 =>
 .ok v9 h10
theorem ζim (k:Nat) (a0:Value) (h:Heap):R (T k) F.ζ3o [a0] h = nrm .fz h (ζ3o k (R (T k)) a0 h) :=
 (R_body (t:=T k) (T_scott k) (by kernel_rfl) (by kernel_rfl) _ _).trans (by kernel_rfl)
def ζ1a (k:Nat) (call:Caller) (a0 a1:Value) (h:Heap):Res Value :=
 (boxR a0 h).bind fun v1 h2 =>
 (loadR Prog 75 v1 h2).bind fun v3 h4 =>
 (call F.ζz [v3,a1,(.int .i64 4)] h4).bind fun v5 h6 =>
 (indexAddrR Prog 31 v5 (.int .i64 0) h6).bindN fun v7 h8 =>
 (loadR Prog 5 v7 h8).bindN fun v9 h10 =>
 (convR Prog 5 3 v9 h10).bindN fun v11 h12 =>
 (binR Prog .shl 3 v11 (.int .u64 24) h12).bindN fun v13 h14 =>
 (indexAddrR Prog 31 v5 (.int .i64 1) h14).bindN fun v15 h16 =>
 (loadR Prog 5 v15 h16).bindN fun v17 h18 =>
 (convR Prog 5 3 v17 h18).bindN fun v19 h20 =>
 (binR Prog .shl 3 v19 (.int .u64 16) h20).bindN fun v21 h22 =>
 (binR Prog .or 3 v13 v21 h22).bindN fun v23 h24 =>
 (indexAddrR Prog 31 v5 (.int .i64 2) h24).bindN fun v25 h26 =>
 (loadR Prog 5 v25 h26).bindN fun v27 h28 =>
 (convR Prog 5 3 v27 h28).bindN fun v29 h30 =>
 (binR Prog .shl 3 v29 (.int .u64 8) h30).bindN fun v31 h32 =>
 (binR Prog .or 3 v23 v31 h32).bindN fun v33 h34 =>
 (indexAddrR Prog 31 v5 (.int .i64 3) h34).bindN fun v35 h36 =>
 (loadR Prog 5 v35 h36).bindN fun v37 h38 =>
 (convR Prog 5 3 v37 h38).bindN fun v39 h40 =>
 (binR Prog .or 3 v33 v39 h40).bindN fun v41 h42 =>
 .ok v41 h42
theorem ζl3 (k:Nat) (a0 a1:Value) (h:Heap):R (T k) F.ζ1a [a0,a1] h = nrm .gc h (ζ1a k (R (T k)) a0 a1 h) :=
 (R_body (t:=T k) (T_scott k) (by kernel_rfl) (by kernel_rfl) _ _).trans (by kernel_rfl)
def ζ2x (k:Nat) (call:Caller) (a0:Value) (h:Heap):Res Value :=
 (unR .not a0 h).bind fun v1 h2 =>
 condV (some v1) (
 (call F.ζat [] h2).bind fun v3 h4 =>
 .ok (.tuple #[]) h4)
 (
 .ok (.tuple #[]) h2)
theorem ζls (k:Nat) (a0:Value) (h:Heap):R (T k) F.ζ2x [a0] h = nrm .gc h (ζ2x k (R (T k)) a0 h) :=
 (R_body (t:=T k) (T_scott k) (by kernel_rfl) (by kernel_rfl) _ _).trans (by kernel_rfl)
def ζf (k:Nat) (call:Caller) (a0 a1:Value) (h:Heap):Res Value :=
 (boxR a0 h).bind fun v1 h2 =>
 (loadR Prog 75 v1 h2).bind fun v3 h4 =>
 (call F.ζz [v3,a1,(.int .i64 2)] h4).bind fun v5 h6 =>
 (indexAddrR Prog 31 v5 (.int .i64 0) h6).bindN fun v7 h8 =>
 (loadR Prog 5 v7 h8).bindN fun v9 h10 =>
 (convR Prog 5 3 v9 h10).bindN fun v11 h12 =>
 (binR Prog .shl 3 v11 (.int .u64 8) h12).bindN fun v13 h14 =>
 (indexAddrR Prog 31 v5 (.int .i64 1) h14).bindN fun v15 h16 =>
 (loadR Prog 5 v15 h16).bindN fun v17 h18 =>
 (convR Prog 5 3 v17 h18).bindN fun v19 h20 =>
 (binR Prog .or 3 v13 v19 h20).bindN fun v21 h22 =>
 .ok v21 h22
theorem ζl2 (k:Nat) (a0 a1:Value) (h:Heap):R (T k) F.ζf [a0,a1] h = nrm .gc h (ζf k (R (T k)) a0 a1 h) :=
 (R_body (t:=T k) (T_scott k) (by kernel_rfl) (by kernel_rfl) _ _).trans (by kernel_rfl)
def ζ1k (k:Nat) (call:Caller) (a0 a1:Value) (h:Heap):Res Value :=
 (boxR a0 h).bind fun v1 h2 =>
 (allocR Prog 75 h2).bind fun v3 h4 =>
 (loadR Prog 75 v1 h4).bind fun v5 h6 =>
 (fieldAddrR Prog 75 v1 0 h6).bind fun v7 h8 =>
 (loadR Prog 31 v7 h8).bind fun v9 h10 =>
 (builtinV Prog .len [31] [v9] h10).bind fun v11 h12 =>
 (binR Prog .sub 3 v11 a1 h12).bind fun v13 h14 =>
 (builtinV Prog .max [3,3] [v13,(.int .i64 0)] h14).bind fun v15 h16 =>
 (call F.ζz [v5,a1,v15] h16).bind fun v17 h18 =>
 (buildR Prog 75 [(0,v17)] h18).bind fun v19 h20 =>
 (storeR Prog 75 v3 v19 h20).bind fun _v21 h22 =>
 (loadR Prog 75 v3 h22).bind fun v23 h24 =>
 .ok v23 h24
theorem ζkg (k:Nat) (a0 a1:Value) (h:Heap):R (T k) F.ζ1k [a0,a1] h = nrm .gc h (ζ1k k (R (T k)) a0 a1 h) :=
 (R_body (t:=T k) (T_scott k) (by kernel_rfl) (by kernel_rfl) _ _).trans (by kernel_rfl)
def ζ1d (k:Nat) (call:Caller) (a0 a1 a2 a3:Value) (h:Heap):Res Value :=
 (boxR a0 h).bind fun v1 h2 =>
 (allocR Prog 75 h2).bind fun v3 h4 =>
 (binR Prog .geq 3 a2 (.int .i64 0) h4).bind fun v5 h6 =>
 ((bif wantVal v5 true then Res.ok a3 h6 else Res.ok undef h6)).bind fun v7 h8 =>
 ((bif wantVal v5 true then binR Prog .geq 3 v7 (.int .i64 0) h8 else Res.ok undef h8)).bind fun v9 h10 =>
 (condV (some v5) (Res.ok v9 h10) (Res.ok (.bool false) h10)).bind fun v11 h12 =>
 ((bif wantVal v11 true then Res.ok a3 h12 else Res.ok undef h12)).bind fun v13 h14 =>
 ((bif wantVal v11 true then binR Prog .eql 3 v13 (.int .i64 0) h14 else Res.ok undef h14)).bind fun v15 h16 =>
 ((bif wantVal v11 true then Res.ok v15 h16 else Res.ok undef h16)).bind fun v17 h18 =>
 ((bif wantVal v17 false then Res.ok a2 h18 else Res.ok undef h18)).bind fun v19 h20 =>
 ((bif wantVal v17 false then fieldAddrR Prog 75 v1 0 h20 else Res.ok undef h20)).bind fun v21 h22 =>
 ((bif wantVal v17 false then loadR Prog 31 v21 h22 else Res.ok undef h22)).bind fun v23 h24 =>
 ((bif wantVal v17 false then builtinV Prog .len [31] [v23] h24 else Res.ok undef h24)).bind fun v25 h26 =>
 ((bif wantVal v17 false then Res.ok a3 h26 else Res.ok undef h26)).bind fun v27 h28 =>
 ((bif wantVal v17 false then binR Prog .quo 3 v25 v27 h28 else Res.ok undef h28)).bind fun v29 h30 =>
 ((bif wantVal v17 false then binR Prog .leq 3 v19 v29 h30 else Res.ok undef h30)).bind fun v31 h32 =>
 ((bif wantVal v11 true then condV (some v17) (Res.ok (.bool true) h32) (Res.ok v31 h32) else Res.ok undef h32)).bind fun v33 h34 =>
 (condV (some v11) (Res.ok v33 h34) (Res.ok (.bool false) h34)).bind fun v35 h36 =>
 (call F.ζ2x [v35] h36).bind fun v37 h38 =>
 (loadR Prog 75 v1 h38).bind fun v39 h40 =>
 (binR Prog .mul 3 a2 a3 h40).bind fun v41 h42 =>
 (call F.ζ2m [v39,a1,v41] h42).bind fun v43 h44 =>
 (storeR Prog 75 v3 v43 h44).bind fun _v45 h46 =>
 (loadR Prog 75 v3 h46).bind fun v47 h48 =>
 .ok v47 h48
theorem ζkh (k:Nat) (a0 a1 a2 a3:Value) (h:Heap):R (T k) F.ζ1d [a0,a1,a2,a3] h = nrm .gc h (ζ1d k (R (T k)) a0 a1 a2 a3 h) :=
 (R_body (t:=T k) (T_scott k) (by kernel_rfl) (by kernel_rfl) _ _).trans (by kernel_rfl)
def ζ2m (k:Nat) (call:Caller) (a0 a1 a2:Value) (h:Heap):Res Value :=
 (boxR a0 h).bind fun v1 h2 =>
 (allocR Prog 75 h2).bind fun v3 h4 =>
 (loadR Prog 75 v1 h4).bind fun v5 h6 =>
 (call F.ζz [v5,a1,a2] h6).bind fun v7 h8 =>
 (buildR Prog 75 [(0,v7)] h8).bind fun v9 h10 =>
 (storeR Prog 75 v3 v9 h10).bind fun _v11 h12 =>
 (loadR Prog 75 v3 h12).bind fun v13 h14 =>
 .ok v13 h14
theorem ζl0 (k:Nat) (a0 a1 a2:Value) (h:Heap):R (T k) F.ζ2m [a0,a1,a2] h = nrm .gc h (ζ2m k (R (T k)) a0 a1 a2 h) :=
 (R_body (t:=T k) (T_scott k) (by kernel_rfl) (by kernel_rfl) _ _).trans (by kernel_rfl)
def ζat (k:Nat) (call:Caller) (h:Heap):Res Value :=
 (buildR Prog 190 [] h).bind fun v1 h2 =>
 (ifaceR Prog 190 v1 h2).bind fun v3 h4 =>
 (panicR v3 h4).bind fun _v5 h6 =>
 .ok (.tuple #[]) h6
theorem ζqg (k:Nat) (h:Heap):R (T k) F.ζat [] h = nrm .gc h (ζat k (R (T k)) h) :=
 (R_body (t:=T k) (T_scott k) (by kernel_rfl) (by kernel_rfl) _ _).trans (by kernel_rfl)
def ζz (k:Nat) (call:Caller) (a0 a1 a2:Value) (h:Heap):Res Value :=
 (boxR a0 h).bind fun v1 h2 =>
 (binR Prog .geq 3 a1 (.int .i64 0) h2).bind fun v3 h4 =>
 ((bif wantVal v3 true then Res.ok a2 h4 else Res.ok undef h4)).bind fun v5 h6 =>
 ((bif wantVal v3 true then binR Prog .geq 3 v5 (.int .i64 0) h6 else Res.ok undef h6)).bind fun v7 h8 =>
 (condV (some v3) (Res.ok v7 h8) (Res.ok (.bool false) h8)).bind fun v9 h10 =>
 ((bif wantVal v9 true then Res.ok a1 h10 else Res.ok undef h10)).bind fun v11 h12 =>
 ((bif wantVal v9 true then fieldAddrR Prog 75 v1 0 h12 else Res.ok undef h12)).bind fun v13 h14 =>
 ((bif wantVal v9 true then loadR Prog 31 v13 h14 else Res.ok undef h14)).bind fun v15 h16 =>
 ((bif wantVal v9 true then builtinV Prog .len [31] [v15] h16 else Res.ok undef h16)).bind fun v17 h18 =>
 ((bif wantVal v9 true then binR Prog .leq 3 v11 v17 h18 else Res.ok undef h18)).bind fun v19 h20 =>
 (condV (some v9) (Res.ok v19 h20) (Res.ok (.bool false) h20)).bind fun v21 h22 =>
 ((bif wantVal v21 true then Res.ok a2 h22 else Res.ok undef h22)).bind fun v23 h24 =>
 ((bif wantVal v21 true then fieldAddrR Prog 75 v1 0 h24 else Res.ok undef h24)).bind fun v25 h26 =>
 ((bif wantVal v21 true then loadR Prog 31 v25 h26 else Res.ok undef h26)).bind fun v27 h28 =>
 ((bif wantVal v21 true then builtinV Prog .len [31] [v27] h28 else Res.ok undef h28)).bind fun v29 h30 =>
 ((bif wantVal v21 true then Res.ok a1 h30 else Res.ok undef h30)).bind fun v31 h32 =>
 ((bif wantVal v21 true then binR Prog .sub 3 v29 v31 h32 else Res.ok undef h32)).bind fun v33 h34 =>
 ((bif wantVal v21 true then binR Prog .leq 3 v23 v33 h34 else Res.ok undef h34)).bind fun v35 h36 =>
 (condV (some v21) (Res.ok v35 h36) (Res.ok (.bool false) h36)).bind fun v37 h38 =>
 (call F.ζ2x [v37] h38).bind fun v39 h40 =>
 (fieldAddrR Prog 75 v1 0 h40).bind fun v41 h42 =>
 (loadR Prog 31 v41 h42).bind fun v43 h44 =>
 (binR Prog .add 3 a1 a2 h44).bind fun v45 h46 =>
 (binR Prog .add 3 a1 a2 h46).bind fun v47 h48 =>
 (sliceR Prog 31 v43 (some a1) (some v45) (some v47) h48).bind fun v49 h50 =>
 .ok v49 h50
theorem ζin (k:Nat) (a0 a1 a2:Value) (h:Heap):R (T k) F.ζz [a0,a1,a2] h = nrm .gc h (ζz k (R (T k)) a0 a1 a2 h) :=
 (R_body (t:=T k) (T_scott k) (by kernel_rfl) (by kernel_rfl) _ _).trans (by kernel_rfl)
def ζ50 (k:Nat) (call:Caller) (a0:Value) (h:Heap):Res Value :=
 (boxR a0 h).bind fun v1 h2 =>
 (fieldAddrR Prog 75 v1 0 h2).bind fun v3 h4 =>
 (loadR Prog 31 v3 h4).bind fun v5 h6 =>
 (builtinV Prog .len [31] [v5] h6).bind fun v7 h8 =>
 .ok v7 h8
theorem ζl1 (k:Nat) (a0:Value) (h:Heap):R (T k) F.ζ50 [a0] h = nrm .gc h (ζ50 k (R (T k)) a0 h) :=
 (R_body (t:=T k) (T_scott k) (by kernel_rfl) (by kernel_rfl) _ _).trans (by kernel_rfl)
def ζ4r (k:Nat) (call:Caller) (a0 a1:Value) (h:Heap):Res Value :=
 (boxR a0 h).bind fun v1 h2 =>
 (loadR Prog 75 v1 h2).bind fun v3 h4 =>
 (call F.ζz [v3,a1,(.int .i64 1)] h4).bind fun v5 h6 =>
 (indexAddrR Prog 31 v5 (.int .i64 0) h6).bind fun v7 h8 =>
 (loadR Prog 5 v7 h8).bind fun v9 h10 =>
 (convR Prog 5 3 v9 h10).bind fun v11 h12 =>
 .ok v11 h12
theorem ζmi (k:Nat) (a0 a1:Value) (h:Heap):R (T k) F.ζ4r [a0,a1] h = nrm .gc h (ζ4r k (R (T k)) a0 a1 h) :=
 (R_body (t:=T k) (T_scott k) (by kernel_rfl) (by kernel_rfl) _ _).trans (by kernel_rfl)
end
end Go.Sw
end
section
namespace Go.Sw
open Go.RowKit
abbrev encB (n:Int):List Value:=[.int .u8 n]
theorem encB_len (n:Int):(encB n).length = 1:=rfl
def Byt (b:List Int):Prop:=∀ n,n ∈ b → 0 ≤ n ∧ n < 256
abbrev failV:Value:=.iface shortT (.agg #[])
abbrev vw (b:List Int):Value:=.agg #[lv encB b]
def orF {α:Type} (o:Option α) (f:α → Value) (H:Heap):Res Value:=match o with
 | some a => .ok (f a) H
 | none => .panic failV H
@[simp] theorem orF_some {α:Type} (a:α) (f:α → Value) (H:Heap):orF (some a) f H = .ok (f a) H:=rfl
@[simp] theorem orF_none {α:Type} (f:α → Value) (H:Heap):orF (none:Option α) f H = .panic failV H:=rfl
def pieceS (b:List Int) (i n:Int):Option (List Int):=if 0 ≤ i ∧ 0 ≤ n ∧ i ≤ b.length ∧ n ≤ b.length - i then some ((b.drop i.toNat).take n.toNat) else none
def num (l:List Int):Int:=l.foldl (fun x y => 256 * x + y) 0
def uS (b:List Int) (i n:Int):Option Int:=(pieceS b i n).map num
theorem Byt.piece {b:List Int} (h:Byt b) {i n:Int} {l:List Int} (hl:pieceS b i n = some l):Byt l ∧ (l.length:Int) = n:=by
 unfold pieceS at hl;split at hl
 ·rename_i hc;injection hl with hl; subst hl;refine ⟨fun x hx => h x (List.mem_of_mem_drop (List.mem_of_mem_take hx)),?_⟩;simp;omega
 ·cases hl
theorem Flat.fail:Flat failV:=.iface _ _ (.aggL .nil)
theorem Flat.unit:Flat (.tuple #[]):=.tupleL .nil
theorem Flat.B (b:List Int):Flat (Go.Sw.lv encB b):=.lv fun n _ => .cons (.int _ _) .nil
theorem Flat.vw (b:List Int):Flat (Go.Sw.vw b):=.aggL (.cons (.B b) .nil)
@[simp] theorem veq_B (b:List Int):veq (Go.Sw.lv encB b) (Go.Sw.lv encB b) = true:=veq_lv fun n _ v hv => by simp at hv; subst hv; simp
@[simp] theorem Fail_run (k:Nat) (H:Heap):R (T k) F.ζat [] H = .panic failV H:=by
 rw [ζqg];refine ζ1o ⟨H,?_,Ext.refl H⟩ Flat.fail.alive;simp -implicitDefEqProofs [ζat]
theorem ζio (k:Nat) (H:Heap):R (T k) F.ζ2x [.bool true] H = .ok (.tuple #[]) H:=by
 rw [ζls];refine nrm_gc (Pure.of ?_) Flat.unit.alive;simp -implicitDefEqProofs [ζ2x]
theorem ζgf (k:Nat) (H:Heap):R (T k) F.ζ2x [.bool false] H = .panic failV H:=by
 rw [ζls];refine ζ1o ⟨H,?_,Ext.refl H⟩ Flat.fail.alive;simp -implicitDefEqProofs [ζ2x]
attribute [simp] ζio ζgf
theorem ζ48 {H:Heap} {v:Value} {b l:List Int} (hv:Sl H 1 v encB b) {i n:Int} (h:pieceS b i n = some l):Sl H 1 (subV 1 v i.toNat n.toNat) encB l:=by
 unfold pieceS at h;split at h
 ·injection h with h; subst h;exact (hv.sub encB_len .i64 .i64 .i64 i.toNat n.toNat (by omega)).2
 ·cases h
theorem ζgt (k:Nat) {H:Heap} {v:Value} {b:List Int} (hv:Sl H 1 v encB b) (i n:Int) (hl:b.length < 2 ^ 62):R (T k) F.ζz [.agg #[v],.int .i64 i,.int .i64 n] H = orF (pieceS b i n) (fun _ => subV 1 v i.toNat n.toNat) H:=by
 rw [ζin];have bx:∀ H:Heap,boxR (.agg #[v]) H = newP [v] H:=fun _ => rfl;have hlen:=hv.len;by_cases h1:0 ≤ i
 ·by_cases h2:0 ≤ n
  ·by_cases h3:i ≤ b.length
   ·by_cases h4:n ≤ b.length - i
    ·have hp:pieceS b i n = some ((b.drop i.toNat).take n.toNat):=by rw [pieceS,if_pos ⟨h1,h2,h3,h4⟩]
     rw [hp];obtain ⟨i',rfl⟩:=Int.eq_ofNat_of_zero_le h1;obtain ⟨n',rfl⟩:=Int.eq_ofNat_of_zero_le h2;rw [Int.toNat_natCast,Int.toNat_natCast];obtain ⟨hs,hs2⟩:=hv.sub encB_len .i64 .i64 .i64 i' n' (by omega);have hs:=hs _ ((Ext.refl H).push ⟨[v],1,false⟩);rw [show (((i' + n':Nat):Nat):Int) = (i':Int) + n' by omega] at hs;refine nrm_gc ⟨H.push ⟨[v],1,false⟩,?_,(Ext.refl H).push _⟩ (hs2.alive fun _ _ => .cons (.int _ _) .nil);simp -implicitDefEqProofs (disch:=omega) [ζz,bx,hlen,h3,h4,hs]
    ·have hp:pieceS b i n = none:=by rw [pieceS,if_neg (fun h => h4 h.2.2.2)]
     rw [hp];refine ζ1o ⟨H.push ⟨[v],1,false⟩,?_,(Ext.refl H).push _⟩ Flat.fail.alive;simp -implicitDefEqProofs (disch:=omega) [ζz,bx,hlen,h1,h2,h3,h4]
   ·have hp:pieceS b i n = none:=by rw [pieceS,if_neg (fun h => h3 h.2.2.1)]
    rw [hp];refine ζ1o ⟨H.push ⟨[v],1,false⟩,?_,(Ext.refl H).push _⟩ Flat.fail.alive;simp -implicitDefEqProofs (disch:=omega) [ζz,bx,hlen,h1,h2,h3]
  ·have hp:pieceS b i n = none:=by rw [pieceS,if_neg (fun h => h2 h.2.1)]
   rw [hp];refine ζ1o ⟨H.push ⟨[v],1,false⟩,?_,(Ext.refl H).push _⟩ Flat.fail.alive;simp -implicitDefEqProofs (disch:=omega) [ζz,bx,hlen,h1,h2]
 ·have hp:pieceS b i n = none:=by rw [pieceS,if_neg (fun h => h1 h.1)]
  rw [hp];refine ζ1o ⟨H.push ⟨[v],1,false⟩,?_,(Ext.refl H).push _⟩ Flat.fail.alive;simp -implicitDefEqProofs (disch:=omega) [ζz,bx,hlen,h1]
theorem ζ3l {b:List Int} {i n:Int} {l:List Int} (h:pieceS b i n = some l):(l.length:Int) = n:=by
 unfold pieceS at h;split at h
 ·injection h with h; subst h;simp;omega
 ·cases h
theorem boxR_vw (v:Value) (H:Heap):boxR (.agg #[v]) H = newP [v] H:=rfl
theorem two_of {l:List Int} (h:(l.length:Int) = 2):∃ x y,l = [x,y]:=by
 match l,h with
 | [x,y],_ => exact ⟨x,y,rfl⟩
theorem four_of {l:List Int} (h:(l.length:Int) = 4):∃ x y z u,l = [x,y,z,u]:=by
 match l,h with
 | [x,y,z,u],_ => exact ⟨x,y,z,u,rfl⟩
theorem one_of {l:List Int} (h:(l.length:Int) = 1):∃ x,l = [x]:=by
 match l,h with
 | [x],_ => exact ⟨x,rfl⟩
theorem U16_run (k:Nat) {H:Heap} {v:Value} {b:List Int} (hv:Sl H 1 v encB b) (hb:Byt b) (i:Int) (hl:b.length < 2 ^ 62):R (T k) F.ζf [.agg #[v],.int .i64 i] H = orF (uS b i 2) (.int .i64) H:=by
 rw [ζl2];have hx1:Ext H (H.push ⟨[v],1,false⟩):=(Ext.refl H).push _;have hp:=ζgt k (hv.up hx1) i 2 hl;unfold uS;cases h:pieceS b i 2 with
 | none =>
  rw [h] at hp;refine ζ1o ⟨_,?_,hx1⟩ Flat.fail.alive;simp -implicitDefEqProofs (disch:=omega) [ζf,hp]
 | some l =>
  have hsl:=ζ48 (hv.up hx1) h;generalize subV 1 v i.toNat (2:Int).toNat = v' at hp hsl;obtain ⟨x,y,rfl⟩:=two_of (ζ3l h);rw [h] at hp;have hx:=(hb.piece h).1 x (by simp);have hy:=(hb.piece h).1 y (by simp);obtain ⟨p0,i0,d0⟩:=hsl.ix1 encB_len 0 x rfl _ rfl;obtain ⟨p1,i1,d1⟩:=hsl.ix1 encB_len 1 y rfl _ rfl;have i0:∀ H',ixS 1 v' (.int .i64 0) H' = .ok p0 H':=i0 .i64;have i1:∀ H',ixS 1 v' (.int .i64 1) H' = .ok p1 H':=i1 .i64;have d0:=d0 _ (Ext.refl _);have d1:=d1 _ (Ext.refl _);refine nrm_gc ⟨_,?_,hx1⟩ (.int _ _);have or1:=fun H => bin_or Prog 3 H (x * 256) y 8 (by omega) (by omega) (by omega) (by omega) (by omega);simp -implicitDefEqProofs (disch:=omega) [ζf,hp,i0,i1,d0,d1,or1,num];omega
theorem U8_run (k:Nat) {H:Heap} {v:Value} {b:List Int} (hv:Sl H 1 v encB b) (hb:Byt b) (i:Int) (hl:b.length < 2 ^ 62):R (T k) F.ζ4r [.agg #[v],.int .i64 i] H = orF (uS b i 1) (.int .i64) H:=by
 rw [ζmi];have hx1:Ext H (H.push ⟨[v],1,false⟩):=(Ext.refl H).push _;have hp:=ζgt k (hv.up hx1) i 1 hl;unfold uS;cases h:pieceS b i 1 with
 | none =>
  rw [h] at hp;refine ζ1o ⟨_,?_,hx1⟩ Flat.fail.alive;simp -implicitDefEqProofs (disch:=omega) [ζ4r,hp]
 | some l =>
  have hsl:=ζ48 (hv.up hx1) h;generalize subV 1 v i.toNat (1:Int).toNat = v' at hp hsl;obtain ⟨x,rfl⟩:=one_of (ζ3l h);rw [h] at hp;have hx:=(hb.piece h).1 x (by simp);obtain ⟨p0,i0,d0⟩:=hsl.ix1 encB_len 0 x rfl _ rfl;have i0:∀ H',ixS 1 v' (.int .i64 0) H' = .ok p0 H':=i0 .i64;have d0:=d0 _ (Ext.refl _);refine nrm_gc ⟨_,?_,hx1⟩ (.int _ _);simp -implicitDefEqProofs (disch:=omega) [ζ4r,hp,i0,d0,num]
theorem U32_run (k:Nat) {H:Heap} {v:Value} {b:List Int} (hv:Sl H 1 v encB b) (hb:Byt b) (i:Int) (hl:b.length < 2 ^ 62):R (T k) F.ζ1a [.agg #[v],.int .i64 i] H = orF (uS b i 4) (.int .i64) H:=by
 rw [ζl3];have hx1:Ext H (H.push ⟨[v],1,false⟩):=(Ext.refl H).push _;have hp:=ζgt k (hv.up hx1) i 4 hl;unfold uS;cases h:pieceS b i 4 with
 | none =>
  rw [h] at hp;refine ζ1o ⟨_,?_,hx1⟩ Flat.fail.alive;simp -implicitDefEqProofs (disch:=omega) [ζ1a,hp]
 | some l =>
  have hsl:=ζ48 (hv.up hx1) h;generalize subV 1 v i.toNat (4:Int).toNat = v' at hp hsl;obtain ⟨x,y,z,u,rfl⟩:=four_of (ζ3l h);rw [h] at hp;have hx:=(hb.piece h).1 x (by simp);have hy:=(hb.piece h).1 y (by simp);have hz:=(hb.piece h).1 z (by simp);have hu:=(hb.piece h).1 u (by simp);obtain ⟨p0,i0,d0⟩:=hsl.ix1 encB_len 0 x rfl _ rfl;have i0:∀ H',ixS 1 v' (.int .i64 0) H' = .ok p0 H':=i0 .i64;have d0:=d0 _ (Ext.refl _);obtain ⟨p1,i1,d1⟩:=hsl.ix1 encB_len 1 y rfl _ rfl;have i1:∀ H',ixS 1 v' (.int .i64 1) H' = .ok p1 H':=i1 .i64;have d1:=d1 _ (Ext.refl _);obtain ⟨p2,i2,d2⟩:=hsl.ix1 encB_len 2 z rfl _ rfl;have i2:∀ H',ixS 1 v' (.int .i64 2) H' = .ok p2 H':=i2 .i64;have d2:=d2 _ (Ext.refl _);obtain ⟨p3,i3,d3⟩:=hsl.ix1 encB_len 3 u rfl _ rfl;have i3:∀ H',ixS 1 v' (.int .i64 3) H' = .ok p3 H':=i3 .i64;have d3:=d3 _ (Ext.refl _);refine nrm_gc ⟨_,?_,hx1⟩ (.int _ _);have or1:=fun H => bin_or Prog 3 H (x * 16777216) (y * 65536) 24 (by omega) (by omega) (by omega) (by omega) (by omega);have or2:=fun H => bin_or Prog 3 H (x * 16777216 + y * 65536) (z * 256) 16 (by omega) (by omega) (by omega) (by omega) (by omega);have or3:=fun H => bin_or Prog 3 H (x * 16777216 + y * 65536 + z * 256) u 8 (by omega) (by omega) (by omega) (by omega) (by omega);simp -implicitDefEqProofs (disch:=omega) [ζ1a,hp,i0,i1,i2,i3,d0,d1,d2,d3,or1,or2,or3,num];omega
theorem uS_two {b:List Int} (hb:Byt b) {i x:Int} (h:uS b i 2 = some x):0 ≤ x ∧ x < 65536:=by
 unfold uS at h;obtain ⟨l,hl,rfl⟩:=Option.map_eq_some_iff.1 h;obtain ⟨x,y,rfl⟩:=two_of (ζ3l hl);have hx:=(hb.piece hl).1 x (by simp);have hy:=(hb.piece hl).1 y (by simp);simp [num];omega
theorem uS_four {b:List Int} (hb:Byt b) {i x:Int} (h:uS b i 4 = some x):0 ≤ x ∧ x < 4294967296:=by
 unfold uS at h;obtain ⟨l,hl,rfl⟩:=Option.map_eq_some_iff.1 h;obtain ⟨x,y,z,u,rfl⟩:=four_of (ζ3l hl);have hx:=(hb.piece hl).1 x (by simp);have hy:=(hb.piece hl).1 y (by simp);have hz:=(hb.piece hl).1 z (by simp);have hu:=(hb.piece hl).1 u (by simp);simp [num];omega
theorem Cut_run (k:Nat) {H:Heap} {v:Value} {b:List Int} (hv:Sl H 1 v encB b) (i n:Int) (hl:b.length < 2 ^ 62):R (T k) F.ζ2m [.agg #[v],.int .i64 i,.int .i64 n] H = orF (pieceS b i n) (fun _ => .agg #[subV 1 v i.toNat n.toNat]) H:=by
 rw [ζl0];have hx2:Ext H ((H.push ⟨[v],1,false⟩).push ⟨[.slice none 0 0],1,false⟩):=((Ext.refl H).push _).push _;have hp:=ζgt k (hv.up hx2) i n hl;cases h:pieceS b i n with
 | none =>
  rw [h] at hp;refine ζ1o ⟨_,?_,hx2⟩ Flat.fail.alive;simp -implicitDefEqProofs (disch:=omega) [ζ2m,hp]
 | some l =>
  rw [h] at hp;have hs:=ζ48 hv h;generalize subV 1 v i.toNat n.toNat = v' at hp hs ⊢;refine nrm_gc ⟨_,?_,((Ext.refl H).push ⟨[v],1,false⟩).push ⟨[v'],1,false⟩⟩ (.agg _ fun i u hu => ?_)
  ·simp -implicitDefEqProofs (disch:=omega) [ζ2m,hp,hs.storable,hs.cells]
  ·match i,hu with
   | 0,hu => simp at hu; subst hu; exact hs.alive fun _ _ => .cons (.int _ _) .nil
   | i + 1,hu => simp at hu
def restS (b:List Int) (i:Int):Option (List Int):=if 0 ≤ i ∧ i ≤ b.length then some (b.drop i.toNat) else none
theorem ζq7 (b:List Int) (i n:Int) (hn:0 ≤ n) (h:0 ≤ i → n = max (b.length - i) 0):pieceS b i n = restS b i:=by
 unfold pieceS restS;by_cases h0:0 ≤ i
 ·have:=h h0;subst this;by_cases h1:i ≤ b.length
  ·rw [if_pos ⟨h0,by omega,h1,by omega⟩,if_pos ⟨h0,h1⟩,List.take_of_length_le (by simp; omega)]
  ·rw [if_neg (by omega),if_neg (by omega)]
 ·rw [if_neg (by omega),if_neg (by omega)]
theorem ζry {H:Heap} {v:Value} (h:Alive H v):Alive H (.agg #[v]):=.agg _ fun i u hu => by
 match i,hu with
 | 0,hu => simp at hu; subst hu; exact h
 | i + 1,hu => simp at hu
theorem Sl.vw {H:Heap} {v:Value} {b:List Int} (hv:Sl H 1 v encB b):Alive H (.agg #[v]):=ζry (hv.alive fun _ _ => .cons (.int _ _) .nil)
def behind (b:List Int) (i:Int):Int:=if 0 > IntKind.i64.wrap ((b.length:Int) - i) then 0 else IntKind.i64.wrap ((b.length:Int) - i)
theorem ζg0 (b:List Int) (i:Int) (hl:b.length < 2 ^ 62) (hi:i ≤ 9223372036854775807):pieceS b i (behind b i) = restS b i:=by
 unfold behind;exact ζq7 b i _ (by split <;> omega) (fun h0 => by rw [wrap_i64 (by omega) (by omega)]; omega)
theorem Rest_run (k:Nat) {H:Heap} {v:Value} {b:List Int} (hv:Sl H 1 v encB b) (i:Int) (hl:b.length < 2 ^ 62) (hi:i ≤ 9223372036854775807):R (T k) F.ζ1k [.agg #[v],.int .i64 i] H = orF (restS b i) (fun _ => .agg #[subV 1 v i.toNat (behind b i).toNat]) H:=by
 rw [ζkg];have hx2:Ext H ((H.push ⟨[v],1,false⟩).push ⟨[.slice none 0 0],1,false⟩):=((Ext.refl H).push _).push _;have hp:=ζgt k (hv.up hx2) i (behind b i) hl;have hlen:=hv.len;have hbp:=ζg0 b i hl hi;cases h:restS b i with
 | none =>
  rw [hbp,h] at hp;unfold behind at hp;refine ζ1o ⟨_,?_,hx2⟩ Flat.fail.alive;simp -implicitDefEqProofs [ζ1k,-wrap_i64,hlen,hp]
 | some l =>
  rw [h] at hbp;have hs:=ζ48 hv hbp;rw [hbp] at hp;generalize subV 1 v i.toNat (behind b i).toNat = v' at hp hs ⊢;unfold behind at hp;refine nrm_gc ⟨_,?_,((Ext.refl H).push ⟨[v],1,false⟩).push ⟨[v'],1,false⟩⟩ hs.vw;simp -implicitDefEqProofs [ζ1k,-wrap_i64,hlen,hp,hs.storable,hs.cells]
def rowsS (b:List Int) (i n s:Int):Option (List Int):=if 0 ≤ n ∧ 0 ≤ s ∧ (s = 0 ∨ n ≤ (b.length:Int) / s) then pieceS b i (n * s) else none
theorem ζ3c {b:List Int} {i n s:Int} {l:List Int} (h:rowsS b i n s = some l):pieceS b i (n * s) = some l:=by
 unfold rowsS at h;split at h
 ·exact h
 ·cases h
theorem Rows_run (k:Nat) {H:Heap} {v:Value} {b:List Int} (hv:Sl H 1 v encB b) (i n s:Int) (hl:b.length < 2 ^ 62):R (T k) F.ζ1d [.agg #[v],.int .i64 i,.int .i64 n,.int .i64 s] H = orF (rowsS b i n s) (fun _ => .agg #[subV 1 v i.toNat (n * s).toNat]) H:=by
 rw [ζkh];have ext:Ext H ((H.push ⟨[v],1,false⟩).push ⟨[.slice none 0 0],1,false⟩):=((Ext.refl H).push _).push _;have hlen:=hv.len;by_cases h1:0 ≤ n
 ·by_cases h2:0 ≤ s
  ·have hcut:=Cut_run k (hv.up ext) i (n * s) hl;by_cases h3:s = 0
   ·subst h3;have e:rowsS b i n 0 = pieceS b i (n * 0):=by rw [rowsS,if_pos ⟨h1,h2,.inl rfl⟩]
    rw [e];cases h:pieceS b i (n * 0) with
    | none =>
     rw [h] at hcut;rw [Int.mul_zero] at hcut;refine ζ1o ⟨_,?_,ext⟩ Flat.fail.alive;simp -implicitDefEqProofs (disch:=omega) [ζ1d,h1,hcut]
    | some l =>
     have hs:=ζ48 hv h;rw [h] at hcut;generalize subV 1 v i.toNat (n * 0).toNat = v' at hcut hs ⊢;rw [Int.mul_zero] at hcut;refine nrm_gc ⟨_,?_,((Ext.refl H).push ⟨[v],1,false⟩).push ⟨[v'],1,false⟩⟩ hs.vw;simp -implicitDefEqProofs (disch:=omega) [ζ1d,h1,hcut]
   ·have hq:((b.length:Int).tdiv s) = (b.length:Int) / s:=Int.tdiv_eq_ediv_of_nonneg (by omega);have hq0:0 ≤ (b.length:Int) / s:=Int.ediv_nonneg (by omega) h2;have hq1:(b.length:Int) / s ≤ b.length:=Int.ediv_le_self _ (by omega);have hb3:(s == 0) = false:=by simpa using h3
    have qr:=fun H => bin_quo Prog 3 H .i64 (b.length:Int) s h3;rw [hq] at qr;by_cases h4:n ≤ (b.length:Int) / s
    ·have e:rowsS b i n s = pieceS b i (n * s):=by rw [rowsS,if_pos ⟨h1,h2,.inr h4⟩]
     have hm:n * s ≤ b.length:=Int.le_trans (Int.mul_le_mul_of_nonneg_right h4 h2) (Int.ediv_mul_le _ h3);have hm0:0 ≤ n * s:=Int.mul_nonneg h1 h2;rw [e];cases h:pieceS b i (n * s) with
     | none =>
      rw [h] at hcut;refine ζ1o ⟨_,?_,ext⟩ Flat.fail.alive;simp -implicitDefEqProofs (disch:=omega) [ζ1d,hlen,h1,h2,hb3,qr,h4,hcut]
     | some l =>
      have hs:=ζ48 hv h;rw [h] at hcut;generalize subV 1 v i.toNat (n * s).toNat = v' at hcut hs ⊢;refine nrm_gc ⟨_,?_,((Ext.refl H).push ⟨[v],1,false⟩).push ⟨[v'],1,false⟩⟩ hs.vw;simp -implicitDefEqProofs (disch:=omega) [ζ1d,hlen,h1,h2,hb3,qr,h4,hcut]
    ·have e:rowsS b i n s = none:=by rw [rowsS,if_neg (by omega)]
     rw [e];refine ζ1o ⟨_,?_,ext⟩ Flat.fail.alive;simp -implicitDefEqProofs (disch:=omega) [ζ1d,hlen,h1,h2,hb3,qr,h4]
  ·have e:rowsS b i n s = none:=by rw [rowsS,if_neg (by omega)]
   rw [e];refine ζ1o ⟨_,?_,ext⟩ Flat.fail.alive;simp -implicitDefEqProofs (disch:=omega) [ζ1d,h1,h2]
 ·have e:rowsS b i n s = none:=by rw [rowsS,if_neg (by omega)]
  rw [e];refine ζ1o ⟨_,?_,ext⟩ Flat.fail.alive;simp -implicitDefEqProofs (disch:=omega) [ζ1d,h1]
theorem Of_run (k:Nat) {H:Heap} {v:Value} {b:List Int} (hv:Sl H 1 v encB b):R (T k) F.view_Of [v] H = .ok (.agg #[v]) H:=by
 rw [ζti];refine nrm_gc ⟨_,?_,(Ext.refl H).push ⟨[v],1,false⟩⟩ hv.vw;simp -implicitDefEqProofs [view_Of,hv.storable,hv.cells]
end Go.Sw
end
section
set_option maxRecDepth 100000
set_option linter.unusedVariables false
namespace Go.Sw
noncomputable section
def ζbl (k:Nat) (call:Caller):Env → Heap → Res (AExit × Env):=loopB (C k) call F.ζ5b [1,1,0,0,0]
def ζh2 (k:Nat) (call:Caller):Kont Value:=kBlock 0 (kSeq (pieceK (C k) call F.ζ5b [1,1,1]) (kDone Prog (resOf Prog F.ζ5b)))
def ζ5b (k:Nat) (call:Caller) (a0 a1:Value) (h:Heap):Res Value :=
 (loopN (ζbl k call) loopFuel [(1,a1),(5,(.int .i64 0)),(6,a0)] h).bind fun r1 h2 =>
 ζh2 k call r1.1 r1.2 h2
theorem ζo7 (k:Nat) (a0 a1:Value) (h:Heap):R (T k) F.ζ5b [a0,a1] h = nrm .gc h (ζ5b k (R (T k)) a0 a1 h) :=
 (R_body (t:=T k) (T_scott k) (by kernel_rfl) (by kernel_rfl) _ _).trans (by kernel_rfl)
theorem ζ82 (k:Nat) (call:Caller) (a1 a5 a6:Value) (h:Heap):ζbl k call [(1,a1),(5,a5),(6,a6)] h =
 (binR Prog .lss 3 a5 a6 h).bind fun v3 h4 =>
 condV (some v3) (
 (binR Prog .sub 3 a6 a5 h4).bind fun v5 h6 =>
 (binR Prog .quo 3 v5 (.int .i64 2) h6).bind fun v7 h8 =>
 (binR Prog .add 3 a5 v7 h8).bind fun v9 h10 =>
 (callV call a1 [v9] h10).bind fun v11 h12 =>
 condV (some v11) (
 .ok (.normal,[(1,a1),(5,a5),(6,v9)]) h12)
 (
 (binR Prog .add 3 v9 (.int .i64 1) h12).bind fun v13 h14 =>
 .ok (.normal,[(1,a1),(5,v13),(6,a6)]) h14))
 (
 .ok ((.exit 0),[(1,a1),(5,a5),(6,a6),(11,v3)]) h4) :=
 (loopB_eq _ _).trans (by kernel_rfl)
theorem ζi6 (k:Nat) (call:Caller) (a1 a5 a6 a11:Value) (h:Heap):ζh2 k call (.exit 0) [(1,a1),(5,a5),(6,a6),(11,a11)] h =
 .ok a5 h:=by kernel_rfl
def ζal (k:Nat) (call:Caller):Env → Heap → Res (AExit × Env):=loopB (C k) call F.ζ2q [1,1,1,1,1,1,0,1,0,0]
def ζi0 (k:Nat) (call:Caller):Kont Value:=kBlock 0 (kSeq (pieceK (C k) call F.ζ2q [1,1,1,1,1,1,1]) (kDone Prog (resOf Prog F.ζ2q)))
def ζ2q (k:Nat) (call:Caller) (a0 a1 a2 a3:Value) (h:Heap):Res Value :=
 (boxR a0 h).bind fun v1 h2 =>
 (loadR Prog 75 v1 h2).bindN fun v3 h4 =>
 (call F.ζf [v3,a1] h4).bindT (fun p7 h8 => (loadR Prog 75 v1 h4).bindN fun v9 h10 => (binR Prog .add 3 a1 (.int .i64 2) h10).bindN fun v11 h12 => chkR ((okVal (loadR Prog 75 v1 h2) v9 && true) && true) (.panic p7 h8)) fun v5 h6 =>
 (loadR Prog 75 v1 h6).bindN fun v13 h14 =>
 (binR Prog .add 3 a1 (.int .i64 2) h14).bindN fun v15 h16 =>
 (call F.ζf [v13,v15] h16).bindT (fun p19 h20 => chkR ((okVal (loadR Prog 75 v1 h2) v13 && true) && true) (.panic p19 h20)) fun v17 h18 =>
 chkR ((okVal (loadR Prog 75 v1 h2) v13 && true) && true) (
 (loadR Prog 75 v1 h18).bind fun v21 h22 =>
 (call F.ζ2m [v21,a1,(.int .i64 10)] h22).bind fun v23 h24 =>
 (binR Prog .geq 3 v5 a2 h24).bind fun v25 h26 =>
 (call F.ζ2x [v25] h26).bind fun v27 h28 =>
 (loadR Prog 75 v1 h28).bind fun v29 h30 =>
 (binR Prog .add 3 a1 (.int .i64 10) h30).bind fun v31 h32 =>
 (call F.ζ1d [v29,v31,v17,v5] h32).bind fun v33 h34 =>
 (allocR Prog 75 h34).bind fun v35 h36 =>
 (storeR Prog 75 v35 v33 h36).bind fun _v37 h38 =>
 (loopN (ζal k call) loopFuel [(3,a3),(9,v5),(10,v17),(11,v35),(12,(.slice none 0 0)),(34,v17),(35,(.int .i64 0))] h38).bind fun r39 h40 =>
 ζi0 k call r39.1 r39.2 h40)
theorem ζq9 (k:Nat) (a0 a1 a2 a3:Value) (h:Heap):R (T k) F.ζ2q [a0,a1,a2,a3] h = nrm .fz h (ζ2q k (R (T k)) a0 a1 a2 a3 h) :=
 (R_body (t:=T k) (T_scott k) (by kernel_rfl) (by kernel_rfl) _ _).trans (by kernel_rfl)
theorem ζfw (k:Nat) (call:Caller) (a3 a9 a10 a11 a12 a34 a35:Value) (h:Heap):ζal k call [(3,a3),(9,a9),(10,a10),(11,a11),(12,a12),(34,a34),(35,a35)] h =
 (binR Prog .lss 3 a35 a34 h).bind fun v41 h42 =>
 condV (some v41) (
 (loadR Prog 75 a11 h42).bind fun v43 h44 =>
 (binR Prog .mul 3 a9 a35 h44).bind fun v45 h46 =>
 (call F.ζ2m [v43,v45,a9] h46).bind fun v47 h48 =>
 (buildSliceR Prog 309 1 [(0,v47)] h48).bind fun v49 h50 =>
 (builtinV Prog .append [309,309] [a12,v49] h50).bind fun v51 h52 =>
 (binR Prog .add 3 a35 (.int .i64 1) h52).bind fun v53 h54 =>
 .ok (.normal,[(3,a3),(9,a9),(10,a10),(11,a11),(12,v51),(34,a34),(35,v53)]) h54)
 (
 .ok ((.exit 0),[(3,a3),(9,a9),(10,a10),(11,a11),(12,a12),(34,a34),(35,a35),(36,v41)]) h42) :=
 (loopB_eq _ _).trans (by kernel_rfl)
theorem ζ83 (k:Nat) (call:Caller) (a3 a9 a10 a11 a12 a34 a35 a36:Value) (h:Heap):ζi0 k call (.exit 0) [(3,a3),(9,a9),(10,a10),(11,a11),(12,a12),(34,a34),(35,a35),(36,a36)] h =
 (binR Prog .gtr 3 a10 (.int .i64 0) h).bind fun v55 h56 =>
 ((bif wantVal v55 true then Res.ok a12 h56 else Res.ok undef h56)).bind fun v57 h58 =>
 ((bif wantVal v55 true then Res.ok a10 h58 else Res.ok undef h58)).bind fun v59 h60 =>
 ((bif wantVal v55 true then binR Prog .sub 3 v59 (.int .i64 1) h60 else Res.ok undef h60)).bind fun v61 h62 =>
 ((bif wantVal v55 true then indexAddrR Prog 309 v57 v61 h62 else Res.ok undef h62)).bind fun v63 h64 =>
 ((bif wantVal v55 true then loadR Prog 75 v63 h64 else Res.ok undef h64)).bind fun v65 h66 =>
 ((bif wantVal v55 true then Res.ok a3 h66 else Res.ok undef h66)).bind fun v67 h68 =>
 ((bif wantVal v55 true then call F.ζ7o [v65,v67] h68 else Res.ok undef h68)).bind fun v69 h70 =>
 (condV (some v55) (Res.ok v69 h70) (Res.ok (.bool false) h70)).bind fun v71 h72 =>
 condV (some v71) (
 (binR Prog .sub 3 a10 (.int .i64 1) h72).bind fun v73 h74 =>
 (sliceR Prog 309 a12 none (some v73) none h74).bind fun v75 h76 =>
 .ok v75 h76)
 (
 .ok a12 h72):=by kernel_rfl
def ζg9 (k:Nat) (call:Caller):Env → Heap → Res (AExit × Env):=loopB (C k) call F.ζ7o [1,0,1,0,0]
def ζbm (k:Nat) (call:Caller):Kont Value:=kBlock 0 (kSeq (pieceK (C k) call F.ζ7o [1,1]) (kDone Prog (resOf Prog F.ζ7o)))
def ζ7o (k:Nat) (call:Caller) (a0 a1:Value) (h:Heap):Res Value :=
 (boxR a0 h).bind fun v1 h2 =>
 (loopN (ζg9 k call) loopFuel [(2,v1),(6,a1),(7,(.int .i64 0))] h2).bind fun r3 h4 =>
 ζbm k call r3.1 r3.2 h4
theorem ζqa (k:Nat) (a0 a1:Value) (h:Heap):R (T k) F.ζ7o [a0,a1] h = nrm .gc h (ζ7o k (R (T k)) a0 a1 h) :=
 (R_body (t:=T k) (T_scott k) (by kernel_rfl) (by kernel_rfl) _ _).trans (by kernel_rfl)
theorem ζ9a (k:Nat) (call:Caller) (a2 a6 a7:Value) (h:Heap):ζg9 k call [(2,a2),(6,a6),(7,a7)] h =
 (binR Prog .lss 3 a7 a6 h).bind fun v5 h6 =>
 condV (some v5) (
 (loadR Prog 75 a2 h6).bind fun v7 h8 =>
 (binR Prog .mul 3 (.int .i64 2) a7 h8).bind fun v9 h10 =>
 (call F.ζf [v7,v9] h10).bind fun v11 h12 =>
 (binR Prog .neq 3 v11 (.int .i64 65535) h12).bind fun v13 h14 =>
 condV (some v13) (
 .ok (.ret,[(4,(.bool false))]) h14)
 (
 (binR Prog .add 3 a7 (.int .i64 1) h14).bind fun v15 h16 =>
 .ok (.normal,[(2,a2),(6,a6),(7,v15)]) h16))
 (
 .ok ((.exit 0),[(2,a2),(6,a6),(7,a7),(8,v5)]) h6) :=
 (loopB_eq _ _).trans (by kernel_rfl)
theorem ζkw (k:Nat) (call:Caller) (a4:Value) (h:Heap):ζbm k call .ret [(4,a4)] h =
 .ok a4 h:=by kernel_rfl
theorem ζk5 (k:Nat) (call:Caller) (a2 a6 a7 a8:Value) (h:Heap):ζbm k call (.exit 0) [(2,a2),(6,a6),(7,a7),(8,a8)] h =
 .ok (.bool true) h:=by kernel_rfl
end
end Go.Sw
end
section
namespace Go.Sw
open Go.RowKit
def Asks (k:Nat) (f:Value) (n:Nat) (p:Nat → Bool) (H:Heap):Prop:=∀ j:Nat,j < n → callV (R (T k)) f [.int .i64 j] H = .ok (.bool (p j)) H
def IsFirst (n:Nat) (p:Nat → Bool) (i:Nat):Prop:=i ≤ n ∧ (∀ j,j < i → p j = false) ∧ ∀ j,i ≤ j → j < n → p j = true
theorem ζrw (k:Nat) (n:Nat) (f:Value) (p:Nat → Bool) (H:Heap) (hn:n < 2 ^ 62) (hf:Asks k f n p H) (hm:∀ i j,i ≤ j → j < n → p i = true → p j = true) (i:Nat) (hi:IsFirst n p i) :
  R (T k) F.ζ5b [.int .i64 n,f] H = .ok (.int .i64 i) H:=by
 rw [ζo7];refine nrm_gc (Pure.of ?_) (.int _ _)
 obtain ⟨x,e',H1,hr,rfl,rfl,a,rfl⟩:=loopDec (body:=ζbl k (R (T k)))
  (fun m e H' => H' = H ∧ ∃ lo hi:Nat,m = hi - lo ∧ e = [(1,f),(5,.int .i64 lo),(6,.int .i64 hi)] ∧ lo ≤ i ∧ i ≤ hi ∧ hi ≤ n)
  (fun x e H' => H' = H ∧ x = .exit 0 ∧ ∃ a,e = [(1,f),(5,.int .i64 i),(6,.int .i64 i),(11,a)])
  (e0:=[(1,f),(5,.int .i64 0),(6,.int .i64 n)]) (H0:=H) n ⟨rfl,0,n,by omega,rfl,by omega,hi.1,Nat.le_refl _⟩ (by omega)
  (fun m e H' ⟨hH,lo,hg,hmm,he,h1,h2,h3⟩ => by
   subst hH he;by_cases hlt:lo < hg
   ·have hlt':(lo:Int) < hg:=by omega
    obtain ⟨d,hd1,hd2⟩:∃ d,2 * d ≤ hg - lo ∧ hg - lo < 2 * d + 2:=⟨(hg - lo) / 2,by omega,by omega⟩
    have hmid:(((hg:Int) - lo).tdiv 2) = (d:Nat):=by
     rw [Int.tdiv_eq_ediv_of_nonneg (by omega)]; omega
    have q:=bin_quo Prog 3 H' .i64 ((hg:Int) - lo) 2 (by decide);rw [hmid] at q;have ha:=hf (lo + d) (by omega);rw [show (((lo + d:Nat):Nat):Int) = (lo:Int) + (d:Nat) by omega] at ha;have hle:((d:Nat):Int) ≤ hg - lo:=by omega
    refine .inl ?_;cases hp:p (lo + d) with
    | true =>
     rw [hp] at ha;refine ⟨(lo + d) - lo,_,H',?_,by omega,rfl,lo,lo + d,rfl,rfl,h1,?_,by omega⟩
     ·rw [ζ82];simp -implicitDefEqProofs (disch:=omega) [hlt',q,ha]
     ·rcases Nat.lt_or_ge (lo + d) i with h | h
      ·rw [hi.2.1 _ h] at hp; cases hp
      ·exact h
    | false =>
     rw [hp] at ha;refine ⟨hg - (lo + d + 1),_,H',?_,by omega,rfl,lo + d + 1,hg,rfl,rfl,?_,h2,h3⟩
     ·rw [ζ82];simp -implicitDefEqProofs (disch:=omega) [hlt',q,ha]
     ·rcases Nat.lt_or_ge (lo + d) i with h | h
      ·exact h
      ·rw [hi.2.2 _ h (by omega)] at hp; cases hp
   ·have hlt':¬ (lo:Int) < hg:=by omega
    have e1:lo = i:=by omega
    have e2:hg = i:=by omega
    subst e1;rw [e2];refine .inr ⟨.exit 0,_,H',?_,by simp,rfl,rfl,.bool false,rfl⟩;rw [ζ82];simp -implicitDefEqProofs (disch:=omega))
 simp -implicitDefEqProofs (disch:=omega) [ζ5b,hr,ζi6]
theorem ζr1 (n:Nat) (p:Nat → Bool) (hm:∀ i j,i ≤ j → j < n → p i = true → p j = true):∃ i,IsFirst n p i:=by
 induction n with
 | zero => exact ⟨0,Nat.le_refl _,fun j h => by omega,fun j h1 h2 => by omega⟩
 | succ n ih =>
  obtain ⟨i,h1,h2,h3⟩:=ih fun a b hab hb => hm a b hab (by omega);by_cases hi:i < n
  ·exact ⟨i,by omega,h2,fun j hj hn => by
    by_cases he:j = n
    ·subst he; exact hm i j hj hn (h3 i (Nat.le_refl _) hi)
    ·exact h3 j hj (by omega)⟩
  ·have:i = n:=by omega
   subst this;cases hp:p i with
   | true => exact ⟨i,by omega,h2,fun j hj hn => by rw [show j = i by omega]; exact hp⟩
   | false => exact ⟨i + 1,Nat.le_refl _,fun j hj => by
     by_cases he:j = i
     ·subst he; exact hp
     ·exact h2 j (by omega),fun j h1 h2 => by omega⟩
def noneS (l:List Int) (keys:Nat):Bool:=(List.range keys).all fun j => uS l (2 * j) 2 == some 65535
theorem none_run (k:Nat) {H:Heap} {v:Value} {l:List Int} (hv:Sl H 1 v encB l) (hb:Byt l) (keys:Nat) (hl:l.length < 2 ^ 62) (hk:2 * keys ≤ l.length):R (T k) F.ζ7o [.agg #[v],.int .i64 keys] H = .ok (.bool (noneS l keys)) H:=by
 rw [ζqa]
 obtain ⟨x,e',H1,hr,hH,hq⟩:=loop_up (body:=ζg9 k (R (T k))) keys
  (fun j e H' => H' = H.push ⟨[v],1,false⟩ ∧ (∀ i,i < j → uS l (2 * (i:Nat)) 2 = some 65535) ∧ e = [(2,.pointer (some ⟨H.n,0,none⟩)),(6,.int .i64 keys),(7,.int .i64 j)])
  (fun x e H' => H' = H.push ⟨[v],1,false⟩ ∧ ((x = .ret ∧ e = [(4,.bool false)] ∧ noneS l keys = false) ∨ (∃ a,x = .exit 0 ∧ e = [(2,.pointer (some ⟨H.n,0,none⟩)),(6,.int .i64 keys),(7,.int .i64 keys),(8,a)] ∧ noneS l keys = true)))
  (e0:=[(2,.pointer (some ⟨H.n,0,none⟩)),(6,.int .i64 keys),(7,.int .i64 0)]) (H0:=H.push ⟨[v],1,false⟩) ⟨rfl,fun i h => by omega,rfl⟩ (by omega)
  (fun j e H' hj ⟨hH,ha,he⟩ => by
   subst he hH;have hlt:(j:Int) < keys:=by omega
   have hu:=U16_run k (hv.up ((Ext.refl H).push ⟨[v],1,false⟩)) hb (2 * (j:Int)) hl;obtain ⟨x,hx⟩:∃ x,uS l (2 * (j:Int)) 2 = some x:=by
    unfold uS pieceS;rw [if_pos (by omega)];exact ⟨_,rfl⟩
   rw [hx] at hu;by_cases he:x = 65535
   ·subst he;refine .inl ⟨_,_,?_,rfl,fun i hi => ?_,rfl⟩
    ·rw [ζ9a];simp -implicitDefEqProofs (disch:=omega) [hlt,hu]
    ·by_cases hij:i = j
     ·subst hij; exact hx
     ·exact ha i (by omega)
   ·refine .inr ⟨.ret,_,_,?_,by simp,rfl,.inl ⟨rfl,rfl,?_⟩⟩
    ·have hne:(x != 65535) = true:=by simpa using he
     rw [ζ9a];simp -implicitDefEqProofs (disch:=omega) [hlt,hu,hne]
    ·unfold noneS;rw [List.all_eq_false];exact ⟨j,List.mem_range.2 hj,by rw [hx]; simpa using he⟩)
  (fun e H' ⟨hH,ha,he⟩ => by
   subst he hH;refine ⟨.exit 0,_,_,?_,by simp,rfl,.inr ⟨.bool false,rfl,rfl,?_⟩⟩
   ·rw [ζ9a];simp -implicitDefEqProofs
   ·unfold noneS;rw [List.all_eq_true];intro i hi;rw [ha i (List.mem_range.1 hi)];rfl)
 subst hH;refine nrm_gc ⟨_,?_,(Ext.refl H).push ⟨[v],1,false⟩⟩ (.bool _);rcases hq with ⟨rfl,rfl,hn⟩ | ⟨a,rfl,rfl,hn⟩ <;> simp -implicitDefEqProofs (disch:=omega) [ζ7o,boxR_vw,hr,ζkw,ζk5,hn]
abbrev encW (u:Value):List Value:=[u]
theorem encW_len (u:Value):(encW u).length = 1:=rfl
def cutRows (r:List Int) (z n:Nat):List (List Int):=(List.range n).map fun i => (r.drop (z * i)).take z
@[simp] theorem ζu2 (r:List Int) (z n:Nat):(cutRows r z n).length = n:=by simp [cutRows]
theorem ζ45 (r:List Int) (z n i:Nat) (h:i < n):(cutRows r z n)[i]? = some ((r.drop (z * i)).take z):=by simp [cutRows,h]
def endRows (r:List Int) (z n keys:Nat):List (List Int):=if 0 < n ∧ noneS ((r.drop (z * (n - 1))).take z) keys = true then cutRows r z (n - 1) else cutRows r z n
def takeS (b:List Int) (i need:Int) (keys:Nat):Option (List (List Int)) :=
 match uS b i 2,uS b (i + 2) 2 with
 | some z,some n => if (pieceS b i 10).isSome ∧ need ≤ z then (rowsS b (i + 10) n z).map fun r => endRows r z.toNat n.toNat keys else none
 | _,_ => none
def cutV (r:Value) (z n:Nat):List Value:=(List.range n).map fun i => subV 1 r (z * i) z
@[simp] theorem cutV_len (r:Value) (z n:Nat):(cutV r z n).length = n:=by simp [cutV]
theorem ζod (r:Value) (z n:Nat):cutV r z (n + 1) = cutV r z n ++ [subV 1 r (z * n) z]:=by simp [cutV,List.range_succ]
theorem cutV_get (r:Value) (z n i:Nat) (h:i < n):(cutV r z n)[i]? = some (subV 1 r (z * i) z):=by simp [cutV,h]
theorem ζoe (r:Value) (z n:Nat):(cutV r z n).take (n - 1) = cutV r z (n - 1):=by
 cases n with
 | zero => rfl
 | succ n => rw [ζod]; simp
theorem cutV_sl {H:Heap} {rv:Value} {r:List Int} (hv:Sl H 1 rv encB r) (z n i:Nat) (hr:r.length = n * z) (h:i < n):Sl H 1 (subV 1 rv (z * i) z) encB ((r.drop (z * i)).take z):=by
 have hzi:z * i + z ≤ r.length:=by
  rw [hr,← Nat.mul_succ,Nat.mul_comm];exact Nat.mul_le_mul_right _ h
 exact (hv.sub encB_len .i64 .i64 .i64 (z * i) z hzi).2
theorem ζrx (k:Nat) {rv:Value} (r:List Int) (keys z n:Nat) (hr:r.length = n * z) (hz:z < 65536) (hn:n < 65536) (p:Nat) {H:Heap} (hv:Sl H 1 rv encB r) (hp:H.get p = some ⟨[rv],1,false⟩) :
  ∃ s H',loopN (ζal k (R (T k))) loopFuel [(3,.int .i64 keys),(9,.int .i64 z),(10,.int .i64 n),(11,.pointer (some ⟨p,0,none⟩)),(12,.slice none 0 0),(34,.int .i64 n),(35,.int .i64 0)] H =
   .ok (.exit 0,[(3,.int .i64 keys),(9,.int .i64 z),(10,.int .i64 n),(11,.pointer (some ⟨p,0,none⟩)),(12,s),(34,.int .i64 n),(35,.int .i64 n),(36,.bool false)]) H' ∧ Own H H' 1 s encW (cutV rv z n) ∧ Ext H H':=by
 have hlen:r.length < 2 ^ 62:=by
  have:n * z ≤ 65536 * 65536:=Nat.mul_le_mul (by omega) (by omega);omega
 obtain ⟨x,e',H',hr',s,rfl,rfl,ho,hx⟩:=loop_up (body:=ζal k (R (T k))) n
  (fun i e H' => ∃ s,e = [(3,.int .i64 keys),(9,.int .i64 z),(10,.int .i64 n),(11,.pointer (some ⟨p,0,none⟩)),(12,s),(34,.int .i64 n),(35,.int .i64 i)] ∧ Own H H' 1 s encW (cutV rv z i) ∧ Ext H H')
  (fun x e H' => ∃ s,x = .exit 0 ∧ e = [(3,.int .i64 keys),(9,.int .i64 z),(10,.int .i64 n),(11,.pointer (some ⟨p,0,none⟩)),(12,s),(34,.int .i64 n),(35,.int .i64 n),(36,.bool false)] ∧ Own H H' 1 s encW (cutV rv z n) ∧ Ext H H')
  (e0:=[(3,.int .i64 keys),(9,.int .i64 z),(10,.int .i64 n),(11,.pointer (some ⟨p,0,none⟩)),(12,.slice none 0 0),(34,.int .i64 n),(35,.int .i64 0)]) (H0:=H) ⟨_,rfl,Own.nil _ _ _,Ext.refl H⟩ (by omega)
  (fun i e H' hi ⟨s,he,ho,hx⟩ => by
   subst he;have hlt:(i:Int) < n:=by omega
   have hpg:=hx.get hp;have hzi:z * i + z ≤ r.length:=by
    rw [hr,← Nat.mul_succ,Nat.mul_comm];exact Nat.mul_le_mul_right _ hi
   have hcut:=Cut_run k (hv.up hx) ((z:Int) * i) z hlen;have e1:((z:Int) * i) = ((z * i:Nat):Int):=by simp
   have hps:pieceS r ((z:Int) * i) z = some ((r.drop (z * i)).take z):=by
    rw [e1,pieceS,if_pos (by omega),Int.toNat_natCast,Int.toNat_natCast]
   have e2:((z:Int) * i).toNat = z * i:=by rw [e1,Int.toNat_natCast]
   rw [hps,e2,Int.toNat_natCast] at hcut;have hmul:((z:Int) * i) ≤ 9223372036854775807:=by omega
   have hmul0:0 ≤ ((z:Int) * i):=Int.mul_nonneg (by omega) (by omega);have hsl:=cutV_sl hv z n i hr hi;obtain ⟨s',H2,e3,o1,x1⟩:=ap1_own (bytes:=24) encW_len ho hx (subV 1 rv (z * i) z) (by simp; omega) (by decide);refine .inl ⟨_,H2,?_,s',rfl,by rw [ζod]; exact o1,x1⟩;rw [ζfw];generalize subV 1 rv (z * i) z = u at hcut hsl e3;simp -implicitDefEqProofs (disch:=omega) [hlt,hpg,hcut,e3])
  (fun e H' ⟨s,he,ho,hx⟩ => by
   subst he;refine ⟨.exit 0,_,H',?_,by simp,s,rfl,rfl,ho,hx⟩;rw [ζfw];simp -implicitDefEqProofs (disch:=omega))
 exact ⟨s,H',hr',ho,hx⟩
def rowsV (v:Value) (b:List Int) (i:Int):Value:=subV 1 v (i + 10).toNat (((uS b (i + 2) 2).getD 0) * ((uS b i 2).getD 0)).toNat
def rowZ (b:List Int) (i:Int):Nat:=((uS b i 2).getD 0).toNat
theorem cutV_fz {H0 H:Heap} {rv:Value} (h:Firm H0 rv) (z n d:Nat):∀ x,x ∈ cutV rv z n → ∀ v,v ∈ encW x → fzV H0.n H (d + 1) v = some (v,[]):=fun x hx v hv => by
 simp at hv;subst hv;obtain ⟨i,_,rfl⟩:=List.mem_map.1 hx;exact (h.sub 1 _ _).fz d
theorem ζj2 {H:Heap} {rv:Value} {r:List Int} (hv:Sl H 1 rv encB r) (z n m:Nat) (hr:r.length = n * z) (hm:m ≤ n):Alive H (lv encW (cutV rv z m)):=.list _ _ _ _ _ fun i u hu => by
 have hu:(rows encW (cutV rv z m))[i]? = some u:=by simpa using hu
 have:rows encW (cutV rv z m) = cutV rv z m:=by simp [rows]
 rw [this] at hu;have hi:=(List.getElem?_eq_some_iff.1 hu).1;simp at hi;rw [cutV_get _ _ _ _ hi] at hu;injection hu with hu; subst hu;exact (cutV_sl hv z n i hr (by omega)).alive fun _ _ => .cons (.int _ _) .nil
theorem Take_run (k:Nat) {H:Heap} {v:Value} {b:List Int} (hv:Sl H 1 v encB b) (hb:Byt b) (i need:Int) (keys:Nat) (hl:b.length < 2 ^ 31) (hi0:-4294967296 ≤ i) (hi:i < 4294967296) (hk:2 * (keys:Int) ≤ need) :
  R (T k) F.ζ2q [.agg #[v],.int .i64 i,.int .i64 need,.int .i64 keys] H = orF (takeS b i need keys) (fun l => lv encW (cutV (rowsV v b i) (rowZ b i) l.length)) H:=by
 rw [ζq9];have ext1:Ext H (H.push ⟨[v],1,false⟩):=(Ext.refl H).push _;have hu1:=U16_run k (hv.up ext1) hb i (by omega);have hu2:=U16_run k (hv.up ext1) hb (i + 2) (by omega);have hcut:=Cut_run k (hv.up ext1) i 10 (by omega);have hq:veq v v = true:=hv.veq fun n _ u hu => by simp at hu; subst hu; simp
 have hqa:veq (.agg #[v]) (.agg #[v]) = true:=veq_agg (l:=[v]) fun u hu => by simp at hu; subst hu; exact hq
 cases h1:uS b i 2 with
 | none =>
  have e:takeS b i need keys = none:=by unfold takeS; rw [h1]
  rw [h1] at hu1;rw [e];refine ζ1o ⟨_,?_,ext1⟩ Flat.fail.alive;simp -implicitDefEqProofs (disch:=omega) [ζ2q,hqa,hu1]
 | some z =>
  have hz:=uS_two hb h1;rw [h1] at hu1;cases h2:uS b (i + 2) 2 with
  | none =>
   have e:takeS b i need keys = none:=by unfold takeS; rw [h1,h2]
   rw [h2] at hu2;rw [e];refine ζ1o ⟨_,?_,ext1⟩ Flat.fail.alive;simp -implicitDefEqProofs (disch:=omega) [ζ2q,hqa,hu1,hu2]
  | some n =>
   have hn:=uS_two hb h2;rw [h2] at hu2;cases h3:pieceS b i 10 with
   | none =>
    have e:takeS b i need keys = none:=by unfold takeS; rw [h1,h2]; simp [h3]
    rw [h3] at hcut;rw [e];refine ζ1o ⟨_,?_,ext1⟩ Flat.fail.alive;simp -implicitDefEqProofs (disch:=omega) [ζ2q,hqa,hu1,hu2,hcut]
   | some c =>
    rw [h3] at hcut;by_cases h4:need ≤ z
    ·have hrows:=Rows_run k (hv.up ext1) (i + 10) n z (by omega);cases h5:rowsS b (i + 10) n z with
     | none =>
      have e:takeS b i need keys = none:=by unfold takeS; rw [h1,h2]; simp [h3,h4,h5]
      rw [h5] at hrows;rw [e];refine ζ1o ⟨_,?_,ext1⟩ Flat.fail.alive;simp -implicitDefEqProofs (disch:=omega) [ζ2q,hqa,hu1,hu2,hcut,h4,hrows]
     | some r =>
      have e:takeS b i need keys = some (endRows r z.toNat n.toNat keys):=by unfold takeS; rw [h1,h2]; simp [h3,h4,h5]
      rw [h5] at hrows;rw [e];obtain ⟨z,rfl⟩:=Int.eq_ofNat_of_zero_le hz.1;obtain ⟨n,rfl⟩:=Int.eq_ofNat_of_zero_le hn.1;rw [Int.toNat_natCast,Int.toNat_natCast];have hp5:pieceS b (i + 10) ((n:Int) * z) = some r:=by
       unfold rowsS at h5;split at h5
       ·exact h5
       ·cases h5
      have hrl:r.length = n * z:=by have:=ζ3l hp5; exact_mod_cast this
      have hrb:=(hb.piece hp5).1;have hrv:rowsV v b i = subV 1 v (i + 10).toNat ((n:Int) * z).toNat:=by unfold rowsV; rw [h1,h2]; rfl
      have hrz:rowZ b i = z:=by unfold rowZ; rw [h1]; simp
      have hsr:=ζ48 hv hp5;have hne:b ≠ []:=fun e => by
       subst e;unfold uS pieceS at h1;split at h1
       ·rename_i hc; simp at hc; omega
       ·cases h1
      have hfirm:Firm H (subV 1 v (i + 10).toNat ((n:Int) * z).toNat):=(hv.firm hne).sub _ _ _;simp only [orF_some,hrv,hrz];simp only [orF_some] at hrows hu1 hu2 hcut;generalize subV 1 v (i + 10).toNat ((n:Int) * z).toNat = rv at hrows hsr hfirm ⊢;obtain ⟨s,H',hloop,ho,hx⟩:=ζrx k r keys z n hrl (by omega) (by omega) (H.n + 1) (hsr.up (ext1.push ⟨[rv],1,false⟩)) (ζe _ _ _ (by simp));have hxx:Ext H H':=(ext1.push _).trans hx;have ho':Own H H' 1 s encW (cutV rv z n):=ho.base (by simp; omega);have hst:=hsr.storable;have hce:=hsr.cells;by_cases hn0:n = 0
      ·subst hn0;have e2:(endRows r z 0 keys).length = 0:=by simp [endRows]
       rw [e2];obtain ⟨L,hf⟩:=ho'.freeze encW_len (fun x hx => by simp [cutV] at hx) 6;refine nrm_fz (v:=s) (H':=H') ?_ hf hxx (ζj2 hsr z 0 0 hrl (Nat.le_refl _));simp only [Int.natCast_zero] at hu2 hrows hloop;simp -implicitDefEqProofs (disch:=omega) [ζ2q,hqa,hu1,hu2,hcut,h4,hrows,hloop,ζ83]
      ·have hlast:=cutV_get rv z n (n - 1) (by omega);have hlb:Byt ((r.drop (z * (n - 1))).take z):=fun x hx => hrb x (List.mem_of_mem_drop (List.mem_of_mem_take hx));have hsl0:=cutV_sl hsr z n (n - 1) hrl (by omega);have hll:((r.drop (z * (n - 1))).take z).length = z:=by
        have:z * (n - 1) + z ≤ r.length:=by
         rw [hrl,← Nat.mul_succ,Nat.mul_comm,show (n - 1).succ = n by omega];exact Nat.le_refl _
        simp; omega
       have hnone:=none_run k (hsl0.up hxx) hlb keys (by omega) (by omega);have hn1:((n:Int) - 1) = ((n - 1:Nat):Int):=by omega
       have hgt:0 < n:=by omega
       obtain ⟨bk,hsk,hbk,hgk,_⟩:=ixS_own ho' .i64 (n - 1) (by simp; omega) H';have hixk0:∀ H'',ixS 1 s (.int .i64 ((n:Int) - 1)) H'' = .ok (.pointer (some ⟨bk,(n - 1) * 1,none⟩)) H'':=fun H'' => by
        obtain ⟨b2,h1',_,_,h4'⟩:=ixS_own ho' .i64 (n - 1) (by simp; omega) H'';have:bk = b2:=by rw [hsk] at h1'; simpa using h1'
        subst this;rw [hn1]; exact h4'
       obtain ⟨p,hixk,hld⟩:∃ p,(∀ H'',ixS 1 s (.int .i64 ((n:Int) - 1)) H'' = .ok p H'') ∧ ldA 1 p H' = .ok (.agg #[subV 1 rv (z * (n - 1)) z]) H':=⟨_,hixk0,ldA_row encW_len hgk hlast⟩
       generalize subV 1 rv (z * (n - 1)) z = u at hld hnone;cases hno:noneS ((r.drop (z * (n - 1))).take z) keys with
       | false =>
        have e2:(endRows r z n keys).length = n:=by simp [endRows,hno]
        rw [e2];rw [hno] at hnone;obtain ⟨b3,L,hs3,hf⟩:=ho'.freezeF encW_len 6 n (cutV_fz hfirm z n 6) (by simp) (by simp; omega);rw [List.take_of_length_le (by simp)] at hf;rw [cutV_len] at hs3;refine nrm_fz (v:=s) (H':=H') ?_ (by rw [hs3]; exact hf n) hxx (ζj2 hsr z n n hrl (Nat.le_refl _));simp -implicitDefEqProofs (disch:=omega) [ζ2q,hqa,hu1,hu2,hcut,h4,hrows,hloop,ζ83,hgt,hixk,hld,hnone]
       | true =>
        have e2:(endRows r z n keys).length = n - 1:=by rw [endRows,if_pos ⟨by omega,hno⟩]; simp
        rw [e2,← ζoe];rw [hno] at hnone;obtain ⟨b3,L,hs3,hf⟩:=ho'.freezeF encW_len 6 (n - 1) (cutV_fz hfirm z n 6) (by simp) (by simp; omega);have hb3:bk = b3:=by rw [hsk] at hs3; simpa using hs3
        subst hb3;have hsl:=slS_own hgk .i64 (n - 1) (by simp);rw [cutV_len,← hn1] at hsl;rw [cutV_len] at hsk;refine nrm_fz (v:=.slice (some ⟨bk,0,none⟩) (n - 1) n) (H':=H') ?_ (hf n) hxx (by rw [ζoe]; exact ζj2 hsr z n (n - 1) hrl (by omega));subst hsk;simp -implicitDefEqProofs (disch:=omega) [ζ2q,hqa,hu1,hu2,hcut,h4,hrows,hloop,ζ83,hgt,hixk,hld,hnone,hsl]
    ·have e:takeS b i need keys = none:=by unfold takeS; rw [h1,h2]; simp [h4]
     rw [e];refine ζ1o ⟨_,?_,ext1⟩ Flat.fail.alive;simp -implicitDefEqProofs (disch:=omega) [ζ2q,hqa,hu1,hu2,hcut,h4]
end Go.Sw
end
section
set_option maxRecDepth 100000
set_option linter.unusedVariables false
namespace Go.Sw
noncomputable section
def ζ2k (k:Nat) (call:Caller) (a0 a1:Value) (h:Heap):Res Value :=
 (binR Prog .lss 3 a1 (.int .i64 0) h).bind fun v1 h2 =>
 ((bif wantVal v1 false then Res.ok a1 h2 else Res.ok undef h2)).bind fun v3 h4 =>
 ((bif wantVal v1 false then Res.ok a0 h4 else Res.ok undef h4)).bind fun v5 h6 =>
 ((bif wantVal v1 false then builtinV Prog .len [31] [v5] h6 else Res.ok undef h6)).bind fun v7 h8 =>
 ((bif wantVal v1 false then binR Prog .gtr 3 v3 v7 h8 else Res.ok undef h8)).bind fun v9 h10 =>
 (condV (some v1) (Res.ok (.bool true) h10) (Res.ok v9 h10)).bind fun v11 h12 =>
 condV (some v11) (
 .ok (.tuple #[(.slice none 0 0),(.bool false)]) h12)
 (
 (sliceR Prog 31 a0 (some a1) none none h12).bind fun v13 h14 =>
 .ok (.tuple #[v13,(.bool true)]) h14)
theorem ζia (k:Nat) (a0 a1:Value) (h:Heap):R (T k) F.ζ2k [a0,a1] h = nrm .fz h (ζ2k k (R (T k)) a0 a1 h) :=
 (R_body (t:=T k) (T_scott k) (by kernel_rfl) (by kernel_rfl) _ _).trans (by kernel_rfl)
def ζ9c (k:Nat) (call:Caller):Env → Heap → Res (AExit × Env):=loopB (C k) call F.ζ2 [1,1,1,0,1,0,0]
def ζbs (k:Nat) (call:Caller):Kont Value:=kBlock 0 (kSeq (pieceK (C k) call F.ζ2 [1,1,1,1]) (kDone Prog (resOf Prog F.ζ2)))
def ζ2 (k:Nat) (call:Caller) (a0 a1 a2:Value) (h:Heap):Res Value :=
 (builtinV Prog .len [31] [a0] h).bind fun v1 h2 =>
 (call F.ζ2l [v1,a1,a2] h2).bind fun v3 h4 =>
 (unR .not v3 h4).bind fun v5 h6 =>
 condV (some v5) (
 .ok (.int .i64 (-1)) h6)
 (
 (loopN (ζ9c k call) loopFuel [(0,a0),(1,a1),(2,a2),(7,(.int .i64 0)),(8,(.int .i64 0))] h6).bind fun r7 h8 =>
 ζbs k call r7.1 r7.2 h8)
theorem ζmg (k:Nat) (a0 a1 a2:Value) (h:Heap):R (T k) F.ζ2 [a0,a1,a2] h = nrm .gc h (ζ2 k (R (T k)) a0 a1 a2 h) :=
 (R_body (t:=T k) (T_scott k) (by kernel_rfl) (by kernel_rfl) _ _).trans (by kernel_rfl)
theorem ζ9n (k:Nat) (call:Caller) (a0 a1 a2 a7 a8:Value) (h:Heap):ζ9c k call [(0,a0),(1,a1),(2,a2),(7,a7),(8,a8)] h =
 (binR Prog .lss 3 a8 a2 h).bind fun v9 h10 =>
 condV (some v9) (
 (binR Prog .mul 3 (.int .i64 256) a7 h10).bind fun v11 h12 =>
 (binR Prog .add 3 a1 a8 h12).bind fun v13 h14 =>
 (indexAddrR Prog 31 a0 v13 h14).bind fun v15 h16 =>
 (loadR Prog 5 v15 h16).bind fun v17 h18 =>
 (convR Prog 5 3 v17 h18).bind fun v19 h20 =>
 (binR Prog .add 3 v11 v19 h20).bind fun v21 h22 =>
 (binR Prog .add 3 a8 (.int .i64 1) h22).bind fun v23 h24 =>
 .ok (.normal,[(0,a0),(1,a1),(2,a2),(7,v21),(8,v23)]) h24)
 (
 .ok ((.exit 0),[(0,a0),(1,a1),(2,a2),(7,a7),(8,a8),(17,v9)]) h10) :=
 (loopB_eq _ _).trans (by kernel_rfl)
theorem ζh6 (k:Nat) (call:Caller) (a0 a1 a2 a7 a8 a17:Value) (h:Heap):ζbs k call (.exit 0) [(0,a0),(1,a1),(2,a2),(7,a7),(8,a8),(17,a17)] h =
 .ok a7 h:=by kernel_rfl
def ζ2l (k:Nat) (call:Caller) (a0 a1 a2:Value) (h:Heap):Res Value :=
 (binR Prog .geq 3 a1 (.int .i64 0) h).bind fun v1 h2 =>
 ((bif wantVal v1 true then Res.ok a2 h2 else Res.ok undef h2)).bind fun v3 h4 =>
 ((bif wantVal v1 true then binR Prog .geq 3 v3 (.int .i64 0) h4 else Res.ok undef h4)).bind fun v5 h6 =>
 (condV (some v1) (Res.ok v5 h6) (Res.ok (.bool false) h6)).bind fun v7 h8 =>
 ((bif wantVal v7 true then Res.ok a1 h8 else Res.ok undef h8)).bind fun v9 h10 =>
 ((bif wantVal v7 true then Res.ok a0 h10 else Res.ok undef h10)).bind fun v11 h12 =>
 ((bif wantVal v7 true then binR Prog .leq 3 v9 v11 h12 else Res.ok undef h12)).bind fun v13 h14 =>
 (condV (some v7) (Res.ok v13 h14) (Res.ok (.bool false) h14)).bind fun v15 h16 =>
 ((bif wantVal v15 true then Res.ok a2 h16 else Res.ok undef h16)).bind fun v17 h18 =>
 ((bif wantVal v15 true then Res.ok a0 h18 else Res.ok undef h18)).bind fun v19 h20 =>
 ((bif wantVal v15 true then Res.ok a1 h20 else Res.ok undef h20)).bind fun v21 h22 =>
 ((bif wantVal v15 true then binR Prog .sub 3 v19 v21 h22 else Res.ok undef h22)).bind fun v23 h24 =>
 ((bif wantVal v15 true then binR Prog .leq 3 v17 v23 h24 else Res.ok undef h24)).bind fun v25 h26 =>
 (condV (some v15) (Res.ok v25 h26) (Res.ok (.bool false) h26)).bind fun v27 h28 =>
 .ok v27 h28
theorem ζkx (k:Nat) (a0 a1 a2:Value) (h:Heap):R (T k) F.ζ2l [a0,a1,a2] h = nrm .gc h (ζ2l k (R (T k)) a0 a1 a2 h) :=
 (R_body (t:=T k) (T_scott k) (by kernel_rfl) (by kernel_rfl) _ _).trans (by kernel_rfl)
def ζn (k:Nat) (call:Caller) (a0 a1 a2 a3:Value) (h:Heap):Res Value :=
 (binR Prog .lss 3 a1 (.int .i64 0) h).bind fun v1 h2 =>
 ((bif wantVal v1 false then Res.ok a2 h2 else Res.ok undef h2)).bind fun v3 h4 =>
 ((bif wantVal v1 false then binR Prog .lss 3 v3 (.int .i64 0) h4 else Res.ok undef h4)).bind fun v5 h6 =>
 (condV (some v1) (Res.ok (.bool true) h6) (Res.ok v5 h6)).bind fun v7 h8 =>
 ((bif wantVal v7 false then Res.ok a3 h8 else Res.ok undef h8)).bind fun v9 h10 =>
 ((bif wantVal v7 false then binR Prog .lss 3 v9 (.int .i64 0) h10 else Res.ok undef h10)).bind fun v11 h12 =>
 (condV (some v7) (Res.ok (.bool true) h12) (Res.ok v11 h12)).bind fun v13 h14 =>
 ((bif wantVal v13 false then Res.ok a1 h14 else Res.ok undef h14)).bind fun v15 h16 =>
 ((bif wantVal v13 false then Res.ok a0 h16 else Res.ok undef h16)).bind fun v17 h18 =>
 ((bif wantVal v13 false then binR Prog .gtr 3 v15 v17 h18 else Res.ok undef h18)).bind fun v19 h20 =>
 (condV (some v13) (Res.ok (.bool true) h20) (Res.ok v19 h20)).bind fun v21 h22 =>
 condV (some v21) (
 .ok (.bool false) h22)
 (
 (binR Prog .eql 3 a3 (.int .i64 0) h22).bind fun v23 h24 =>
 ((bif wantVal v23 false then Res.ok a2 h24 else Res.ok undef h24)).bind fun v25 h26 =>
 ((bif wantVal v23 false then Res.ok a0 h26 else Res.ok undef h26)).bind fun v27 h28 =>
 ((bif wantVal v23 false then Res.ok a1 h28 else Res.ok undef h28)).bind fun v29 h30 =>
 ((bif wantVal v23 false then binR Prog .sub 3 v27 v29 h30 else Res.ok undef h30)).bind fun v31 h32 =>
 ((bif wantVal v23 false then Res.ok a3 h32 else Res.ok undef h32)).bind fun v33 h34 =>
 ((bif wantVal v23 false then binR Prog .quo 3 v31 v33 h34 else Res.ok undef h34)).bind fun v35 h36 =>
 ((bif wantVal v23 false then binR Prog .leq 3 v25 v35 h36 else Res.ok undef h36)).bind fun v37 h38 =>
 (condV (some v23) (Res.ok (.bool true) h38) (Res.ok v37 h38)).bind fun v39 h40 =>
 .ok v39 h40)
theorem ζib (k:Nat) (a0 a1 a2 a3:Value) (h:Heap):R (T k) F.ζn [a0,a1,a2,a3] h = nrm .gc h (ζn k (R (T k)) a0 a1 a2 a3 h) :=
 (R_body (t:=T k) (T_scott k) (by kernel_rfl) (by kernel_rfl) _ _).trans (by kernel_rfl)
end
end Go.Sw
end
section
namespace Go.Sw
open Go.RowKit
def inS (size i n:Int):Bool:=decide (0 ≤ i ∧ 0 ≤ n ∧ i ≤ size ∧ n ≤ size - i)
theorem ζp4 (k:Nat) (z i n:Int) (hz0:0 ≤ z) (hz:z < 2 ^ 62) (H:Heap):R (T k) F.ζ2l [.int .i64 z,.int .i64 i,.int .i64 n] H = .ok (.bool (inS z i n)) H:=by
 rw [ζkx];refine nrm_gc (Pure.of ?_) (.bool _);unfold inS;by_cases h1:0 ≤ i
 ·by_cases h2:0 ≤ n
  ·by_cases h3:i ≤ z
   ·by_cases h4:n ≤ z - i <;> simp -implicitDefEqProofs (disch:=omega) [ζ2l,h1,h2,h3,h4]
   ·simp -implicitDefEqProofs (disch:=omega) [ζ2l,h1,h2,h3]
  ·simp -implicitDefEqProofs (disch:=omega) [ζ2l,h1,h2]
 ·simp -implicitDefEqProofs (disch:=omega) [ζ2l,h1]
theorem num_snoc (l:List Int) (y:Int):num (l ++ [y]) = 256 * num l + y:=by simp [num]
theorem num_acc:∀ (l:List Int) (x m:Int),0 ≤ x → x < m → Byt l → 0 ≤ l.foldl (fun x y => 256 * x + y) x ∧ l.foldl (fun x y => 256 * x + y) x < m * 256 ^ l.length
 | [],x,m,h0,h1,_ => by simp; exact ⟨h0,h1⟩
 | y :: l,x,m,h0,h1,hb => by
  have hy:=hb y (by simp);have:=num_acc l (256 * x + y) (256 * m) (by omega) (by omega) fun n hn => hb n (by simp [hn]);rw [List.foldl_cons,List.length_cons,Int.pow_succ,Int.mul_comm (256 ^ l.length) 256,← Int.mul_assoc,Int.mul_comm m 256];exact this
theorem ζix (l:List Int) (h:Byt l):0 ≤ num l ∧ num l < 256 ^ l.length:=by
 have:=num_acc l 0 1 (by omega) (by omega) h;rw [Int.one_mul] at this;exact this
theorem ζr8 (l:List Int) (h:Byt l) (hl:l.length ≤ 3):0 ≤ num l ∧ num l < 16777216:=by
 have:=ζix l h;rcases (by omega:l.length = 0 ∨ l.length = 1 ∨ l.length = 2 ∨ l.length = 3) with e | e | e | e <;> rw [e] at this <;> omega
theorem refU_run (k:Nat) {H:Heap} {v:Value} {b:List Int} (hv:Sl H 1 v encB b) (hb:Byt b) (i n:Int) (hl:b.length < 2 ^ 62) (hn:n ≤ 4):R (T k) F.ζ2 [v,.int .i64 i,.int .i64 n] H = .ok (.int .i64 ((uS b i n).getD (-1))) H:=by
 rw [ζmg];refine nrm_gc (Pure.of ?_) (.int _ _);have hin:=ζp4 k b.length i n (by omega) (by omega);by_cases hc:0 ≤ i ∧ 0 ≤ n ∧ i ≤ b.length ∧ n ≤ b.length - i
 ·have hi:inS b.length i n = true:=by simpa [inS] using hc
  rw [hi] at hin;obtain ⟨h1,h2,h3,h4⟩:=hc;obtain ⟨i,rfl⟩:=Int.eq_ofNat_of_zero_le h1;obtain ⟨n,rfl⟩:=Int.eq_ofNat_of_zero_le h2;obtain ⟨l,hld⟩:∃ l,l = (b.drop i).take n:=⟨_,rfl⟩
  have hp:pieceS b i n = some l:=by rw [pieceS,if_pos ⟨h1,h2,h3,h4⟩,hld]; simp
  have hbl:=(hb.piece hp).1;have hll:l.length = n:=by have:=ζ3l hp; omega
  have hu:(uS b i n).getD (-1) = num l:=by rw [uS,hp]; rfl
  rw [hu]
  obtain ⟨x,e',H1,hr,rfl,rfl,a,rfl⟩:=loop_up (body:=ζ9c k (R (T k))) n
   (fun j e H' => H' = H ∧ e = [(0,v),(1,.int .i64 i),(2,.int .i64 n),(7,.int .i64 (num (l.take j))),(8,.int .i64 j)])
   (fun x e H' => H' = H ∧ x = .exit 0 ∧ ∃ a,e = [(0,v),(1,.int .i64 i),(2,.int .i64 n),(7,.int .i64 (num l)),(8,.int .i64 n),(17,a)])
   (e0:=[(0,v),(1,.int .i64 i),(2,.int .i64 n),(7,.int .i64 0),(8,.int .i64 0)]) (H0:=H) ⟨rfl,rfl⟩ (by omega)
   (fun j e H' hj ⟨hH,he⟩ => by
    subst he hH;obtain ⟨y,hy⟩:∃ y,l[j]? = some y:=⟨l[j]'(by omega),List.getElem?_eq_getElem _⟩
    have hyb:=hbl y (List.mem_of_getElem? hy);have hg:b[i + j]? = some y:=by
     rw [hld,List.getElem?_take,if_pos hj,List.getElem?_drop] at hy;exact hy
    obtain ⟨p,hix,hld⟩:=hv.ix1 encB_len (i + j) y hg _ rfl;have hix:∀ H'',ixS 1 v (.int .i64 ((i:Int) + j)) H'' = .ok p H'':=fun H'' => by rw [← hix .i64 H'',Int.natCast_add]
    have hld:=hld _ (Ext.refl _);have hnb:=ζr8 (l.take j) (fun z hz => hbl z (List.mem_of_mem_take hz)) (by simp; omega);have hlt:(j:Int) < n:=by omega
    refine .inl ⟨_,H',?_,rfl,rfl⟩;rw [ζ9n,List.take_add_one,hy,Option.toList_some,num_snoc];simp -implicitDefEqProofs (disch:=omega) [hlt,hix,hld])
   (fun e H' ⟨hH,he⟩ => by
    subst he hH;refine ⟨.exit 0,_,H',?_,by simp,rfl,rfl,.bool false,rfl⟩;rw [ζ9n,List.take_of_length_le (by omega)];simp -implicitDefEqProofs)
  simp -implicitDefEqProofs (disch:=omega) [ζ2,hv.len,hin,hr,ζh6]
 ·have hi:inS b.length i n = false:=by simpa [inS] using hc
  rw [hi] at hin;have hu:(uS b i n).getD (-1) = -1:=by rw [uS,pieceS,if_neg hc]; rfl
  rw [hu];simp -implicitDefEqProofs (disch:=omega) [ζ2,hv.len,hin]
def rowsB (z i n s:Int):Bool:=decide (0 ≤ i ∧ 0 ≤ n ∧ 0 ≤ s ∧ i ≤ z ∧ (s = 0 ∨ n ≤ (z - i) / s))
theorem ζ9k (k:Nat) (z i n s:Int) (hz0:0 ≤ z) (hz:z < 2 ^ 62) (H:Heap):R (T k) F.ζn [.int .i64 z,.int .i64 i,.int .i64 n,.int .i64 s] H = .ok (.bool (rowsB z i n s)) H:=by
 rw [ζib];refine nrm_gc (Pure.of ?_) (.bool _);by_cases h1:i < 0
 ·have e:rowsB z i n s = false:=by unfold rowsB; simp; omega
  simp -implicitDefEqProofs (disch:=omega) [ζn,h1,e]
 by_cases h2:n < 0
 ·have e:rowsB z i n s = false:=by unfold rowsB; simp; omega
  simp -implicitDefEqProofs (disch:=omega) [ζn,h1,h2,e]
 by_cases h3:s < 0
 ·have e:rowsB z i n s = false:=by unfold rowsB; simp; omega
  simp -implicitDefEqProofs (disch:=omega) [ζn,h1,h2,h3,e]
 by_cases h4:i > z
 ·have e:rowsB z i n s = false:=by unfold rowsB; simp; omega
  simp -implicitDefEqProofs (disch:=omega) [ζn,h1,h2,h3,h4,e]
 by_cases h5:s = 0
 ·subst h5;have e:rowsB z i n 0 = true:=by unfold rowsB; simp; omega
  simp -implicitDefEqProofs (disch:=omega) [ζn,h1,h2,h4,e]
 have hq:(z - i).tdiv s = (z - i) / s:=Int.tdiv_eq_ediv_of_nonneg (by omega);have hq0:0 ≤ (z - i) / s:=Int.ediv_nonneg (by omega) (by omega);have hq1:(z - i) / s ≤ z - i:=Int.ediv_le_self _ (by omega);have qr:=fun H => bin_quo Prog 3 H .i64 (z - i) s h5;rw [hq] at qr;have hb5:(s == 0) = false:=by simpa using h5
 have e:rowsB z i n s = decide (n ≤ (z - i) / s):=by unfold rowsB; simp only [decide_eq_decide]; omega
 simp -implicitDefEqProofs (disch:=omega) [ζn,h1,h2,h3,h4,hb5,qr,e]
theorem ζq3 (k:Nat) (b:List Int) (i:Int) (H:Heap):R (T k) F.ζ2k [lv encB b,.int .i64 i] H = .ok (.tuple #[lv encB ((restS b i).getD []),.bool (restS b i).isSome]) H:=by
 rw [ζia];have hst:∀ (b:List Int) (x:Bool),fzV H.n H fzDepth (.tuple #[lv encB b,.bool x]) = some (.tuple #[lv encB b,.bool x],[]):=fun b x => rfl;by_cases h1:0 ≤ i
 ·by_cases h2:i ≤ b.length
  ·have e:restS b i = some (b.drop i.toNat):=by rw [restS,if_pos ⟨h1,h2⟩]
   rw [e];obtain ⟨i,rfl⟩:=Int.eq_ofNat_of_zero_le h1;have hs:=slS_lv encB_len b (some (.int .i64 i)) none none i b.length b.length (by simp [boundOf]) rfl rfl (fun h => by cases h) (by omega) (by omega) (by omega);rw [List.take_length] at hs;refine nrm_fz (v:=.tuple #[lv encB (b.drop i),.bool true]) (H':=H) ?_ (hst _ _) (Ext.refl H) (Flat.tupleL (.cons (Flat.B _) (.cons (.bool _) .nil))).alive;have h3:¬ (i:Int) < 0:=by omega
   have h4:¬ (i:Int) > b.length:=by omega
   simp -implicitDefEqProofs (disch:=omega) [ζ2k,h3,h4,hs]
  ·have e:restS b i = none:=by rw [restS,if_neg (by omega)]
   rw [e];refine nrm_fz (v:=.tuple #[.slice none 0 0,.bool false]) (H':=H) ?_ (L:=[]) rfl (Ext.refl H) (Flat.tupleL (.cons (Flat.B []) (.cons (.bool _) .nil))).alive;have h3:¬ (i:Int) < 0:=by omega
   have h4:(i:Int) > b.length:=by omega
   simp -implicitDefEqProofs (disch:=omega) [ζ2k,h3,h4]
 ·have e:restS b i = none:=by rw [restS,if_neg (by omega)]
  rw [e];refine nrm_fz (v:=.tuple #[.slice none 0 0,.bool false]) (H':=H) ?_ (L:=[]) rfl (Ext.refl H) (Flat.tupleL (.cons (Flat.B []) (.cons (.bool _) .nil))).alive;have h3:(i:Int) < 0:=by omega
  simp -implicitDefEqProofs (disch:=omega) [ζ2k,h3]
end Go.Sw
end
