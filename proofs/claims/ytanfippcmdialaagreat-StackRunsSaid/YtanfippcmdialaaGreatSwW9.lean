/-
  Functions' forms, and what is proved of them, part 9.
-/
import Derived.Test.YtanfippcmdialaaGreatSwCfg
import Derived.Test.YtanfippcmdialaaGreatSwLib8
import Derived.Test.YtanfippcmdialaaGreatSwW4
import Derived.Test.YtanfippcmdialaaGreatSwW5
import Derived.Test.YtanfippcmdialaaGreatSwW7
set_option linter.unusedSimpArgs false
set_option linter.unusedVariables false
set_option linter.unusedSectionVars false
section
set_option maxRecDepth 100000
set_option linter.unusedVariables false
namespace Go.Sw
noncomputable section
def ζdb (k:Nat) (call:Caller):Env → Heap → Res (AExit × Env):=loopB (C k) call F.ζ5r [1,1,0,1,0,0]
def ζi0 (k:Nat) (call:Caller):Kont Value:=kBlock 0 (kSeq (pieceK (C k) call F.ζ5r [1,1,1]) (kDone Prog (resOf Prog F.ζ5r)))
def ζ5r (k:Nat) (call:Caller) (a0 a1:Value) (h:Heap):Res Value :=
 (binR Prog .eql 3 a0 (.int .i64 2) h).bind fun v1 h2 =>
 (buildR Prog 145 [(0,v1)] h2).bind fun v3 h4 =>
 (boxR v3 h4).bind fun v5 h6 =>
 (builtinV Prog .len [30] [a1] h6).bind fun v7 h8 =>
 (loopN (ζdb k call) loopFuel [(5,v5),(12,a1),(13,v7),(14,(.int .i64 0))] h8).bind fun r9 h10 =>
 ζi0 k call r9.1 r9.2 h10
theorem ζq3 (k:Nat) (a0 a1:Value) (h:Heap):R (T k) F.ζ5r [a0,a1] h = nrm .no h (ζ5r k (R (T k)) a0 a1 h) :=
 (R_body (t:=T k) (T_scott k) (by kernel_rfl) (by kernel_rfl) _ _).trans (by kernel_rfl)
theorem ζd1 (k:Nat) (call:Caller) (a5 a12 a13 a14:Value) (h:Heap):ζdb k call [(5,a5),(12,a12),(13,a13),(14,a14)] h =
 (binR Prog .lss 3 a14 a13 h).bind fun v11 h12 =>
 condV (some v11) (
 (indexAddrR Prog 30 a12 a14 h12).bind fun v13 h14 =>
 (loadR Prog 3 v13 h14).bind fun v15 h16 =>
 (nilR a5 h16).bindN fun v17 h18 =>
 (fieldAddrR Prog 145 v17 1 h18).bindN fun v19 h20 =>
 (loadR Prog 56 v19 h20).bindN fun v21 h22 =>
 (call F.ζ5f [v15] h22).bindT (fun p25 h26 => .panic p25 h26) fun v23 h24 =>
 (buildR Prog 93 [(0,v23)] h24).bindN fun v27 h28 =>
 (buildSliceR Prog 56 1 [(0,v27)] h28).bindN fun v29 h30 =>
 (builtinV Prog .append [56,56] [v21,v29] h30).bindN fun v31 h32 =>
 (nilR a5 h32).bindN fun v33 h34 =>
 (fieldAddrR Prog 145 v33 1 h34).bindN fun v35 h36 =>
 (storeR Prog 56 v35 v31 h36).bindN fun _v37 h38 =>
 chkR ((okVal (loadR Prog 56 v19 h24) v21 && (okVal (loadR Prog 56 v19 h30) v21 && true)) && true) (
 (binR Prog .add 3 a14 (.int .i64 1) h38).bind fun v39 h40 =>
 .ok (.normal,[(5,a5),(12,a12),(13,a13),(14,v39)]) h40))
 (
 .ok ((.exit 0),[(5,a5),(12,a12),(13,a13),(14,a14),(15,v11)]) h12) :=
 (loopB_eq _ _).trans (by kernel_rfl)
theorem ζjx (k:Nat) (call:Caller) (a5 a12 a13 a14 a15:Value) (h:Heap):ζi0 k call (.exit 0) [(5,a5),(12,a12),(13,a13),(14,a14),(15,a15)] h =
 .ok a5 h:=by kernel_rfl
def ζ28 (k:Nat) (call:Caller) (a0 a1 a2 a3:Value) (h:Heap):Res Value :=
 (call F.ζ1z [a0,a1] h).bind fun v1 h2 =>
 (nilR v1 h2).bindN fun v3 h4 =>
 (fieldAddrR Prog 93 v3 1 h4).bindN fun v5 h6 =>
 (loadR Prog 21 v5 h6).bindN fun v7 h8 =>
 (call F.ζ7z [v7,a2] h8).bindT (fun p11 h12 => (nilR v1 h8).bindN fun v13 h14 => (fieldAddrR Prog 93 v13 2 h14).bindN fun v15 h16 => (loadR Prog 21 v15 h16).bindN fun v17 h18 => chkR ((okVal (loadR Prog 21 v15 h2) v17 && true) && true) (.panic p11 h12)) fun v9 h10 =>
 (nilR v1 h10).bindN fun v19 h20 =>
 (fieldAddrR Prog 93 v19 2 h20).bindN fun v21 h22 =>
 (loadR Prog 21 v21 h22).bindN fun v23 h24 =>
 (call F.ζ7z [v23,a3] h24).bindT (fun p27 h28 => chkR ((okVal (loadR Prog 21 v21 h2) v23 && true) && true) (.panic p27 h28)) fun v25 h26 =>
 (nilR v1 h26).bindN fun v29 h30 =>
 (fieldAddrR Prog 93 v29 1 h30).bindN fun v31 h32 =>
 (storeR Prog 21 v31 v9 h32).bindN fun _v33 h34 =>
 (nilR v1 h34).bindN fun v35 h36 =>
 (fieldAddrR Prog 93 v35 2 h36).bindN fun v37 h38 =>
 (storeR Prog 21 v37 v25 h38).bindN fun _v39 h40 =>
 chkR ((okVal (loadR Prog 21 v21 h2) v23 && true) && true) (
 .ok (.tuple #[]) h40)
theorem ζde (k:Nat) (a0 a1 a2 a3:Value) (h:Heap):R (T k) F.ζ28 [a0,a1,a2,a3] h = nrm .no h (ζ28 k (R (T k)) a0 a1 a2 a3 h) :=
 (R_body (t:=T k) (T_scott k) (by kernel_rfl) (by kernel_rfl) _ _).trans (by kernel_rfl)
def ζ31 (k:Nat) (call:Caller) (a0:Value) (h:Heap):Res Value :=
 (nilR a0 h).bind fun v1 h2 =>
 (fieldAddrR Prog 145 v1 1 h2).bind fun v3 h4 =>
 (loadR Prog 56 v3 h4).bind fun v5 h6 =>
 (call F.ζe [v5] h6).bind fun v7 h8 =>
 .ok v7 h8
theorem ζf3 (k:Nat) (a0:Value) (h:Heap):R (T k) F.ζ31 [a0] h = nrm (own k) h (ζ31 k (R (T k)) a0 h) :=
 (R_body (t:=T k) (T_scott k) (by kernel_rfl) (by kernel_rfl) _ _).trans (by kernel_rfl)
def ζ5f (k:Nat) (call:Caller) (a0:Value) (h:Heap):Res Value :=
 (builtinV Prog .max [3,3] [a0,(.int .i64 (-2147483648))] h).bind fun v1 h2 =>
 (builtinV Prog .min [3,3] [v1,(.int .i64 2147483647)] h2).bind fun v3 h4 =>
 (convR Prog 3 21 v3 h4).bind fun v5 h6 =>
 .ok v5 h6
theorem ζnb (k:Nat) (a0:Value) (h:Heap):R (T k) F.ζ5f [a0] h = nrm .gc h (ζ5f k (R (T k)) a0 h) :=
 (R_body (t:=T k) (T_scott k) (by kernel_rfl) (by kernel_rfl) _ _).trans (by kernel_rfl)
def ζ1z (k:Nat) (call:Caller) (a0 a1:Value) (h:Heap):Res Value :=
 (binR Prog .lss 3 a1 (.int .i64 0) h).bind fun v1 h2 =>
 ((bif wantVal v1 false then Res.ok a1 h2 else Res.ok undef h2)).bind fun v3 h4 =>
 ((bif wantVal v1 false then Res.ok a0 h4 else Res.ok undef h4)).bind fun v5 h6 =>
 ((bif wantVal v1 false then nilR v5 h6 else Res.ok undef h6)).bind fun v7 h8 =>
 ((bif wantVal v1 false then fieldAddrR Prog 145 v7 1 h8 else Res.ok undef h8)).bind fun v9 h10 =>
 ((bif wantVal v1 false then loadR Prog 56 v9 h10 else Res.ok undef h10)).bind fun v11 h12 =>
 ((bif wantVal v1 false then builtinV Prog .len [56] [v11] h12 else Res.ok undef h12)).bind fun v13 h14 =>
 ((bif wantVal v1 false then binR Prog .geq 3 v3 v13 h14 else Res.ok undef h14)).bind fun v15 h16 =>
 (condV (some v1) (Res.ok (.bool true) h16) (Res.ok v15 h16)).bind fun v17 h18 =>
 condV (some v17) (
 (allocR Prog 93 h18).bind fun v19 h20 =>
 .ok v19 h20)
 (
 (nilR a0 h18).bind fun v21 h22 =>
 (fieldAddrR Prog 145 v21 1 h22).bind fun v23 h24 =>
 (loadR Prog 56 v23 h24).bind fun v25 h26 =>
 (indexAddrR Prog 56 v25 a1 h26).bind fun v27 h28 =>
 .ok v27 h28)
theorem ζi7 (k:Nat) (a0 a1:Value) (h:Heap):R (T k) F.ζ1z [a0,a1] h = nrm .no h (ζ1z k (R (T k)) a0 a1 h) :=
 (R_body (t:=T k) (T_scott k) (by kernel_rfl) (by kernel_rfl) _ _).trans (by kernel_rfl)
def ζ7z (k:Nat) (call:Caller) (a0 a1:Value) (h:Heap):Res Value :=
 (convR Prog 21 3 a0 h).bind fun v1 h2 =>
 (call F.ζ5f [a1] h2).bind fun v3 h4 =>
 (convR Prog 21 3 v3 h4).bind fun v5 h6 =>
 (binR Prog .add 3 v1 v5 h6).bind fun v7 h8 =>
 (call F.ζ5f [v7] h8).bind fun v9 h10 =>
 .ok v9 h10
theorem ζq2 (k:Nat) (a0 a1:Value) (h:Heap):R (T k) F.ζ7z [a0,a1] h = nrm .gc h (ζ7z k (R (T k)) a0 a1 h) :=
 (R_body (t:=T k) (T_scott k) (by kernel_rfl) (by kernel_rfl) _ _).trans (by kernel_rfl)
def ζ1w (k:Nat) (call:Caller) (a0 a1 a2:Value) (h:Heap):Res Value :=
 (call F.ζ1z [a0,a1] h).bind fun v1 h2 =>
 (nilR v1 h2).bind fun v3 h4 =>
 (fieldAddrR Prog 93 v3 0 h4).bind fun v5 h6 =>
 (loadR Prog 21 v5 h6).bind fun v7 h8 =>
 (call F.ζ7z [v7,a2] h8).bind fun v9 h10 =>
 (nilR v1 h10).bind fun v11 h12 =>
 (fieldAddrR Prog 93 v11 0 h12).bind fun v13 h14 =>
 (storeR Prog 21 v13 v9 h14).bind fun _v15 h16 =>
 .ok (.tuple #[]) h16
theorem ζdc (k:Nat) (a0 a1 a2:Value) (h:Heap):R (T k) F.ζ1w [a0,a1,a2] h = nrm .no h (ζ1w k (R (T k)) a0 a1 a2 h) :=
 (R_body (t:=T k) (T_scott k) (by kernel_rfl) (by kernel_rfl) _ _).trans (by kernel_rfl)
def ζ1o (k:Nat) (call:Caller) (a0 a1:Value) (h:Heap):Res Value :=
 (call F.ζ2p [a0,a1] h).bind fun v1 h2 =>
 (nilR v1 h2).bind fun v3 h4 =>
 (storeR Prog 21 v3 (.int .i32 0) h4).bind fun _v5 h6 =>
 .ok (.tuple #[]) h6
theorem ζdd (k:Nat) (a0 a1:Value) (h:Heap):R (T k) F.ζ1o [a0,a1] h = nrm .no h (ζ1o k (R (T k)) a0 a1 h) :=
 (R_body (t:=T k) (T_scott k) (by kernel_rfl) (by kernel_rfl) _ _).trans (by kernel_rfl)
def ζ1e (k:Nat) (call:Caller) (a0 a1 a2:Value) (h:Heap):Res Value :=
 (call F.ζ2p [a0,a1] h).bind fun v1 h2 =>
 (nilR v1 h2).bind fun v3 h4 =>
 (loadR Prog 21 v3 h4).bind fun v5 h6 =>
 (call F.ζ7z [v5,a2] h6).bind fun v7 h8 =>
 (nilR v1 h8).bind fun v9 h10 =>
 (storeR Prog 21 v9 v7 h10).bind fun _v11 h12 =>
 .ok (.tuple #[]) h12
theorem ζca (k:Nat) (a0 a1 a2:Value) (h:Heap):R (T k) F.ζ1e [a0,a1,a2] h = nrm .no h (ζ1e k (R (T k)) a0 a1 a2 h) :=
 (R_body (t:=T k) (T_scott k) (by kernel_rfl) (by kernel_rfl) _ _).trans (by kernel_rfl)
def ζ2p (k:Nat) (call:Caller) (a0 a1:Value) (h:Heap):Res Value :=
 (call F.ζ1z [a0,a1] h).bind fun v1 h2 =>
 (nilR a0 h2).bind fun v3 h4 =>
 (fieldAddrR Prog 145 v3 0 h4).bind fun v5 h6 =>
 (loadR Prog 4 v5 h6).bind fun v7 h8 =>
 condV (some v7) (
 (nilR v1 h8).bind fun v9 h10 =>
 (fieldAddrR Prog 93 v9 1 h10).bind fun v11 h12 =>
 .ok v11 h12)
 (
 (nilR v1 h8).bind fun v13 h14 =>
 (fieldAddrR Prog 93 v13 2 h14).bind fun v15 h16 =>
 .ok v15 h16)
theorem ζdz (k:Nat) (a0 a1:Value) (h:Heap):R (T k) F.ζ2p [a0,a1] h = nrm .no h (ζ2p k (R (T k)) a0 a1 h) :=
 (R_body (t:=T k) (T_scott k) (by kernel_rfl) (by kernel_rfl) _ _).trans (by kernel_rfl)
end
end Go.Sw
end
section
set_option maxRecDepth 100000
set_option linter.unusedVariables false
namespace Go.Sw
noncomputable section
def ζ7k (k:Nat) (call:Caller):Env → Heap → Res (AExit × Env):=loopB (C k) call F.ζ2u [1,1,0,1,0,0]
def ζac (k:Nat) (call:Caller):Kont Value:=kBlock 0 (kSeq (pieceK (C k) call F.ζ2u [1,1,1]) (kDone Prog (resOf Prog F.ζ2u)))
def ζ2u (k:Nat) (call:Caller) (a0:Value) (h:Heap):Res Value :=
 (buildSliceR Prog 56 0 [] h).bind fun v1 h2 =>
 (loopN (ζ7k k call) loopFuel [(0,a0),(3,v1),(4,(.int .i64 0))] h2).bind fun r3 h4 =>
 ζac k call r3.1 r3.2 h4
theorem ζkj (k:Nat) (a0:Value) (h:Heap):R (T k) F.ζ2u [a0] h = nrm .fz h (ζ2u k (R (T k)) a0 h) :=
 (R_body (t:=T k) (T_scott k) (by kernel_rfl) (by kernel_rfl) _ _).trans (by kernel_rfl)
theorem ζ8r (k:Nat) (call:Caller) (a0 a3 a4:Value) (h:Heap):ζ7k k call [(0,a0),(3,a3),(4,a4)] h =
 (builtinV Prog .len [30] [a0] h).bind fun v5 h6 =>
 (binR Prog .lss 3 a4 v5 h6).bind fun v7 h8 =>
 condV (some v7) (
 (indexAddrR Prog 30 a0 a4 h8).bind fun v9 h10 =>
 (loadR Prog 3 v9 h10).bind fun v11 h12 =>
 (call F.ζ2j [v11] h12).bind fun v13 h14 =>
 (convR Prog 3 21 v13 h14).bind fun v15 h16 =>
 (buildR Prog 93 [(0,v15)] h16).bind fun v17 h18 =>
 (buildSliceR Prog 56 1 [(0,v17)] h18).bind fun v19 h20 =>
 (builtinV Prog .append [56,56] [a3,v19] h20).bind fun v21 h22 =>
 (binR Prog .add 3 a4 (.int .i64 1) h22).bind fun v23 h24 =>
 .ok (.normal,[(0,a0),(3,v21),(4,v23)]) h24)
 (
 .ok ((.exit 0),[(0,a0),(3,a3),(4,a4),(9,v7)]) h8) :=
 (loopB_eq _ _).trans (by kernel_rfl)
theorem ζct (k:Nat) (call:Caller) (a0 a3 a4 a9:Value) (h:Heap):ζac k call (.exit 0) [(0,a0),(3,a3),(4,a4),(9,a9)] h =
 .ok a3 h:=by kernel_rfl
def ζaa (k:Nat) (call:Caller) (a11:Value) (h:Heap):Res Value :=
 kSeq (pieceK (C k) call F.ζg [1,1,1]) (kDone Prog (resOf Prog F.ζg)) .normal [(11,a11)] h
def ζab (k:Nat) (call:Caller) (a1 a2 a3 a4 a11 a22:Value) (h:Heap):Res Value :=
 kSeq (pieceK (C k) call F.ζg [1,1,1]) (kDone Prog (resOf Prog F.ζg)) .normal [(1,a1),(2,a2),(3,a3),(4,a4),(11,a11),(22,a22)] h
def ζg (k:Nat) (call:Caller) (a0 a1 a2 a3 a4:Value) (h:Heap):Res Value :=
 (buildSliceR Prog 56 0 [] h).bind fun v1 h2 =>
 (builtinV Prog .append [56,56] [v1,a0] h2).bind fun v3 h4 =>
 (binR Prog .geq 3 a1 (.int .i64 0) h4).bind fun v5 h6 =>
 ((bif wantVal v5 true then Res.ok a1 h6 else Res.ok undef h6)).bind fun v7 h8 =>
 ((bif wantVal v5 true then Res.ok v3 h8 else Res.ok undef h8)).bind fun v9 h10 =>
 ((bif wantVal v5 true then builtinV Prog .len [56] [v9] h10 else Res.ok undef h10)).bind fun v11 h12 =>
 ((bif wantVal v5 true then binR Prog .lss 3 v7 v11 h12 else Res.ok undef h12)).bind fun v13 h14 =>
 (condV (some v5) (Res.ok v13 h14) (Res.ok (.bool false) h14)).bind fun v15 h16 =>
 condV (some v15) (
 (indexAddrR Prog 56 v3 a1 h16).bind fun v17 h18 =>
 (fieldAddrR Prog 93 v17 0 h18).bind fun v19 h20 =>
 (loadR Prog 21 v19 h20).bind fun v21 h22 =>
 (call F.ζ3f [v21,a2] h22).bind fun v23 h24 =>
 (indexAddrR Prog 56 v3 a1 h24).bind fun v25 h26 =>
 (fieldAddrR Prog 93 v25 0 h26).bind fun v27 h28 =>
 (storeR Prog 21 v27 v23 h28).bind fun _v29 h30 =>
 (indexAddrR Prog 56 v3 a1 h30).bind fun v31 h32 =>
 (fieldAddrR Prog 93 v31 1 h32).bind fun v33 h34 =>
 (loadR Prog 21 v33 h34).bind fun v35 h36 =>
 (call F.ζ3f [v35,a3] h36).bind fun v37 h38 =>
 (indexAddrR Prog 56 v3 a1 h38).bind fun v39 h40 =>
 (fieldAddrR Prog 93 v39 1 h40).bind fun v41 h42 =>
 (storeR Prog 21 v41 v37 h42).bind fun _v43 h44 =>
 (indexAddrR Prog 56 v3 a1 h44).bind fun v45 h46 =>
 (fieldAddrR Prog 93 v45 2 h46).bind fun v47 h48 =>
 (loadR Prog 21 v47 h48).bind fun v49 h50 =>
 (call F.ζ3f [v49,a4] h50).bind fun v51 h52 =>
 (indexAddrR Prog 56 v3 a1 h52).bind fun v53 h54 =>
 (fieldAddrR Prog 93 v53 2 h54).bind fun v55 h56 =>
 (storeR Prog 21 v55 v51 h56).bind fun _v57 h58 =>
 ζaa k call v3 h58)
 (
 ζab k call a1 a2 a3 a4 v3 v15 h16)
theorem ζip (k:Nat) (a0 a1 a2 a3 a4:Value) (h:Heap):R (T k) F.ζg [a0,a1,a2,a3,a4] h = nrm .fz h (ζg k (R (T k)) a0 a1 a2 a3 a4 h) :=
 (R_body (t:=T k) (T_scott k) (by kernel_rfl) (by kernel_rfl) _ _).trans (by kernel_rfl)
theorem ζcs (k:Nat) (call:Caller) (a11:Value) (h:Heap):ζaa k call a11 h =
 .ok a11 h:=by kernel_rfl
theorem ζ7u (k:Nat) (call:Caller) (a1 a2 a3 a4 a11 a22:Value) (h:Heap):ζab k call a1 a2 a3 a4 a11 a22 h =
 .ok a11 h:=by kernel_rfl
def ζ6s (k:Nat) (call:Caller):Env → Heap → Res (AExit × Env):=loopB (C k) call F.ζ1m [1,1,0,1,0,0]
def ζ6b (k:Nat) (call:Caller):Kont Value:=kBlock 0 (kSeq (pieceK (C k) call F.ζ1m [1,1,1]) (kDone Prog (resOf Prog F.ζ1m)))
def ζ1m (k:Nat) (call:Caller) (a0 a1:Value) (h:Heap):Res Value :=
 (builtinV Prog .len [56] [a0] h).bind fun v1 h2 =>
 (builtinV Prog .len [56] [a1] h2).bind fun v3 h4 =>
 (binR Prog .neq 3 v1 v3 h4).bind fun v5 h6 =>
 condV (some v5) (
 .ok (.bool false) h6)
 (
 (loopN (ζ6s k call) loopFuel [(0,a0),(1,a1),(5,(.int .i64 0))] h6).bind fun r7 h8 =>
 ζ6b k call r7.1 r7.2 h8)
theorem ζiq (k:Nat) (a0 a1:Value) (h:Heap):R (T k) F.ζ1m [a0,a1] h = nrm .gc h (ζ1m k (R (T k)) a0 a1 h) :=
 (R_body (t:=T k) (T_scott k) (by kernel_rfl) (by kernel_rfl) _ _).trans (by kernel_rfl)
theorem ζ7v (k:Nat) (call:Caller) (a0 a1 a5:Value) (h:Heap):ζ6s k call [(0,a0),(1,a1),(5,a5)] h =
 (builtinV Prog .len [56] [a0] h).bind fun v9 h10 =>
 (binR Prog .lss 3 a5 v9 h10).bind fun v11 h12 =>
 condV (some v11) (
 (indexAddrR Prog 56 a0 a5 h12).bindN fun v13 h14 =>
 (loadR Prog 93 v13 h14).bindN fun v15 h16 =>
 (indexAddrR Prog 56 a1 a5 h16).bindN fun v17 h18 =>
 (loadR Prog 93 v17 h18).bindN fun v19 h20 =>
 (binR Prog .neq 93 v15 v19 h20).bindN fun v21 h22 =>
 condV (some v21) (
 .ok (.ret,[(4,(.bool false))]) h22)
 (
 (binR Prog .add 3 a5 (.int .i64 1) h22).bind fun v23 h24 =>
 .ok (.normal,[(0,a0),(1,a1),(5,v23)]) h24))
 (
 .ok ((.exit 0),[(0,a0),(1,a1),(5,a5),(14,v11)]) h12) :=
 (loopB_eq _ _).trans (by kernel_rfl)
theorem ζcu (k:Nat) (call:Caller) (a4:Value) (h:Heap):ζ6b k call .ret [(4,a4)] h =
 .ok a4 h:=by kernel_rfl
theorem ζbq (k:Nat) (call:Caller) (a0 a1 a5 a14:Value) (h:Heap):ζ6b k call (.exit 0) [(0,a0),(1,a1),(5,a5),(14,a14)] h =
 .ok (.bool true) h:=by kernel_rfl
def ζ2j (k:Nat) (call:Caller) (a0:Value) (h:Heap):Res Value :=
 (binR Prog .gtr 3 a0 (.int .i64 2147483647) h).bind fun v1 h2 =>
 condV (some v1) (
 .ok (.int .i64 2147483647) h2)
 (
 (binR Prog .lss 3 a0 (.int .i64 (-2147483648)) h2).bind fun v3 h4 =>
 condV (some v3) (
 .ok (.int .i64 (-2147483648)) h4)
 (
 .ok a0 h4))
theorem ζfe (k:Nat) (a0:Value) (h:Heap):R (T k) F.ζ2j [a0] h = nrm .gc h (ζ2j k (R (T k)) a0 h) :=
 (R_body (t:=T k) (T_scott k) (by kernel_rfl) (by kernel_rfl) _ _).trans (by kernel_rfl)
def ζ3f (k:Nat) (call:Caller) (a0 a1:Value) (h:Heap):Res Value :=
 (convR Prog 21 3 a0 h).bind fun v1 h2 =>
 (call F.ζ2j [a1] h2).bind fun v3 h4 =>
 (binR Prog .add 3 v1 v3 h4).bind fun v5 h6 =>
 (call F.ζ2j [v5] h6).bind fun v7 h8 =>
 (convR Prog 3 21 v7 h8).bind fun v9 h10 =>
 .ok v9 h10
theorem ζki (k:Nat) (a0 a1:Value) (h:Heap):R (T k) F.ζ3f [a0,a1] h = nrm .gc h (ζ3f k (R (T k)) a0 a1 h) :=
 (R_body (t:=T k) (T_scott k) (by kernel_rfl) (by kernel_rfl) _ _).trans (by kernel_rfl)
def ζ6a (k:Nat) (call:Caller) (a7:Value) (h:Heap):Res Value :=
 kSeq (pieceK (C k) call F.ζj [1,1,1]) (kDone Prog (resOf Prog F.ζj)) .normal [(7,a7)] h
def ζ9b (k:Nat) (call:Caller) (a2 a7 a33:Value) (h:Heap):Res Value :=
 kSeq (pieceK (C k) call F.ζj [1,1,1]) (kDone Prog (resOf Prog F.ζj)) .normal [(2,a2),(7,a7),(33,a33)] h
def ζj (k:Nat) (call:Caller) (a0 a1 a2:Value) (h:Heap):Res Value :=
 (buildSliceR Prog 56 0 [] h).bind fun v1 h2 =>
 (builtinV Prog .append [56,56] [v1,a0] h2).bind fun v3 h4 =>
 (binR Prog .geq 3 a2 (.int .i64 0) h4).bind fun v5 h6 =>
 ((bif wantVal v5 true then Res.ok a2 h6 else Res.ok undef h6)).bind fun v7 h8 =>
 ((bif wantVal v5 true then Res.ok v3 h8 else Res.ok undef h8)).bind fun v9 h10 =>
 ((bif wantVal v5 true then builtinV Prog .len [56] [v9] h10 else Res.ok undef h10)).bind fun v11 h12 =>
 ((bif wantVal v5 true then binR Prog .lss 3 v7 v11 h12 else Res.ok undef h12)).bind fun v13 h14 =>
 (condV (some v5) (Res.ok v13 h14) (Res.ok (.bool false) h14)).bind fun v15 h16 =>
 ((bif wantVal v15 true then Res.ok a1 h16 else Res.ok undef h16)).bind fun v17 h18 =>
 (condV (some v15) (Res.ok v17 h18) (Res.ok (.bool false) h18)).bind fun v19 h20 =>
 condV (some v19) (
 (indexAddrR Prog 56 v3 a2 h20).bind fun v21 h22 =>
 (fieldAddrR Prog 93 v21 1 h22).bind fun v23 h24 =>
 (storeR Prog 21 v23 (.int .i32 0) h24).bind fun _v25 h26 =>
 ζ6a k call v3 h26)
 (
 (binR Prog .geq 3 a2 (.int .i64 0) h20).bind fun v27 h28 =>
 ((bif wantVal v27 true then Res.ok a2 h28 else Res.ok undef h28)).bind fun v29 h30 =>
 ((bif wantVal v27 true then Res.ok v3 h30 else Res.ok undef h30)).bind fun v31 h32 =>
 ((bif wantVal v27 true then builtinV Prog .len [56] [v31] h32 else Res.ok undef h32)).bind fun v33 h34 =>
 ((bif wantVal v27 true then binR Prog .lss 3 v29 v33 h34 else Res.ok undef h34)).bind fun v35 h36 =>
 (condV (some v27) (Res.ok v35 h36) (Res.ok (.bool false) h36)).bind fun v37 h38 =>
 condV (some v37) (
 (indexAddrR Prog 56 v3 a2 h38).bind fun v39 h40 =>
 (fieldAddrR Prog 93 v39 2 h40).bind fun v41 h42 =>
 (storeR Prog 21 v41 (.int .i32 0) h42).bind fun _v43 h44 =>
 ζ6a k call v3 h44)
 (
 ζ9b k call a2 v3 v37 h38))
theorem ζff (k:Nat) (a0 a1 a2:Value) (h:Heap):R (T k) F.ζj [a0,a1,a2] h = nrm .fz h (ζj k (R (T k)) a0 a1 a2 h) :=
 (R_body (t:=T k) (T_scott k) (by kernel_rfl) (by kernel_rfl) _ _).trans (by kernel_rfl)
theorem ζ7f (k:Nat) (call:Caller) (a7:Value) (h:Heap):ζ6a k call a7 h =
 .ok a7 h:=by kernel_rfl
theorem ζ7g (k:Nat) (call:Caller) (a2 a7 a33:Value) (h:Heap):ζ9b k call a2 a7 a33 h =
 .ok a7 h:=by kernel_rfl
def ζ14 (k:Nat) (call:Caller) (a0 a1 a2 a3:Value) (h:Heap):Res Value :=
 condV (some a1) (
 (call F.ζg [a0,a2,(.int .i64 0),a3,(.int .i64 0)] h).bind fun v1 h2 =>
 .ok v1 h2)
 (
 (call F.ζg [a0,a2,(.int .i64 0),(.int .i64 0),a3] h).bind fun v3 h4 =>
 .ok v3 h4)
theorem ζef (k:Nat) (a0 a1 a2 a3:Value) (h:Heap):R (T k) F.ζ14 [a0,a1,a2,a3] h = nrm .fz h (ζ14 k (R (T k)) a0 a1 a2 a3 h) :=
 (R_body (t:=T k) (T_scott k) (by kernel_rfl) (by kernel_rfl) _ _).trans (by kernel_rfl)
end
end Go.Sw
end
section
namespace Go.Sw
def clampI (n:Int):Int:=if n > 2147483647 then 2147483647 else if n < -2147483648 then -2147483648 else n
theorem ζbx (n:Int):-2147483648 ≤ clampI n:=by unfold clampI; omega
theorem ζbw (n:Int):clampI n ≤ 2147483647:=by unfold clampI; omega
@[simp] theorem ζv2 (k:Nat) (x:Int) (H:Heap):R (T k) F.ζ5f [.int .i64 x] H = .ok (.int .i32 (clampI x)) H:=by
 rw [ζnb];refine nrm_gc (Pure.of ?_) (.int _ _);simp only [ζ5f,max_int,min_int,Res.bind_ok,cv_3_21,cvK_int];congr 2;unfold clampI;rw [wrap_i32] <;> omega
@[simp] theorem ζua (k:Nat) (x:Int) (H:Heap):R (T k) F.ζ2j [.int .i64 x] H = .ok (.int .i64 (clampI x)) H:=by
 rw [ζfe];refine nrm_gc (Pure.of ?_) (.int _ _);simp only [ζ2j,bin_gtr,bin_lss,Res.bind_ok,ζqu,clampI];by_cases h1:x > 2147483647
 ·simp [h1]
 ·by_cases h2:x < -2147483648 <;> simp [h1,h2]
def addI (a n:Int):Int:=clampI (a + clampI n)
theorem addI_lo (a n:Int):-2147483648 ≤ addI a n:=ζbx _
theorem addI_hi (a n:Int):addI a n ≤ 2147483647:=ζbw _
theorem Add_run (k:Nat) (a x:Int) (h1:-2147483648 ≤ a) (h2:a ≤ 2147483647) (H:Heap):R (T k) F.ζ7z [.int .i32 a,.int .i64 x] H = .ok (.int .i32 (addI a x)) H:=by
 have:=ζbx x;have:=ζbw x;rw [ζq2];refine nrm_gc (Pure.of ?_) (.int _ _);simp (disch:=omega) [ζ7z,addI]
theorem ζjz (k:Nat) (a x:Int) (h1:-2147483648 ≤ a) (h2:a ≤ 2147483647) (H:Heap):R (T k) F.ζ3f [.int .i32 a,.int .i64 x] H = .ok (.int .i32 (addI a x)) H:=by
 have:=ζbx x;have:=ζbw x;have h3:=ζbx (a + clampI x);have h4:=ζbw (a + clampI x);rw [ζki];refine nrm_gc (Pure.of ?_) (.int _ _);simp (disch:=omega) [ζ3f,addI]
structure Pl where
 adv:Int
 x:Int
 y:Int
 deriving DecidableEq
def Pl.ok (p:Pl):Prop:=(-2147483648 ≤ p.adv ∧ p.adv ≤ 2147483647) ∧ (-2147483648 ≤ p.x ∧ p.x ≤ 2147483647) ∧ (-2147483648 ≤ p.y ∧ p.y ≤ 2147483647)
abbrev encP (p:Pl):List Value:=[.int .i32 p.adv,.int .i32 p.x,.int .i32 p.y]
theorem encP_len (p:Pl):(encP p).length = 3:=rfl
theorem ζ9h (l:List Pl):∀ p,p ∈ l → ∀ v,v ∈ encP p → Still v:=by
 intro p _ v hv;simp [encP] at hv;rcases hv with rfl | rfl | rfl <;> trivial
theorem ζ90 (l:List Pl):∀ p,p ∈ l → Flats (encP p):=fun p _ => .cons (.int _ _) (.cons (.int _ _) (.cons (.int _ _) .nil))
end Go.Sw
end
section
namespace Go.Sw
def newPl (l:List Int):List Pl:=l.map fun n => ⟨clampI n,0,0⟩
theorem ζo4 (k:Nat) (l:List Int) (hl:l.length ≤ 1000) (H:Heap):R (T k) F.ζ2u [lv encI l] H = .ok (lv encP (newPl l)) H:=by
 rw [ζkj]
 obtain ⟨x,e',H1,hr,s,v,rfl,rfl,ho,hx⟩:=loop_up (body:=ζ7k k (R (T k))) l.length
  (fun i e H' => ∃ s,e = [(0,lv encI l),(3,s),(4,.int .i64 i)] ∧ Own H H' 3 s encP (newPl (l.take i)) ∧ Ext H H')
  (fun x e H' => ∃ s v,x = .exit 0 ∧ e = [(0,lv encI l),(3,s),(4,.int .i64 l.length),(9,v)] ∧ Own H H' 3 s encP (newPl l) ∧ Ext H H')
  (e0:=[(0,lv encI l),(3,bareV),(4,.int .i64 0)]) (H0:=H) ⟨bareV,rfl,Own.bare _ _ _,Ext.refl H⟩ (by omega)
  (fun i e H' hi ⟨s,he,ho,hx⟩ => by
   subst he;obtain ⟨n,hg⟩:∃ n,l[i]? = some n:=⟨l[i],List.getElem?_eq_getElem hi⟩
   obtain ⟨s',H2,e1,o1,x1⟩:=ap1_own (bytes:=12) encP_len ho hx ⟨clampI n,0,0⟩ (by simp [newPl]; omega) (by decide);rw [ζ8r];have h1:=ζbx n;have h2:=ζbw n;have hlt:(i:Int) < l.length:=by omega
   simp only [encP] at e1;have:newPl (l.take (i + 1)) = newPl (l.take i) ++ [⟨clampI n,0,0⟩]:=by simp [newPl,List.take_add_one,hg]
   exact .inl ⟨_,H2,by simp -implicitDefEqProofs (disch:=omega) [hlt,ixS_lvN encI_len l _ i _ hg,encI,e1],s',rfl,by rw [this]; exact o1,x1⟩)
  (fun e H' ⟨s,he,ho,hx⟩ => by
   subst he;rw [ζ8r];exact ⟨.exit 0,_,H',by simp; rfl,by simp,s,_,rfl,rfl,by simpa using ho,hx⟩)
 obtain ⟨L,hf⟩:=ho.freeze encP_len (ζ9h _) 6;refine nrm_fz (v:=s) (H':=H1) ?_ hf hx (Flat.alive (Flat.lv (ζ90 _)));simp -implicitDefEqProofs [ζ2u,hr,ζct]
theorem Pl.eqb (p q:Pl):([p.adv,p.x,p.y] == [q.adv,q.x,q.y]) = decide (p = q):=by
 obtain ⟨a,b,c⟩:=p;obtain ⟨d,e,f⟩:=q;by_cases h:a = d <;> by_cases h1:b = e <;> by_cases h2:c = f <;> simp [h,h1,h2]
theorem ζrl (k:Nat) {H:Heap} {sa sb:Value} {a b:List Pl} (ra:Rd H 3 sa encP a) (rb:Rd H 3 sb encP b) (ha:a.length ≤ 2 ^ 31):R (T k) F.ζ1m [sa,sb] H = .ok (.bool (decide (a = b))) H:=by
 rw [ζiq];refine nrm_gc (Pure.of ?_) (.bool _);by_cases hl:a.length = b.length
 ·obtain ⟨x,e',H1,hr,rfl,hq⟩:=loop_up (body:=ζ6s k (R (T k))) a.length
   (fun i e H' => e = [(0,sa),(1,sb),(5,.int .i64 i)] ∧ H' = H ∧ a.take i = b.take i)
   (fun x e H' => H' = H ∧ ((x = .ret ∧ e = [(4,.bool false)] ∧ a ≠ b) ∨ ∃ v,x = .exit 0 ∧ e = [(0,sa),(1,sb),(5,.int .i64 a.length),(14,v)] ∧ a = b))
   (e0:=[(0,sa),(1,sb),(5,.int .i64 0)]) (H0:=H) ⟨rfl,rfl,by simp⟩ (by omega)
   (fun i e H' hi ⟨he,hH,ht⟩ => by
    subst he hH;obtain ⟨p,hp⟩:∃ p,a[i]? = some p:=⟨a[i],List.getElem?_eq_getElem hi⟩
    obtain ⟨q,hq⟩:∃ q,b[i]? = some q:=⟨b[i],List.getElem?_eq_getElem (by omega)⟩
    have hlt:(i:Int) < a.length:=by omega
    obtain ⟨pa,x1,y1⟩:=ra.2 i p hp;obtain ⟨pb,x2,y2⟩:=rb.2 i q hq;have x1:=x1 .i64;have x2:=x2 .i64;rw [ζ7v];by_cases hpq:p = q
    ·subst hpq;exact .inl ⟨_,H',by simp -implicitDefEqProofs (disch:=omega) [hlt,ra.1,x1,x2,y1,y2],rfl,rfl,by rw [List.take_add_one,List.take_add_one,ht,hp,hq]⟩
    ·refine .inr ⟨.ret,_,H',by simp -implicitDefEqProofs (disch:=omega) [hlt,ra.1,x1,x2,y1,y2,Pl.eqb,hpq,-List.cons_beq_cons,-List.cons.injEq],by simp,rfl,.inl ⟨rfl,rfl,?_⟩⟩;intro hab;subst hab;rw [hp] at hq;exact hpq (Option.some.inj hq))
   (fun e H' ⟨he,hH,ht⟩ => by
    subst he hH;rw [ζ7v];refine ⟨.exit 0,_,H',by simp [ra.1]; rfl,by simp,rfl,.inr ⟨_,rfl,rfl,?_⟩⟩;rw [List.take_length,hl,List.take_length] at ht;exact ht)
  have hbeq:((a.length:Int) != (b.length:Int)) = false:=by simp [hl]
  rcases hq with ⟨rfl,rfl,hne⟩ | ⟨v,rfl,rfl,heq⟩
  ·simp -implicitDefEqProofs [ζ1m,ra.1,rb.1,hbeq,hr,ζcu,hne]
  ·subst heq; simp -implicitDefEqProofs [ζ1m,ra.1,rb.1,hr,ζbq]
 ·have hne:¬ a = b:=fun h => hl (by rw [h]);have:((a.length:Int) != (b.length:Int)) = true:=by simp; omega
  simp -implicitDefEqProofs [ζ1m,ra.1,rb.1,this,hne]
theorem ζq7 (k:Nat) (a b:List Pl) (ha:a.length ≤ 2 ^ 31) (H:Heap):R (T k) F.ζ1m [lv encP a,lv encP b] H = .ok (.bool (decide (a = b))) H :=
 ζrl k (.lv encP_len H a) (.lv encP_len H b) ha
def updPl (l:List Pl) (i:Int) (f:Pl → Pl):List Pl:=if 0 ≤ i then l.modify i.toNat f else l
theorem ζc6 (k:Nat) (l:List Pl) (i a x y:Int) (hl:l.length ≤ 2 ^ 20) (hok:∀ p,p ∈ l → p.ok) (H:Heap) :
  R (T k) F.ζg [lv encP l,.int .i64 i,.int .i64 a,.int .i64 x,.int .i64 y] H = .ok (lv encP (updPl l i fun p => ⟨addI p.adv a,addI p.x x,addI p.y y⟩)) H:=by
 rw [ζip];obtain ⟨s,H1,e1,o1,x1,_⟩:=apR_own (bytes:=12) encP_len (Own.bare H H 3) (Ext.refl H) (b:=lv encP l) (l2:=l) rfl (lv_first encP_len l H) (by simp; omega) (by decide);rw [List.nil_append] at o1;by_cases hi:0 ≤ i ∧ i < l.length
 ·obtain ⟨n,rfl⟩:∃ n:Nat,i = n:=⟨i.toNat,by omega⟩
  have hn:n < l.length:=by omega
  obtain ⟨p,hp⟩:∃ p,l[n]? = some p:=⟨l[n],List.getElem?_eq_getElem hn⟩
  have hpo:=hok p (List.mem_of_getElem? hp);obtain ⟨b,rfl,hb,hg,_⟩:=ixS_own o1 .i64 n hn H1;have hix:∀ H':Heap,ixS 3 (.slice (some ⟨b,0,none⟩) l.length l.length) (.int .i64 n) H' = .ok (.pointer (some ⟨b,n * 3,none⟩)) H':=fun H' => by
   obtain ⟨b',he,_,_,h⟩:=ixS_own o1 .i64 n hn H';injection he with he; injection he with he; injection he with he;subst he; exact h
  have r1:=ld1_row encP_len hg (c:=0) hp (by decide) rfl;obtain ⟨H2,s1,g1,k1,n1⟩:=st_row encP_len hg (c:=0) (n:=1) ⟨addI p.adv a,p.x,p.y⟩ (v:=.int .i32 (addI p.adv a)) hp rfl rfl (by decide) rfl;have hp2:(l.set n ⟨addI p.adv a,p.x,p.y⟩)[n]? = some ⟨addI p.adv a,p.x,p.y⟩:=by rw [List.getElem?_set_self hn]
  have r2:=ld1_row encP_len g1 (c:=1) hp2 (by decide) rfl;obtain ⟨H3,s2,g2,k2,n2⟩:=st_row encP_len g1 (c:=1) (n:=1) ⟨addI p.adv a,addI p.x x,p.y⟩ (v:=.int .i32 (addI p.x x)) hp2 rfl rfl (by decide) rfl;rw [List.set_set] at g2;have hp3:(l.set n ⟨addI p.adv a,addI p.x x,p.y⟩)[n]? = some ⟨addI p.adv a,addI p.x x,p.y⟩:=by rw [List.getElem?_set_self hn]
  have r3:=ld1_row encP_len g2 (c:=2) hp3 (by decide) rfl;obtain ⟨H4,s3,g3,k3,n3⟩:=st_row encP_len g2 (c:=2) (n:=1) ⟨addI p.adv a,addI p.x x,addI p.y y⟩ (v:=.int .i32 (addI p.y y)) hp3 rfl rfl (by decide) rfl;rw [List.set_set] at g3;have hupd:updPl l n (fun p => ⟨addI p.adv a,addI p.x x,addI p.y y⟩) = l.set n ⟨addI p.adv a,addI p.x x,addI p.y y⟩:=by
   unfold updPl;rw [if_pos (by omega)];rw [Int.toNat_natCast,ζba _ l n p hp]
  have hx4:Ext H H4:=⟨by rw [n3,n2,n1]; exact x1.n,fun c hc hs => by
   rw [k3 c (by omega),k2 c (by omega),k1 c (by omega)]; exact x1.2 c hc hs⟩
  have o4:Own H H4 3 (.slice (some ⟨b,0,none⟩) l.length l.length) encP (updPl l n fun p => ⟨addI p.adv a,addI p.x x,addI p.y y⟩):=by
   rw [hupd];exact .inr ⟨b,by simp,hb,g3⟩
  obtain ⟨L,hf⟩:=o4.freeze encP_len (ζ9h _) 6;refine nrm_fz (v:=.slice (some ⟨b,0,none⟩) l.length l.length) (H':=H4) ?_ hf hx4 (Flat.alive (Flat.lv (ζ90 _)));have hlt:(n:Int) < l.length:=hi.2;simp only [Nat.add_zero] at r1 s1;simp -implicitDefEqProofs [-ld1_ptr,-stR_ptr,ζg,e1,hlt,hix,r1,s1,r2,s2,r3,s3,ζjz _ _ _ hpo.1.1 hpo.1.2,ζjz _ _ _ hpo.2.1.1 hpo.2.1.2,ζjz _ _ _ hpo.2.2.1 hpo.2.2.2,ζcs]
 ·have hupd:updPl l i (fun p => ⟨addI p.adv a,addI p.x x,addI p.y y⟩) = l:=by
   unfold updPl;split
   ·exact ζc2 _ _ _ (by omega)
   ·rfl
  rw [hupd];obtain ⟨L,hf⟩:=o1.freeze encP_len (ζ9h _) 6;refine nrm_fz (v:=s) (H':=H1) ?_ hf x1 (Flat.alive (Flat.lv (ζ90 _)));by_cases h0:0 ≤ i
  ·have hlt:¬ i < l.length:=fun h => hi ⟨h0,h⟩;simp -implicitDefEqProofs [ζg,e1,h0,o1.len,hlt,ζ7u]
  ·simp -implicitDefEqProofs [ζg,e1,h0,ζ7u]
def acrossPl (l:List Pl) (down:Bool) (i n:Int):List Pl:=if down then updPl l i fun p => ⟨addI p.adv 0,addI p.x n,addI p.y 0⟩ else updPl l i fun p => ⟨addI p.adv 0,addI p.x 0,addI p.y n⟩
theorem ζne (k:Nat) (l:List Pl) (down:Bool) (i n:Int) (hl:l.length ≤ 2 ^ 20) (hok:∀ p,p ∈ l → p.ok) (H:Heap) :
  R (T k) F.ζ14 [lv encP l,.bool down,.int .i64 i,.int .i64 n] H = .ok (lv encP (acrossPl l down i n)) H:=by
 rw [ζef];have hflat:∀ l:List Pl,Alive H (lv encP l):=fun l => Flat.alive (Flat.lv (ζ90 l));have hst:∀ l:List Pl,fzV H.n H fzDepth (lv encP l) = some (lv encP l,[]):=fun l => rfl;cases down
 ·exact nrm_fz (by simp -implicitDefEqProofs [ζ14,ζc6 k l i 0 0 n hl hok,acrossPl]) (hst _) (Ext.refl H) (hflat _)
 ·exact nrm_fz (by simp -implicitDefEqProofs [ζ14,ζc6 k l i 0 n 0 hl hok,acrossPl]) (hst _) (Ext.refl H) (hflat _)
def levelPl (l:List Pl) (down:Bool) (i:Int):List Pl:=updPl l i fun p => if down then ⟨p.adv,0,p.y⟩ else ⟨p.adv,p.x,0⟩
theorem ζo6 (k:Nat) (l:List Pl) (down:Bool) (i:Int) (hl:l.length ≤ 2 ^ 20) (H:Heap) :
  R (T k) F.ζj [lv encP l,.bool down,.int .i64 i] H = .ok (lv encP (levelPl l down i)) H:=by
 rw [ζff];obtain ⟨s,H1,e1,o1,x1,_⟩:=apR_own (bytes:=12) encP_len (Own.bare H H 3) (Ext.refl H) (b:=lv encP l) (l2:=l) rfl (lv_first encP_len l H) (by simp; omega) (by decide);rw [List.nil_append] at o1;by_cases hi:0 ≤ i ∧ i < l.length
 ·obtain ⟨n,rfl⟩:∃ n:Nat,i = n:=⟨i.toNat,by omega⟩
  have hn:n < l.length:=by omega
  obtain ⟨p,hp⟩:∃ p,l[n]? = some p:=⟨l[n],List.getElem?_eq_getElem hn⟩
  obtain ⟨b,rfl,hb,hg,_⟩:=ixS_own o1 .i64 n hn H1;have hix:∀ H':Heap,ixS 3 (.slice (some ⟨b,0,none⟩) l.length l.length) (.int .i64 n) H' = .ok (.pointer (some ⟨b,n * 3,none⟩)) H':=fun H' => by
   obtain ⟨b',he,_,_,h⟩:=ixS_own o1 .i64 n hn H';injection he with he; injection he with he; injection he with he;subst he; exact h
  have hlt:(n:Int) < l.length:=hi.2;have fin:∀ (H2:Heap) (q:Pl),H2.get b = some ⟨rows encP (l.set n q),3,false⟩ → (∀ d,d ≠ b → H2.get d = H1.get d) → H2.n = H1.n → ∀ r,r = .ok (.slice (some ⟨b,0,none⟩) l.length l.length) H2 → nrm .fz H r = .ok (lv encP (l.set n q)) H:=by
   intro H2 q g1 k1 n1 r hr;have hx2:Ext H H2:=⟨by rw [n1]; exact x1.n,fun c hc hs => by rw [k1 c (by omega)]; exact x1.2 c hc hs⟩
   have o2:Own H H2 3 (.slice (some ⟨b,0,none⟩) l.length l.length) encP (l.set n q):=.inr ⟨b,by simp,hb,g1⟩;obtain ⟨L,hf⟩:=o2.freeze encP_len (ζ9h _) 6;exact nrm_fz hr hf hx2 (Flat.alive (Flat.lv (ζ90 _)))
  cases down
  ·obtain ⟨H2,s1,g1,k1,n1⟩:=st_row encP_len hg (c:=2) (n:=1) ⟨p.adv,p.x,0⟩ (v:=.int .i32 0) hp rfl rfl (by decide) rfl;have hup:levelPl l false n = l.set n ⟨p.adv,p.x,0⟩:=by
    unfold levelPl updPl;rw [if_pos (by omega),Int.toNat_natCast,ζba _ l n p hp]; rfl
   rw [hup];refine fin H2 _ g1 k1 n1 _ ?_;simp -implicitDefEqProofs [-ld1_ptr,-stR_ptr,ζj,e1,hlt,hix,s1,ζ7f]
  ·obtain ⟨H2,s1,g1,k1,n1⟩:=st_row encP_len hg (c:=1) (n:=1) ⟨p.adv,0,p.y⟩ (v:=.int .i32 0) hp rfl rfl (by decide) rfl;have hup:levelPl l true n = l.set n ⟨p.adv,0,p.y⟩:=by
    unfold levelPl updPl;rw [if_pos (by omega),Int.toNat_natCast,ζba _ l n p hp]; rfl
   rw [hup];refine fin H2 _ g1 k1 n1 _ ?_;simp -implicitDefEqProofs [-ld1_ptr,-stR_ptr,ζj,e1,hlt,hix,s1,ζ7f]
 ·have hupd:levelPl l down i = l:=by
   unfold levelPl updPl;split
   ·exact ζc2 _ _ _ (by omega)
   ·rfl
  rw [hupd];obtain ⟨L,hf⟩:=o1.freeze encP_len (ζ9h _) 6;refine nrm_fz (v:=s) (H':=H1) ?_ hf x1 (Flat.alive (Flat.lv (ζ90 _)));by_cases h0:0 ≤ i
  ·have hlt:¬ i < l.length:=fun h => hi ⟨h0,h⟩;simp -implicitDefEqProofs [ζj,e1,h0,o1.len,hlt,ζ7g]
  ·simp -implicitDefEqProofs [ζj,e1,h0,ζ7g]
end Go.Sw
end
section
namespace Go.Sw
def PlAt (H:Heap) (p:Nat) (o:Option Nat) (down:Bool) (l:List Pl):Prop :=
 (∀ b,o = some b → b ≠ p) ∧ ∃ s,H.get p = some ⟨[.bool down,s],1,false⟩ ∧ OwnO H o 3 s encP l
theorem PlAt.up {H H':Heap} {p:Nat} {o:Option Nat} {down:Bool} {l:List Pl} (h:PlAt H p o down l) (hp:H'.get p = H.get p) (ho:∀ b,o = some b → H'.get b = H.get b):PlAt H' p o down l:=by
 obtain ⟨h1,s,h2,h3⟩:=h;exact ⟨h1,s,by rw [hp]; exact h2,h3.up ho⟩
theorem PlAt.lt {H:Heap} {p:Nat} {o:Option Nat} {down:Bool} {l:List Pl} (h:PlAt H p o down l):p < H.n:=by
 obtain ⟨_,s,h2,_⟩:=h;exact Heap.get_lt h2
theorem PlAt.lto {H:Heap} {p:Nat} {o:Option Nat} {down:Bool} {l:List Pl} (h:PlAt H p o down l):∀ b,o = some b → b < H.n:=by
 obtain ⟨_,s,_,h3⟩:=h;intro b hb;rcases h3 with ⟨h4,_⟩ | ⟨c,h4,_,h5⟩
 ·rw [h4] at hb; cases hb
 ·rw [h4] at hb; injection hb with hb; subst hb; exact Heap.get_lt h5
theorem PlAt.ext {H H':Heap} {p:Nat} {o:Option Nat} {down:Bool} {l:List Pl} (h:PlAt H p o down l) (hx:Ext H H'):PlAt H' p o down l :=
 h.up (hx.2 p h.lt (by simp)) fun b hb => hx.2 b (h.lto b hb) (by simp)
def fpP (p:Nat) (o:Option Nat):List Nat:=p :: o.toList
theorem plAt_run (k:Nat) {H:Heap} {p:Nat} {o:Option Nat} {down:Bool} {l:List Pl} (h:PlAt H p o down l) (hok:∀ q,q ∈ l → q.ok) (i:Int) :
  ∃ H1 b j l' q e,R (T k) F.ζ1z [.pointer (some ⟨p,0,none⟩),.int .i64 i] H = .ok (.pointer (some ⟨b,j * 3,none⟩)) H1 ∧ b ≠ p ∧ H1.get b = some ⟨rows encP l',e,false⟩ ∧ l'[j]? = some q ∧ q.ok ∧ H1.get p = H.get p ∧
   ∀ (H2:Heap) (f:Pl → Pl),H2.get b = some ⟨rows encP (l'.set j (f q)),e,false⟩ → (∀ c,c ≠ b → H2.get c = H1.get c) → H2.n = H1.n → PlAt H2 p o down (updPl l i f) ∧ Keeps (fpP p o) H H2:=by
 have hh:=h;have hlt:=h.lt;have hlto:=h.lto;obtain ⟨hne,s,h2,h3⟩:=h;rw [ζi7];by_cases hi:0 ≤ i ∧ i < l.length
 ·obtain ⟨n,rfl⟩:∃ n:Nat,i = n:=⟨i.toNat,by omega⟩
  have hn:n < l.length:=by omega
  obtain ⟨q,hq⟩:∃ q,l[n]? = some q:=⟨l[n],List.getElem?_eq_getElem hn⟩
  obtain ⟨b,rfl,rfl,hb,hix⟩:=h3.ix .i64 n hn;have h0:¬ (n:Int) < 0:=by omega
  have h1:¬ (l.length:Int) ≤ n:=by omega
  refine ⟨H,b,n,l,q,3,by simp -implicitDefEqProofs [ζ1z,h2,h0,h1,hix],hne b rfl,hb,hq,hok q (List.mem_of_getElem? hq),rfl,fun H2 f g1 g2 g3 => ⟨⟨hne,_,by rw [g2 p (fun e => hne b rfl e.symm)]; exact h2,?_⟩,by rw [g3]; exact Nat.le_refl _,fun c hc hs => g2 c fun e => hs (by simp [fpP,e])⟩⟩;have:updPl l n f = l.set n (f q):=by
   unfold updPl;rw [if_pos (by omega),Int.toNat_natCast,ζba _ l n q hq]
  rw [this];exact .inr ⟨b,rfl,by simp,g1⟩
 ·refine ⟨H.push ⟨[.int .i32 0,.int .i32 0,.int .i32 0],1,false⟩,H.n,0,[⟨0,0,0⟩],⟨0,0,0⟩,1,?_,by omega,by rw [Heap.get_push,if_pos rfl]; rfl,rfl,by unfold Pl.ok; simp,ζ2k _ _ _ hlt,fun H2 f g1 g2 g3 => ?_⟩
  ·by_cases h0:i < 0
   ·simp -implicitDefEqProofs [ζ1z,h0]
   ·have h1:(l.length:Int) ≤ i:=by omega
    simp -implicitDefEqProofs [ζ1z,h0,h2,h3.len,h1]
  ·have:updPl l i f = l:=by
    unfold updPl;split
    ·exact ζc2 _ _ _ (by omega)
    ·rfl
   rw [this];have hx:Ext H H2:=⟨by rw [g3]; simp,fun c hc hs => by rw [g2 c (by omega)]; exact ζ2k _ _ _ hc⟩
   exact ⟨hh.ext hx,hx.1,fun c hc _ => hx.2 c hc (by simp)⟩
theorem ζs4 (k:Nat) {H:Heap} {p:Nat} {o:Option Nat} {down:Bool} {l:List Pl} (h:PlAt H p o down l) (hok:∀ q,q ∈ l → q.ok) (i n:Int) :
  ∃ H2,R (T k) F.ζ1w [.pointer (some ⟨p,0,none⟩),.int .i64 i,.int .i64 n] H = .ok (.tuple #[]) H2 ∧ PlAt H2 p o down (updPl l i fun q => ⟨addI q.adv n,q.x,q.y⟩) ∧ Keeps (fpP p o) H H2:=by
 obtain ⟨H1,b,j,l',q,e,a1,_,a2,a3,a4,_,a5⟩:=plAt_run k h hok i;have r1:=ld1_row encP_len a2 (c:=0) a3 (by decide) rfl;obtain ⟨H2,s1,g1,k1,n1⟩:=st_row encP_len a2 (c:=0) (n:=1) ⟨addI q.adv n,q.x,q.y⟩ (v:=.int .i32 (addI q.adv n)) a3 rfl rfl (by decide) rfl;obtain ⟨b1,b2⟩:=a5 H2 (fun q => ⟨addI q.adv n,q.x,q.y⟩) g1 k1 n1;refine ⟨H2,?_,b1,b2⟩;simp only [Nat.add_zero] at r1 s1;rw [ζdc];simp -implicitDefEqProofs [-ld1_ptr,-stR_ptr,ζ1w,a1,r1,s1,Add_run _ _ _ a4.1.1 a4.1.2]
theorem side_run (k:Nat) {H:Heap} {p:Nat} {o:Option Nat} {down:Bool} {l:List Pl} (h:PlAt H p o down l) (hok:∀ q,q ∈ l → q.ok) (i:Int) :
  ∃ H1 b j l' q e,R (T k) F.ζ2p [.pointer (some ⟨p,0,none⟩),.int .i64 i] H = .ok (.pointer (some ⟨b,j * 3 + (if down then 1 else 2),none⟩)) H1 ∧ H1.get b = some ⟨rows encP l',e,false⟩ ∧ l'[j]? = some q ∧ q.ok ∧
   ∀ (H2:Heap) (f:Pl → Pl),H2.get b = some ⟨rows encP (l'.set j (f q)),e,false⟩ → (∀ c,c ≠ b → H2.get c = H1.get c) → H2.n = H1.n → PlAt H2 p o down (updPl l i f) ∧ Keeps (fpP p o) H H2:=by
 obtain ⟨H1,b,j,l',q,e,a1,a0,a2,a3,a4,ap,a5⟩:=plAt_run k h hok i;obtain ⟨_,s,h2,_⟩:=h;refine ⟨H1,b,j,l',q,e,?_,a2,a3,a4,a5⟩;rw [ζdz];rw [← ap] at h2;cases down <;> simp -implicitDefEqProofs [ζ2p,a1,h2]
theorem ζqk (k:Nat) {H:Heap} {p:Nat} {o:Option Nat} {down:Bool} {l:List Pl} (h:PlAt H p o down l) (hok:∀ q,q ∈ l → q.ok) (i n:Int) :
  ∃ H2,R (T k) F.ζ1e [.pointer (some ⟨p,0,none⟩),.int .i64 i,.int .i64 n] H = .ok (.tuple #[]) H2 ∧ PlAt H2 p o down (updPl l i fun q => if down then ⟨q.adv,addI q.x n,q.y⟩ else ⟨q.adv,q.x,addI q.y n⟩) ∧ Keeps (fpP p o) H H2:=by
 obtain ⟨H1,b,j,l',q,e,a1,a2,a3,a4,a5⟩:=side_run k h hok i;rw [ζca];cases down
 ·have r1:=ld1_row encP_len a2 (c:=2) a3 (by decide) rfl;obtain ⟨H2,s1,g1,k1,n1⟩:=st_row encP_len a2 (c:=2) (n:=1) ⟨q.adv,q.x,addI q.y n⟩ (v:=.int .i32 (addI q.y n)) a3 rfl rfl (by decide) rfl;obtain ⟨b1,b2⟩:=a5 H2 (fun q => ⟨q.adv,q.x,addI q.y n⟩) g1 k1 n1;refine ⟨H2,?_,by simpa using b1,b2⟩;simp only [Bool.false_eq_true,if_false] at a1;simp -implicitDefEqProofs [-ld1_ptr,-stR_ptr,ζ1e,a1,r1,s1,Add_run _ _ _ a4.2.2.1 a4.2.2.2]
 ·have r1:=ld1_row encP_len a2 (c:=1) a3 (by decide) rfl;obtain ⟨H2,s1,g1,k1,n1⟩:=st_row encP_len a2 (c:=1) (n:=1) ⟨q.adv,addI q.x n,q.y⟩ (v:=.int .i32 (addI q.x n)) a3 rfl rfl (by decide) rfl;obtain ⟨b1,b2⟩:=a5 H2 (fun q => ⟨q.adv,addI q.x n,q.y⟩) g1 k1 n1;refine ⟨H2,?_,by simpa using b1,b2⟩;simp only [if_true] at a1;simp -implicitDefEqProofs [-ld1_ptr,-stR_ptr,ζ1e,a1,r1,s1,Add_run _ _ _ a4.2.1.1 a4.2.1.2]
theorem ζs9 (k:Nat) {H:Heap} {p:Nat} {o:Option Nat} {down:Bool} {l:List Pl} (h:PlAt H p o down l) (hok:∀ q,q ∈ l → q.ok) (i:Int) :
  ∃ H2,R (T k) F.ζ1o [.pointer (some ⟨p,0,none⟩),.int .i64 i] H = .ok (.tuple #[]) H2 ∧ PlAt H2 p o down (levelPl l down i) ∧ Keeps (fpP p o) H H2:=by
 obtain ⟨H1,b,j,l',q,e,a1,a2,a3,a4,a5⟩:=side_run k h hok i;rw [ζdd];cases down
 ·obtain ⟨H2,s1,g1,k1,n1⟩:=st_row encP_len a2 (c:=2) (n:=1) ⟨q.adv,q.x,0⟩ (v:=.int .i32 0) a3 rfl rfl (by decide) rfl;obtain ⟨b1,b2⟩:=a5 H2 (fun q => ⟨q.adv,q.x,0⟩) g1 k1 n1;refine ⟨H2,?_,by simpa [levelPl] using b1,b2⟩;simp only [Bool.false_eq_true,if_false] at a1;simp -implicitDefEqProofs [-ld1_ptr,-stR_ptr,ζ1o,a1,s1]
 ·obtain ⟨H2,s1,g1,k1,n1⟩:=st_row encP_len a2 (c:=1) (n:=1) ⟨q.adv,0,q.y⟩ (v:=.int .i32 0) a3 rfl rfl (by decide) rfl;obtain ⟨b1,b2⟩:=a5 H2 (fun q => ⟨q.adv,0,q.y⟩) g1 k1 n1;refine ⟨H2,?_,by simpa [levelPl] using b1,b2⟩;simp only [if_true] at a1;simp -implicitDefEqProofs [-ld1_ptr,-stR_ptr,ζ1o,a1,s1]
end Go.Sw
end
section
namespace Go.Sw
theorem cloneP_R (k:Nat) (a:Value) (H:Heap):R (T k) F.ζe [a] H = nrm .no H (cloneV 3 12 [a] H) :=
 R_sp (t:=T k) (T_scott k) (s:=fun _ args H => cloneV 3 12 args H) (by kernel_rfl) _ _
theorem ζsa (k:Nat) {H:Heap} {p:Nat} {o:Option Nat} {down:Bool} {l:List Pl} (h:PlAt H p o down l) (hok:∀ q,q ∈ l → q.ok) (i x y:Int) :
  ∃ H2,R (T k) F.ζ28 [.pointer (some ⟨p,0,none⟩),.int .i64 i,.int .i64 x,.int .i64 y] H = .ok (.tuple #[]) H2 ∧ PlAt H2 p o down (updPl l i fun q => ⟨q.adv,addI q.x x,addI q.y y⟩) ∧ Keeps (fpP p o) H H2:=by
 obtain ⟨H1,b,j,l',q,e,a1,_,a2,a3,a4,_,a5⟩:=plAt_run k h hok i;have hj:=(List.getElem?_eq_some_iff.1 a3).1;have r1:=ld1_row encP_len a2 (c:=1) a3 (by decide) rfl;have r2:=ld1_row encP_len a2 (c:=2) a3 (by decide) rfl;obtain ⟨H2,s1,g1,k1,n1⟩:=st_row encP_len a2 (c:=1) (n:=1) ⟨q.adv,addI q.x x,q.y⟩ (v:=.int .i32 (addI q.x x)) a3 rfl rfl (by decide) rfl;have hq2:(l'.set j ⟨q.adv,addI q.x x,q.y⟩)[j]? = some ⟨q.adv,addI q.x x,q.y⟩:=by rw [List.getElem?_set_self hj]
 obtain ⟨H3,s2,g2,k2,n2⟩:=st_row encP_len g1 (c:=2) (n:=1) ⟨q.adv,addI q.x x,addI q.y y⟩ (v:=.int .i32 (addI q.y y)) hq2 rfl rfl (by decide) rfl;rw [List.set_set] at g2;obtain ⟨b1,b2⟩:=a5 H3 (fun q => ⟨q.adv,addI q.x x,addI q.y y⟩) g2 (fun c hc => by rw [k2 c hc,k1 c hc]) (by rw [n2,n1]);refine ⟨H3,?_,b1,b2⟩;rw [ζde];simp -implicitDefEqProofs [-ld1_ptr,-stR_ptr,ζ28,a1,r1,r2,s1,s2,Add_run _ _ _ a4.2.1.1 a4.2.1.2,Add_run _ _ _ a4.2.2.1 a4.2.2.2]
theorem All_run (k:Nat) (hk:k < 1000000) {H:Heap} {p:Nat} {o:Option Nat} {down:Bool} {l:List Pl} (h:PlAt H p o down l) (hl:l.length ≤ 2 ^ 20):R (T k) F.ζ31 [.pointer (some ⟨p,0,none⟩)] H = .ok (lv encP l) H:=by
 obtain ⟨_,s,h2,h3⟩:=h;obtain ⟨s',H',e1,o1,x1⟩:=ζsn (bytes:=12) encP_len h3 (by omega) (by decide);have ho:own k = .fz:=by unfold own; rw [show Nat.blt k 1000000 = true from Nat.ble_eq_true_of_le hk]; rfl
 rw [ζf3,ho];obtain ⟨L,hf⟩:=o1.freeze encP_len (ζ9h _) 6;refine nrm_fz (v:=s') (H':=H') ?_ hf x1 (Flat.alive (Flat.lv (ζ90 _)));simp -implicitDefEqProofs [ζ31,h2,cloneP_R,e1]
theorem New_runG (k:Nat) (dir:Int) (l:List Int) (hl:l.length ≤ 2 ^ 20) (H:Heap) {av:Value} (hv:Sl H 1 av encI l) :
  ∃ H' o,R (T k) F.ζ5r [.int .i64 dir,av] H = .ok (.pointer (some ⟨H.n,0,none⟩)) H' ∧ PlAt H' H.n o (dir == 2) (newPl l) ∧ (∀ b,o = some b → H.n < b) ∧ Ext H H':=by
 rw [ζq3]
 obtain ⟨x,e',H1,hr,v,rfl,rfl,o,ho,hf,hx⟩:=loop_up (body:=ζdb k (R (T k))) l.length
  (fun i e H' => e = [(5,.pointer (some ⟨H.n,0,none⟩)),(12,av),(13,.int .i64 l.length),(14,.int .i64 i)] ∧ ∃ o,PlAt H' H.n o (dir == 2) (newPl (l.take i)) ∧ (∀ b,o = some b → H.n < b) ∧ Ext H H')
  (fun x e H' => ∃ v,x = .exit 0 ∧ e = [(5,.pointer (some ⟨H.n,0,none⟩)),(12,av),(13,.int .i64 l.length),(14,.int .i64 l.length),(15,v)] ∧ ∃ o,PlAt H' H.n o (dir == 2) (newPl l) ∧ (∀ b,o = some b → H.n < b) ∧ Ext H H')
  (e0:=[(5,.pointer (some ⟨H.n,0,none⟩)),(12,av),(13,.int .i64 l.length),(14,.int .i64 0)]) (H0:=H.push ⟨[.bool (dir == 2),.slice none 0 0],1,false⟩)
  ⟨rfl,none,⟨(fun b hb => by cases hb),.slice none 0 0,by rw [Heap.get_push,if_pos rfl],.inl ⟨rfl,rfl,.inl rfl⟩⟩,(fun b hb => by cases hb),(Ext.refl H).push _⟩ (by omega)
  (fun i e H' hi ⟨he,o,⟨hne,s,h2,h3⟩,hof,hx⟩ => by
   subst he;obtain ⟨n,hg⟩:∃ n,l[i]? = some n:=⟨l[i],List.getElem?_eq_getElem hi⟩
   have hlt:(i:Int) < l.length:=by omega
   have hpn:H.n < H'.n:=Heap.get_lt h2;have hlto:∀ b,o = some b → b < H'.n:=fun b hb => by
    rcases h3 with ⟨h4,_⟩ | ⟨c,h4,_,h5⟩
    ·rw [h4] at hb; cases hb
    ·rw [h4] at hb; injection hb with hb; subst hb; exact Heap.get_lt h5
   have hlen:(newPl (l.take i)).length < 2 ^ 31:=by simp [newPl]; omega
   obtain ⟨s',H2,e1,o1,n1,k1⟩:=ap1_ownO (bytes:=12) encP_len h3 hlto ⟨clampI n,0,0⟩ hlen (by decide);have k2:=k1 H.n hpn fun e => hne H.n e rfl;rw [h2] at k2;have hne2:¬ H.n = H'.n:=by omega
   obtain ⟨pt,hix,hld⟩:=hv.ix1 encI_len i n hg _ rfl;have hld:=hld H' hx;refine .inl ⟨_,H2.set H.n (some ⟨[.bool (dir == 2),s'],1,false⟩),?_,rfl,some (H'.n + 1),⟨fun b hb => by injection hb; omega,s',by rw [Heap.get_set k2,if_pos rfl],?_⟩,fun b hb => by injection hb; omega,?_⟩
   ·rw [ζd1];simp -implicitDefEqProofs (disch:=omega) [hlt,hix,hld,h2,e1,k2,hne2,h3.veq,o1.storable,o1.cells]
   ·have:=o1.up (H':=H2.set H.n (some ⟨[.bool (dir == 2),s'],1,false⟩)) fun b hb => by
     injection hb with hb;exact ζ3m _ _ _ _ (by omega)
    have e:newPl (l.take (i + 1)) = newPl (l.take i) ++ [⟨clampI n,0,0⟩]:=by
     rw [List.take_add_one,hg]; simp [newPl]
    rw [e];exact this
   ·refine ⟨by rw [Heap.n_set,n1]; have:=hx.n; omega,fun c hc hs => ?_⟩;rw [ζ3m _ _ _ _ (by omega),k1 c (by omega) (fun e => by have:=hof c e; omega)];exact hx.2 c hc hs)
  (fun e H' ⟨he,o,ho,hof,hx⟩ => by
   subst he;rw [ζd1];exact ⟨.exit 0,_,H',by simp -implicitDefEqProofs <;> rfl,by simp,_,rfl,rfl,o,by simpa using ho,hof,hx⟩)
 have hln:=fun H' => hv.len H';refine ⟨H1,o,?_,ho,hf,hx⟩;simp -implicitDefEqProofs [ζ5r,hln,hr,ζjx]
end Go.Sw
end
section
namespace Go.Sw
open Go.RowKit
end Go.Sw
end
section
namespace Go.Sw
open Go.RowKit
theorem newPl_ok (l:List Int):∀ q,q ∈ newPl l → q.ok:=by
 intro q hq;obtain ⟨n,_,rfl⟩:=List.mem_map.1 hq;have:=ζbx n;have:=ζbw n;unfold Pl.ok;dsimp only;omega
@[simp] theorem ζp5 (l:List Int):(newPl l).length = l.length:=by simp [newPl]
theorem addI_0 {a:Int} (h:-2147483648 ≤ a ∧ a ≤ 2147483647):addI a 0 = a:=by
 unfold addI clampI;omega
theorem addI_ok (a n:Int):-2147483648 ≤ addI a n ∧ addI a n ≤ 2147483647:=⟨addI_lo _ _,addI_hi _ _⟩
theorem updPl_ok {l:List Pl} (h:∀ q,q ∈ l → q.ok) (i:Int) {f:Pl → Pl} (hf:∀ q,q.ok → (f q).ok):∀ q,q ∈ updPl l i f → q.ok:=by
 unfold updPl;split
 ·intro q hq;obtain ⟨j,hj⟩:=List.getElem?_of_mem hq;rw [List.getElem?_modify] at hj;cases hg:l[j]? with
  | none => rw [hg] at hj; simp at hj
  | some x =>
   have hx:=h x (List.mem_of_getElem? hg);rw [hg] at hj;simp at hj;subst hj;split
   ·exact hf x hx
   ·exact hx
 ·exact h
theorem ζhy {l:List Pl} (h:∀ q,q ∈ l → q.ok) (i:Int) {f g:Pl → Pl} (hf:∀ q,q.ok → f q = g q):updPl l i f = updPl l i g:=by
 unfold updPl;split
 ·apply List.ext_getElem?;intro j;rw [List.getElem?_modify,List.getElem?_modify];cases hg:l[j]? with
  | none => rfl
  | some x =>
   have:=hf x (h x (List.mem_of_getElem? hg));simp [this]
 ·rfl
end Go.Sw
end
section
namespace Go.Sw
open Go.RowKit
def oddB (vs:List Int) (a:Int):Bool:=(List.range (vs.length / 2)).any fun i => decide (a ≤ (i:Int) ∧ gU vs (2 * (i:Int)) 2 % 2 = 1)
theorem oddB_iff {vs:List Int} {a:Int}:oddB vs a = true ↔ ∃ i:Nat,a ≤ i ∧ 2 * i + 2 ≤ vs.length ∧ gU vs (2 * (i:Int)) 2 % 2 = 1:=by
 unfold oddB;rw [List.any_eq_true];constructor
 ·rintro ⟨i,hi,h⟩;have:=of_decide_eq_true h;have hi:=List.mem_range.1 hi;exact ⟨i,this.1,by omega,this.2⟩
 ·rintro ⟨i,h1,h2,h3⟩;exact ⟨i,List.mem_range.2 (by omega),decide_eq_true ⟨h1,h3⟩⟩
structure STab where
 m:Mach
 vals:List Int
def entOdd (vs:List Int) (e:En):Bool:=decide (e.a = 65535) || oddB vs e.a
def stackS (b:List Int) (g:Int):Option STab:=(machS b g 1).bind fun m => (uS b 16 4).bind fun p => (restS b p).bind fun vs => if m.ents.all (entOdd vs) then some ⟨m,vs⟩ else none
structure STab.ok (t:STab):Prop where
 m:t.m.ok
 byt:Byt t.vals
 len:t.vals.length < 2 ^ 31
 has:∀ e,e ∈ t.m.ents → e.a = 65535 ∨ oddB t.vals e.a = true
theorem ζts {b:List Int} (hb:Byt b) {g:Int} (h1:1 ≤ g) (h2:g ≤ 65535) (hl:b.length < 2 ^ 31) {t:STab} (h:stackS b g = some t):t.ok:=by
 unfold stackS at h;obtain ⟨m,hm,h⟩:=Option.bind_eq_some_iff.1 h;obtain ⟨p,hp,h⟩:=Option.bind_eq_some_iff.1 h;obtain ⟨vs,hv,h⟩:=Option.bind_eq_some_iff.1 h;split at h
 ·rename_i hc;injection h with h;subst h;have:=ζai hv;refine ⟨machS_ok hb h1 h2 (by omega) hm,hb.rest hv,by dsimp only; omega,fun e he => ?_⟩;have:=List.all_eq_true.1 hc e he;unfold entOdd at this;rw [Bool.or_eq_true,decide_eq_true_eq] at this;exact this
 ·cases h
def valV (vs:List Int) (a:Int):Int:=s16 (gU vs (2 * a) 2) - s16 (gU vs (2 * a) 2) % 2
def lastS (vs:List Int) (a:Int):Bool:=decide (s16 (gU vs (2 * a) 2) % 2 = 1)
def onePl (down cross:Bool) (l:List Pl) (i v:Int):List Pl:=if cross = false then updPl l i fun p => ⟨addI p.adv v,p.x,p.y⟩ else if v = -32768 then levelPl l down i else updPl l i fun p => if down then ⟨p.adv,addI p.x v,p.y⟩ else ⟨p.adv,p.x,addI p.y v⟩
def moveS (vs:List Int) (down cross:Bool):List Int → Int → List Pl → List Pl × List Int
 | [],_,l => (l,[])
 | i :: ks,a,l => if lastS vs a then (onePl down cross l i (valV vs a),ks) else moveS vs down cross ks (a + 1) (onePl down cross l i (valV vs a))
theorem ζm7 (down cross:Bool) (l:List Pl) (i v:Int):(onePl down cross l i v).length = l.length:=by
 unfold onePl levelPl updPl;split <;> split <;> (try split) <;> simp
theorem ζp2 (vs:List Int) (down cross:Bool):∀ (ks:List Int) (a:Int) (l:List Pl),(moveS vs down cross ks a l).1.length = l.length
 | [],_,_ => rfl
 | i :: ks,a,l => by
  unfold moveS;split
  ·exact ζm7 _ _ _ _ _
  ·rw [ζp2 vs down cross ks,ζm7]
theorem ζn3 (vs:List Int) (down cross:Bool):∀ (ks:List Int) (a:Int) (l:List Pl),∃ n,(moveS vs down cross ks a l).2 = ks.drop n
 | [],_,_ => ⟨0,rfl⟩
 | i :: ks,a,l => by
  unfold moveS;split
  ·exact ⟨1,rfl⟩
  ·obtain ⟨n,hn⟩:=ζn3 vs down cross ks (a + 1) (onePl down cross l i (valV vs a));exact ⟨n + 1,hn⟩
def doSt (t:STab) (n:Int) (down cross:Bool) (s:List Pl × List Int) (i:Int) (e:En):List Pl × List Int :=
 let k1:=if e.flags / 8192 % 2 = 1 then [] else s.2
 let k2:=if e.flags ≥ 32768 ∧ i < n then (i :: k1).take 8 else k1
 if e.a = 65535 then (s.1,k2) else moveS t.vals down cross k2 e.a s.1
theorem doSt_len (t:STab) (n:Int) (down cross:Bool) (s:List Pl × List Int) (i:Int) (e:En):(doSt t n down cross s i e).1.length = s.1.length:=by
 unfold doSt;dsimp only;split
 ·rfl
 ·exact ζp2 _ _ _ _ _ _
theorem onePl_ok {l:List Pl} (h:∀ q,q ∈ l → q.ok) (down cross:Bool) (i v:Int):∀ q,q ∈ onePl down cross l i v → q.ok:=by
 unfold onePl levelPl;split
 ·exact updPl_ok h i fun q hq => ⟨addI_ok _ _,hq.2⟩
 ·split
  ·refine updPl_ok h i fun q hq => ?_;split
   ·exact ⟨hq.1,by dsimp only; omega,hq.2.2⟩
   ·exact ⟨hq.1,hq.2.1,by dsimp only; omega⟩
  ·refine updPl_ok h i fun q hq => ?_;split
   ·exact ⟨hq.1,addI_ok _ _,hq.2.2⟩
   ·exact ⟨hq.1,hq.2.1,addI_ok _ _⟩
theorem moveS_ok (vs:List Int) (down cross:Bool):∀ (ks:List Int) (a:Int) {l:List Pl},(∀ q,q ∈ l → q.ok) → ∀ q,q ∈ (moveS vs down cross ks a l).1 → q.ok
 | [],_,_,h => h
 | i :: ks,a,l,h => by
  unfold moveS;split
  ·exact onePl_ok h _ _ _ _
  ·exact moveS_ok vs down cross ks (a + 1) (onePl_ok h _ _ _ _)
theorem doSt_ok (t:STab) (n:Int) (down cross:Bool) {s:List Pl × List Int} (h:∀ q,q ∈ s.1 → q.ok) (i:Int) (e:En):∀ q,q ∈ (doSt t n down cross s i e).1 → q.ok:=by
 unfold doSt;dsimp only;split
 ·exact h
 ·exact moveS_ok _ _ _ _ _ h
end Go.Sw
end
section
namespace Go.Sw
open Go.RowKit
def itPl (p:Nat) (o:Option Nat) (down:Bool) (l:List Pl):It :=
 ⟨fpP p o,fun H => PlAt H p o down l,fun _ _ h hk => h.up (hk p (by simp [fpP])) fun b hb => hk b (by simp [fpP,hb])⟩
theorem Star.pl {H0 H:Heap} {L:List It} (h:Star H0 H L) (i:Nat) {p:Nat} {o:Option Nat} {down:Bool} {l:List Pl} (hi:L[i]? = some (itPl p o down l)):PlAt H p o down l:=h.at i hi
theorem Star.plStep {H0 H H2:Heap} {L:List It} (h:Star H0 H L) (i:Nat) {p:Nat} {o:Option Nat} {down:Bool} {l l2:List Pl} (hi:L[i]? = some (itPl p o down l)) (hp:PlAt H2 p o down l2) (hk:Keeps (fpP p o) H H2):Star H0 H2 (L.set i (itPl p o down l2)) :=
 h.step i hi hk.1 (fun c hc hs => hk.2 c hc hs) _ hp fun b hb => .inl hb
theorem ζqm (k:Nat) {H0 H:Heap} {L:List It} (h:Star H0 H L) (i:Nat) {p:Nat} {o:Option Nat} {down:Bool} {l:List Pl} (hi:L[i]? = some (itPl p o down l)) (hok:∀ q,q ∈ l → q.ok) (j n:Int) :
  ∃ H2,R (T k) F.ζ1w [ptrV p,.int .i64 j,.int .i64 n] H = .ok (.tuple #[]) H2 ∧ Star H0 H2 (L.set i (itPl p o down (updPl l j fun q => ⟨addI q.adv n,q.x,q.y⟩))):=by
 obtain ⟨H2,e,h1,h2⟩:=ζs4 k (h.pl i hi) hok j n;exact ⟨H2,e,h.plStep i hi h1 h2⟩
theorem ζpl (k:Nat) {H0 H:Heap} {L:List It} (h:Star H0 H L) (i:Nat) {p:Nat} {o:Option Nat} {down:Bool} {l:List Pl} (hi:L[i]? = some (itPl p o down l)) (hok:∀ q,q ∈ l → q.ok) (j n:Int) :
  ∃ H2,R (T k) F.ζ1e [ptrV p,.int .i64 j,.int .i64 n] H = .ok (.tuple #[]) H2 ∧ Star H0 H2 (L.set i (itPl p o down (updPl l j fun q => if down then ⟨q.adv,addI q.x n,q.y⟩ else ⟨q.adv,q.x,addI q.y n⟩))):=by
 obtain ⟨H2,e,h1,h2⟩:=ζqk k (h.pl i hi) hok j n;exact ⟨H2,e,h.plStep i hi h1 h2⟩
theorem ζr7 (k:Nat) {H0 H:Heap} {L:List It} (h:Star H0 H L) (i:Nat) {p:Nat} {o:Option Nat} {down:Bool} {l:List Pl} (hi:L[i]? = some (itPl p o down l)) (hok:∀ q,q ∈ l → q.ok) (j:Int) :
  ∃ H2,R (T k) F.ζ1o [ptrV p,.int .i64 j] H = .ok (.tuple #[]) H2 ∧ Star H0 H2 (L.set i (itPl p o down (levelPl l down j))):=by
 obtain ⟨H2,e,h1,h2⟩:=ζs9 k (h.pl i hi) hok j;exact ⟨H2,e,h.plStep i hi h1 h2⟩
theorem ζrs (k:Nat) {H0 H:Heap} {L:List It} (h:Star H0 H L) (i:Nat) {p:Nat} {o:Option Nat} {down:Bool} {l:List Pl} (hi:L[i]? = some (itPl p o down l)) (hok:∀ q,q ∈ l → q.ok) (j x y:Int) :
  ∃ H2,R (T k) F.ζ28 [ptrV p,.int .i64 j,.int .i64 x,.int .i64 y] H = .ok (.tuple #[]) H2 ∧ Star H0 H2 (L.set i (itPl p o down (updPl l j fun q => ⟨q.adv,addI q.x x,addI q.y y⟩))):=by
 obtain ⟨H2,e,h1,h2⟩:=ζsa k (h.pl i hi) hok j x y;exact ⟨H2,e,h.plStep i hi h1 h2⟩
theorem ζma (k:Nat) {H0 H:Heap} {L:List It} (h:Star H0 H L) (dir:Int) (l:List Int) (hl:l.length ≤ 2 ^ 20) {av:Value} (hv:Sl H 1 av encI l) :
  ∃ o H',R (T k) F.ζ5r [.int .i64 dir,av] H = .ok (ptrV H.n) H' ∧ Star H0 H' (L ++ [itPl H.n o (dir == 2) (newPl l)]):=by
 obtain ⟨H',o,e,h1,h2,h3⟩:=New_runG k dir l hl H hv;refine ⟨o,H',e,h.more h3 _ h1 fun b hb => ?_⟩;have hlt:=h1.lt;rcases List.mem_cons.1 hb with rfl | hb
 ·omega
 ·have:=h2 b (Option.mem_toList.1 hb);have:=h1.lto b (Option.mem_toList.1 hb);omega
theorem ζna (k:Nat) {H0 H:Heap} {L:List It} (h:Star H0 H L) (dir:Int) (l:List Int) (hl:l.length ≤ 2 ^ 20) :
  ∃ o H',R (T k) F.ζ5r [.int .i64 dir,lv encI l] H = .ok (ptrV H.n) H' ∧ Star H0 H' (L ++ [itPl H.n o (dir == 2) (newPl l)]):=ζma k h dir l hl (Sl.lv H 1 l)
theorem ζo2 (k:Nat) (hk:k < 1000000) {H0 H:Heap} {L:List It} (h:Star H0 H L) (i:Nat) {p:Nat} {o:Option Nat} {down:Bool} {l:List Pl} (hi:L[i]? = some (itPl p o down l)) (hl:l.length ≤ 2 ^ 20):R (T k) F.ζ31 [ptrV p] H = .ok (lv encP l) H:=All_run k hk (h.pl i hi) hl
end Go.Sw
end
section
namespace Go.Sw
open Go.RowKit
theorem and_pow (n k:Nat):n &&& 2 ^ k = if n.testBit k then 2 ^ k else 0:=by
 apply Nat.eq_of_testBit_eq;intro i;rw [Nat.testBit_and,Nat.testBit_two_pow];by_cases h:k = i
 ·subst h;cases hb:n.testBit k
  ·simp
  ·simp
 ·cases hb:n.testBit k
  ·simp [h]
  ·simp only [h,decide_false,Bool.and_false,if_true,Nat.testBit_two_pow]
theorem bin_andP (P:Program) (t:TypeId) (H:Heap) (k:Nat) (hk:k < 62) {a:Int} (h0:0 ≤ a) (h1:a < 2 ^ 62) (m:Int) (hm:m = ((2 ^ k:Nat):Int)) :
  binR P .and t (.int .i64 a) (.int .i64 m) H = .ok (.int .i64 (if a / m % 2 = 1 then m else 0)) H:=by
 obtain ⟨n,rfl⟩:=Int.eq_ofNat_of_zero_le h0;have hp:2 ^ k ≤ 2 ^ 61:=Nat.pow_le_pow_right (by decide) (by omega);have hp0:0 < 2 ^ k:=Nat.two_pow_pos k;have e:(BitVec.ofInt 64 (n:Int) &&& BitVec.ofInt 64 m).toNat = if n.testBit k then 2 ^ k else 0:=by
  rw [BitVec.toNat_and,BitVec.toNat_ofInt,BitVec.toNat_ofInt,hm];rw [show (((n:Int)) % ((2 ^ 64:Nat):Int)).toNat = n by omega,show ((((2 ^ k:Nat):Int)) % ((2 ^ 64:Nat):Int)).toNat = 2 ^ k by omega,and_pow]
 have e1:binV P .and t (.int .i64 (n:Int)) (.int .i64 m) = some (.int .i64 (IntKind.i64.wrap (BitVec.ofInt 64 (n:Int) &&& BitVec.ofInt 64 m).toNat)):=rfl;unfold binR;rw [e1,e,Nat.testBit_eq_decide_div_mod_eq];have hd:(n:Int) / m = ((n / 2 ^ k:Nat):Int):=by rw [hm,Int.natCast_ediv]
 rw [hd];by_cases h:n / 2 ^ k % 2 = 1
 ·rw [decide_eq_true h,if_pos rfl,if_pos (by omega),wrap_i64 (by omega) (by omega),hm]; rfl
 ·rw [decide_eq_false h,if_neg (by simp),if_neg (by omega)]; rfl
theorem and13 (P:Program) (t:TypeId) (H:Heap) {a:Int} (h0:0 ≤ a) (h1:a < 65536):binR P .and t (.int .i64 a) (.int .i64 8192) H = .ok (.int .i64 (if a / 8192 % 2 = 1 then 8192 else 0)) H:=bin_andP P t H 13 (by decide) h0 (by omega) 8192 rfl
end Go.Sw
end
