/-
  Functions' forms, and what is proved of them, part 4.
-/
import Derived.Test.YtanfippcmdialaaSwCfg
import Derived.Test.YtanfippcmdialaaSwW3
import Derived.Test.YtanfippcmdialaaSwLib8
import Derived.Test.YtanfippcmdialaaSwW2
set_option linter.unusedSimpArgs false
set_option linter.unusedVariables false
set_option linter.unusedSectionVars false
section
set_option maxRecDepth 100000
set_option linter.unusedVariables false
namespace Go.Sw
noncomputable section
def ζ38 (k:Nat) (call:Caller) (a0:Value) (h:Heap):Res Value :=
 (nilR a0 h).bind fun v1 h2 =>
 (fieldAddrR Prog 164 v1 0 h2).bind fun v3 h4 =>
 (loadR Prog 22 v3 h4).bind fun v5 h6 =>
 (call F.ζ8 [v5] h6).bind fun v7 h8 =>
 .ok v7 h8
theorem ζhc (k:Nat) (a0:Value) (h:Heap):R (T k) F.ζ38 [a0] h = nrm (own k) h (ζ38 k (R (T k)) a0 h) :=
 (R_body (t:=T k) (T_scott k) (by kernel_rfl) (by kernel_rfl) _ _).trans (by kernel_rfl)
def ζhd (k:Nat) (call:Caller):Env → Heap → Res (AExit × Env):=loopB (C k) call F.line_New [1,1,0,1,0,0]
def ζjn (k:Nat) (call:Caller):Kont Value:=kBlock 0 (kSeq (pieceK (C k) call F.line_New [1,1,1]) (kDone Prog (resOf Prog F.line_New)))
def line_New (k:Nat) (call:Caller) (a0:Value) (h:Heap):Res Value :=
 (buildR Prog 164 [] h).bind fun v1 h2 =>
 (boxR v1 h2).bind fun v3 h4 =>
 (builtinV Prog .len [23] [a0] h4).bind fun v5 h6 =>
 (loopN (ζhd k call) loopFuel [(3,v3),(8,a0),(9,v5),(10,(.int .i64 0))] h6).bind fun r7 h8 =>
 ζjn k call r7.1 r7.2 h8
theorem ζr3 (k:Nat) (a0:Value) (h:Heap):R (T k) F.line_New [a0] h = nrm .no h (line_New k (R (T k)) a0 h) :=
 (R_body (t:=T k) (T_scott k) (by kernel_rfl) (by kernel_rfl) _ _).trans (by kernel_rfl)
theorem ζgq (k:Nat) (call:Caller) (a3 a8 a9 a10:Value) (h:Heap):ζhd k call [(3,a3),(8,a8),(9,a9),(10,a10)] h =
 (binR Prog .lss 3 a10 a9 h).bind fun v9 h10 =>
 condV (some v9) (
 (indexAddrR Prog 23 a8 a10 h10).bind fun v11 h12 =>
 (loadR Prog 3 v11 h12).bind fun v13 h14 =>
 (nilR a3 h14).bind fun v15 h16 =>
 (fieldAddrR Prog 164 v15 0 h16).bind fun v17 h18 =>
 (loadR Prog 22 v17 h18).bind fun v19 h20 =>
 (buildR Prog 57 [(0,v13),(1,a10)] h20).bind fun v21 h22 =>
 (buildSliceR Prog 22 1 [(0,v21)] h22).bind fun v23 h24 =>
 (builtinV Prog .append [22,22] [v19,v23] h24).bind fun v25 h26 =>
 (nilR a3 h26).bind fun v27 h28 =>
 (fieldAddrR Prog 164 v27 0 h28).bind fun v29 h30 =>
 (storeR Prog 22 v29 v25 h30).bind fun _v31 h32 =>
 (binR Prog .add 3 a10 (.int .i64 1) h32).bind fun v33 h34 =>
 .ok (.normal,[(3,a3),(8,a8),(9,a9),(10,v33)]) h34)
 (
 .ok ((.exit 0),[(3,a3),(8,a8),(9,a9),(10,a10),(11,v9)]) h10) :=
 (loopB_eq _ _).trans (by kernel_rfl)
theorem ζku (k:Nat) (call:Caller) (a3 a8 a9 a10 a11:Value) (h:Heap):ζjn k call (.exit 0) [(3,a3),(8,a8),(9,a9),(10,a10),(11,a11)] h =
 .ok a3 h:=by kernel_rfl
def ζ3g (k:Nat) (call:Caller) (a0:Value) (h:Heap):Res Value :=
 (nilR a0 h).bind fun v1 h2 =>
 (fieldAddrR Prog 164 v1 0 h2).bind fun v3 h4 =>
 (loadR Prog 22 v3 h4).bind fun v5 h6 =>
 (builtinV Prog .len [22] [v5] h6).bind fun v7 h8 =>
 .ok v7 h8
theorem ζks (k:Nat) (a0:Value) (h:Heap):R (T k) F.ζ3g [a0] h = nrm .gc h (ζ3g k (R (T k)) a0 h) :=
 (R_body (t:=T k) (T_scott k) (by kernel_rfl) (by kernel_rfl) _ _).trans (by kernel_rfl)
def ζ3i (k:Nat) (call:Caller) (a0 a1:Value) (h:Heap):Res Value :=
 (allocR Prog 57 h).bind fun v1 h2 =>
 (call F.ζ3j [a0,a1] h2).bind fun v3 h4 =>
 (unR .not v3 h4).bind fun v5 h6 =>
 condV (some v5) (
 (buildR Prog 57 [] h6).bind fun v7 h8 =>
 (storeR Prog 57 v1 v7 h8).bind fun _v9 h10 =>
 (loadR Prog 57 v1 h10).bind fun v11 h12 =>
 .ok (.tuple #[v11,(.bool false)]) h12)
 (
 (nilR a0 h6).bind fun v13 h14 =>
 (fieldAddrR Prog 164 v13 0 h14).bind fun v15 h16 =>
 (loadR Prog 22 v15 h16).bind fun v17 h18 =>
 (indexAddrR Prog 22 v17 a1 h18).bind fun v19 h20 =>
 (loadR Prog 57 v19 h20).bind fun v21 h22 =>
 (storeR Prog 57 v1 v21 h22).bind fun _v23 h24 =>
 (loadR Prog 57 v1 h24).bind fun v25 h26 =>
 .ok (.tuple #[v25,(.bool true)]) h26)
theorem ζm7 (k:Nat) (a0 a1:Value) (h:Heap):R (T k) F.ζ3i [a0,a1] h = nrm .gc h (ζ3i k (R (T k)) a0 a1 h) :=
 (R_body (t:=T k) (T_scott k) (by kernel_rfl) (by kernel_rfl) _ _).trans (by kernel_rfl)
def ζ3h (k:Nat) (call:Caller) (a0 a1 a2:Value) (h:Heap):Res Value :=
 (call F.ζ3j [a0,a1] h).bind fun v1 h2 =>
 (unR .not v1 h2).bind fun v3 h4 =>
 condV (some v3) (
 .ok (.bool false) h4)
 (
 (nilR a0 h4).bind fun v5 h6 =>
 (fieldAddrR Prog 164 v5 0 h6).bind fun v7 h8 =>
 (loadR Prog 22 v7 h8).bind fun v9 h10 =>
 (indexAddrR Prog 22 v9 a1 h10).bind fun v11 h12 =>
 (fieldAddrR Prog 57 v11 0 h12).bind fun v13 h14 =>
 (storeR Prog 3 v13 a2 h14).bind fun _v15 h16 =>
 .ok (.bool true) h16)
theorem ζkt (k:Nat) (a0 a1 a2:Value) (h:Heap):R (T k) F.ζ3h [a0,a1,a2] h = nrm .no h (ζ3h k (R (T k)) a0 a1 a2 h) :=
 (R_body (t:=T k) (T_scott k) (by kernel_rfl) (by kernel_rfl) _ _).trans (by kernel_rfl)
def ζ72 (k:Nat) (call:Caller):Env → Heap → Res (AExit × Env):=loopB (C k) call F.ζ1b [1,1,0,0]
def ζ9h (k:Nat) (call:Caller):Kont Value:=kBlock 0 (kDone Prog (resOf Prog F.ζ1b))
def ζau (k:Nat) (call:Caller) (a0 a1 a14 a15 a16:Value) (h:Heap):Res (AExit × Env) :=
 kSeq (pieceK (C k) call F.ζ1b [1,1,0,0,1,1,1]) (kRound (ownOf (C k) F.ζ1b [1,1,0,0])) .normal [(0,a0),(1,a1),(14,a14),(15,a15),(16,a16)] h
def ζav (k:Nat) (call:Caller) (a0 a1 a8 a14 a15 a16 a26:Value) (h:Heap):Res (AExit × Env) :=
 kSeq (pieceK (C k) call F.ζ1b [1,1,0,0,1,1,1]) (kRound (ownOf (C k) F.ζ1b [1,1,0,0])) .normal [(0,a0),(1,a1),(8,a8),(14,a14),(15,a15),(16,a16),(26,a26)] h
def ζ1b (k:Nat) (call:Caller) (a0 a1 a2:Value) (h:Heap):Res Value :=
 (call F.ζ3j [a0,a1] h).bind fun v1 h2 =>
 (unR .not v1 h2).bind fun v3 h4 =>
 condV (some v3) (
 .ok (.tuple #[]) h4)
 (
 (builtinV Prog .len [23] [a2] h4).bind fun v5 h6 =>
 (loopN (ζ72 k call) loopFuel [(0,a0),(1,a1),(14,a2),(15,v5),(16,(.int .i64 0))] h6).bind fun r7 h8 =>
 ζ9h k call r7.1 r7.2 h8)
theorem ζjm (k:Nat) (a0 a1 a2:Value) (h:Heap):R (T k) F.ζ1b [a0,a1,a2] h = nrm .no h (ζ1b k (R (T k)) a0 a1 a2 h) :=
 (R_body (t:=T k) (T_scott k) (by kernel_rfl) (by kernel_rfl) _ _).trans (by kernel_rfl)
theorem ζ4p (k:Nat) (call:Caller) (a0 a1 a14 a15 a16:Value) (h:Heap):ζ72 k call [(0,a0),(1,a1),(14,a14),(15,a15),(16,a16)] h =
 (binR Prog .lss 3 a16 a15 h).bind fun v9 h10 =>
 condV (some v9) (
 (indexAddrR Prog 23 a14 a16 h10).bind fun v11 h12 =>
 (loadR Prog 3 v11 h12).bind fun v13 h14 =>
 (call F.ζ3i [a0,v13] h14).bind fun v15 h16 =>
 (extractR v15 0 h16).bind fun v17 h18 =>
 (extractR v15 1 h18).bind fun v19 h20 =>
 (allocR Prog 57 h20).bind fun v21 h22 =>
 (storeR Prog 57 v21 v17 h22).bind fun _v23 h24 =>
 condV (some v19) (
 (nilR a0 h24).bindN fun v25 h26 =>
 (fieldAddrR Prog 164 v25 0 h26).bindN fun v27 h28 =>
 (loadR Prog 22 v27 h28).bindN fun v29 h30 =>
 (nilR a0 h30).bindN fun v31 h32 =>
 (fieldAddrR Prog 164 v31 0 h32).bindN fun v33 h34 =>
 (loadR Prog 22 v33 h34).bindN fun v35 h36 =>
 (indexAddrR Prog 22 v35 a1 h36).bindN fun v37 h38 =>
 (fieldAddrR Prog 57 v37 1 h38).bindN fun v39 h40 =>
 (loadR Prog 3 v39 h40).bindN fun v41 h42 =>
 (fieldAddrR Prog 57 v21 1 h42).bindN fun v43 h44 =>
 (loadR Prog 3 v43 h44).bindN fun v45 h46 =>
 (builtinV Prog .min [3,3] [v41,v45] h46).bindN fun v47 h48 =>
 (indexAddrR Prog 22 v29 a1 h48).bindN fun v49 h50 =>
 (fieldAddrR Prog 57 v49 1 h50).bindN fun v51 h52 =>
 (storeR Prog 3 v51 v47 h52).bindN fun _v53 h54 =>
 ζau k call a0 a1 a14 a15 a16 h54)
 (
 ζav k call a0 a1 v21 a14 a15 a16 v19 h24))
 (
 .ok ((.exit 0),[(0,a0),(1,a1),(14,a14),(15,a15),(16,a16),(17,v9)]) h10) :=
 (loopB_eq _ _).trans (by kernel_rfl)
theorem ζg6 (k:Nat) (call:Caller) (a0 a1 a14 a15 a16:Value) (h:Heap):ζau k call a0 a1 a14 a15 a16 h =
 (binR Prog .add 3 a16 (.int .i64 1) h).bind fun v55 h56 =>
 .ok (.normal,[(0,a0),(1,a1),(14,a14),(15,a15),(16,v55)]) h56:=by kernel_rfl
theorem ζg7 (k:Nat) (call:Caller) (a0 a1 a8 a14 a15 a16 a26:Value) (h:Heap):ζav k call a0 a1 a8 a14 a15 a16 a26 h =
 (binR Prog .add 3 a16 (.int .i64 1) h).bind fun v57 h58 =>
 .ok (.normal,[(0,a0),(1,a1),(14,a14),(15,a15),(16,v57)]) h58:=by kernel_rfl
theorem ζew (k:Nat) (call:Caller) (a0 a1 a14 a15 a16 a17:Value) (h:Heap):ζ9h k call (.exit 0) [(0,a0),(1,a1),(14,a14),(15,a15),(16,a16),(17,a17)] h =
 .ok (.tuple #[]) h:=by kernel_rfl
def ζ3j (k:Nat) (call:Caller) (a0 a1:Value) (h:Heap):Res Value :=
 (binR Prog .geq 3 a1 (.int .i64 0) h).bind fun v1 h2 =>
 ((bif wantVal v1 true then Res.ok a1 h2 else Res.ok undef h2)).bind fun v3 h4 =>
 ((bif wantVal v1 true then Res.ok a0 h4 else Res.ok undef h4)).bind fun v5 h6 =>
 ((bif wantVal v1 true then nilR v5 h6 else Res.ok undef h6)).bind fun v7 h8 =>
 ((bif wantVal v1 true then fieldAddrR Prog 164 v7 0 h8 else Res.ok undef h8)).bind fun v9 h10 =>
 ((bif wantVal v1 true then loadR Prog 22 v9 h10 else Res.ok undef h10)).bind fun v11 h12 =>
 ((bif wantVal v1 true then builtinV Prog .len [22] [v11] h12 else Res.ok undef h12)).bind fun v13 h14 =>
 ((bif wantVal v1 true then binR Prog .lss 3 v3 v13 h14 else Res.ok undef h14)).bind fun v15 h16 =>
 (condV (some v1) (Res.ok v15 h16) (Res.ok (.bool false) h16)).bind fun v17 h18 =>
 .ok v17 h18
theorem ζm8 (k:Nat) (a0 a1:Value) (h:Heap):R (T k) F.ζ3j [a0,a1] h = nrm .gc h (ζ3j k (R (T k)) a0 a1 h) :=
 (R_body (t:=T k) (T_scott k) (by kernel_rfl) (by kernel_rfl) _ _).trans (by kernel_rfl)
end
end Go.Sw
end
section
set_option maxRecDepth 100000
set_option linter.unusedVariables false
namespace Go.Sw
noncomputable section
def ζ8 (k:Nat) (call:Caller) (a0:Value) (h:Heap):Res Value :=
 (binR Prog .eql 22 a0 (.slice none 0 0) h).bind fun v1 h2 =>
 condV (some v1) (
 .ok (.slice none 0 0) h2)
 (
 (buildSliceR Prog 22 0 [] h2).bind fun v3 h4 =>
 (builtinV Prog .append [22,22] [v3,a0] h4).bind fun v5 h6 =>
 .ok v5 h6)
theorem ζ40 (k:Nat) (sp:FuncId → Option Sp) (call:Caller) (a0:Value) (h:Heap):bodyK { P:=Prog,kp:=kpS,sp:=sp } call F.ζ8 [a0] h = ζ8 k call a0 h:=by kernel_rfl
def ζo (k:Nat) (call:Caller) (a0:Value) (h:Heap):Res Value :=
 (binR Prog .eql 98 a0 (.slice none 0 0) h).bind fun v1 h2 =>
 condV (some v1) (
 .ok (.slice none 0 0) h2)
 (
 (buildSliceR Prog 98 0 [] h2).bind fun v3 h4 =>
 (builtinV Prog .append [98,98] [v3,a0] h4).bind fun v5 h6 =>
 .ok v5 h6)
theorem ζ41 (k:Nat) (sp:FuncId → Option Sp) (call:Caller) (a0:Value) (h:Heap):bodyK { P:=Prog,kp:=kpS,sp:=sp } call F.ζo [a0] h = ζo k call a0 h:=by kernel_rfl
def ζp (k:Nat) (call:Caller) (a0:Value) (h:Heap):Res Value :=
 (binR Prog .eql 142 a0 (.slice none 0 0) h).bind fun v1 h2 =>
 condV (some v1) (
 .ok (.slice none 0 0) h2)
 (
 (buildSliceR Prog 142 0 [] h2).bind fun v3 h4 =>
 (builtinV Prog .append [142,142] [v3,a0] h4).bind fun v5 h6 =>
 .ok v5 h6)
theorem ζ42 (k:Nat) (sp:FuncId → Option Sp) (call:Caller) (a0:Value) (h:Heap):bodyK { P:=Prog,kp:=kpS,sp:=sp } call F.ζp [a0] h = ζp k call a0 h:=by kernel_rfl
end
end Go.Sw
end
section
set_option maxRecDepth 100000
set_option linter.unusedVariables false
namespace Go.Sw
noncomputable section
def ζ67 (k:Nat) (call:Caller):Env → Heap → Res (AExit × Env):=loopB (C k) call F.ζ1t [1,1,0,1,0,0]
def ζ5n (k:Nat) (call:Caller):Kont Value:=kBlock 0 (kSeq (pieceK (C k) call F.ζ1t [1,1,1]) (kDone Prog (resOf Prog F.ζ1t)))
def ζ1t (k:Nat) (call:Caller) (a0 a1:Value) (h:Heap):Res Value :=
 (builtinV Prog .len [22] [a0] h).bind fun v1 h2 =>
 (builtinV Prog .len [22] [a1] h2).bind fun v3 h4 =>
 (binR Prog .neq 3 v1 v3 h4).bind fun v5 h6 =>
 condV (some v5) (
 .ok (.bool false) h6)
 (
 (loopN (ζ67 k call) loopFuel [(0,a0),(1,a1),(5,(.int .i64 0))] h6).bind fun r7 h8 =>
 ζ5n k call r7.1 r7.2 h8)
theorem ζih (k:Nat) (a0 a1:Value) (h:Heap):R (T k) F.ζ1t [a0,a1] h = nrm .fz h (ζ1t k (R (T k)) a0 a1 h) :=
 (R_body (t:=T k) (T_scott k) (by kernel_rfl) (by kernel_rfl) _ _).trans (by kernel_rfl)
theorem ζ4f (k:Nat) (call:Caller) (a0 a1 a5:Value) (h:Heap):ζ67 k call [(0,a0),(1,a1),(5,a5)] h =
 (builtinV Prog .len [22] [a0] h).bind fun v9 h10 =>
 (binR Prog .lss 3 a5 v9 h10).bind fun v11 h12 =>
 condV (some v11) (
 (indexAddrR Prog 22 a0 a5 h12).bindN fun v13 h14 =>
 (loadR Prog 57 v13 h14).bindN fun v15 h16 =>
 (indexAddrR Prog 22 a1 a5 h16).bindN fun v17 h18 =>
 (loadR Prog 57 v17 h18).bindN fun v19 h20 =>
 (binR Prog .neq 57 v15 v19 h20).bindN fun v21 h22 =>
 condV (some v21) (
 .ok (.ret,[(4,(.bool false))]) h22)
 (
 (binR Prog .add 3 a5 (.int .i64 1) h22).bind fun v23 h24 =>
 .ok (.normal,[(0,a0),(1,a1),(5,v23)]) h24))
 (
 .ok ((.exit 0),[(0,a0),(1,a1),(5,a5),(14,v11)]) h12) :=
 (loopB_eq _ _).trans (by kernel_rfl)
theorem ζfa (k:Nat) (call:Caller) (a4:Value) (h:Heap):ζ5n k call .ret [(4,a4)] h =
 .ok a4 h:=by kernel_rfl
theorem ζbw (k:Nat) (call:Caller) (a0 a1 a5 a14:Value) (h:Heap):ζ5n k call (.exit 0) [(0,a0),(1,a1),(5,a5),(14,a14)] h =
 .ok (.bool true) h:=by kernel_rfl
def ζ75 (k:Nat) (call:Caller):Env → Heap → Res (AExit × Env):=loopB (C k) call F.ζ2i [1,1,0,1,0,0]
def ζa3 (k:Nat) (call:Caller):Kont Value:=kBlock 0 (kSeq (pieceK (C k) call F.ζ2i [1,1,1]) (kDone Prog (resOf Prog F.ζ2i)))
def ζ2i (k:Nat) (call:Caller) (a0:Value) (h:Heap):Res Value :=
 (buildSliceR Prog 22 0 [] h).bind fun v1 h2 =>
 (loopN (ζ75 k call) loopFuel [(0,a0),(3,v1),(4,(.int .i64 0))] h2).bind fun r3 h4 =>
 ζa3 k call r3.1 r3.2 h4
theorem ζkc (k:Nat) (a0:Value) (h:Heap):R (T k) F.ζ2i [a0] h = nrm .fz h (ζ2i k (R (T k)) a0 h) :=
 (R_body (t:=T k) (T_scott k) (by kernel_rfl) (by kernel_rfl) _ _).trans (by kernel_rfl)
theorem ζ8j (k:Nat) (call:Caller) (a0 a3 a4:Value) (h:Heap):ζ75 k call [(0,a0),(3,a3),(4,a4)] h =
 (builtinV Prog .len [23] [a0] h).bind fun v5 h6 =>
 (binR Prog .lss 3 a4 v5 h6).bind fun v7 h8 =>
 condV (some v7) (
 (indexAddrR Prog 23 a0 a4 h8).bind fun v9 h10 =>
 (loadR Prog 3 v9 h10).bind fun v11 h12 =>
 (buildR Prog 57 [(0,v11),(1,a4)] h12).bind fun v13 h14 =>
 (buildSliceR Prog 22 1 [(0,v13)] h14).bind fun v15 h16 =>
 (builtinV Prog .append [22,22] [a3,v15] h16).bind fun v17 h18 =>
 (binR Prog .add 3 a4 (.int .i64 1) h18).bind fun v19 h20 =>
 .ok (.normal,[(0,a0),(3,v17),(4,v19)]) h20)
 (
 .ok ((.exit 0),[(0,a0),(3,a3),(4,a4),(9,v7)]) h8) :=
 (loopB_eq _ _).trans (by kernel_rfl)
theorem ζf9 (k:Nat) (call:Caller) (a0 a3 a4 a9:Value) (h:Heap):ζa3 k call (.exit 0) [(0,a0),(3,a3),(4,a4),(9,a9)] h =
 .ok a3 h:=by kernel_rfl
def ζ21 (k:Nat) (call:Caller) (a0 a1 a2:Value) (h:Heap):Res Value :=
 (binR Prog .lss 3 a1 (.int .i64 0) h).bind fun v1 h2 =>
 ((bif wantVal v1 false then Res.ok a1 h2 else Res.ok undef h2)).bind fun v3 h4 =>
 ((bif wantVal v1 false then Res.ok a0 h4 else Res.ok undef h4)).bind fun v5 h6 =>
 ((bif wantVal v1 false then builtinV Prog .len [22] [v5] h6 else Res.ok undef h6)).bind fun v7 h8 =>
 ((bif wantVal v1 false then binR Prog .geq 3 v3 v7 h8 else Res.ok undef h8)).bind fun v9 h10 =>
 (condV (some v1) (Res.ok (.bool true) h10) (Res.ok v9 h10)).bind fun v11 h12 =>
 condV (some v11) (
 .ok (.tuple #[a0,(.bool false)]) h12)
 (
 (buildSliceR Prog 22 0 [] h12).bind fun v13 h14 =>
 (builtinV Prog .append [22,22] [v13,a0] h14).bind fun v15 h16 =>
 (indexAddrR Prog 22 v15 a1 h16).bind fun v17 h18 =>
 (fieldAddrR Prog 57 v17 0 h18).bind fun v19 h20 =>
 (storeR Prog 3 v19 a2 h20).bind fun _v21 h22 =>
 .ok (.tuple #[v15,(.bool true)]) h22)
theorem ζkd (k:Nat) (a0 a1 a2:Value) (h:Heap):R (T k) F.ζ21 [a0,a1,a2] h = nrm .fz h (ζ21 k (R (T k)) a0 a1 a2 h) :=
 (R_body (t:=T k) (T_scott k) (by kernel_rfl) (by kernel_rfl) _ _).trans (by kernel_rfl)
def ζ66 (k:Nat) (call:Caller):Env → Heap → Res (AExit × Env):=loopB (C k) call F.ζy [1,1,0,1,0,0]
def ζ96 (k:Nat) (call:Caller):Kont Value:=kBlock 0 (kSeq (pieceK (C k) call F.ζy [1,1,1]) (kDone Prog (resOf Prog F.ζy)))
def ζa1 (k:Nat) (call:Caller) (a0 a1 a2 a7 a8:Value) (h:Heap):Res (AExit × Env) :=
 kSeq (pieceK (C k) call F.ζy [1,1,0,1,0,0,1,1]) (kRound (ownOf (C k) F.ζy [1,1,0,1,0,0])) .normal [(0,a0),(1,a1),(2,a2),(7,a7),(8,a8)] h
def ζa2 (k:Nat) (call:Caller) (a0 a1 a2 a7 a8 a9 a53:Value) (h:Heap):Res (AExit × Env) :=
 kSeq (pieceK (C k) call F.ζy [1,1,0,1,0,0,1,1]) (kRound (ownOf (C k) F.ζy [1,1,0,1,0,0])) .normal [(0,a0),(1,a1),(2,a2),(7,a7),(8,a8),(9,a9),(53,a53)] h
def ζy (k:Nat) (call:Caller) (a0 a1 a2:Value) (h:Heap):Res Value :=
 (buildSliceR Prog 22 0 [] h).bind fun v1 h2 =>
 (builtinV Prog .append [22,22] [v1,a0] h2).bind fun v3 h4 =>
 (loopN (ζ66 k call) loopFuel [(0,a0),(1,a1),(2,a2),(7,v3),(8,(.int .i64 0))] h4).bind fun r5 h6 =>
 ζ96 k call r5.1 r5.2 h6
theorem ζig (k:Nat) (a0 a1 a2:Value) (h:Heap):R (T k) F.ζy [a0,a1,a2] h = nrm .fz h (ζy k (R (T k)) a0 a1 a2 h) :=
 (R_body (t:=T k) (T_scott k) (by kernel_rfl) (by kernel_rfl) _ _).trans (by kernel_rfl)
theorem ζ1n (k:Nat) (call:Caller) (a0 a1 a2 a7 a8:Value) (h:Heap):ζ66 k call [(0,a0),(1,a1),(2,a2),(7,a7),(8,a8)] h =
 (builtinV Prog .len [23] [a2] h).bind fun v7 h8 =>
 (binR Prog .lss 3 a8 v7 h8).bind fun v9 h10 =>
 ((bif wantVal v9 true then Res.ok a1 h10 else Res.ok undef h10)).bind fun v11 h12 =>
 ((bif wantVal v9 true then binR Prog .geq 3 v11 (.int .i64 0) h12 else Res.ok undef h12)).bind fun v13 h14 =>
 (condV (some v9) (Res.ok v13 h14) (Res.ok (.bool false) h14)).bind fun v15 h16 =>
 ((bif wantVal v15 true then Res.ok a1 h16 else Res.ok undef h16)).bind fun v17 h18 =>
 ((bif wantVal v15 true then Res.ok a0 h18 else Res.ok undef h18)).bind fun v19 h20 =>
 ((bif wantVal v15 true then builtinV Prog .len [22] [v19] h20 else Res.ok undef h20)).bind fun v21 h22 =>
 ((bif wantVal v15 true then binR Prog .lss 3 v17 v21 h22 else Res.ok undef h22)).bind fun v23 h24 =>
 (condV (some v15) (Res.ok v23 h24) (Res.ok (.bool false) h24)).bind fun v25 h26 =>
 condV (some v25) (
 (indexAddrR Prog 23 a2 a8 h26).bind fun v27 h28 =>
 (loadR Prog 3 v27 h28).bind fun v29 h30 =>
 (binR Prog .geq 3 v29 (.int .i64 0) h30).bindN fun v31 h32 =>
 ((bif wantVal v31 true then Res.ok v29 h32 else Res.ok undef h32)).bindN fun v33 h34 =>
 ((bif wantVal v31 true then Res.ok a0 h34 else Res.ok undef h34)).bindN fun v35 h36 =>
 ((bif wantVal v31 true then builtinV Prog .len [22] [v35] h36 else Res.ok undef h36)).bindN fun v37 h38 =>
 ((bif wantVal v31 true then binR Prog .lss 3 v33 v37 h38 else Res.ok undef h38)).bindN fun v39 h40 =>
 (condV (some v31) (Res.ok v39 h40) (Res.ok (.bool false) h40)).bindN fun v41 h42 =>
 ((bif wantVal v41 true then Res.ok a0 h42 else Res.ok undef h42)).bindN fun v43 h44 =>
 ((bif wantVal v41 true then Res.ok v29 h44 else Res.ok undef h44)).bindN fun v45 h46 =>
 ((bif wantVal v41 true then indexAddrR Prog 22 v43 v45 h46 else Res.ok undef h46)).bindN fun v47 h48 =>
 ((bif wantVal v41 true then fieldAddrR Prog 57 v47 1 h48 else Res.ok undef h48)).bindN fun v49 h50 =>
 ((bif wantVal v41 true then loadR Prog 3 v49 h50 else Res.ok undef h50)).bindN fun v51 h52 =>
 ((bif wantVal v41 true then Res.ok a7 h52 else Res.ok undef h52)).bindN fun v53 h54 =>
 ((bif wantVal v41 true then Res.ok a1 h54 else Res.ok undef h54)).bindN fun v55 h56 =>
 ((bif wantVal v41 true then indexAddrR Prog 22 v53 v55 h56 else Res.ok undef h56)).bindN fun v57 h58 =>
 ((bif wantVal v41 true then fieldAddrR Prog 57 v57 1 h58 else Res.ok undef h58)).bindN fun v59 h60 =>
 ((bif wantVal v41 true then loadR Prog 3 v59 h60 else Res.ok undef h60)).bindN fun v61 h62 =>
 ((bif wantVal v41 true then binR Prog .lss 3 v51 v61 h62 else Res.ok undef h62)).bindN fun v63 h64 =>
 (condV (some v41) (Res.ok v63 h64) (Res.ok (.bool false) h64)).bindN fun v65 h66 =>
 condV (some v65) (
 (indexAddrR Prog 22 a0 v29 h66).bind fun v67 h68 =>
 (fieldAddrR Prog 57 v67 1 h68).bind fun v69 h70 =>
 (loadR Prog 3 v69 h70).bind fun v71 h72 =>
 (indexAddrR Prog 22 a7 a1 h72).bind fun v73 h74 =>
 (fieldAddrR Prog 57 v73 1 h74).bind fun v75 h76 =>
 (storeR Prog 3 v75 v71 h76).bind fun _v77 h78 =>
 ζa1 k call a0 a1 a2 a7 a8 h78)
 (
 ζa2 k call a0 a1 a2 a7 a8 v29 v65 h66))
 (
 .ok ((.exit 0),[(0,a0),(1,a1),(2,a2),(7,a7),(8,a8),(26,v25)]) h26) :=
 (loopB_eq _ _).trans (by kernel_rfl)
theorem ζf8 (k:Nat) (call:Caller) (a0 a1 a2 a7 a8:Value) (h:Heap):ζa1 k call a0 a1 a2 a7 a8 h =
 (binR Prog .add 3 a8 (.int .i64 1) h).bind fun v79 h80 =>
 .ok (.normal,[(0,a0),(1,a1),(2,a2),(7,a7),(8,v79)]) h80:=by kernel_rfl
theorem ζ4e (k:Nat) (call:Caller) (a0 a1 a2 a7 a8 a9 a53:Value) (h:Heap):ζa2 k call a0 a1 a2 a7 a8 a9 a53 h =
 (binR Prog .add 3 a8 (.int .i64 1) h).bind fun v81 h82 =>
 .ok (.normal,[(0,a0),(1,a1),(2,a2),(7,a7),(8,v81)]) h82:=by kernel_rfl
theorem ζbv (k:Nat) (call:Caller) (a0 a1 a2 a7 a8 a26:Value) (h:Heap):ζ96 k call (.exit 0) [(0,a0),(1,a1),(2,a2),(7,a7),(8,a8),(26,a26)] h =
 .ok a7 h:=by kernel_rfl
end
end Go.Sw
end
section
namespace Go.Sw
open Go.RowKit
structure Gl where
 id:Int
 cl:Int
deriving DecidableEq
abbrev encG (g:Gl):List Value:=[.int .i64 g.id,.int .i64 g.cl]
theorem encG_len (g:Gl):(encG g).length = 2:=rfl
theorem ζgh (l:List Gl):∀ p,p ∈ l → ∀ v,v ∈ encG p → Still v:=fun p _ v hv => by
 simp [encG] at hv;rcases hv with rfl | rfl <;> trivial
theorem Flat.Gls (l:List Gl):Flat (Go.Sw.lv encG l):=.lv fun p _ => .cons (.int _ _) (.cons (.int _ _) .nil)
abbrev itLine (c:Nat) (o:Option Nat) (l:List Gl):It:=itBox c [] o 2 encG l
abbrev ptrV (c:Nat):Value:=.pointer (some ⟨c,0,none⟩)
theorem cloneG_R (k:Nat) {v s:Value} {H H':Heap} (h:cloneV 2 16 [v] H = .ok s H'):R (T k) F.ζ8 [v] H = .ok s H' :=
 (R_sp (t:=T k) (T_scott k) (s:=fun _ args H => cloneV 2 16 args H) (by kernel_rfl) [v] H).trans (by
  show nrm (mdS k F.ζ8 H.n) H _ = _;rw [show mdS k F.ζ8 H.n = .no from by kernel_rfl];exact nrm_of h)
theorem ζlf (k:Nat) {H0 H:Heap} {L:List It} (h:Star H0 H L) (i:Nat) {c:Nat} {o:Option Nat} {l:List Gl} (hi:L[i]? = some (itLine c o l)):R (T k) F.ζ3g [ptrV c] H = .ok (.int .i64 l.length) H:=by
 obtain ⟨_,s,h1,h2⟩:=h.box i hi;rw [ζks];refine nrm_gc ⟨H,?_,Ext.refl H⟩ (.int _ _);simp at h1;simp -implicitDefEqProofs [ζ3g,h1,h2.len]
theorem ζjk (k:Nat) {H0 H:Heap} {L:List It} (h:Star H0 H L) (i:Nat) {c:Nat} {o:Option Nat} {l:List Gl} (hi:L[i]? = some (itLine c o l)) {H':Heap} (hx:Ext H H') (j:Int) :
  R (T k) F.ζ3j [ptrV c,.int .i64 j] H' = .ok (.bool (decide (0 ≤ j ∧ j < l.length))) H':=by
 obtain ⟨_,s,h1,h2⟩:=h.box i hi;simp at h1;have h1:=hx.get h1;rw [ζm8];refine nrm_gc ⟨H',?_,Ext.refl H'⟩ (.bool _);by_cases hj:j ≥ 0
 ·simp -implicitDefEqProofs [ζ3j,h1,h2.len,hj]
 ·simp -implicitDefEqProofs [ζ3j,hj]
def atG (l:List Gl) (j:Int):Option Gl:=if 0 ≤ j ∧ j < l.length then l[j.toNat]? else none
def encA (o:Option Gl):Value:=.agg (encG (o.getD ⟨0,0⟩)).toArray
theorem ζjj (k:Nat) {H0 H:Heap} {L:List It} (h:Star H0 H L) (i:Nat) {c:Nat} {o:Option Nat} {l:List Gl} (hi:L[i]? = some (itLine c o l)) (j:Int) :
  R (T k) F.ζ3i [ptrV c,.int .i64 j] H = .ok (.tuple #[encA (atG l j),.bool (atG l j).isSome]) H:=by
 obtain ⟨_,s,h1,h2⟩:=h.box i hi;simp at h1;have hx:Ext H (H.push ⟨[.int .i64 0,.int .i64 0],1,false⟩):=(Ext.refl H).push _;have hin:=ζjk k h i hi hx j;have hcn:¬ c = H.n:=by have:=Heap.get_lt h1; omega
 rw [ζm7];have hfl:∀ o,Flat (.tuple #[encA o,.bool o.isSome]):=fun o => .tupleL (.cons (.aggL (.cons (.int _ _) (.cons (.int _ _) .nil))) (.cons (.bool _) .nil));unfold atG;by_cases hj:0 ≤ j ∧ j < l.length
 ·obtain ⟨n,rfl⟩:=Int.eq_ofNat_of_zero_le hj.1;obtain ⟨g,hg⟩:∃ g,l[n]? = some g:=⟨_,List.getElem?_eq_getElem (by omega)⟩
  obtain ⟨b,rfl,hs,hb,i1⟩:=h2.ix .i64 n (by omega);have hbn:¬ b = H.n:=by have:=Heap.get_lt hb; omega
  have hld:=fun (H':Heap) (hH:H'.get b = some ⟨rows encG l,2,false⟩) => ldA_row encG_len hH hg;rw [if_pos hj,Int.toNat_natCast,hg];refine nrm_gc ⟨H.push ⟨encG g,1,false⟩,?_,(Ext.refl H).push _⟩ (hfl (some g)).alive;have e2:ldA 2 (.pointer (some ⟨H.n,0,none⟩)) (H.push ⟨encG g,1,false⟩) = .ok (.agg (encG g).toArray) (H.push ⟨encG g,1,false⟩):=by simp
  rw [decide_eq_true hj] at hin;have e1:=hld (H.push ⟨[.int .i64 0,.int .i64 0],1,false⟩) (by rw [ζld _ _ _ hbn]; exact hb);simp -implicitDefEqProofs [-ldA_ptr,ζ3i,hin,h1,hcn,i1,e1,e2];rfl
 ·rw [if_neg hj];refine nrm_gc ⟨_,?_,hx⟩ (hfl none).alive;rw [decide_eq_false hj] at hin;simp -implicitDefEqProofs [ζ3i,hin];rfl
theorem ζm5 (k:Nat) (hk:k < 1000000) {H0 H:Heap} {L:List It} (h:Star H0 H L) (i:Nat) {c:Nat} {o:Option Nat} {l:List Gl} (hi:L[i]? = some (itLine c o l)) (hl:l.length ≤ 2 ^ 31):R (T k) F.ζ38 [ptrV c] H = .ok (lv encG l) H:=by
 obtain ⟨_,s,h1,h2⟩:=h.box i hi;simp at h1;have ho:own k = .fz:=by unfold own; rw [show Nat.blt k 1000000 = true from Nat.ble_eq_true_of_le hk]; rfl
 obtain ⟨s',H1,e1,o1,x1⟩:=clone_sl (bytes:=16) encG_len (h2.sl encG_len) hl (by decide);obtain ⟨M,hf⟩:=o1.freeze encG_len (ζgh _) 6;rw [ζhc,ho];refine nrm_fz (v:=s') (H':=H1) ?_ hf x1 (Flat.Gls l).alive;simp -implicitDefEqProofs [ζ38,h1,cloneG_R k e1]
def setG (l:List Gl) (j id:Int):List Gl:=if 0 ≤ j ∧ j < l.length then l.modify j.toNat fun g => ⟨id,g.cl⟩ else l
@[simp] theorem setG_len (l:List Gl) (j id:Int):(setG l j id).length = l.length:=by unfold setG; split <;> simp
theorem ζjl (k:Nat) {H0 H:Heap} {L:List It} (h:Star H0 H L) (i:Nat) {c:Nat} {o:Option Nat} {l:List Gl} (hi:L[i]? = some (itLine c o l)) (j id:Int) :
  ∃ H',R (T k) F.ζ3h [ptrV c,.int .i64 j,.int .i64 id] H = .ok (.bool (decide (0 ≤ j ∧ j < l.length))) H' ∧ Star H0 H' (L.set i (itLine c o (setG l j id))):=by
 obtain ⟨_,s,h1,h2⟩:=h.box i hi;simp at h1;have hin:=ζjk k h i hi (Ext.refl H) j;rw [ζkt];unfold setG;by_cases hj:0 ≤ j ∧ j < l.length
 ·obtain ⟨n,rfl⟩:=Int.eq_ofNat_of_zero_le hj.1;obtain ⟨g,hg⟩:∃ g,l[n]? = some g:=⟨_,List.getElem?_eq_getElem (by omega)⟩
  obtain ⟨b,rfl,hs,hb,i1⟩:=h2.ix .i64 n (by omega);obtain ⟨H',e1,g1,_⟩:=h.stBox i hi encG_len (c:=0) (n:=1) (⟨id,g.cl⟩:Gl) (v:=.int .i64 id) hg rfl rfl (by decide) rfl;rw [if_pos hj,Int.toNat_natCast,ζjq _ _ _ _ hg,decide_eq_true hj];rw [decide_eq_true hj] at hin;rw [Nat.add_zero] at e1;refine ⟨H',nrm_of ?_,g1⟩;simp -implicitDefEqProofs [-stR_ptr,ζ3h,hin,h1,i1,e1]
 ·rw [if_neg hj,decide_eq_false hj];rw [decide_eq_false hj] at hin;refine ⟨H,nrm_of ?_,?_⟩
  ·simp -implicitDefEqProofs [ζ3h,hin]
  ·obtain ⟨hlt,hx⟩:=List.getElem?_eq_some_iff.1 hi;rw [← hx,List.set_getElem_self];exact h
def newG (ids:List Int):List Gl:=ids.zipIdx.map fun x => ⟨x.1,(x.2:Nat)⟩
@[simp] theorem newG_len (ids:List Int):(newG ids).length = ids.length:=by simp [newG]
theorem ζp1 (ids:List Int) (x:Int):newG (ids ++ [x]) = newG ids ++ [⟨x,(ids.length:Nat)⟩]:=by simp [newG,List.zipIdx_append]
theorem ζo2 (k:Nat) {H0 H:Heap} {L:List It} (h:Star H0 H L) (ids:List Int) (hl:ids.length < 2 ^ 31) :
  ∃ c o H',R (T k) F.line_New [lv encI ids] H = .ok (ptrV c) H' ∧ Star H0 H' (L ++ [itLine c o (newG ids)]):=by
 have g:=(h.more_row (Ext.refl _) (OwnO.nil encG _ 2) (fun b hb => by cases hb)).push ⟨[.slice none 0 0],1,false⟩;rw [List.append_assoc] at g
 obtain ⟨x,e',H1,hr,rfl,⟨a,rfl⟩,s,o,g⟩:=loop_up (body:=ζhd k (R (T k))) ids.length
  (fun j e H' => e = [(3,ptrV H.n),(8,lv encI ids),(9,.int .i64 ids.length),(10,.int .i64 j)] ∧ ∃ s o,Star H0 H' (L ++ [itRow o 2 s encG (newG (ids.take j)),itBlk H.n ⟨[s],1,false⟩]))
  (fun x e H' => x = .exit 0 ∧ (∃ a,e = [(3,ptrV H.n),(8,lv encI ids),(9,.int .i64 ids.length),(10,.int .i64 ids.length),(11,a)]) ∧ ∃ s o,Star H0 H' (L ++ [itRow o 2 s encG (newG ids),itBlk H.n ⟨[s],1,false⟩]))
  (e0:=[(3,ptrV H.n),(8,lv encI ids),(9,.int .i64 ids.length),(10,.int .i64 0)]) (H0:=H.push ⟨[.slice none 0 0],1,false⟩) ⟨rfl,_,_,g⟩ (by omega)
  (fun j e H' hj ⟨he,s,o,g⟩ => by
   subst he;have hlt:(j:Int) < ids.length:=by omega
   obtain ⟨x,hx⟩:∃ x,ids[j]? = some x:=⟨_,List.getElem?_eq_getElem hj⟩
   have i1:=fun H' => ixS_lvN encI_len ids .i64 j x hx H';have hc:=g.get (L.length + 1) (at2_1 _ _ _);have hcn:¬ H.n = H'.n:=by have:=Heap.get_lt hc; omega
   obtain ⟨s',o',H2,e1,g⟩:=g.append1 (bytes:=16) L.length encG_len (at2_0 _ _ _) (⟨x,(j:Nat)⟩:Gl) (by simp; omega) (by decide);rw [set2_0] at g;have hc2:=g.get (L.length + 1) (at2_1 _ _ _);have st:=(g.row L.length (at2_0 _ _ _)).storable;have ce:=(g.row L.length (at2_0 _ _ _)).cells;have g:=g.setBlk (L.length + 1) (at2_1 _ _ _) ⟨[s'],1,false⟩;rw [set2_1] at g;refine .inl ⟨_,_,?_,rfl,s',o',by rw [ζ1v hx,ζp1,List.length_take,Nat.min_eq_left (by omega)]; exact g⟩;rw [ζgq];have e1:apR 2 16 s (.slice (some ⟨H'.n,0,none⟩) 1 1) (H'.push ⟨[.int .i64 x,.int .i64 (j:Nat)],2,false⟩) = .ok s' H2:=e1;simp -implicitDefEqProofs (disch:=omega) [hlt,i1,hc,hcn,e1,hc2,st,ce])
  (fun e H' ⟨he,s,o,g⟩ => by
   subst he;refine ⟨.exit 0,_,H',?_,by simp,rfl,⟨.bool false,rfl⟩,s,o,by simpa using g⟩;rw [ζgq];simp -implicitDefEqProofs)
 have g:=Star.join2 [] g;refine ⟨H.n,o,H1,?_,g⟩;rw [ζr3];refine nrm_of ?_;simp -implicitDefEqProofs [line_New,hr,ζku]
theorem Same_run (k:Nat) {H:Heap} {u v:Value} {l m:List Gl} (hu:Rd H 2 u encG l) (hv:Rd H 2 v encG m) (hl:l.length < 2 ^ 62) (hm:m.length < 2 ^ 62):R (T k) F.ζ1t [u,v] H = .ok (.bool (decide (l = m))) H:=by
 rw [ζih];have fl:Flat (.bool (decide (l = m))):=.bool _;by_cases hlen:l.length = m.length;rotate_left
 ·have hne:l ≠ m:=fun e => hlen (by rw [e]);have hne':((l.length:Int) == (m.length:Int)) = false:=by rw [beq_eq_false_iff_ne]; omega
  refine nrm_fz (v:=.bool false) (H':=H) ?_ (by rw [decide_eq_false hne]; rfl) (Ext.refl H) fl.alive;simp -implicitDefEqProofs [ζ1t,hu.1,hv.1,bne,hne']
 ·obtain ⟨x,e',H1,hr,rfl,hq⟩:=loop_up (body:=ζ67 k (R (T k))) l.length
   (fun j e H' => H' = H ∧ e = [(0,u),(1,v),(5,.int .i64 j)] ∧ l.take j = m.take j)
   (fun x e H' => H' = H ∧ ((x = .ret ∧ e = [(4,.bool false)] ∧ l ≠ m) ∨ (x = .exit 0 ∧ (∃ a,e = [(0,u),(1,v),(5,.int .i64 l.length),(14,a)]) ∧ l = m)))
   (e0:=[(0,u),(1,v),(5,.int .i64 0)]) (H0:=H) ⟨rfl,rfl,by simp⟩ (by omega)
   (fun j e H' hj ⟨hH,he,ht⟩ => by
    subst he hH;have hlt:(j:Int) < l.length:=by omega
    obtain ⟨a,ha⟩:∃ a,l[j]? = some a:=⟨_,List.getElem?_eq_getElem hj⟩
    obtain ⟨b,hb⟩:∃ b,m[j]? = some b:=⟨_,List.getElem?_eq_getElem (by omega)⟩
    obtain ⟨p,p1,p2⟩:=hu.2 j a ha;obtain ⟨q,q1,q2⟩:=hv.2 j b hb;by_cases hab:a = b
    ·subst hab;refine .inl ⟨_,_,?_,rfl,rfl,by rw [ζ1v ha,ζ1v hb,ht]⟩;rw [ζ4f];simp -implicitDefEqProofs (disch:=omega) [hlt,hu.1,p1,p2,q1,q2]
    ·refine .inr ⟨.ret,_,_,?_,by simp,rfl,.inl ⟨rfl,rfl,fun e => hab (by rw [e,hb] at ha; injection ha with ha; exact ha.symm)⟩⟩;have hne:(!(a.id == b.id) || !(a.cl == b.cl)) = true:=by
      by_cases h1:a.id = b.id
      ·have:a.cl ≠ b.cl:=fun h2 => hab (by cases a; cases b; simp_all);simp [h1,this]
      ·simp [h1]
     rw [ζ4f];simp -implicitDefEqProofs (disch:=omega) [hlt,hu.1,p1,p2,q1,q2,hne])
   (fun e H' ⟨hH,he,ht⟩ => by
    subst he hH;refine ⟨.exit 0,_,_,?_,by simp,rfl,.inr ⟨rfl,⟨.bool false,rfl⟩,?_⟩⟩
    ·rw [ζ4f];simp -implicitDefEqProofs [hu.1]
    ·rwa [List.take_length,hlen,List.take_length] at ht)
  rcases hq with ⟨rfl,rfl,hne⟩ | ⟨rfl,⟨a,rfl⟩,heq⟩
  ·refine nrm_fz (v:=.bool false) (H':=H1) ?_ (by rw [decide_eq_false hne]; rfl) (Ext.refl H1) fl.alive;simp -implicitDefEqProofs [ζ1t,hu.1,hv.1,hlen,bne,hr,ζfa]
  ·refine nrm_fz (v:=.bool true) (H':=H1) ?_ (by rw [decide_eq_true heq]; rfl) (Ext.refl H1) fl.alive;simp -implicitDefEqProofs [ζ1t,hu.1,hv.1,hlen,bne,hr,ζbw]
end Go.Sw
end
section
set_option maxRecDepth 100000
set_option linter.unusedVariables false
namespace Go.Sw
noncomputable section
def ζ4v (k:Nat) (call:Caller):Env → Heap → Res (AExit × Env):=loopB (C k) call F.ζ2t [1,1,1,1,1,1,0,0,0]
def ζh5 (k:Nat) (call:Caller):Kont Value:=kBlock 0 (kSeq (pieceK (C k) call F.ζ2t [1,1,1,1,1,1,1]) (kDone Prog (resOf Prog F.ζ2t)))
def ζ4w (k:Nat) (call:Caller):Env → Heap → Res (AExit × Env):=loopB (C k) call F.ζ2t [1,1,1,1,1,1,0,0,0,1,0,0,0,0]
def ζam (k:Nat) (call:Caller):Kont (AExit × Env):=kBlock 2 (kSeq (pieceK (C k) call F.ζ2t [1,1,1,1,1,1,0,0,0,1,0,1]) (kBlock 1 (kRound (ownOf (C k) F.ζ2t [1,1,1,1,1,1,0,0,0]))))
def ζ4x (k:Nat) (call:Caller):Env → Heap → Res (AExit × Env):=loopB (C k) call F.ζ2t [1,1,1,1,1,1,0,0,0,1,0,1,0,0]
def ζan (k:Nat) (call:Caller):Kont (AExit × Env):=kBlock 4 (kBlock 1 (kRound (ownOf (C k) F.ζ2t [1,1,1,1,1,1,0,0,0])))
def ζ2t (k:Nat) (call:Caller) (a0 a1 a2:Value) (h:Heap):Res Value :=
 (boxR a0 h).bind fun v1 h2 =>
 (loadR Prog 75 v1 h2).bind fun v3 h4 =>
 (call F.ζ1a [v3,(.int .i64 0)] h4).bind fun v5 h6 =>
 (binR Prog .geq 3 v5 (.int .i64 4) h6).bind fun v7 h8 =>
 ((bif wantVal v7 true then Res.ok v5 h8 else Res.ok undef h8)).bind fun v9 h10 =>
 ((bif wantVal v7 true then binR Prog .leq 3 v9 (.int .i64 65535) h10 else Res.ok undef h10)).bind fun v11 h12 =>
 (condV (some v7) (Res.ok v11 h12) (Res.ok (.bool false) h12)).bind fun v13 h14 =>
 (call F.ζ2x [v13] h14).bind fun v15 h16 =>
 (loadR Prog 75 v1 h16).bindN fun v17 h18 =>
 (loadR Prog 75 v1 h18).bindN fun v19 h20 =>
 (call F.ζ1a [v19,(.int .i64 4)] h20).bindT (fun p23 h24 => .panic p23 h24) fun v21 h22 =>
 (call F.ζ1k [v17,v21] h22).bindT (fun p27 h28 => chkR ((okVal (loadR Prog 75 v1 h22) v17 && true) && true) (.panic p27 h28)) fun v25 h26 =>
 (call F.ζ39 [v25,a1,(.int .i64 2)] h26).bindT (fun p31 h32 => chkR ((okVal (loadR Prog 75 v1 h22) v17 && true) && true) (.panic p31 h32)) fun v29 h30 =>
 (buildR Prog 276 [(0,v5),(1,v29)] h30).bindN fun v33 h34 =>
 (boxR v33 h34).bindN fun v35 h36 =>
 chkR ((okVal (loadR Prog 75 v1 h22) v17 && true) && true) (
 (loadR Prog 75 v1 h36).bindN fun v37 h38 =>
 (loadR Prog 75 v1 h38).bindN fun v39 h40 =>
 (call F.ζ1a [v39,(.int .i64 8)] h40).bindT (fun p43 h44 => (loadR Prog 75 v1 h40).bindN fun v45 h46 => (loadR Prog 75 v1 h46).bindN fun v47 h48 => (allocR Prog 278 h48).bindN fun v49 h50 => chkR ((okVal (loadR Prog 75 v1 h36) v45 && true) && ((okVal (loadR Prog 75 v1 h36) v47 && true) && true)) (.panic p43 h44)) fun v41 h42 =>
 (call F.ζ1k [v37,v41] h42).bindT (fun p53 h54 => (loadR Prog 75 v1 h42).bindN fun v55 h56 => (loadR Prog 75 v1 h56).bindN fun v57 h58 => (allocR Prog 278 h58).bindN fun v59 h60 => chkR ((okVal (loadR Prog 75 v1 h42) v37 && true) && ((okVal (loadR Prog 75 v1 h36) v55 && (okVal (loadR Prog 75 v1 h42) v55 && true)) && ((okVal (loadR Prog 75 v1 h36) v57 && (okVal (loadR Prog 75 v1 h42) v57 && true)) && true))) (.panic p53 h54)) fun v51 h52 =>
 (loadR Prog 75 v1 h52).bindN fun v61 h62 =>
 (loadR Prog 75 v1 h62).bindN fun v63 h64 =>
 (call F.ζ1a [v63,(.int .i64 12)] h64).bindT (fun p67 h68 => (allocR Prog 278 h64).bindN fun v69 h70 => chkR ((okVal (loadR Prog 75 v1 h42) v37 && true) && ((okVal (loadR Prog 75 v1 h36) v61 && (okVal (loadR Prog 75 v1 h42) v61 && true)) && ((okVal (loadR Prog 75 v1 h36) v63 && (okVal (loadR Prog 75 v1 h42) v63 && true)) && true))) (.panic p67 h68)) fun v65 h66 =>
 (call F.ζ1k [v61,v65] h66).bindT (fun p73 h74 => (allocR Prog 278 h66).bindN fun v75 h76 => chkR ((okVal (loadR Prog 75 v1 h42) v37 && true) && ((okVal (loadR Prog 75 v1 h36) v61 && (okVal (loadR Prog 75 v1 h42) v61 && (okVal (loadR Prog 75 v1 h66) v61 && true))) && ((okVal (loadR Prog 75 v1 h36) v63 && (okVal (loadR Prog 75 v1 h42) v63 && true)) && true))) (.panic p73 h74)) fun v71 h72 =>
 (buildR Prog 278 [(0,v35),(1,v51),(2,v71),(3,a2)] h72).bindN fun v77 h78 =>
 (allocR Prog 278 h78).bindN fun v79 h80 =>
 (storeR Prog 278 v79 v77 h80).bindN fun _v81 h82 =>
 chkR ((okVal (loadR Prog 75 v1 h42) v37 && true) && ((okVal (loadR Prog 75 v1 h36) v61 && (okVal (loadR Prog 75 v1 h42) v61 && (okVal (loadR Prog 75 v1 h66) v61 && true))) && ((okVal (loadR Prog 75 v1 h36) v63 && (okVal (loadR Prog 75 v1 h42) v63 && true)) && true))) (
 (loopN (ζ4v k call) loopFuel [(8,v35),(9,v79),(10,(.int .i64 2)),(11,(.int .i64 0))] h82).bind fun r83 h84 =>
 ζh5 k call r83.1 r83.2 h84))
theorem ζo9 (k:Nat) (a0 a1 a2:Value) (h:Heap):R (T k) F.ζ2t [a0,a1,a2] h = nrm .fz h (ζ2t k (R (T k)) a0 a1 a2 h) :=
 (R_body (t:=T k) (T_scott k) (by kernel_rfl) (by kernel_rfl) _ _).trans (by kernel_rfl)
theorem ζbn (k:Nat) (call:Caller) (a8 a9 a10 a11:Value) (h:Heap):ζ4v k call [(8,a8),(9,a9),(10,a10),(11,a11)] h =
 (nilR a8 h).bind fun v85 h86 =>
 (fieldAddrR Prog 276 v85 2 h86).bind fun v87 h88 =>
 (loadR Prog 274 v87 h88).bind fun v89 h90 =>
 (builtinV Prog .len [274] [v89] h90).bind fun v91 h92 =>
 (binR Prog .lss 3 v91 a10 h92).bind fun v93 h94 =>
 ((bif wantVal v93 false then Res.ok a8 h94 else Res.ok undef h94)).bind fun v95 h96 =>
 ((bif wantVal v93 false then nilR v95 h96 else Res.ok undef h96)).bind fun v97 h98 =>
 ((bif wantVal v93 false then fieldAddrR Prog 276 v97 3 h98 else Res.ok undef h98)).bind fun v99 h100 =>
 ((bif wantVal v93 false then loadR Prog 102 v99 h100 else Res.ok undef h100)).bind fun v101 h102 =>
 ((bif wantVal v93 false then builtinV Prog .len [102] [v101] h102 else Res.ok undef h102)).bind fun v103 h104 =>
 ((bif wantVal v93 false then Res.ok a11 h104 else Res.ok undef h104)).bind fun v105 h106 =>
 ((bif wantVal v93 false then binR Prog .lss 3 v103 v105 h106 else Res.ok undef h106)).bind fun v107 h108 =>
 (condV (some v93) (Res.ok (.bool true) h108) (Res.ok v107 h108)).bind fun v109 h110 =>
 condV (some v109) (
 (loopN (ζ4w k call) loopFuel [(8,a8),(9,a9),(10,a10),(11,a11)] h110).bind fun r111 h112 =>
 ζam k call r111.1 r111.2 h112)
 (
 .ok ((.exit 0),[(8,a8),(9,a9),(10,a10),(11,a11),(56,v109)]) h110) :=
 (loopB_eq _ _).trans (by kernel_rfl)
theorem ζ84 (k:Nat) (call:Caller) (a8 a9 a10 a11:Value) (h:Heap):ζ4w k call [(8,a8),(9,a9),(10,a10),(11,a11)] h =
 (nilR a8 h).bind fun v113 h114 =>
 (fieldAddrR Prog 276 v113 2 h114).bind fun v115 h116 =>
 (loadR Prog 274 v115 h116).bind fun v117 h118 =>
 (builtinV Prog .len [274] [v117] h118).bind fun v119 h120 =>
 (binR Prog .lss 3 v119 a10 h120).bind fun v121 h122 =>
 condV (some v121) (
 (loadR Prog 278 a9 h122).bind fun v123 h124 =>
 (call F.ζ1f [v123] h124).bind fun v125 h126 =>
 (builtinV Prog .max [3,3] [a11,v125] h126).bind fun v127 h128 =>
 .ok (.normal,[(8,a8),(9,a9),(10,a10),(11,v127)]) h128)
 (
 .ok ((.exit 2),[(8,a8),(9,a9),(10,a10),(11,a11),(63,v121)]) h122) :=
 (loopB_eq _ _).trans (by kernel_rfl)
theorem ζi7 (k:Nat) (call:Caller) (a8 a9 a10 a11 a56:Value) (h:Heap):ζh5 k call (.exit 0) [(8,a8),(9,a9),(10,a10),(11,a11),(56,a56)] h =
 .ok a8 h:=by kernel_rfl
theorem ζi8 (k:Nat) (call:Caller) (a8 a9 a10 a11 a63:Value) (h:Heap):ζam k call (.exit 2) [(8,a8),(9,a9),(10,a10),(11,a11),(63,a63)] h =
 (loopN (ζ4x k call) loopFuel [(8,a8),(9,a9),(10,a10),(11,a11)] h).bind fun r129 h130 =>
 ζan k call r129.1 r129.2 h130:=by kernel_rfl
theorem ζ85 (k:Nat) (call:Caller) (a8 a9 a10 a11:Value) (h:Heap):ζ4x k call [(8,a8),(9,a9),(10,a10),(11,a11)] h =
 (nilR a8 h).bind fun v131 h132 =>
 (fieldAddrR Prog 276 v131 3 h132).bind fun v133 h134 =>
 (loadR Prog 102 v133 h134).bind fun v135 h136 =>
 (builtinV Prog .len [102] [v135] h136).bind fun v137 h138 =>
 (binR Prog .lss 3 v137 a11 h138).bind fun v139 h140 =>
 condV (some v139) (
 (loadR Prog 278 a9 h140).bind fun v141 h142 =>
 (call F.ζb [v141] h142).bind fun v143 h144 =>
 (builtinV Prog .max [3,3] [a10,v143] h144).bind fun v145 h146 =>
 .ok (.normal,[(8,a8),(9,a9),(10,v145),(11,a11)]) h146)
 (
 .ok ((.exit 4),[(8,a8),(9,a9),(10,a10),(11,a11),(74,v139)]) h140) :=
 (loopB_eq _ _).trans (by kernel_rfl)
theorem ζi9 (k:Nat) (call:Caller) (a8 a9 a10 a11 a74:Value) (h:Heap):ζan k call (.exit 4) [(8,a8),(9,a9),(10,a10),(11,a11),(74,a74)] h =
 .ok (.normal,[(8,a8),(9,a9),(10,a10),(11,a11)]) h:=by kernel_rfl
def ζ22 (k:Nat) (call:Caller) (a0:Value) (h:Heap):Res Value :=
 (buildSliceR Prog 102 0 [] h).bind fun v1 h2 =>
 (nilR a0 h2).bind fun v3 h4 =>
 (fieldAddrR Prog 276 v3 3 h4).bind fun v5 h6 =>
 (loadR Prog 102 v5 h6).bind fun v7 h8 =>
 (builtinV Prog .append [102,102] [v1,v7] h8).bind fun v9 h10 =>
 .ok v9 h10
theorem ζb1 (k:Nat) (a0:Value) (h:Heap):R (T k) F.ζ22 [a0] h = nrm (own k) h (ζ22 k (R (T k)) a0 h) :=
 (R_body (t:=T k) (T_scott k) (by kernel_rfl) (by kernel_rfl) _ _).trans (by kernel_rfl)
def ζ5d (k:Nat) (call:Caller):Env → Heap → Res (AExit × Env):=loopB (C k) call F.ζ1f [1,1,1,1,1,0,1,0,0]
def ζ86 (k:Nat) (call:Caller):Kont Value:=kBlock 0 (kSeq (pieceK (C k) call F.ζ1f [1,1,1,1,1,1]) (kDone Prog (resOf Prog F.ζ1f)))
def ζ1f (k:Nat) (call:Caller) (a0:Value) (h:Heap):Res Value :=
 (boxR a0 h).bind fun v1 h2 =>
 (fieldAddrR Prog 278 v1 0 h2).bind fun v3 h4 =>
 (loadR Prog 196 v3 h4).bind fun v5 h6 =>
 (nilR v5 h6).bind fun v7 h8 =>
 (fieldAddrR Prog 276 v7 0 h8).bind fun v9 h10 =>
 (loadR Prog 3 v9 h10).bind fun v11 h12 =>
 (fieldAddrR Prog 278 v1 1 h12).bindN fun v13 h14 =>
 (loadR Prog 75 v13 h14).bindN fun v15 h16 =>
 (binR Prog .mul 3 (.int .i64 2) v11 h16).bindN fun v17 h18 =>
 (fieldAddrR Prog 278 v1 0 h18).bindN fun v19 h20 =>
 (loadR Prog 196 v19 h20).bindN fun v21 h22 =>
 (nilR v21 h22).bindN fun v23 h24 =>
 (fieldAddrR Prog 276 v23 2 h24).bindN fun v25 h26 =>
 (loadR Prog 274 v25 h26).bindN fun v27 h28 =>
 (builtinV Prog .len [274] [v27] h28).bindN fun v29 h30 =>
 (binR Prog .mul 3 v17 v29 h30).bindN fun v31 h32 =>
 (call F.ζ1d [v15,v31,v11,(.int .i64 2)] h32).bindT (fun p35 h36 => (allocR Prog 75 h32).bindN fun v37 h38 => .panic p35 h36) fun v33 h34 =>
 (allocR Prog 75 h34).bindN fun v39 h40 =>
 (storeR Prog 75 v39 v33 h40).bindN fun _v41 h42 =>
 (makeSliceV Prog 23 v11 v11 h42).bind fun v43 h44 =>
 (builtinV Prog .len [23] [v43] h44).bind fun v45 h46 =>
 (loopN (ζ5d k call) loopFuel [(1,v1),(4,v39),(5,v43),(6,(.int .i64 0)),(29,v45),(30,(.int .i64 0))] h46).bind fun r47 h48 =>
 ζ86 k call r47.1 r47.2 h48
theorem ζhm (k:Nat) (a0:Value) (h:Heap):R (T k) F.ζ1f [a0] h = nrm .no h (ζ1f k (R (T k)) a0 h) :=
 (R_body (t:=T k) (T_scott k) (by kernel_rfl) (by kernel_rfl) _ _).trans (by kernel_rfl)
theorem ζ6g (k:Nat) (call:Caller) (a1 a4 a5 a6 a29 a30:Value) (h:Heap):ζ5d k call [(1,a1),(4,a4),(5,a5),(6,a6),(29,a29),(30,a30)] h =
 (binR Prog .lss 3 a30 a29 h).bind fun v49 h50 =>
 condV (some v49) (
 (loadR Prog 75 a4 h50).bind fun v51 h52 =>
 (binR Prog .mul 3 (.int .i64 2) a30 h52).bind fun v53 h54 =>
 (call F.ζf [v51,v53] h54).bind fun v55 h56 =>
 (indexAddrR Prog 23 a5 a30 h56).bind fun v57 h58 =>
 (storeR Prog 3 v57 v55 h58).bind fun _v59 h60 =>
 (indexAddrR Prog 23 a5 a30 h60).bind fun v61 h62 =>
 (loadR Prog 3 v61 h62).bind fun v63 h64 =>
 (binR Prog .add 3 v63 (.int .i64 1) h64).bind fun v65 h66 =>
 (builtinV Prog .max [3,3] [a6,v65] h66).bind fun v67 h68 =>
 (binR Prog .add 3 a30 (.int .i64 1) h68).bind fun v69 h70 =>
 .ok (.normal,[(1,a1),(4,a4),(5,a5),(6,v67),(29,a29),(30,v69)]) h70)
 (
 .ok ((.exit 0),[(1,a1),(4,a4),(5,a5),(6,a6),(29,a29),(30,a30),(31,v49)]) h50) :=
 (loopB_eq _ _).trans (by kernel_rfl)
theorem ζb2 (k:Nat) (call:Caller) (a1 a4 a5 a6 a29 a30 a31:Value) (h:Heap):ζ86 k call (.exit 0) [(1,a1),(4,a4),(5,a5),(6,a6),(29,a29),(30,a30),(31,a31)] h =
 (fieldAddrR Prog 278 a1 0 h).bindN fun v71 h72 =>
 (loadR Prog 196 v71 h72).bindN fun v73 h74 =>
 (fieldAddrR Prog 278 a1 0 h74).bindN fun v75 h76 =>
 (loadR Prog 196 v75 h76).bindN fun v77 h78 =>
 (nilR v77 h78).bindN fun v79 h80 =>
 (fieldAddrR Prog 276 v79 2 h80).bindN fun v81 h82 =>
 (loadR Prog 274 v81 h82).bindN fun v83 h84 =>
 (buildSliceR Prog 274 1 [(0,a5)] h84).bindN fun v85 h86 =>
 (builtinV Prog .append [274,274] [v83,v85] h86).bindN fun v87 h88 =>
 (nilR v73 h88).bindN fun v89 h90 =>
 (fieldAddrR Prog 276 v89 2 h90).bindN fun v91 h92 =>
 (storeR Prog 274 v91 v87 h92).bindN fun _v93 h94 =>
 chkR ((okVal (loadR Prog 196 v71 h86) v73 && (okVal (loadR Prog 196 v71 h88) v73 && true)) && ((okVal (loadR Prog 196 v75 h86) v77 && true) && ((okVal (loadR Prog 274 v81 h86) v83 && true) && true))) (
 .ok a6 h94):=by kernel_rfl
def ζ7d (k:Nat) (call:Caller) (a1 a4 a5:Value) (h:Heap):Res Value :=
 kSeq (pieceK (C k) call F.ζb [1,1,1,1,1]) (kDone Prog (resOf Prog F.ζb)) .normal [(1,a1),(4,a4),(5,a5)] h
def ζ7e (k:Nat) (call:Caller) (a1 a4 a5 a29:Value) (h:Heap):Res Value :=
 kSeq (pieceK (C k) call F.ζb [1,1,1,1,1]) (kDone Prog (resOf Prog F.ζb)) .normal [(1,a1),(4,a4),(5,a5),(29,a29)] h
def ζ31 (k:Nat) (call:Caller) (a1 a5:Value) (h:Heap):Res Value :=
 kSeq (pieceK (C k) call F.ζb [1,1,1,1,1,1]) (kDone Prog (resOf Prog F.ζb)) .normal [(1,a1),(5,a5)] h
def ζ32 (k:Nat) (call:Caller) (a1 a4 a5 a35:Value) (h:Heap):Res Value :=
 kSeq (pieceK (C k) call F.ζb [1,1,1,1,1,1]) (kDone Prog (resOf Prog F.ζb)) .normal [(1,a1),(4,a4),(5,a5),(35,a35)] h
def ζb (k:Nat) (call:Caller) (a0:Value) (h:Heap):Res Value :=
 (boxR a0 h).bind fun v1 h2 =>
 (fieldAddrR Prog 278 v1 3 h2).bind fun v3 h4 =>
 (loadR Prog 3 v3 h4).bind fun v5 h6 =>
 (binR Prog .mul 3 (.int .i64 2) v5 h6).bind fun v7 h8 =>
 (binR Prog .add 3 (.int .i64 4) v7 h8).bind fun v9 h10 =>
 (fieldAddrR Prog 278 v1 2 h10).bindN fun v11 h12 =>
 (loadR Prog 75 v11 h12).bindN fun v13 h14 =>
 (fieldAddrR Prog 278 v1 0 h14).bindN fun v15 h16 =>
 (loadR Prog 196 v15 h16).bindN fun v17 h18 =>
 (nilR v17 h18).bindN fun v19 h20 =>
 (fieldAddrR Prog 276 v19 3 h20).bindN fun v21 h22 =>
 (loadR Prog 102 v21 h22).bindN fun v23 h24 =>
 (builtinV Prog .len [102] [v23] h24).bindN fun v25 h26 =>
 (binR Prog .mul 3 v9 v25 h26).bindN fun v27 h28 =>
 (call F.ζ2m [v13,v27,v9] h28).bindT (fun p31 h32 => (allocR Prog 75 h28).bindN fun v33 h34 => .panic p31 h32) fun v29 h30 =>
 (allocR Prog 75 h30).bindN fun v35 h36 =>
 (storeR Prog 75 v35 v29 h36).bindN fun _v37 h38 =>
 (loadR Prog 75 v35 h38).bindN fun v39 h40 =>
 (call F.ζf [v39,(.int .i64 0)] h40).bindT (fun p43 h44 => (loadR Prog 75 v35 h40).bindN fun v45 h46 => (allocR Prog 130 h46).bindN fun v47 h48 => chkR ((okVal (loadR Prog 75 v35 h38) v45 && true) && true) (.panic p43 h44)) fun v41 h42 =>
 (loadR Prog 75 v35 h42).bindN fun v49 h50 =>
 (call F.ζf [v49,(.int .i64 2)] h50).bindT (fun p53 h54 => (allocR Prog 130 h50).bindN fun v55 h56 => chkR ((okVal (loadR Prog 75 v35 h38) v49 && true) && true) (.panic p53 h54)) fun v51 h52 =>
 (buildR Prog 130 [(0,v41),(1,v51)] h52).bindN fun v57 h58 =>
 (allocR Prog 130 h58).bindN fun v59 h60 =>
 (storeR Prog 130 v59 v57 h60).bindN fun _v61 h62 =>
 chkR ((okVal (loadR Prog 75 v35 h38) v49 && true) && true) (
 (fieldAddrR Prog 278 v1 3 h62).bind fun v63 h64 =>
 (loadR Prog 3 v63 h64).bind fun v65 h66 =>
 (binR Prog .gtr 3 v65 (.int .i64 0) h66).bind fun v67 h68 =>
 condV (some v67) (
 (loadR Prog 75 v35 h68).bind fun v69 h70 =>
 (call F.ζf [v69,(.int .i64 4)] h70).bind fun v71 h72 =>
 (fieldAddrR Prog 130 v59 2 h72).bind fun v73 h74 =>
 (storeR Prog 3 v73 v71 h74).bind fun _v75 h76 =>
 ζ7d k call v1 v35 v59 h76)
 (
 ζ7e k call v1 v35 v59 v67 h68))
theorem ζgb (k:Nat) (a0:Value) (h:Heap):R (T k) F.ζb [a0] h = nrm .no h (ζb k (R (T k)) a0 h) :=
 (R_body (t:=T k) (T_scott k) (by kernel_rfl) (by kernel_rfl) _ _).trans (by kernel_rfl)
theorem ζ5c (k:Nat) (call:Caller) (a1 a4 a5:Value) (h:Heap):ζ7d k call a1 a4 a5 h =
 (fieldAddrR Prog 278 a1 3 h).bind fun v77 h78 =>
 (loadR Prog 3 v77 h78).bind fun v79 h80 =>
 (binR Prog .gtr 3 v79 (.int .i64 1) h80).bind fun v81 h82 =>
 condV (some v81) (
 (loadR Prog 75 a4 h82).bind fun v83 h84 =>
 (call F.ζf [v83,(.int .i64 6)] h84).bind fun v85 h86 =>
 (fieldAddrR Prog 130 a5 3 h86).bind fun v87 h88 =>
 (storeR Prog 3 v87 v85 h88).bind fun _v89 h90 =>
 ζ31 k call a1 a5 h90)
 (
 ζ32 k call a1 a4 a5 v81 h82):=by kernel_rfl
theorem ζao (k:Nat) (call:Caller) (a1 a4 a5 a29:Value) (h:Heap):ζ7e k call a1 a4 a5 a29 h =
 (fieldAddrR Prog 278 a1 3 h).bind fun v91 h92 =>
 (loadR Prog 3 v91 h92).bind fun v93 h94 =>
 (binR Prog .gtr 3 v93 (.int .i64 1) h94).bind fun v95 h96 =>
 condV (some v95) (
 (loadR Prog 75 a4 h96).bind fun v97 h98 =>
 (call F.ζf [v97,(.int .i64 6)] h98).bind fun v99 h100 =>
 (fieldAddrR Prog 130 a5 3 h100).bind fun v101 h102 =>
 (storeR Prog 3 v101 v99 h102).bind fun _v103 h104 =>
 ζ31 k call a1 a5 h104)
 (
 ζ32 k call a1 a4 a5 v95 h96):=by kernel_rfl
theorem ζap (k:Nat) (call:Caller) (a1 a5:Value) (h:Heap):ζ31 k call a1 a5 h =
 (fieldAddrR Prog 278 a1 0 h).bindN fun v105 h106 =>
 (loadR Prog 196 v105 h106).bindN fun v107 h108 =>
 (fieldAddrR Prog 278 a1 0 h108).bindN fun v109 h110 =>
 (loadR Prog 196 v109 h110).bindN fun v111 h112 =>
 (nilR v111 h112).bindN fun v113 h114 =>
 (fieldAddrR Prog 276 v113 3 h114).bindN fun v115 h116 =>
 (loadR Prog 102 v115 h116).bindN fun v117 h118 =>
 (loadR Prog 130 a5 h118).bindN fun v119 h120 =>
 (buildSliceR Prog 102 1 [(0,v119)] h120).bindN fun v121 h122 =>
 (builtinV Prog .append [102,102] [v117,v121] h122).bindN fun v123 h124 =>
 (nilR v107 h124).bindN fun v125 h126 =>
 (fieldAddrR Prog 276 v125 3 h126).bindN fun v127 h128 =>
 (storeR Prog 102 v127 v123 h128).bindN fun _v129 h130 =>
 chkR ((okVal (loadR Prog 196 v105 h122) v107 && (okVal (loadR Prog 196 v105 h124) v107 && true)) && ((okVal (loadR Prog 196 v109 h122) v111 && true) && ((okVal (loadR Prog 102 v115 h122) v117 && true) && true))) (
 (fieldAddrR Prog 130 a5 0 h130).bind fun v131 h132 =>
 (loadR Prog 3 v131 h132).bind fun v133 h134 =>
 (binR Prog .add 3 v133 (.int .i64 1) h134).bind fun v135 h136 =>
 .ok v135 h136):=by kernel_rfl
theorem ζaq (k:Nat) (call:Caller) (a1 a4 a5 a35:Value) (h:Heap):ζ32 k call a1 a4 a5 a35 h =
 (fieldAddrR Prog 278 a1 0 h).bindN fun v137 h138 =>
 (loadR Prog 196 v137 h138).bindN fun v139 h140 =>
 (fieldAddrR Prog 278 a1 0 h140).bindN fun v141 h142 =>
 (loadR Prog 196 v141 h142).bindN fun v143 h144 =>
 (nilR v143 h144).bindN fun v145 h146 =>
 (fieldAddrR Prog 276 v145 3 h146).bindN fun v147 h148 =>
 (loadR Prog 102 v147 h148).bindN fun v149 h150 =>
 (loadR Prog 130 a5 h150).bindN fun v151 h152 =>
 (buildSliceR Prog 102 1 [(0,v151)] h152).bindN fun v153 h154 =>
 (builtinV Prog .append [102,102] [v149,v153] h154).bindN fun v155 h156 =>
 (nilR v139 h156).bindN fun v157 h158 =>
 (fieldAddrR Prog 276 v157 3 h158).bindN fun v159 h160 =>
 (storeR Prog 102 v159 v155 h160).bindN fun _v161 h162 =>
 chkR ((okVal (loadR Prog 196 v137 h154) v139 && (okVal (loadR Prog 196 v137 h156) v139 && true)) && ((okVal (loadR Prog 196 v141 h154) v143 && true) && ((okVal (loadR Prog 102 v147 h154) v149 && true) && true))) (
 (fieldAddrR Prog 130 a5 0 h162).bind fun v163 h164 =>
 (loadR Prog 3 v163 h164).bind fun v165 h166 =>
 (binR Prog .add 3 v165 (.int .i64 1) h166).bind fun v167 h168 =>
 .ok v167 h168):=by kernel_rfl
def ζ19 (k:Nat) (call:Caller) (a0 a1 a2:Value) (h:Heap):Res Value :=
 (allocR Prog 130 h).bind fun v1 h2 =>
 (binR Prog .lss 3 a1 (.int .i64 0) h2).bind fun v3 h4 =>
 ((bif wantVal v3 false then Res.ok a1 h4 else Res.ok undef h4)).bind fun v5 h6 =>
 ((bif wantVal v3 false then Res.ok a0 h6 else Res.ok undef h6)).bind fun v7 h8 =>
 ((bif wantVal v3 false then nilR v7 h8 else Res.ok undef h8)).bind fun v9 h10 =>
 ((bif wantVal v3 false then fieldAddrR Prog 276 v9 2 h10 else Res.ok undef h10)).bind fun v11 h12 =>
 ((bif wantVal v3 false then loadR Prog 274 v11 h12 else Res.ok undef h12)).bind fun v13 h14 =>
 ((bif wantVal v3 false then builtinV Prog .len [274] [v13] h14 else Res.ok undef h14)).bind fun v15 h16 =>
 ((bif wantVal v3 false then binR Prog .geq 3 v5 v15 h16 else Res.ok undef h16)).bind fun v17 h18 =>
 (condV (some v3) (Res.ok (.bool true) h18) (Res.ok v17 h18)).bind fun v19 h20 =>
 ((bif wantVal v19 false then Res.ok a2 h20 else Res.ok undef h20)).bind fun v21 h22 =>
 ((bif wantVal v19 false then binR Prog .lss 3 v21 (.int .i64 0) h22 else Res.ok undef h22)).bind fun v23 h24 =>
 (condV (some v19) (Res.ok (.bool true) h24) (Res.ok v23 h24)).bind fun v25 h26 =>
 ((bif wantVal v25 false then Res.ok a2 h26 else Res.ok undef h26)).bind fun v27 h28 =>
 ((bif wantVal v25 false then Res.ok a0 h28 else Res.ok undef h28)).bind fun v29 h30 =>
 ((bif wantVal v25 false then nilR v29 h30 else Res.ok undef h30)).bind fun v31 h32 =>
 ((bif wantVal v25 false then fieldAddrR Prog 276 v31 0 h32 else Res.ok undef h32)).bind fun v33 h34 =>
 ((bif wantVal v25 false then loadR Prog 3 v33 h34 else Res.ok undef h34)).bind fun v35 h36 =>
 ((bif wantVal v25 false then binR Prog .geq 3 v27 v35 h36 else Res.ok undef h36)).bind fun v37 h38 =>
 (condV (some v25) (Res.ok (.bool true) h38) (Res.ok v37 h38)).bind fun v39 h40 =>
 condV (some v39) (
 (buildR Prog 130 [] h40).bind fun v41 h42 =>
 (storeR Prog 130 v1 v41 h42).bind fun _v43 h44 =>
 (loadR Prog 130 v1 h44).bind fun v45 h46 =>
 .ok (.tuple #[v45,(.bool false)]) h46)
 (
 (nilR a0 h40).bindN fun v47 h48 =>
 (fieldAddrR Prog 276 v47 3 h48).bindN fun v49 h50 =>
 (loadR Prog 102 v49 h50).bindN fun v51 h52 =>
 (nilR a0 h52).bindN fun v53 h54 =>
 (fieldAddrR Prog 276 v53 2 h54).bindN fun v55 h56 =>
 (loadR Prog 274 v55 h56).bindN fun v57 h58 =>
 (indexAddrR Prog 274 v57 a1 h58).bindN fun v59 h60 =>
 (loadR Prog 23 v59 h60).bindN fun v61 h62 =>
 (indexAddrR Prog 23 v61 a2 h62).bindN fun v63 h64 =>
 (loadR Prog 3 v63 h64).bindN fun v65 h66 =>
 (indexAddrR Prog 102 v51 v65 h66).bindN fun v67 h68 =>
 (loadR Prog 130 v67 h68).bindN fun v69 h70 =>
 (storeR Prog 130 v1 v69 h70).bindN fun _v71 h72 =>
 (loadR Prog 130 v1 h72).bind fun v73 h74 =>
 .ok (.tuple #[v73,(.bool true)]) h74)
theorem ζga (k:Nat) (a0 a1 a2:Value) (h:Heap):R (T k) F.ζ19 [a0,a1,a2] h = nrm .gc h (ζ19 k (R (T k)) a0 a1 a2 h) :=
 (R_body (t:=T k) (T_scott k) (by kernel_rfl) (by kernel_rfl) _ _).trans (by kernel_rfl)
def ζ1c (k:Nat) (call:Caller) (a0 a1:Value) (h:Heap):Res Value :=
 (binR Prog .eql 3 a1 (.int .i64 65535) h).bind fun v1 h2 =>
 condV (some v1) (
 .ok (.int .i64 2) h2)
 (
 (nilR a0 h2).bind fun v3 h4 =>
 (fieldAddrR Prog 276 v3 1 h4).bind fun v5 h6 =>
 (loadR Prog 32 v5 h6).bind fun v7 h8 =>
 (call F.ζ2b [v7,a1] h8).bind fun v9 h10 =>
 (extractR v9 0 h10).bind fun v11 h12 =>
 (extractR v9 1 h12).bind fun v13 h14 =>
 ((bif wantVal v13 true then Res.ok v11 h14 else Res.ok undef h14)).bind fun v15 h16 =>
 ((bif wantVal v13 true then Res.ok a0 h16 else Res.ok undef h16)).bind fun v17 h18 =>
 ((bif wantVal v13 true then nilR v17 h18 else Res.ok undef h18)).bind fun v19 h20 =>
 ((bif wantVal v13 true then fieldAddrR Prog 276 v19 0 h20 else Res.ok undef h20)).bind fun v21 h22 =>
 ((bif wantVal v13 true then loadR Prog 3 v21 h22 else Res.ok undef h22)).bind fun v23 h24 =>
 ((bif wantVal v13 true then binR Prog .lss 3 v15 v23 h24 else Res.ok undef h24)).bind fun v25 h26 =>
 (condV (some v13) (Res.ok v25 h26) (Res.ok (.bool false) h26)).bind fun v27 h28 =>
 condV (some v27) (
 .ok v11 h28)
 (
 .ok (.int .i64 1) h28))
theorem ζex (k:Nat) (a0 a1:Value) (h:Heap):R (T k) F.ζ1c [a0,a1] h = nrm .gc h (ζ1c k (R (T k)) a0 a1 h) :=
 (R_body (t:=T k) (T_scott k) (by kernel_rfl) (by kernel_rfl) _ _).trans (by kernel_rfl)
end
end Go.Sw
end
section
namespace Go.Sw
open Go.RowKit
theorem Star.memP {H0 H:Heap} {L:List It} (h:Star H0 H L) {x:It} (hx:x ∈ L):x.P H:=by
 obtain ⟨i,hi⟩:=List.getElem?_of_mem hx;exact h.at i hi
theorem Star.memBlk {H0 H:Heap} {L:List It} (h:Star H0 H L) {c:Nat} {k:Blk} (hx:itBlk c k ∈ L):H.get c = some k:=h.memP hx
theorem Star.memOwn {α:Type} {enc:α → List Value} {H0 H:Heap} {L:List It} (h:Star H0 H L) {o:Option Nat} {m:Nat} {s:Value} {l:List α} (hx:itRow o m s enc l ∈ L):Own H0 H m s enc l:=by
 obtain ⟨i,hi⟩:=List.getElem?_of_mem hx;exact h.own i hi
theorem Star.stCell {H0 H:Heap} {L:List It} (h:Star H0 H L) (i:Nat) {c:Nat} {cells:List Value} {e:Nat} (hi:L[i]? = some (itBlk c ⟨cells,e,false⟩)) (off:Nat) {v:Value} (hs:storable v = true) (hc:v.cells = #[v]) (ho:off < cells.length) :
  ∃ H',stR 1 (.pointer (some ⟨c,off,none⟩)) v H = .ok undef H' ∧ Star H0 H' (L.set i (itBlk c ⟨cells.set off v,e,false⟩)) ∧ H'.n = H.n:=by
 have hg:=h.get i hi;have hsp:splice cells off [v] = cells.set off v:=by
  unfold splice;rw [List.set_eq_take_append_cons_drop,if_pos ho];rfl
 refine ⟨H.set c (some ⟨cells.set off v,e,false⟩),?_,h.step i hi (by simp) (fun d _ hd => ?_) _ ?_ fun b hb => .inl hb,by simp⟩
 ·simp [hs,hc,hg,hsp];rw [if_pos (show off + 1 ≤ cells.length by omega)];rfl
 ·rw [ζ29];exact fun e => hd (show d ∈ [c] by simp [e])
 ·exact ζ6d _ _ _ (by rw [hg]; rfl)
theorem ζot {body:Env → Heap → Res (AExit × Env)} (Inv:Nat → Env → Heap → Prop) (Q:AExit → Env → Heap → Prop) (Qp:Value → Heap → Prop)
  (step:∀ m e H,Inv m e H → (∃ m' e' H',body e H = .ok (.normal,e') H' ∧ m' < m ∧ Inv m' e' H') ∨ (∃ x e' H',body e H = .ok (x,e') H' ∧ x ≠ .normal ∧ Q x e' H') ∨ (∃ v H',body e H = .panic v H' ∧ Qp v H')) :
  ∀ (fuel m:Nat) (e:Env) (H:Heap),m < fuel → Inv m e H → (∃ x e' H',loopN body fuel e H = .ok (x,e') H' ∧ Q x e' H') ∨ (∃ v H',loopN body fuel e H = .panic v H' ∧ Qp v H')
 | 0,m,e,H,hm,_ => by omega
 | fuel + 1,m,e,H,hm,hi => by
  rcases step m e H hi with ⟨m',e',H',h1,h2,h3⟩ | ⟨x,e',H',h1,h2,h3⟩ | ⟨v,H',h1,h2⟩
  ·simp only [loopN,h1,Res.bind];exact ζot Inv Q Qp step fuel m' e' H' (by omega) h3
  ·refine .inl ⟨x,e',H',?_,h3⟩;cases x with
   | normal => exact absurd rfl h2
   | exit j => simp only [loopN,h1,Res.bind]
   | ret => simp only [loopN,h1,Res.bind]
  ·exact .inr ⟨v,H',by simp only [loopN,h1,Res.bind],h2⟩
theorem loopDecP {body:Env → Heap → Res (AExit × Env)} (Inv:Nat → Env → Heap → Prop) (Q:AExit → Env → Heap → Prop) (Qp:Value → Heap → Prop) {e0:Env} {H0:Heap} (m:Nat) (h0:Inv m e0 H0) (hm:m < 2 ^ 64)
  (step:∀ m e H,Inv m e H → (∃ m' e' H',body e H = .ok (.normal,e') H' ∧ m' < m ∧ Inv m' e' H') ∨ (∃ x e' H',body e H = .ok (x,e') H' ∧ x ≠ .normal ∧ Q x e' H') ∨ (∃ v H',body e H = .panic v H' ∧ Qp v H')) :
  (∃ x e' H',loopN body loopFuel e0 H0 = .ok (x,e') H' ∧ Q x e' H') ∨ (∃ v H',loopN body loopFuel e0 H0 = .panic v H' ∧ Qp v H'):=ζot Inv Q Qp step loopFuel m e0 H0 (fuel_big hm) h0
abbrev encEn (e:En):List Value:=[.int .i64 e.next,.int .i64 e.flags,.int .i64 e.a,.int .i64 e.b]
theorem ζ8t (e:En):(encEn e).length = 4:=rfl
theorem ζl8 (l:List En):∀ p,p ∈ l → ∀ v,v ∈ encEn p → Still v:=fun p _ v hv => by
 simp [encEn] at hv;rcases hv with rfl | rfl | rfl | rfl <;> trivial
theorem Flat.ofEn (e:En):Flat (.agg (encEn e).toArray):=.aggL (.cons (.int _ _) (.cons (.int _ _) (.cons (.int _ _) (.cons (.int _ _) .nil))))
theorem Flat.Ens (l:List En):Flat (Go.Sw.lv encEn l):=.lv fun p _ => .cons (.int _ _) (.cons (.int _ _) (.cons (.int _ _) (.cons (.int _ _) .nil)))
abbrev encU (x:List Int × Value):List Value:=[x.2]
theorem encU_len (x:List Int × Value):(encU x).length = 1:=rfl
abbrev encRow (r:List Int):List Value:=[lv encI r]
theorem ζqr (r:List Int):(encRow r).length = 1:=rfl
def MS (H0 H:Heap) (X:List It) (c:Nat) (n:Int) (tab:Value) (rs:List (List Int)) (es:List En):Prop :=
 ∃ (l:List (List Int × Value)) (s1:Value) (o1:Option Nat) (s2:Value) (o2:Option Nat) (bs:List It),l.map Prod.fst = rs ∧
  Star H0 H (itBlk c ⟨[.int .i64 n,tab,s1,s2],1,false⟩ :: itRow o1 1 s1 encU l :: itRow o2 4 s2 encEn es :: (X ++ bs)) ∧ ∀ x,x ∈ l → ∃ o,itRow o 1 x.2 encI x.1 ∈ bs
theorem MS.rest {H0 H H':Heap} {X:List It} {c:Nat} {n:Int} {tab:Value} {rs:List (List Int)} {es:List En} (h:MS H0 H X c n tab rs es) (he:Ext H H'):MS H0 H' X c n tab rs es:=by
 obtain ⟨l,s1,o1,s2,o2,bs,h1,h2,h3⟩:=h;exact ⟨l,s1,o1,s2,o2,bs,h1,h2.rest he,h3⟩
theorem MS.ext {H0 H:Heap} {X:List It} {c:Nat} {n:Int} {tab:Value} {rs:List (List Int)} {es:List En} (h:MS H0 H X c n tab rs es):Ext H0 H:=by
 obtain ⟨l,s1,o1,s2,o2,bs,h1,h2,h3⟩:=h;exact h2.ext
theorem MS.here {H0 H:Heap} {X:List It} {c:Nat} {n:Int} {tab:Value} {rs:List (List Int)} {es:List En} (h:MS H0 H X c n tab rs es) :
  ∃ s1 s2,H.get c = some ⟨[.int .i64 n,tab,s1,s2],1,false⟩ ∧ (∀ H',lnS s1 H' = .ok (.int .i64 rs.length) H') ∧ ∀ H',lnS s2 H' = .ok (.int .i64 es.length) H':=by
 obtain ⟨l,s1,o1,s2,o2,bs,h1,h2,h3⟩:=h;refine ⟨s1,s2,h2.get 0 rfl,fun H' => ?_,(h2.row 2 rfl).len⟩;rw [(h2.row 1 rfl).len,← h1,List.length_map]
theorem MS.memX {H0 H:Heap} {X:List It} {c:Nat} {n:Int} {tab:Value} {rs:List (List Int)} {es:List En} (h:MS H0 H X c n tab rs es) {b:Nat} {k:Blk} (hb:itBlk b k ∈ X):H.get b = some k:=by
 obtain ⟨l,s1,o1,s2,o2,bs,h1,h2,h3⟩:=h;exact h2.memBlk (by simp [hb])
theorem row_take {rv:List Int} {n:Int} {k:Nat} {r:List Int} (h:rowsS rv (2 * n * k) n 2 = some r) (hn:0 ≤ n):r.length = n.toNat * 2 ∧ rowK rv n k = some ((cutRows r 2 n.toNat).map num):=by
 refine ⟨?_,by unfold rowK listS; rw [h]; rfl⟩;have:=ζ3l (ζ3c h);omega
theorem row_run (k:Nat) {H0 H:Heap} {X:List It} {c:Nat} {n:Int} {tab:Value} {rs:List (List Int)} {es:List En} (h:MS H0 H X c n tab rs es) (hn:0 ≤ n ∧ n ≤ 65535) (hrl:rs.length < 65536) {vR vE:Value} {rv:List Int} (w:Int) (hv:Sl H 1 vR encB rv) (hE:Go.Sw.veq vE vE = true) (hb:Byt rv) (hl:rv.length < 2 ^ 31) :
  match rowK rv n rs.length with
  | some r => ∃ H',R (T k) F.ζ1f [.agg #[ptrV c,vR,vE,.int .i64 w]] H = .ok (.int .i64 (needL r)) H' ∧ MS H0 H' X c n tab (rs ++ [r]) es
  | none => R (T k) F.ζ1f [.agg #[ptrV c,vR,vE,.int .i64 w]] H = .panic failV H:=by
 obtain ⟨l,s1,o1,s2,o2,bs,h1,g,h3⟩:=h;have hM:=g.get 0 rfl;have hlen1:=(g.row 1 rfl).len;have hll:l.length = rs.length:=by rw [← h1,List.length_map]
 rw [hll] at hlen1;have hcn:¬ c = H.n:=by have:=Heap.get_lt hM; omega
 have hx1:Ext H (H.push ⟨[ptrV c,vR,vE,.int .i64 w],1,false⟩):=(Ext.refl H).push _;have hm0:0 ≤ 2 * n * (rs.length:Int):=Int.mul_nonneg (by omega) (by omega);have hm1:2 * n * (rs.length:Int) ≤ 131070 * 65536:=Int.mul_le_mul (by omega) (by omega) (by omega) (by omega);have hRows:=Rows_run k (hv.up hx1) (2 * n * rs.length) n 2 (by omega);rw [ζhm];cases hr:rowsS rv (2 * n * rs.length) n 2 with
 | none =>
  have:rowK rv n rs.length = none:=by unfold rowK listS; rw [hr]; rfl
  rw [this];rw [hr] at hRows;refine ζ1o ⟨_,?_,hx1⟩ Flat.fail.alive;simp -implicitDefEqProofs (disch:=omega) [ζ1f,hcn,hM,hlen1,hRows]
 | some r =>
  obtain ⟨hrlen,hK⟩:=row_take hr hn.1;rw [hK];dsimp only;rw [hr] at hRows;have hs:=ζ48 (hv.up hx1) (ζ3c hr);have hrb:=(hb.piece (ζ3c hr)).1;obtain ⟨n,rfl⟩:=Int.eq_ofNat_of_zero_le hn.1;simp only [Int.toNat_natCast] at hrlen ⊢;generalize subV 1 vR (2 * (n:Int) * rs.length).toNat ((n:Int) * 2).toNat = q at hs hRows;obtain ⟨B1,hB1⟩:∃ B1:Blk,B1 = ⟨[ptrV c,vR,vE,.int .i64 w],1,false⟩:=⟨_,rfl⟩
  obtain ⟨B2,hB2⟩:∃ B2:Blk,B2 = ⟨[q],1,false⟩:=⟨_,rfl⟩
  rw [← hB1] at hs;have g:=(g.push B1).push B2;have hx2:Ext (H.push B1) ((H.push B1).push B2):=(Ext.refl _).push _;obtain ⟨vals,hvals⟩:∃ vals,vals = (cutRows r 2 n).map num:=⟨_,rfl⟩
  rw [← hvals];have hvl:vals.length = n:=by rw [hvals]; simp
  obtain ⟨x,e',H1,hr',rfl,rfl,ho,hx⟩:=loop_up (body:=ζ5d k (R (T k))) n
   (fun j e H' => e = [(1,ptrV H.n),(4,ptrV (H.n + 1)),(5,.slice (some ⟨H.n + 2,0,none⟩) n n),(6,.int .i64 (needL (vals.take j))),(29,.int .i64 n),(30,.int .i64 j)] ∧
    Own ((H.push B1).push B2) H' 1 (.slice (some ⟨H.n + 2,0,none⟩) n n) encI (vals.take j ++ List.replicate (n - j) 0) ∧ Ext ((H.push B1).push B2) H')
   (fun x e H' => x = .exit 0 ∧ e = [(1,ptrV H.n),(4,ptrV (H.n + 1)),(5,.slice (some ⟨H.n + 2,0,none⟩) n n),(6,.int .i64 (needL vals)),(29,.int .i64 n),(30,.int .i64 n),(31,.bool false)] ∧
    Own ((H.push B1).push B2) H' 1 (.slice (some ⟨H.n + 2,0,none⟩) n n) encI vals ∧ Ext ((H.push B1).push B2) H')
   (e0:=[(1,ptrV H.n),(4,ptrV (H.n + 1)),(5,.slice (some ⟨H.n + 2,0,none⟩) n n),(6,.int .i64 0),(29,.int .i64 n),(30,.int .i64 0)]) (H0:=((H.push B1).push B2).push ⟨repeatCells [Value.int .i64 0] n,1,false⟩)
   ⟨rfl,.inr ⟨H.n + 2,by simp,by simp,by rw [ζe _ _ _ (by simp),repeat_I]; simp⟩,(Ext.refl _).push _⟩ (by omega)
   (fun j e H' hj ⟨he,ho,hx⟩ => by
    subst he;have hlt:(j:Int) < n:=by omega
    have hg2:H'.get (H.n + 1) = some ⟨[q],1,false⟩:=hx.get (by rw [ζe _ _ _ (by simp),hB2]);have hu:=U16_run k ((hs.up hx2).up hx) hrb (2 * (j:Int)) (by omega);have hcut:uS r (2 * (j:Int)) 2 = some (num ((r.drop (2 * j)).take 2)):=uS_cut (z:=2) hrlen hj;have hy:vals[j]? = some (num ((r.drop (2 * j)).take 2)):=by rw [hvals,List.getElem?_map,ζ45 _ _ _ _ hj]; rfl
    rw [hcut,orF_some] at hu;have hyb:=uS_two hrb hcut;obtain ⟨b,H2,e1,h1,h2,h3,h4,h5,h6⟩:=ho.set encI_len j 0 1 0 (num ((r.drop (2 * j)).take 2)) (.int .i64 (num ((r.drop (2 * j)).take 2))) (fill_get _ _ hvl hj) rfl rfl (by decide) rfl;rw [ζon _ _ hvl hj _ hy] at h4;have hnl:needL (vals.take (j + 1)) = max (needL (vals.take j)) (num ((r.drop (2 * j)).take 2) + 1):=by rw [ζ1v hy,ζjr]
    rw [hnl];have hn0:=ζ7z (vals.take j);generalize num ((r.drop (2 * j)).take 2) = y at *;generalize needL (vals.take j) = m at *;simp at e1;obtain ⟨rfl,_⟩:=e1;have hx':Ext ((H.push B1).push B2) H2:=⟨by rw [h6]; exact hx.n,fun d hd hs => by rw [h5 d (by intro e; rw [e] at hd; simp at hd)]; exact hx.2 d hd hs⟩
    have hgv:H2.get (H.n + 2) = some ⟨rows encI (vals.take (j + 1) ++ List.replicate (n - (j + 1)) 0),1,false⟩:=by
     rcases h4 with ⟨h,_⟩ | ⟨b',h,_,h'⟩
     ·have:=congrArg List.length h; simp only [List.length_append,List.length_replicate,List.length_take,hvl,List.length_nil] at this; omega
     ·simp at h; obtain ⟨rfl,_⟩:=h; exact h'
    have hld:=ld1_row encI_len hgv (i:=j) (c:=0) (x:=y) (by rw [List.getElem?_append_left (by simp; omega),List.getElem?_take,if_pos (by omega),hy]) (by decide) rfl;simp only [Nat.add_zero,Nat.mul_one] at h3 hld;have hmax:(if y + 1 > m then y + 1 else m) = max m (y + 1):=by split <;> omega
    refine .inl ⟨_,H2,?_,rfl,h4,hx'⟩;rw [ζ6g,← hmax];simp -implicitDefEqProofs (disch:=omega) [-stR_ptr,-ld1_ptr,hlt,ld1_ptr H.n.succ 0,hg2,hu,ζis,h3,hld]
    )
   (fun e H' ⟨he,ho,hx⟩ => by
    subst he;refine ⟨.exit 0,_,H',?_,by simp,rfl,rfl,?_,hx⟩
    ·rw [ζ6g,List.take_of_length_le (by omega)];simp -implicitDefEqProofs
    ·rw [List.take_of_length_le (by omega)] at ho;simpa using ho)
  obtain ⟨o3,g⟩:=g.more_own ho hx;obtain ⟨sl,hsl⟩:∃ sl:Value,sl = .slice (some ⟨H.n + 2,0,none⟩) n n:=⟨_,rfl⟩
  rw [← hsl] at g ho hr';obtain ⟨bs',hbs⟩:∃ bs',bs' = bs ++ [itBlk H.n B1,itBlk (H.n + 1) B2,itRow o3 1 sl encI vals]:=⟨_,rfl⟩
  have g:Star H0 H1 (itBlk c ⟨[.int .i64 n,tab,s1,s2],1,false⟩ :: itRow o1 1 s1 encU l :: itRow o2 4 s2 encEn es :: (X ++ bs')):=by
   rw [hbs];simpa using g
  have hM1:=g.get 0 rfl;have hB1g:H1.get H.n = some B1:=g.memBlk (by simp [hbs]);have hn1:¬ H.n = H1.n:=by have:=Heap.get_lt hB1g; omega
  have hc1:¬ c = H1.n:=by have:=Heap.get_lt hM1; omega
  have hvq:=(g.row 1 rfl).veq;obtain ⟨s1',o1',H2,e2,g⟩:=g.append1 (bytes:=24) 1 encU_len rfl (vals,sl) (by rw [hll]; omega) (by decide);simp only [List.set_cons_zero,List.set_cons_succ] at g;have hB1g2:H2.get H.n = some B1:=g.memBlk (by simp [hbs]);obtain ⟨H3,e3,g,_⟩:=g.stCell 0 rfl 2 (g.row 1 rfl).storable (g.row 1 rfl).cells (by simp);simp only [List.set_cons_zero,List.set_cons_succ] at g;refine ⟨H3,nrm_of ?_,l ++ [(vals,sl)],s1',o1',s2,o2,bs',by simp [h1],g,fun x hx => ?_⟩
  ·have hsls:storable sl = true:=by rw [hsl]; rfl
   have hslc:sl.cells = #[sl]:=by rw [hsl]; rfl
   have hsln:∀ H',lnS sl H' = .ok (.int .i64 n) H':=fun H' => by rw [hsl]; rfl
   rw [hB1] at hB1g hB1g2 hr';rw [hB2] at hr';simp only [encU] at e2;simp -implicitDefEqProofs (disch:=omega) [-stR_ptr,ζ1f,hcn,hM,hlen1,hRows,mkR_nat,stR_ptr 1 (H.n + 1) 0,← hsl,hr',ζb2,hB1g,hB1g2,hn1,hc1,hM1,hvq,hE,hsls,hslc,hsln,e2,e3]
  ·rcases List.mem_append.1 hx with hx | hx
   ·obtain ⟨o,ho⟩:=h3 x hx;exact ⟨o,by rw [hbs]; simp [ho]⟩
   ·simp at hx;subst hx;exact ⟨o3,by rw [hbs]; simp⟩
end Go.Sw
end
