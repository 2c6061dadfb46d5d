/-
  Functions' forms, and what is proved of them, part 12.
-/
import Derived.Test.YtanfippcmdialaaGreatSwCfg
set_option linter.unusedSimpArgs false
set_option linter.unusedVariables false
set_option linter.unusedSectionVars false
section
set_option maxRecDepth 100000
set_option linter.unusedVariables false
namespace Go.Sw
noncomputable section
def ζ3v (k:Nat) (call:Caller):Env → Heap → Res (AExit × Env):=loopB (C k) call F.ζy [1,1,1,1,0,1,0,0]
def ζ6c (k:Nat) (call:Caller):Kont Value:=kBlock 0 (kSeq (pieceK (C k) call F.ζy [1,1,1,1,1]) (kDone Prog (resOf Prog F.ζy)))
def ζ30 (k:Nat) (call:Caller):Env → Heap → Res (AExit × Env):=loopB (C k) call F.ζy [1,1,1,1,0,1,0,0,1,0,0,1,1,0,0]
def ζ4d (k:Nat) (call:Caller):Kont (AExit × Env):=kBlock 2 (kBlock 1 (kSeq (pieceK (C k) call F.ζy [1,1,1,1,0,1,0,0,1,1]) (kRound (ownOf (C k) F.ζy [1,1,1,1,0,1,0,0]))))
def ζy (k:Nat) (call:Caller) (a0 a1:Value) (h:Heap):Res Value :=
 (allocR Prog 46 h).bind fun v1 h2 =>
 (call F.ζ6 [a0,a1,(.int .i64 1)] h2).bind fun v3 h4 =>
 (extractR v3 0 h4).bind fun v5 h6 =>
 (extractR v3 1 h6).bind fun v7 h8 =>
 (allocR Prog 44 h8).bind fun v9 h10 =>
 (storeR Prog 44 v9 v5 h10).bind fun _v11 h12 =>
 (call F.ζ2 [a0,(.int .i64 16),(.int .i64 4)] h12).bind fun v13 h14 =>
 (call F.ζ2w [a0,v13] h14).bind fun v15 h16 =>
 (extractR v15 0 h16).bind fun v17 h18 =>
 (extractR v15 1 h18).bind fun v19 h20 =>
 (unR .not v7 h20).bind fun v21 h22 =>
 ((bif wantVal v21 false then Res.ok v19 h22 else Res.ok undef h22)).bind fun v23 h24 =>
 ((bif wantVal v21 false then unR .not v23 h24 else Res.ok undef h24)).bind fun v25 h26 =>
 (condV (some v21) (Res.ok (.bool true) h26) (Res.ok v25 h26)).bind fun v27 h28 =>
 condV (some v27) (
 (buildR Prog 46 [] h28).bind fun v29 h30 =>
 (storeR Prog 46 v1 v29 h30).bind fun _v31 h32 =>
 (loadR Prog 46 v1 h32).bind fun v33 h34 =>
 .ok (.tuple #[v33,(.bool false)]) h34)
 (
 (loopN (ζ3v k call) loopFuel [(4,v1),(6,v9),(8,v17),(10,(.int .i64 0))] h28).bind fun r35 h36 =>
 ζ6c k call r35.1 r35.2 h36)
theorem ζir (k:Nat) (a0 a1:Value) (b0 b1:Value) (h:Heap) (L:List Nat) (hf:mapF (fzV 0 h fzDepth) [a0,a1] = some ([b0,b1],L)):R (T k) F.ζy [a0,a1] h = nrm .fz (killAll h L) (ζy k (R (T k)) b0 b1 (killAll h L)) :=
 (R_bodyA (t:=T k) (T_scott k) (by kernel_rfl) (by kernel_rfl) hf (by kernel_rfl)).trans (by kernel_rfl)
theorem ζ4u (k:Nat) (call:Caller) (a4 a6 a8 a10:Value) (h:Heap):ζ3v k call [(4,a4),(6,a6),(8,a8),(10,a10)] h =
 (fieldAddrR Prog 44 a6 5 h).bind fun v37 h38 =>
 (loadR Prog 3 v37 h38).bind fun v39 h40 =>
 (binR Prog .lss 3 a10 v39 h40).bind fun v41 h42 =>
 condV (some v41) (
 (loadR Prog 44 a6 h42).bind fun v43 h44 =>
 (call F.ζi [v43,a10] h44).bind fun v45 h46 =>
 (allocR Prog 129 h46).bind fun v47 h48 =>
 (storeR Prog 129 v47 v45 h48).bind fun _v49 h50 =>
 (fieldAddrR Prog 129 v47 2 h50).bind fun v51 h52 =>
 (loadR Prog 3 v51 h52).bind fun v53 h54 =>
 (loopN (ζ30 k call) loopFuel [(4,a4),(6,a6),(8,a8),(10,a10),(11,v47),(12,v53)] h54).bind fun r55 h56 =>
 ζ4d k call r55.1 r55.2 h56)
 (
 .ok ((.exit 0),[(4,a4),(6,a6),(8,a8),(10,a10),(37,v41)]) h42) :=
 (loopB_eq _ _).trans (by kernel_rfl)
theorem ζ2s (k:Nat) (call:Caller) (a4 a6 a8 a10 a11 a12:Value) (h:Heap):ζ30 k call [(4,a4),(6,a6),(8,a8),(10,a10),(11,a11),(12,a12)] h =
 (fieldAddrR Prog 129 a11 2 h).bind fun v57 h58 =>
 (loadR Prog 3 v57 h58).bind fun v59 h60 =>
 (binR Prog .neq 3 v59 (.int .i64 65535) h60).bind fun v61 h62 =>
 condV (some v61) (
 (binR Prog .mul 3 (.int .i64 2) a12 h62).bind fun v63 h64 =>
 (call F.ζ2 [a8,v63,(.int .i64 2)] h64).bind fun v65 h66 =>
 (binR Prog .lss 3 v65 (.int .i64 0) h66).bind fun v67 h68 =>
 condV (some v67) (
 (buildR Prog 46 [] h68).bind fun v69 h70 =>
 (storeR Prog 46 a4 v69 h70).bind fun _v71 h72 =>
 .ok (.ret,[(4,a4),(5,(.bool false))]) h72)
 (
 (binR Prog .rem 3 v65 (.int .i64 2) h68).bind fun v73 h74 =>
 (binR Prog .eql 3 v73 (.int .i64 1) h74).bind fun v75 h76 =>
 condV (some v75) (
 .ok ((.exit 2),[(4,a4),(6,a6),(8,a8),(10,a10),(11,a11),(12,a12),(59,v75)]) h76)
 (
 (binR Prog .add 3 a12 (.int .i64 1) h76).bind fun v77 h78 =>
 .ok (.normal,[(4,a4),(6,a6),(8,a8),(10,a10),(11,a11),(12,v77)]) h78)))
 (
 .ok ((.exit 2),[(4,a4),(6,a6),(8,a8),(10,a10),(11,a11),(12,a12),(47,v61)]) h62) :=
 (loopB_eq _ _).trans (by kernel_rfl)
theorem ζbr (k:Nat) (call:Caller) (a4 a6 a8 a10 a37:Value) (h:Heap):ζ6c k call (.exit 0) [(4,a4),(6,a6),(8,a8),(10,a10),(37,a37)] h =
 (loadR Prog 44 a6 h).bind fun v79 h80 =>
 (buildR Prog 46 [(0,v79),(1,a8)] h80).bind fun v81 h82 =>
 (storeR Prog 46 a4 v81 h82).bind fun _v83 h84 =>
 (loadR Prog 46 a4 h84).bind fun v85 h86 =>
 .ok (.tuple #[v85,(.bool true)]) h86:=by kernel_rfl
theorem ζcw (k:Nat) (call:Caller) (a4 a5:Value) (h:Heap):ζ4d k call .ret [(4,a4),(5,a5)] h =
 .ok (.ret,[(4,a4),(5,a5)]) h:=by kernel_rfl
theorem ζbs (k:Nat) (call:Caller) (a4 a6 a8 a10 a11 a12 a59:Value) (h:Heap):ζ4d k call (.exit 2) [(4,a4),(6,a6),(8,a8),(10,a10),(11,a11),(12,a12),(59,a59)] h =
 (binR Prog .add 3 a10 (.int .i64 1) h).bind fun v87 h88 =>
 .ok (.normal,[(4,a4),(6,a6),(8,a8),(10,v87)]) h88:=by kernel_rfl
theorem ζar (k:Nat) (call:Caller) (a4 a6 a8 a10 a11 a12 a47:Value) (h:Heap):ζ4d k call (.exit 2) [(4,a4),(6,a6),(8,a8),(10,a10),(11,a11),(12,a12),(47,a47)] h =
 (binR Prog .add 3 a10 (.int .i64 1) h).bind fun v89 h90 =>
 .ok (.normal,[(4,a4),(6,a6),(8,a8),(10,v89)]) h90:=by kernel_rfl
theorem ζcv (k:Nat) (call:Caller) (a4 a5:Value) (h:Heap):ζ6c k call .ret [(4,a4),(5,a5)] h =
 (loadR Prog 46 a4 h).bind fun v91 h92 =>
 .ok (.tuple #[v91,a5]) h92:=by kernel_rfl
def ζ54 (k:Nat) (call:Caller):Env → Heap → Res (AExit × Env):=loopB (C k) call F.ζ0 [1,1,1,0,0,0]
def ζf (k:Nat) (call:Caller):Kont Value:=kBlock 0 (kSeq (pieceK (C k) call F.ζ0 [1,1,1,1]) (kDone Prog (resOf Prog F.ζ0)))
def ζt (k:Nat) (call:Caller) (a1 a2 a3 a4 a5 a12 a13 a14:Value) (h:Heap):Res (AExit × Env) :=
 kSeq (pieceK (C k) call F.ζ0 [1,1,1,0,0,0,1,0,1,1]) (kBlock 1 (kRound (ownOf (C k) F.ζ0 [1,1,1,0,0,0]))) .normal [(1,a1),(2,a2),(3,a3),(4,a4),(5,a5),(12,a12),(13,a13),(14,a14)] h
def ζu (k:Nat) (call:Caller) (a1 a2 a3 a4 a5 a12 a13 a14 a39:Value) (h:Heap):Res (AExit × Env) :=
 kSeq (pieceK (C k) call F.ζ0 [1,1,1,0,0,0,1,0,1,1]) (kBlock 1 (kRound (ownOf (C k) F.ζ0 [1,1,1,0,0,0]))) .normal [(1,a1),(2,a2),(3,a3),(4,a4),(5,a5),(12,a12),(13,a13),(14,a14),(39,a39)] h
def ζv (k:Nat) (call:Caller) (a1 a2 a3 a4 a5 a12 a13 a14:Value) (h:Heap):Res (AExit × Env) :=
 kSeq (pieceK (C k) call F.ζ0 [1,1,1,0,0,0,1,0,1,1,1]) (kBlock 1 (kRound (ownOf (C k) F.ζ0 [1,1,1,0,0,0]))) .normal [(1,a1),(2,a2),(3,a3),(4,a4),(5,a5),(12,a12),(13,a13),(14,a14)] h
def ζw (k:Nat) (call:Caller) (a1 a2 a3 a4 a5 a12 a13 a14 a50:Value) (h:Heap):Res (AExit × Env) :=
 kSeq (pieceK (C k) call F.ζ0 [1,1,1,0,0,0,1,0,1,1,1]) (kBlock 1 (kRound (ownOf (C k) F.ζ0 [1,1,1,0,0,0]))) .normal [(1,a1),(2,a2),(3,a3),(4,a4),(5,a5),(12,a12),(13,a13),(14,a14),(50,a50)] h
def ζ10 (k:Nat) (call:Caller) (a1 a2 a3 a4 a5 a12 a13 a14:Value) (h:Heap):Res (AExit × Env) :=
 kSeq (pieceK (C k) call F.ζ0 [1,1,1,0,0,0,1,0,1,1,1,1]) (kBlock 1 (kRound (ownOf (C k) F.ζ0 [1,1,1,0,0,0]))) .normal [(1,a1),(2,a2),(3,a3),(4,a4),(5,a5),(12,a12),(13,a13),(14,a14)] h
def ζ11 (k:Nat) (call:Caller) (a1 a2 a3 a4 a5 a12 a13 a14 a60:Value) (h:Heap):Res (AExit × Env) :=
 kSeq (pieceK (C k) call F.ζ0 [1,1,1,0,0,0,1,0,1,1,1,1]) (kBlock 1 (kRound (ownOf (C k) F.ζ0 [1,1,1,0,0,0]))) .normal [(1,a1),(2,a2),(3,a3),(4,a4),(5,a5),(12,a12),(13,a13),(14,a14),(60,a60)] h
def ζ2r (k:Nat) (call:Caller):Env → Heap → Res (AExit × Env):=loopB (C k) call F.ζ0 [1,1,1,0,0,0,1,0,1,1,1,1,1,0,1,0,0]
def ζ17 (k:Nat) (call:Caller):Kont (AExit × Env):=kBlock 2 (kSeq (pieceK (C k) call F.ζ0 [1,1,1,0,0,0,1,0,1,1,1,1,1,1]) (kBlock 1 (kRound (ownOf (C k) F.ζ0 [1,1,1,0,0,0]))))
def ζ23 (k:Nat) (call:Caller) (a1 a2 a3 a4 a5 a12 a13 a14 a16 a17 a18 a19:Value) (h:Heap):Res (AExit × Env) :=
 kSeq (pieceK (C k) call F.ζ0 [1,1,1,0,0,0,1,0,1,1,1,1,1,0,1,0,0,1,0,0,1,1,1,1,1]) (kBlock 3 (kSeq (pieceK (C k) call F.ζ0 [1,1,1,0,0,0,1,0,1,1,1,1,1,0,1,0,0,1,1]) (kRound (ownOf (C k) F.ζ0 [1,1,1,0,0,0,1,0,1,1,1,1,1,0,1,0,0])))) .normal [(1,a1),(2,a2),(3,a3),(4,a4),(5,a5),(12,a12),(13,a13),(14,a14),(16,a16),(17,a17),(18,a18),(19,a19)] h
def ζ24 (k:Nat) (call:Caller) (a1 a2 a3 a4 a5 a12 a13 a14 a16 a17 a18 a19 a101:Value) (h:Heap):Res (AExit × Env) :=
 kSeq (pieceK (C k) call F.ζ0 [1,1,1,0,0,0,1,0,1,1,1,1,1,0,1,0,0,1,0,0,1,1,1,1,1]) (kBlock 3 (kSeq (pieceK (C k) call F.ζ0 [1,1,1,0,0,0,1,0,1,1,1,1,1,0,1,0,0,1,1]) (kRound (ownOf (C k) F.ζ0 [1,1,1,0,0,0,1,0,1,1,1,1,1,0,1,0,0])))) .normal [(1,a1),(2,a2),(3,a3),(4,a4),(5,a5),(12,a12),(13,a13),(14,a14),(16,a16),(17,a17),(18,a18),(19,a19),(101,a101)] h
def ζ15 (k:Nat) (call:Caller) (a1 a2 a3 a4 a5 a12 a13 a14 a16 a17:Value) (h:Heap):Res (AExit × Env) :=
 kSeq (pieceK (C k) call F.ζ0 [1,1,1,0,0,0,1,0,1,1,1,1,1,0,1,0,0,1,1]) (kRound (ownOf (C k) F.ζ0 [1,1,1,0,0,0,1,0,1,1,1,1,1,0,1,0,0])) .normal [(1,a1),(2,a2),(3,a3),(4,a4),(5,a5),(12,a12),(13,a13),(14,a14),(16,a16),(17,a17)] h
def ζ0 (k:Nat) (call:Caller) (a0 a1 a2 a3 a4:Value) (h:Heap):Res Value :=
 (boxR a0 h).bind fun v1 h2 =>
 (builtinV Prog .len [61] [a1] h2).bind fun v3 h4 =>
 (call F.ζ32 [v3] h4).bind fun v5 h6 =>
 (allocR Prog 171 h6).bind fun v7 h8 =>
 (storeR Prog 171 v7 v5 h8).bind fun _v9 h10 =>
 (buildSliceR Prog 30 0 [] h10).bind fun v11 h12 =>
 (loopN (ζ54 k call) loopFuel [(1,a1),(2,a2),(3,a3),(4,a4),(5,v1),(12,v7),(13,v11)] h12).bind fun r13 h14 =>
 ζf k call r13.1 r13.2 h14
theorem ζq {β:Type} (f:Env → Heap → Kont β → Res β) (K:Kont β) (e:Env) (h:Heap):kSeq f K .normal e h = f e h K:=rfl
theorem ζs {β:Type} (f:Env → Heap → Kont β → Res β) (K:Kont β) (i:Nat) (e:Env) (h:Heap):kSeq f K (.exit i) e h = K (.exit i) e h:=rfl
theorem ζr {β:Type} (f:Env → Heap → Kont β → Res β) (K:Kont β) (e:Env) (h:Heap):kSeq f K .ret e h = K .ret e h:=rfl
theorem ζl {β:Type} (j:Nat) (K:Kont β) (e:Env) (h:Heap):kBlock j K .normal e h = K .normal e h:=rfl
theorem ζn {β:Type} (j:Nat) (K:Kont β) (i:Nat) (e:Env) (h:Heap):kBlock j K (.exit i) e h = bif i == j then K .normal e h else K (.exit i) e h:=rfl
theorem ζm {β:Type} (j:Nat) (K:Kont β) (e:Env) (h:Heap):kBlock j K .ret e h = K .ret e h:=rfl
theorem ζp (ks:List Nat) (i:Nat) (e:Env) (h:Heap):kRound ks (.exit i) e h = .ok (.exit i,e) h:=rfl
theorem ζo (ks:List Nat) (e:Env) (h:Heap):kRound ks .ret e h = .ok (.ret,e) h:=rfl
theorem ζit {β:Type} (k:Nat) (call:Caller) (e:Env) (h:Heap) (K:Kont β):pieceK (C k) call F.ζ0 [] e h K = pieceK (C k) call F.ζ0 [0] e h (kSeq (pieceK (C k) call F.ζ0 [1]) K):=by kernel_rfl
theorem ζiu {β:Type} (k:Nat) (call:Caller) (a0 a1 a2 a3 a4:Value) (h:Heap) (K:Kont β):pieceK (C k) call F.ζ0 [0] [(0,a0),(1,a1),(2,a2),(3,a3),(4,a4)] h K =
 (  (boxR a0 h).bind fun v1 h2 =>
 K .normal [(1,a1),(2,a2),(3,a3),(4,a4),(5,v1)] h2):=by kernel_rfl
theorem ζiv {β:Type} (k:Nat) (call:Caller) (e:Env) (h:Heap) (K:Kont β):pieceK (C k) call F.ζ0 [1] e h K = pieceK (C k) call F.ζ0 [1,0] e h (kSeq (pieceK (C k) call F.ζ0 [1,1]) K):=by kernel_rfl
theorem ζiw {β:Type} (k:Nat) (call:Caller) (a1 a2 a3 a4 v1:Value) (h2:Heap) (K:Kont β):pieceK (C k) call F.ζ0 [1,0] [(1,a1),(2,a2),(3,a3),(4,a4),(5,v1)] h2 K =
 (  (builtinV Prog .len [61] [a1] h2).bind fun v3 h4 =>
 (call F.ζ32 [v3] h4).bind fun v5 h6 =>
 (allocR Prog 171 h6).bind fun v7 h8 =>
 (storeR Prog 171 v7 v5 h8).bind fun _v9 h10 =>
 K .normal [(1,a1),(2,a2),(3,a3),(4,a4),(5,v1),(12,v7)] h10):=by kernel_rfl
theorem ζix {β:Type} (k:Nat) (call:Caller) (e:Env) (h:Heap) (K:Kont β):pieceK (C k) call F.ζ0 [1,1] e h K = pieceK (C k) call F.ζ0 [1,1,0] e h (kSeq (pieceK (C k) call F.ζ0 [1,1,1]) K):=by kernel_rfl
theorem ζiy {β:Type} (k:Nat) (call:Caller) (a1 a2 a3 a4 v1 v7:Value) (h10:Heap) (K:Kont β):pieceK (C k) call F.ζ0 [1,1,0] [(1,a1),(2,a2),(3,a3),(4,a4),(5,v1),(12,v7)] h10 K =
 (  (buildSliceR Prog 30 0 [] h10).bind fun v11 h12 =>
 K .normal [(1,a1),(2,a2),(3,a3),(4,a4),(5,v1),(12,v7),(13,v11)] h12):=by kernel_rfl
theorem ζiz {β:Type} (k:Nat) (call:Caller) (e:Env) (h:Heap) (K:Kont β):pieceK (C k) call F.ζ0 [1,1,1] e h K = pieceK (C k) call F.ζ0 [1,1,1,0] e h (kSeq (pieceK (C k) call F.ζ0 [1,1,1,1]) K):=by kernel_rfl
theorem ζj0 {β:Type} (k:Nat) (call:Caller) (e:Env) (h:Heap) (K:Kont β):pieceK (C k) call F.ζ0 [1,1,1,0] e h K = pieceK (C k) call F.ζ0 [1,1,1,0,0] e h (kBlock 0 K):=by kernel_rfl
theorem ζj1 {β:Type} (k:Nat) (call:Caller) (a1 a2 a3 a4 v1 v7 v11:Value) (h12:Heap) (K:Kont β):pieceK (C k) call F.ζ0 [1,1,1,0,0] [(1,a1),(2,a2),(3,a3),(4,a4),(5,v1),(12,v7),(13,v11)] h12 K =
 ((loopN (ζ54 k call) loopFuel [(1,a1),(2,a2),(3,a3),(4,a4),(5,v1),(12,v7),(13,v11)] h12).bind fun r13 h14 => K r13.1 r13.2 h14):=by kernel_rfl
theorem ζfg {β:Type} (k:Nat) (call:Caller) (e:Env) (h:Heap) (K:Kont β):pieceK (C k) call F.ζ0 [1,1,1,0,0,0] e h K = pieceK (C k) call F.ζ0 [1,1,1,0,0,0,0] e h (kSeq (pieceK (C k) call F.ζ0 [1,1,1,0,0,0,1]) K):=by kernel_rfl
theorem ζfh {β:Type} (k:Nat) (call:Caller) (e:Env) (h:Heap) (K:Kont β):pieceK (C k) call F.ζ0 [1,1,1,0,0,0,0] e h K = pieceK (C k) call F.ζ0 [1,1,1,0,0,0,0,0] e h (kSeq (pieceK (C k) call F.ζ0 [1,1,1,0,0,0,0,1]) K):=by kernel_rfl
theorem ζfi {β:Type} (k:Nat) (call:Caller) (a1 a2 a3 a4 a5 a12 a13:Value) (h:Heap) (K:Kont β):pieceK (C k) call F.ζ0 [1,1,1,0,0,0,0,0] [(1,a1),(2,a2),(3,a3),(4,a4),(5,a5),(12,a12),(13,a13)] h K =
 (  (fieldAddrR Prog 171 a12 5 h).bind fun v15 h16 =>
 (loadR Prog 4 v15 h16).bind fun v17 h18 =>
 (unR .not v17 h18).bind fun v19 h20 =>
 K .normal [(1,a1),(2,a2),(3,a3),(4,a4),(5,a5),(12,a12),(13,a13),(26,v19)] h20):=by kernel_rfl
theorem ζfj {β:Type} (k:Nat) (call:Caller) (a1 a2 a3 a4 a5 a12 a13 v19:Value) (h20:Heap) (K:Kont β):pieceK (C k) call F.ζ0 [1,1,1,0,0,0,0,1] [(1,a1),(2,a2),(3,a3),(4,a4),(5,a5),(12,a12),(13,a13),(26,v19)] h20 K =
 (condV (some v19) (pieceK (C k) call F.ζ0 [1,1,1,0,0,0,0,1,0] [(1,a1),(2,a2),(3,a3),(4,a4),(5,a5),(12,a12),(13,a13),(26,v19)] h20 K) (pieceK (C k) call F.ζ0 [1,1,1,0,0,0,0,1,1] [(1,a1),(2,a2),(3,a3),(4,a4),(5,a5),(12,a12),(13,a13),(26,v19)] h20 K)):=by kernel_rfl
theorem ζfk {β:Type} (k:Nat) (call:Caller) (e:Env) (h:Heap) (K:Kont β):pieceK (C k) call F.ζ0 [1,1,1,0,0,0,0,1,0] e h K = K .normal e h:=by kernel_rfl
theorem ζfl {β:Type} (k:Nat) (call:Caller) (e:Env) (h:Heap) (K:Kont β):pieceK (C k) call F.ζ0 [1,1,1,0,0,0,1] e h K = pieceK (C k) call F.ζ0 [1,1,1,0,0,0,1,0] e h (kBlock 1 K):=by kernel_rfl
theorem ζfm {β:Type} (k:Nat) (call:Caller) (e:Env) (h:Heap) (K:Kont β):pieceK (C k) call F.ζ0 [1,1,1,0,0,0,1,0] e h K = pieceK (C k) call F.ζ0 [1,1,1,0,0,0,1,0,0] e h (kSeq (pieceK (C k) call F.ζ0 [1,1,1,0,0,0,1,0,1]) K):=by kernel_rfl
theorem ζfn {β:Type} (k:Nat) (call:Caller) (a1 a2 a3 a4 a5 a12 a13 v19:Value) (h20:Heap) (K:Kont β):pieceK (C k) call F.ζ0 [1,1,1,0,0,0,1,0,0] [(1,a1),(2,a2),(3,a3),(4,a4),(5,a5),(12,a12),(13,a13),(26,v19)] h20 K =
 (    (fieldAddrR Prog 46 a5 0 h20).bind fun v21 h22 =>
 (loadR Prog 44 v21 h22).bind fun v23 h24 =>
 (loadR Prog 171 a12 h24).bind fun v25 h26 =>
 (call F.ζ1l [v23,v25,a1] h26).bind fun v27 h28 =>
 (extractR v27 0 h28).bind fun v29 h30 =>
 (extractR v27 1 h30).bind fun v31 h32 =>
 (allocR Prog 129 h32).bind fun v33 h34 =>
 (storeR Prog 129 v33 v29 h34).bind fun _v35 h36 =>
 K .normal [(1,a1),(2,a2),(3,a3),(4,a4),(5,a5),(12,a12),(13,a13),(14,v33)] h36):=by kernel_rfl
theorem ζfo {β:Type} (k:Nat) (call:Caller) (e:Env) (h:Heap) (K:Kont β):pieceK (C k) call F.ζ0 [1,1,1,0,0,0,1,0,1] e h K = pieceK (C k) call F.ζ0 [1,1,1,0,0,0,1,0,1,0] e h (kSeq (pieceK (C k) call F.ζ0 [1,1,1,0,0,0,1,0,1,1]) K):=by kernel_rfl
theorem ζfp {β:Type} (k:Nat) (call:Caller) (e:Env) (h:Heap) (K:Kont β):pieceK (C k) call F.ζ0 [1,1,1,0,0,0,1,0,1,0] e h K = pieceK (C k) call F.ζ0 [1,1,1,0,0,0,1,0,1,0,0] e h (kSeq (pieceK (C k) call F.ζ0 [1,1,1,0,0,0,1,0,1,0,1]) K):=by kernel_rfl
theorem ζfq {β:Type} (k:Nat) (call:Caller) (a1 a2 a3 a4 a5 a12 a13 v33:Value) (h36:Heap) (K:Kont β):pieceK (C k) call F.ζ0 [1,1,1,0,0,0,1,0,1,0,0] [(1,a1),(2,a2),(3,a3),(4,a4),(5,a5),(12,a12),(13,a13),(14,v33)] h36 K =
 (    (fieldAddrR Prog 129 v33 1 h36).bind fun v37 h38 =>
 (loadR Prog 3 v37 h38).bind fun v39 h40 =>
 (binR Prog .quo 3 v39 (.int .i64 8192) h40).bind fun v41 h42 =>
 (binR Prog .rem 3 v41 (.int .i64 2) h42).bind fun v43 h44 =>
 (binR Prog .eql 3 v43 (.int .i64 1) h44).bind fun v45 h46 =>
 K .normal [(1,a1),(2,a2),(3,a3),(4,a4),(5,a5),(12,a12),(13,a13),(14,v33),(39,v45)] h46):=by kernel_rfl
theorem ζfr {β:Type} (k:Nat) (call:Caller) (a1 a2 a3 a4 a5 a12 a13 v33 v45:Value) (h46:Heap) (K:Kont β):pieceK (C k) call F.ζ0 [1,1,1,0,0,0,1,0,1,0,1] [(1,a1),(2,a2),(3,a3),(4,a4),(5,a5),(12,a12),(13,a13),(14,v33),(39,v45)] h46 K =
 (condV (some v45) (pieceK (C k) call F.ζ0 [1,1,1,0,0,0,1,0,1,0,1,0] [(1,a1),(2,a2),(3,a3),(4,a4),(5,a5),(12,a12),(13,a13),(14,v33),(39,v45)] h46 K) (pieceK (C k) call F.ζ0 [1,1,1,0,0,0,1,0,1,0,1,1] [(1,a1),(2,a2),(3,a3),(4,a4),(5,a5),(12,a12),(13,a13),(14,v33),(39,v45)] h46 K)):=by kernel_rfl
theorem ζfs {β:Type} (k:Nat) (call:Caller) (a1 a2 a3 a4 a5 a12 a13 v33 v45:Value) (h46:Heap) (K:Kont β):pieceK (C k) call F.ζ0 [1,1,1,0,0,0,1,0,1,0,1,0] [(1,a1),(2,a2),(3,a3),(4,a4),(5,a5),(12,a12),(13,a13),(14,v33),(39,v45)] h46 K =
 (      (buildSliceR Prog 30 0 [] h46).bind fun v47 h48 =>
 K .normal [(1,a1),(2,a2),(3,a3),(4,a4),(5,a5),(12,a12),(13,v47),(14,v33)] h48):=by kernel_rfl
theorem ζft {β:Type} (k:Nat) (call:Caller) (e:Env) (h:Heap) (K:Kont β):pieceK (C k) call F.ζ0 [1,1,1,0,0,0,1,0,1,0,1,1] e h K = K .normal e h:=by kernel_rfl
theorem ζfu {β:Type} (k:Nat) (call:Caller) (e:Env) (h:Heap) (K:Kont β):pieceK (C k) call F.ζ0 [1,1,1,0,0,0,0,1,1] e h K = K (.exit 0) e h:=by kernel_rfl
theorem ζfv {β:Type} (k:Nat) (call:Caller) (e:Env) (h:Heap) (K:Kont β):pieceK (C k) call F.ζ0 [1,1,1,0,0,0,1,0,1,1] e h K = pieceK (C k) call F.ζ0 [1,1,1,0,0,0,1,0,1,1,0] e h (kSeq (pieceK (C k) call F.ζ0 [1,1,1,0,0,0,1,0,1,1,1]) K):=by kernel_rfl
theorem ζfw {β:Type} (k:Nat) (call:Caller) (e:Env) (h:Heap) (K:Kont β):pieceK (C k) call F.ζ0 [1,1,1,0,0,0,1,0,1,1,0] e h K = pieceK (C k) call F.ζ0 [1,1,1,0,0,0,1,0,1,1,0,0] e h (kSeq (pieceK (C k) call F.ζ0 [1,1,1,0,0,0,1,0,1,1,0,1]) K):=by kernel_rfl
theorem ζfx {β:Type} (k:Nat) (call:Caller) (a1 a2 a3 a4 a5 a12 a13 a14:Value) (h:Heap) (K:Kont β):pieceK (C k) call F.ζ0 [1,1,1,0,0,0,1,0,1,1,0,0] [(1,a1),(2,a2),(3,a3),(4,a4),(5,a5),(12,a12),(13,a13),(14,a14)] h K =
 (  (fieldAddrR Prog 129 a14 1 h).bind fun v49 h50 =>
 (loadR Prog 3 v49 h50).bind fun v51 h52 =>
 (binR Prog .geq 3 v51 (.int .i64 32768) h52).bind fun v53 h54 =>
 ((bif wantVal v53 true then fieldAddrR Prog 171 a12 1 h54 else Res.ok undef h54)).bind fun v55 h56 =>
 ((bif wantVal v53 true then loadR Prog 3 v55 h56 else Res.ok undef h56)).bind fun v57 h58 =>
 ((bif wantVal v53 true then Res.ok a1 h58 else Res.ok undef h58)).bind fun v59 h60 =>
 ((bif wantVal v53 true then builtinV Prog .len [61] [v59] h60 else Res.ok undef h60)).bind fun v61 h62 =>
 ((bif wantVal v53 true then binR Prog .lss 3 v57 v61 h62 else Res.ok undef h62)).bind fun v63 h64 =>
 (condV (some v53) (Res.ok v63 h64) (Res.ok (.bool false) h64)).bind fun v65 h66 =>
 K .normal [(1,a1),(2,a2),(3,a3),(4,a4),(5,a5),(12,a12),(13,a13),(14,a14),(50,v65)] h66):=by kernel_rfl
theorem ζfy {β:Type} (k:Nat) (call:Caller) (a1 a2 a3 a4 a5 a12 a13 a14 v65:Value) (h66:Heap) (K:Kont β):pieceK (C k) call F.ζ0 [1,1,1,0,0,0,1,0,1,1,0,1] [(1,a1),(2,a2),(3,a3),(4,a4),(5,a5),(12,a12),(13,a13),(14,a14),(50,v65)] h66 K =
 (condV (some v65) (pieceK (C k) call F.ζ0 [1,1,1,0,0,0,1,0,1,1,0,1,0] [(1,a1),(2,a2),(3,a3),(4,a4),(5,a5),(12,a12),(13,a13),(14,a14),(50,v65)] h66 K) (pieceK (C k) call F.ζ0 [1,1,1,0,0,0,1,0,1,1,0,1,1] [(1,a1),(2,a2),(3,a3),(4,a4),(5,a5),(12,a12),(13,a13),(14,a14),(50,v65)] h66 K)):=by kernel_rfl
theorem ζfz {β:Type} (k:Nat) (call:Caller) (a1 a2 a3 a4 a5 a12 a13 a14 v65:Value) (h66:Heap) (K:Kont β):pieceK (C k) call F.ζ0 [1,1,1,0,0,0,1,0,1,1,0,1,0] [(1,a1),(2,a2),(3,a3),(4,a4),(5,a5),(12,a12),(13,a13),(14,a14),(50,v65)] h66 K =
 (    (buildSliceR Prog 30 0 [] h66).bindN fun v67 h68 =>
 (builtinV Prog .append [30,30] [v67,a13] h68).bindN fun v69 h70 =>
 (fieldAddrR Prog 171 a12 1 h70).bindN fun v71 h72 =>
 (loadR Prog 3 v71 h72).bindN fun v73 h74 =>
 (buildSliceR Prog 30 1 [(0,v73)] h74).bindN fun v75 h76 =>
 (builtinV Prog .append [30,30] [v69,v75] h76).bindN fun v77 h78 =>
 chkR ((okVal (loadR Prog 3 v71 h66) v73 && true) && true) (
 K .normal [(1,a1),(2,a2),(3,a3),(4,a4),(5,a5),(12,a12),(13,v77),(14,a14)] h78)):=by kernel_rfl
theorem ζg0 {β:Type} (k:Nat) (call:Caller) (e:Env) (h:Heap) (K:Kont β):pieceK (C k) call F.ζ0 [1,1,1,0,0,0,1,0,1,1,0,1,1] e h K = K .normal e h:=by kernel_rfl
theorem ζg1 {β:Type} (k:Nat) (call:Caller) (e:Env) (h:Heap) (K:Kont β):pieceK (C k) call F.ζ0 [1,1,1,0,0,0,1,0,1,1] e h K = pieceK (C k) call F.ζ0 [1,1,1,0,0,0,1,0,1,1,0] e h (kSeq (pieceK (C k) call F.ζ0 [1,1,1,0,0,0,1,0,1,1,1]) K):=by kernel_rfl
theorem ζg2 {β:Type} (k:Nat) (call:Caller) (e:Env) (h:Heap) (K:Kont β):pieceK (C k) call F.ζ0 [1,1,1,0,0,0,1,0,1,1,0] e h K = pieceK (C k) call F.ζ0 [1,1,1,0,0,0,1,0,1,1,0,0] e h (kSeq (pieceK (C k) call F.ζ0 [1,1,1,0,0,0,1,0,1,1,0,1]) K):=by kernel_rfl
theorem ζg3 {β:Type} (k:Nat) (call:Caller) (a1 a2 a3 a4 a5 a12 a13 a14 a39:Value) (h:Heap) (K:Kont β):pieceK (C k) call F.ζ0 [1,1,1,0,0,0,1,0,1,1,0,0] [(1,a1),(2,a2),(3,a3),(4,a4),(5,a5),(12,a12),(13,a13),(14,a14),(39,a39)] h K =
 (  (fieldAddrR Prog 129 a14 1 h).bind fun v79 h80 =>
 (loadR Prog 3 v79 h80).bind fun v81 h82 =>
 (binR Prog .geq 3 v81 (.int .i64 32768) h82).bind fun v83 h84 =>
 ((bif wantVal v83 true then fieldAddrR Prog 171 a12 1 h84 else Res.ok undef h84)).bind fun v85 h86 =>
 ((bif wantVal v83 true then loadR Prog 3 v85 h86 else Res.ok undef h86)).bind fun v87 h88 =>
 ((bif wantVal v83 true then Res.ok a1 h88 else Res.ok undef h88)).bind fun v89 h90 =>
 ((bif wantVal v83 true then builtinV Prog .len [61] [v89] h90 else Res.ok undef h90)).bind fun v91 h92 =>
 ((bif wantVal v83 true then binR Prog .lss 3 v87 v91 h92 else Res.ok undef h92)).bind fun v93 h94 =>
 (condV (some v83) (Res.ok v93 h94) (Res.ok (.bool false) h94)).bind fun v95 h96 =>
 K .normal [(1,a1),(2,a2),(3,a3),(4,a4),(5,a5),(12,a12),(13,a13),(14,a14),(50,v95)] h96):=by kernel_rfl
theorem ζg4 {β:Type} (k:Nat) (call:Caller) (a1 a2 a3 a4 a5 a12 a13 a14 v95:Value) (h96:Heap) (K:Kont β):pieceK (C k) call F.ζ0 [1,1,1,0,0,0,1,0,1,1,0,1] [(1,a1),(2,a2),(3,a3),(4,a4),(5,a5),(12,a12),(13,a13),(14,a14),(50,v95)] h96 K =
 (condV (some v95) (pieceK (C k) call F.ζ0 [1,1,1,0,0,0,1,0,1,1,0,1,0] [(1,a1),(2,a2),(3,a3),(4,a4),(5,a5),(12,a12),(13,a13),(14,a14),(50,v95)] h96 K) (pieceK (C k) call F.ζ0 [1,1,1,0,0,0,1,0,1,1,0,1,1] [(1,a1),(2,a2),(3,a3),(4,a4),(5,a5),(12,a12),(13,a13),(14,a14),(50,v95)] h96 K)):=by kernel_rfl
theorem ζg5 {β:Type} (k:Nat) (call:Caller) (a1 a2 a3 a4 a5 a12 a13 a14 v95:Value) (h96:Heap) (K:Kont β):pieceK (C k) call F.ζ0 [1,1,1,0,0,0,1,0,1,1,0,1,0] [(1,a1),(2,a2),(3,a3),(4,a4),(5,a5),(12,a12),(13,a13),(14,a14),(50,v95)] h96 K =
 (    (buildSliceR Prog 30 0 [] h96).bindN fun v97 h98 =>
 (builtinV Prog .append [30,30] [v97,a13] h98).bindN fun v99 h100 =>
 (fieldAddrR Prog 171 a12 1 h100).bindN fun v101 h102 =>
 (loadR Prog 3 v101 h102).bindN fun v103 h104 =>
 (buildSliceR Prog 30 1 [(0,v103)] h104).bindN fun v105 h106 =>
 (builtinV Prog .append [30,30] [v99,v105] h106).bindN fun v107 h108 =>
 chkR ((okVal (loadR Prog 3 v101 h96) v103 && true) && true) (
 K .normal [(1,a1),(2,a2),(3,a3),(4,a4),(5,a5),(12,a12),(13,v107),(14,a14)] h108)):=by kernel_rfl
theorem ζg6 {β:Type} (k:Nat) (call:Caller) (e:Env) (h:Heap) (K:Kont β):pieceK (C k) call F.ζ0 [1,1,1,0,0,0,1,0,1,1,0,1,1] e h K = K .normal e h:=by kernel_rfl
theorem ζg7 {β:Type} (k:Nat) (call:Caller) (e:Env) (h:Heap) (K:Kont β):pieceK (C k) call F.ζ0 [1,1,1,0,0,0,1,0,1,1,1] e h K = pieceK (C k) call F.ζ0 [1,1,1,0,0,0,1,0,1,1,1,0] e h (kSeq (pieceK (C k) call F.ζ0 [1,1,1,0,0,0,1,0,1,1,1,1]) K):=by kernel_rfl
theorem ζg8 {β:Type} (k:Nat) (call:Caller) (e:Env) (h:Heap) (K:Kont β):pieceK (C k) call F.ζ0 [1,1,1,0,0,0,1,0,1,1,1,0] e h K = pieceK (C k) call F.ζ0 [1,1,1,0,0,0,1,0,1,1,1,0,0] e h (kSeq (pieceK (C k) call F.ζ0 [1,1,1,0,0,0,1,0,1,1,1,0,1]) K):=by kernel_rfl
theorem ζg9 {β:Type} (k:Nat) (call:Caller) (a1 a2 a3 a4 a5 a12 a13 a14:Value) (h:Heap) (K:Kont β):pieceK (C k) call F.ζ0 [1,1,1,0,0,0,1,0,1,1,1,0,0] [(1,a1),(2,a2),(3,a3),(4,a4),(5,a5),(12,a12),(13,a13),(14,a14)] h K =
 (  (builtinV Prog .len [30] [a13] h).bind fun v109 h110 =>
 (binR Prog .gtr 3 v109 (.int .i64 8) h110).bind fun v111 h112 =>
 K .normal [(1,a1),(2,a2),(3,a3),(4,a4),(5,a5),(12,a12),(13,a13),(14,a14),(60,v111)] h112):=by kernel_rfl
theorem ζga {β:Type} (k:Nat) (call:Caller) (a1 a2 a3 a4 a5 a12 a13 a14 v111:Value) (h112:Heap) (K:Kont β):pieceK (C k) call F.ζ0 [1,1,1,0,0,0,1,0,1,1,1,0,1] [(1,a1),(2,a2),(3,a3),(4,a4),(5,a5),(12,a12),(13,a13),(14,a14),(60,v111)] h112 K =
 (condV (some v111) (pieceK (C k) call F.ζ0 [1,1,1,0,0,0,1,0,1,1,1,0,1,0] [(1,a1),(2,a2),(3,a3),(4,a4),(5,a5),(12,a12),(13,a13),(14,a14),(60,v111)] h112 K) (pieceK (C k) call F.ζ0 [1,1,1,0,0,0,1,0,1,1,1,0,1,1] [(1,a1),(2,a2),(3,a3),(4,a4),(5,a5),(12,a12),(13,a13),(14,a14),(60,v111)] h112 K)):=by kernel_rfl
theorem ζgb {β:Type} (k:Nat) (call:Caller) (a1 a2 a3 a4 a5 a12 a13 a14 v111:Value) (h112:Heap) (K:Kont β):pieceK (C k) call F.ζ0 [1,1,1,0,0,0,1,0,1,1,1,0,1,0] [(1,a1),(2,a2),(3,a3),(4,a4),(5,a5),(12,a12),(13,a13),(14,a14),(60,v111)] h112 K =
 (    (sliceR Prog 30 a13 (some (.int .i64 1)) none none h112).bind fun v113 h114 =>
 K .normal [(1,a1),(2,a2),(3,a3),(4,a4),(5,a5),(12,a12),(13,v113),(14,a14)] h114):=by kernel_rfl
theorem ζgc {β:Type} (k:Nat) (call:Caller) (e:Env) (h:Heap) (K:Kont β):pieceK (C k) call F.ζ0 [1,1,1,0,0,0,1,0,1,1,1,0,1,1] e h K = K .normal e h:=by kernel_rfl
theorem ζgd {β:Type} (k:Nat) (call:Caller) (e:Env) (h:Heap) (K:Kont β):pieceK (C k) call F.ζ0 [1,1,1,0,0,0,1,0,1,1,1] e h K = pieceK (C k) call F.ζ0 [1,1,1,0,0,0,1,0,1,1,1,0] e h (kSeq (pieceK (C k) call F.ζ0 [1,1,1,0,0,0,1,0,1,1,1,1]) K):=by kernel_rfl
theorem ζge {β:Type} (k:Nat) (call:Caller) (e:Env) (h:Heap) (K:Kont β):pieceK (C k) call F.ζ0 [1,1,1,0,0,0,1,0,1,1,1,0] e h K = pieceK (C k) call F.ζ0 [1,1,1,0,0,0,1,0,1,1,1,0,0] e h (kSeq (pieceK (C k) call F.ζ0 [1,1,1,0,0,0,1,0,1,1,1,0,1]) K):=by kernel_rfl
theorem ζgf {β:Type} (k:Nat) (call:Caller) (a1 a2 a3 a4 a5 a12 a13 a14 a50:Value) (h:Heap) (K:Kont β):pieceK (C k) call F.ζ0 [1,1,1,0,0,0,1,0,1,1,1,0,0] [(1,a1),(2,a2),(3,a3),(4,a4),(5,a5),(12,a12),(13,a13),(14,a14),(50,a50)] h K =
 (  (builtinV Prog .len [30] [a13] h).bind fun v115 h116 =>
 (binR Prog .gtr 3 v115 (.int .i64 8) h116).bind fun v117 h118 =>
 K .normal [(1,a1),(2,a2),(3,a3),(4,a4),(5,a5),(12,a12),(13,a13),(14,a14),(60,v117)] h118):=by kernel_rfl
theorem ζgg {β:Type} (k:Nat) (call:Caller) (a1 a2 a3 a4 a5 a12 a13 a14 v117:Value) (h118:Heap) (K:Kont β):pieceK (C k) call F.ζ0 [1,1,1,0,0,0,1,0,1,1,1,0,1] [(1,a1),(2,a2),(3,a3),(4,a4),(5,a5),(12,a12),(13,a13),(14,a14),(60,v117)] h118 K =
 (condV (some v117) (pieceK (C k) call F.ζ0 [1,1,1,0,0,0,1,0,1,1,1,0,1,0] [(1,a1),(2,a2),(3,a3),(4,a4),(5,a5),(12,a12),(13,a13),(14,a14),(60,v117)] h118 K) (pieceK (C k) call F.ζ0 [1,1,1,0,0,0,1,0,1,1,1,0,1,1] [(1,a1),(2,a2),(3,a3),(4,a4),(5,a5),(12,a12),(13,a13),(14,a14),(60,v117)] h118 K)):=by kernel_rfl
theorem ζgh {β:Type} (k:Nat) (call:Caller) (a1 a2 a3 a4 a5 a12 a13 a14 v117:Value) (h118:Heap) (K:Kont β):pieceK (C k) call F.ζ0 [1,1,1,0,0,0,1,0,1,1,1,0,1,0] [(1,a1),(2,a2),(3,a3),(4,a4),(5,a5),(12,a12),(13,a13),(14,a14),(60,v117)] h118 K =
 (    (sliceR Prog 30 a13 (some (.int .i64 1)) none none h118).bind fun v119 h120 =>
 K .normal [(1,a1),(2,a2),(3,a3),(4,a4),(5,a5),(12,a12),(13,v119),(14,a14)] h120):=by kernel_rfl
theorem ζgi {β:Type} (k:Nat) (call:Caller) (e:Env) (h:Heap) (K:Kont β):pieceK (C k) call F.ζ0 [1,1,1,0,0,0,1,0,1,1,1,0,1,1] e h K = K .normal e h:=by kernel_rfl
theorem ζgj {β:Type} (k:Nat) (call:Caller) (e:Env) (h:Heap) (K:Kont β):pieceK (C k) call F.ζ0 [1,1,1,0,0,0,1,0,1,1,1,1] e h K = pieceK (C k) call F.ζ0 [1,1,1,0,0,0,1,0,1,1,1,1,0] e h (kSeq (pieceK (C k) call F.ζ0 [1,1,1,0,0,0,1,0,1,1,1,1,1]) K):=by kernel_rfl
theorem ζgk {β:Type} (k:Nat) (call:Caller) (a1 a2 a3 a4 a5 a12 a13 a14:Value) (h:Heap) (K:Kont β):pieceK (C k) call F.ζ0 [1,1,1,0,0,0,1,0,1,1,1,1,0] [(1,a1),(2,a2),(3,a3),(4,a4),(5,a5),(12,a12),(13,a13),(14,a14)] h K =
 (  (fieldAddrR Prog 129 a14 2 h).bind fun v121 h122 =>
 (loadR Prog 3 v121 h122).bind fun v123 h124 =>
 (binR Prog .eql 3 v123 (.int .i64 65535) h124).bind fun v125 h126 =>
 K .normal [(1,a1),(2,a2),(3,a3),(4,a4),(5,a5),(12,a12),(13,a13),(14,a14),(16,v125)] h126):=by kernel_rfl
theorem ζgl {β:Type} (k:Nat) (call:Caller) (e:Env) (h:Heap) (K:Kont β):pieceK (C k) call F.ζ0 [1,1,1,0,0,0,1,0,1,1,1,1,1] e h K = pieceK (C k) call F.ζ0 [1,1,1,0,0,0,1,0,1,1,1,1,1,0] e h (kSeq (pieceK (C k) call F.ζ0 [1,1,1,0,0,0,1,0,1,1,1,1,1,1]) K):=by kernel_rfl
theorem ζgm {β:Type} (k:Nat) (call:Caller) (e:Env) (h:Heap) (K:Kont β):pieceK (C k) call F.ζ0 [1,1,1,0,0,0,1,0,1,1,1,1,1,0] e h K = pieceK (C k) call F.ζ0 [1,1,1,0,0,0,1,0,1,1,1,1,1,0,0] e h (kSeq (pieceK (C k) call F.ζ0 [1,1,1,0,0,0,1,0,1,1,1,1,1,0,1]) K):=by kernel_rfl
theorem ζgn {β:Type} (k:Nat) (call:Caller) (a1 a2 a3 a4 a5 a12 a13 a14 v125:Value) (h126:Heap) (K:Kont β):pieceK (C k) call F.ζ0 [1,1,1,0,0,0,1,0,1,1,1,1,1,0,0] [(1,a1),(2,a2),(3,a3),(4,a4),(5,a5),(12,a12),(13,a13),(14,a14),(16,v125)] h126 K =
 (  (fieldAddrR Prog 129 a14 2 h126).bind fun v127 h128 =>
 (loadR Prog 3 v127 h128).bind fun v129 h130 =>
 K .normal [(1,a1),(2,a2),(3,a3),(4,a4),(5,a5),(12,a12),(13,a13),(14,a14),(16,v125),(17,v129)] h130):=by kernel_rfl
theorem ζgo {β:Type} (k:Nat) (call:Caller) (e:Env) (h:Heap) (K:Kont β):pieceK (C k) call F.ζ0 [1,1,1,0,0,0,1,0,1,1,1,1,1,0,1] e h K = pieceK (C k) call F.ζ0 [1,1,1,0,0,0,1,0,1,1,1,1,1,0,1,0] e h (kBlock 2 K):=by kernel_rfl
theorem ζgp {β:Type} (k:Nat) (call:Caller) (a1 a2 a3 a4 a5 a12 a13 a14 v125 v129:Value) (h130:Heap) (K:Kont β):pieceK (C k) call F.ζ0 [1,1,1,0,0,0,1,0,1,1,1,1,1,0,1,0] [(1,a1),(2,a2),(3,a3),(4,a4),(5,a5),(12,a12),(13,a13),(14,a14),(16,v125),(17,v129)] h130 K =
 ((loopN (ζ2r k call) loopFuel [(1,a1),(2,a2),(3,a3),(4,a4),(5,a5),(12,a12),(13,a13),(14,a14),(16,v125),(17,v129)] h130).bind fun r131 h132 => K r131.1 r131.2 h132):=by kernel_rfl
theorem ζgq {β:Type} (k:Nat) (call:Caller) (e:Env) (h:Heap) (K:Kont β):pieceK (C k) call F.ζ0 [1,1,1,0,0,0,1,0,1,1,1,1] e h K = pieceK (C k) call F.ζ0 [1,1,1,0,0,0,1,0,1,1,1,1,0] e h (kSeq (pieceK (C k) call F.ζ0 [1,1,1,0,0,0,1,0,1,1,1,1,1]) K):=by kernel_rfl
theorem ζgr {β:Type} (k:Nat) (call:Caller) (a1 a2 a3 a4 a5 a12 a13 a14 a60:Value) (h:Heap) (K:Kont β):pieceK (C k) call F.ζ0 [1,1,1,0,0,0,1,0,1,1,1,1,0] [(1,a1),(2,a2),(3,a3),(4,a4),(5,a5),(12,a12),(13,a13),(14,a14),(60,a60)] h K =
 (  (fieldAddrR Prog 129 a14 2 h).bind fun v133 h134 =>
 (loadR Prog 3 v133 h134).bind fun v135 h136 =>
 (binR Prog .eql 3 v135 (.int .i64 65535) h136).bind fun v137 h138 =>
 K .normal [(1,a1),(2,a2),(3,a3),(4,a4),(5,a5),(12,a12),(13,a13),(14,a14),(16,v137)] h138):=by kernel_rfl
theorem ζgs {β:Type} (k:Nat) (call:Caller) (e:Env) (h:Heap) (K:Kont β):pieceK (C k) call F.ζ0 [1,1,1,0,0,0,1,0,1,1,1,1,1] e h K = pieceK (C k) call F.ζ0 [1,1,1,0,0,0,1,0,1,1,1,1,1,0] e h (kSeq (pieceK (C k) call F.ζ0 [1,1,1,0,0,0,1,0,1,1,1,1,1,1]) K):=by kernel_rfl
theorem ζgt {β:Type} (k:Nat) (call:Caller) (e:Env) (h:Heap) (K:Kont β):pieceK (C k) call F.ζ0 [1,1,1,0,0,0,1,0,1,1,1,1,1,0] e h K = pieceK (C k) call F.ζ0 [1,1,1,0,0,0,1,0,1,1,1,1,1,0,0] e h (kSeq (pieceK (C k) call F.ζ0 [1,1,1,0,0,0,1,0,1,1,1,1,1,0,1]) K):=by kernel_rfl
theorem ζgu {β:Type} (k:Nat) (call:Caller) (a1 a2 a3 a4 a5 a12 a13 a14 v137:Value) (h138:Heap) (K:Kont β):pieceK (C k) call F.ζ0 [1,1,1,0,0,0,1,0,1,1,1,1,1,0,0] [(1,a1),(2,a2),(3,a3),(4,a4),(5,a5),(12,a12),(13,a13),(14,a14),(16,v137)] h138 K =
 (  (fieldAddrR Prog 129 a14 2 h138).bind fun v139 h140 =>
 (loadR Prog 3 v139 h140).bind fun v141 h142 =>
 K .normal [(1,a1),(2,a2),(3,a3),(4,a4),(5,a5),(12,a12),(13,a13),(14,a14),(16,v137),(17,v141)] h142):=by kernel_rfl
theorem ζgv {β:Type} (k:Nat) (call:Caller) (e:Env) (h:Heap) (K:Kont β):pieceK (C k) call F.ζ0 [1,1,1,0,0,0,1,0,1,1,1,1,1,0,1] e h K = pieceK (C k) call F.ζ0 [1,1,1,0,0,0,1,0,1,1,1,1,1,0,1,0] e h (kBlock 2 K):=by kernel_rfl
theorem ζgw {β:Type} (k:Nat) (call:Caller) (a1 a2 a3 a4 a5 a12 a13 a14 v137 v141:Value) (h142:Heap) (K:Kont β):pieceK (C k) call F.ζ0 [1,1,1,0,0,0,1,0,1,1,1,1,1,0,1,0] [(1,a1),(2,a2),(3,a3),(4,a4),(5,a5),(12,a12),(13,a13),(14,a14),(16,v137),(17,v141)] h142 K =
 ((loopN (ζ2r k call) loopFuel [(1,a1),(2,a2),(3,a3),(4,a4),(5,a5),(12,a12),(13,a13),(14,a14),(16,v137),(17,v141)] h142).bind fun r143 h144 => K r143.1 r143.2 h144):=by kernel_rfl
theorem ζgx {β:Type} (k:Nat) (call:Caller) (e:Env) (h:Heap) (K:Kont β):pieceK (C k) call F.ζ0 [1,1,1,0,0,0,1,0,1,1,1,1,1,0,1,0,0] e h K = pieceK (C k) call F.ζ0 [1,1,1,0,0,0,1,0,1,1,1,1,1,0,1,0,0,0] e h (kSeq (pieceK (C k) call F.ζ0 [1,1,1,0,0,0,1,0,1,1,1,1,1,0,1,0,0,1]) K):=by kernel_rfl
theorem ζgy {β:Type} (k:Nat) (call:Caller) (e:Env) (h:Heap) (K:Kont β):pieceK (C k) call F.ζ0 [1,1,1,0,0,0,1,0,1,1,1,1,1,0,1,0,0,0] e h K = pieceK (C k) call F.ζ0 [1,1,1,0,0,0,1,0,1,1,1,1,1,0,1,0,0,0,0] e h (kSeq (pieceK (C k) call F.ζ0 [1,1,1,0,0,0,1,0,1,1,1,1,1,0,1,0,0,0,1]) K):=by kernel_rfl
theorem ζgz {β:Type} (k:Nat) (call:Caller) (a1 a2 a3 a4 a5 a12 a13 a14 a16 a17:Value) (h:Heap) (K:Kont β):pieceK (C k) call F.ζ0 [1,1,1,0,0,0,1,0,1,1,1,1,1,0,1,0,0,0,0] [(1,a1),(2,a2),(3,a3),(4,a4),(5,a5),(12,a12),(13,a13),(14,a14),(16,a16),(17,a17)] h K =
 (  (unR .not a16 h).bind fun v145 h146 =>
 ((bif wantVal v145 true then Res.ok a13 h146 else Res.ok undef h146)).bind fun v147 h148 =>
 ((bif wantVal v145 true then builtinV Prog .len [30] [v147] h148 else Res.ok undef h148)).bind fun v149 h150 =>
 ((bif wantVal v145 true then binR Prog .gtr 3 v149 (.int .i64 0) h150 else Res.ok undef h150)).bind fun v151 h152 =>
 (condV (some v145) (Res.ok v151 h152) (Res.ok (.bool false) h152)).bind fun v153 h154 =>
 K .normal [(1,a1),(2,a2),(3,a3),(4,a4),(5,a5),(12,a12),(13,a13),(14,a14),(17,a17),(74,v153)] h154):=by kernel_rfl
theorem ζh0 {β:Type} (k:Nat) (call:Caller) (a1 a2 a3 a4 a5 a12 a13 a14 a17 v153:Value) (h154:Heap) (K:Kont β):pieceK (C k) call F.ζ0 [1,1,1,0,0,0,1,0,1,1,1,1,1,0,1,0,0,0,1] [(1,a1),(2,a2),(3,a3),(4,a4),(5,a5),(12,a12),(13,a13),(14,a14),(17,a17),(74,v153)] h154 K =
 (condV (some v153) (pieceK (C k) call F.ζ0 [1,1,1,0,0,0,1,0,1,1,1,1,1,0,1,0,0,0,1,0] [(1,a1),(2,a2),(3,a3),(4,a4),(5,a5),(12,a12),(13,a13),(14,a14),(17,a17),(74,v153)] h154 K) (pieceK (C k) call F.ζ0 [1,1,1,0,0,0,1,0,1,1,1,1,1,0,1,0,0,0,1,1] [(1,a1),(2,a2),(3,a3),(4,a4),(5,a5),(12,a12),(13,a13),(14,a14),(17,a17),(74,v153)] h154 K)):=by kernel_rfl
theorem ζh1 {β:Type} (k:Nat) (call:Caller) (e:Env) (h:Heap) (K:Kont β):pieceK (C k) call F.ζ0 [1,1,1,0,0,0,1,0,1,1,1,1,1,0,1,0,0,0,1,0] e h K = K .normal e h:=by kernel_rfl
theorem ζh2 {β:Type} (k:Nat) (call:Caller) (e:Env) (h:Heap) (K:Kont β):pieceK (C k) call F.ζ0 [1,1,1,0,0,0,1,0,1,1,1,1,1,0,1,0,0,1] e h K = pieceK (C k) call F.ζ0 [1,1,1,0,0,0,1,0,1,1,1,1,1,0,1,0,0,1,0] e h (kSeq (pieceK (C k) call F.ζ0 [1,1,1,0,0,0,1,0,1,1,1,1,1,0,1,0,0,1,1]) K):=by kernel_rfl
theorem ζh3 {β:Type} (k:Nat) (call:Caller) (e:Env) (h:Heap) (K:Kont β):pieceK (C k) call F.ζ0 [1,1,1,0,0,0,1,0,1,1,1,1,1,0,1,0,0,1,0] e h K = pieceK (C k) call F.ζ0 [1,1,1,0,0,0,1,0,1,1,1,1,1,0,1,0,0,1,0,0] e h (kBlock 3 K):=by kernel_rfl
theorem ζh4 {β:Type} (k:Nat) (call:Caller) (e:Env) (h:Heap) (K:Kont β):pieceK (C k) call F.ζ0 [1,1,1,0,0,0,1,0,1,1,1,1,1,0,1,0,0,1,0,0] e h K = pieceK (C k) call F.ζ0 [1,1,1,0,0,0,1,0,1,1,1,1,1,0,1,0,0,1,0,0,0] e h (kSeq (pieceK (C k) call F.ζ0 [1,1,1,0,0,0,1,0,1,1,1,1,1,0,1,0,0,1,0,0,1]) K):=by kernel_rfl
theorem ζh5 {β:Type} (k:Nat) (call:Caller) (a1 a2 a3 a4 a5 a12 a13 a14 a17 v153:Value) (h154:Heap) (K:Kont β):pieceK (C k) call F.ζ0 [1,1,1,0,0,0,1,0,1,1,1,1,1,0,1,0,0,1,0,0,0] [(1,a1),(2,a2),(3,a3),(4,a4),(5,a5),(12,a12),(13,a13),(14,a14),(17,a17),(74,v153)] h154 K =
 (    (builtinV Prog .len [30] [a13] h154).bind fun v155 h156 =>
 (binR Prog .sub 3 v155 (.int .i64 1) h156).bind fun v157 h158 =>
 (indexAddrR Prog 30 a13 v157 h158).bind fun v159 h160 =>
 (loadR Prog 3 v159 h160).bind fun v161 h162 =>
 K .normal [(1,a1),(2,a2),(3,a3),(4,a4),(5,a5),(12,a12),(13,a13),(14,a14),(17,a17),(18,v161)] h162):=by kernel_rfl
theorem ζh6 {β:Type} (k:Nat) (call:Caller) (e:Env) (h:Heap) (K:Kont β):pieceK (C k) call F.ζ0 [1,1,1,0,0,0,1,0,1,1,1,1,1,0,1,0,0,1,0,0,1] e h K = pieceK (C k) call F.ζ0 [1,1,1,0,0,0,1,0,1,1,1,1,1,0,1,0,0,1,0,0,1,0] e h (kSeq (pieceK (C k) call F.ζ0 [1,1,1,0,0,0,1,0,1,1,1,1,1,0,1,0,0,1,0,0,1,1]) K):=by kernel_rfl
theorem ζh7 {β:Type} (k:Nat) (call:Caller) (a1 a2 a3 a4 a5 a12 a13 a14 a17 v161:Value) (h162:Heap) (K:Kont β):pieceK (C k) call F.ζ0 [1,1,1,0,0,0,1,0,1,1,1,1,1,0,1,0,0,1,0,0,1,0] [(1,a1),(2,a2),(3,a3),(4,a4),(5,a5),(12,a12),(13,a13),(14,a14),(17,a17),(18,v161)] h162 K =
 (    (builtinV Prog .len [30] [a13] h162).bind fun v163 h164 =>
 (binR Prog .sub 3 v163 (.int .i64 1) h164).bind fun v165 h166 =>
 (sliceR Prog 30 a13 none (some v165) none h166).bind fun v167 h168 =>
 K .normal [(1,a1),(2,a2),(3,a3),(4,a4),(5,a5),(12,a12),(13,v167),(14,a14),(17,a17),(18,v161)] h168):=by kernel_rfl
theorem ζh8 {β:Type} (k:Nat) (call:Caller) (e:Env) (h:Heap) (K:Kont β):pieceK (C k) call F.ζ0 [1,1,1,0,0,0,1,0,1,1,1,1,1,0,1,0,0,1,0,0,1,1] e h K = pieceK (C k) call F.ζ0 [1,1,1,0,0,0,1,0,1,1,1,1,1,0,1,0,0,1,0,0,1,1,0] e h (kSeq (pieceK (C k) call F.ζ0 [1,1,1,0,0,0,1,0,1,1,1,1,1,0,1,0,0,1,0,0,1,1,1]) K):=by kernel_rfl
theorem ζh9 {β:Type} (k:Nat) (call:Caller) (a1 a2 a3 a4 a5 a12 v167 a14 a17 v161:Value) (h168:Heap) (K:Kont β):pieceK (C k) call F.ζ0 [1,1,1,0,0,0,1,0,1,1,1,1,1,0,1,0,0,1,0,0,1,1,0] [(1,a1),(2,a2),(3,a3),(4,a4),(5,a5),(12,a12),(13,v167),(14,a14),(17,a17),(18,v161)] h168 K =
 (    (fieldAddrR Prog 46 a5 1 h168).bind fun v169 h170 =>
 (loadR Prog 22 v169 h170).bind fun v171 h172 =>
 (binR Prog .mul 3 (.int .i64 2) a17 h172).bind fun v173 h174 =>
 (call F.ζ2 [v171,v173,(.int .i64 2)] h174).bind fun v175 h176 =>
 (call F.ζ3d [v175] h176).bind fun v177 h178 =>
 K .normal [(1,a1),(2,a2),(3,a3),(4,a4),(5,a5),(12,a12),(13,v167),(14,a14),(17,a17),(18,v161),(19,v177)] h178):=by kernel_rfl
theorem ζha {β:Type} (k:Nat) (call:Caller) (e:Env) (h:Heap) (K:Kont β):pieceK (C k) call F.ζ0 [1,1,1,0,0,0,1,0,1,1,1,1,1,0,1,0,0,1,0,0,1,1,1] e h K = pieceK (C k) call F.ζ0 [1,1,1,0,0,0,1,0,1,1,1,1,1,0,1,0,0,1,0,0,1,1,1,0] e h (kSeq (pieceK (C k) call F.ζ0 [1,1,1,0,0,0,1,0,1,1,1,1,1,0,1,0,0,1,0,0,1,1,1,1]) K):=by kernel_rfl
theorem ζhb {β:Type} (k:Nat) (call:Caller) (a1 a2 a3 a4 a5 a12 v167 a14 a17 v161 v177:Value) (h178:Heap) (K:Kont β):pieceK (C k) call F.ζ0 [1,1,1,0,0,0,1,0,1,1,1,1,1,0,1,0,0,1,0,0,1,1,1,0] [(1,a1),(2,a2),(3,a3),(4,a4),(5,a5),(12,a12),(13,v167),(14,a14),(17,a17),(18,v161),(19,v177)] h178 K =
 (    (fieldAddrR Prog 46 a5 1 h178).bind fun v179 h180 =>
 (loadR Prog 22 v179 h180).bind fun v181 h182 =>
 (binR Prog .mul 3 (.int .i64 2) a17 h182).bind fun v183 h184 =>
 (call F.ζ2 [v181,v183,(.int .i64 2)] h184).bind fun v185 h186 =>
 (binR Prog .rem 3 v185 (.int .i64 2) h186).bind fun v187 h188 =>
 (binR Prog .eql 3 v187 (.int .i64 1) h188).bind fun v189 h190 =>
 K .normal [(1,a1),(2,a2),(3,a3),(4,a4),(5,a5),(12,a12),(13,v167),(14,a14),(16,v189),(17,a17),(18,v161),(19,v177)] h190):=by kernel_rfl
theorem ζhc {β:Type} (k:Nat) (call:Caller) (e:Env) (h:Heap) (K:Kont β):pieceK (C k) call F.ζ0 [1,1,1,0,0,0,1,0,1,1,1,1,1,0,1,0,0,1,0,0,1,1,1,1] e h K = pieceK (C k) call F.ζ0 [1,1,1,0,0,0,1,0,1,1,1,1,1,0,1,0,0,1,0,0,1,1,1,1,0] e h (kSeq (pieceK (C k) call F.ζ0 [1,1,1,0,0,0,1,0,1,1,1,1,1,0,1,0,0,1,0,0,1,1,1,1,1]) K):=by kernel_rfl
theorem ζhd {β:Type} (k:Nat) (call:Caller) (e:Env) (h:Heap) (K:Kont β):pieceK (C k) call F.ζ0 [1,1,1,0,0,0,1,0,1,1,1,1,1,0,1,0,0,1,0,0,1,1,1,1,0] e h K = pieceK (C k) call F.ζ0 [1,1,1,0,0,0,1,0,1,1,1,1,1,0,1,0,0,1,0,0,1,1,1,1,0,0] e h (kSeq (pieceK (C k) call F.ζ0 [1,1,1,0,0,0,1,0,1,1,1,1,1,0,1,0,0,1,0,0,1,1,1,1,0,1]) K):=by kernel_rfl
theorem ζhe {β:Type} (k:Nat) (call:Caller) (a1 a2 a3 a4 a5 a12 v167 a14 v189 a17 v161 v177:Value) (h190:Heap) (K:Kont β):pieceK (C k) call F.ζ0 [1,1,1,0,0,0,1,0,1,1,1,1,1,0,1,0,0,1,0,0,1,1,1,1,0,0] [(1,a1),(2,a2),(3,a3),(4,a4),(5,a5),(12,a12),(13,v167),(14,a14),(16,v189),(17,a17),(18,v161),(19,v177)] h190 K =
 (    K .normal [(1,a1),(2,a2),(3,a3),(4,a4),(5,a5),(12,a12),(13,v167),(14,a14),(16,v189),(17,a17),(18,v161),(19,v177),(101,v189)] h190):=by kernel_rfl
theorem ζhf {β:Type} (k:Nat) (call:Caller) (a1 a2 a3 a4 a5 a12 v167 a14 v189 a17 v161 v177:Value) (h190:Heap) (K:Kont β):pieceK (C k) call F.ζ0 [1,1,1,0,0,0,1,0,1,1,1,1,1,0,1,0,0,1,0,0,1,1,1,1,0,1] [(1,a1),(2,a2),(3,a3),(4,a4),(5,a5),(12,a12),(13,v167),(14,a14),(16,v189),(17,a17),(18,v161),(19,v177),(101,v189)] h190 K =
 (condV (some v189) (pieceK (C k) call F.ζ0 [1,1,1,0,0,0,1,0,1,1,1,1,1,0,1,0,0,1,0,0,1,1,1,1,0,1,0] [(1,a1),(2,a2),(3,a3),(4,a4),(5,a5),(12,a12),(13,v167),(14,a14),(16,v189),(17,a17),(18,v161),(19,v177),(101,v189)] h190 K) (pieceK (C k) call F.ζ0 [1,1,1,0,0,0,1,0,1,1,1,1,1,0,1,0,0,1,0,0,1,1,1,1,0,1,1] [(1,a1),(2,a2),(3,a3),(4,a4),(5,a5),(12,a12),(13,v167),(14,a14),(16,v189),(17,a17),(18,v161),(19,v177),(101,v189)] h190 K)):=by kernel_rfl
theorem ζhg {β:Type} (k:Nat) (call:Caller) (a1 a2 a3 a4 a5 a12 v167 a14 v189 a17 v161 v177:Value) (h190:Heap) (K:Kont β):pieceK (C k) call F.ζ0 [1,1,1,0,0,0,1,0,1,1,1,1,1,0,1,0,0,1,0,0,1,1,1,1,0,1,0] [(1,a1),(2,a2),(3,a3),(4,a4),(5,a5),(12,a12),(13,v167),(14,a14),(16,v189),(17,a17),(18,v161),(19,v177),(101,v189)] h190 K =
 (      (binR Prog .sub 3 v177 (.int .i64 1) h190).bind fun v191 h192 =>
 K .normal [(1,a1),(2,a2),(3,a3),(4,a4),(5,a5),(12,a12),(13,v167),(14,a14),(16,v189),(17,a17),(18,v161),(19,v191)] h192):=by kernel_rfl
theorem ζhh {β:Type} (k:Nat) (call:Caller) (e:Env) (h:Heap) (K:Kont β):pieceK (C k) call F.ζ0 [1,1,1,0,0,0,1,0,1,1,1,1,1,0,1,0,0,1,0,0,1,1,1,1,0,1,1] e h K = K .normal e h:=by kernel_rfl
theorem ζhi {β:Type} (k:Nat) (call:Caller) (e:Env) (h:Heap) (K:Kont β):pieceK (C k) call F.ζ0 [1,1,1,0,0,0,1,0,1,1,1,1,1,0,1,0,0,0,1,1] e h K = K (.exit 2) e h:=by kernel_rfl
theorem ζhj {β:Type} (k:Nat) (call:Caller) (e:Env) (h:Heap) (K:Kont β):pieceK (C k) call F.ζ0 [1,1,1,0,0,0,1,0,1,1,1,1,1,0,1,0,0,1,0,0,1,1,1,1,1] e h K = pieceK (C k) call F.ζ0 [1,1,1,0,0,0,1,0,1,1,1,1,1,0,1,0,0,1,0,0,1,1,1,1,1,0] e h (kSeq (pieceK (C k) call F.ζ0 [1,1,1,0,0,0,1,0,1,1,1,1,1,0,1,0,0,1,0,0,1,1,1,1,1,1]) K):=by kernel_rfl
theorem ζhk {β:Type} (k:Nat) (call:Caller) (a1 a2 a3 a4 a5 a12 a13 a14 a16 a17 a18 a19:Value) (h:Heap) (K:Kont β):pieceK (C k) call F.ζ0 [1,1,1,0,0,0,1,0,1,1,1,1,1,0,1,0,0,1,0,0,1,1,1,1,1,0] [(1,a1),(2,a2),(3,a3),(4,a4),(5,a5),(12,a12),(13,a13),(14,a14),(16,a16),(17,a17),(18,a18),(19,a19)] h K =
 (  (unR .not a4 h).bind fun v193 h194 =>
 K .normal [(1,a1),(2,a2),(3,a3),(4,a4),(5,a5),(12,a12),(13,a13),(14,a14),(16,a16),(17,a17),(18,a18),(19,a19),(105,v193)] h194):=by kernel_rfl
theorem ζhl {β:Type} (k:Nat) (call:Caller) (a1 a2 a3 a4 a5 a12 a13 a14 a16 a17 a18 a19 v193:Value) (h194:Heap) (K:Kont β):pieceK (C k) call F.ζ0 [1,1,1,0,0,0,1,0,1,1,1,1,1,0,1,0,0,1,0,0,1,1,1,1,1,1] [(1,a1),(2,a2),(3,a3),(4,a4),(5,a5),(12,a12),(13,a13),(14,a14),(16,a16),(17,a17),(18,a18),(19,a19),(105,v193)] h194 K =
 (condV (some v193) (pieceK (C k) call F.ζ0 [1,1,1,0,0,0,1,0,1,1,1,1,1,0,1,0,0,1,0,0,1,1,1,1,1,1,0] [(1,a1),(2,a2),(3,a3),(4,a4),(5,a5),(12,a12),(13,a13),(14,a14),(16,a16),(17,a17),(18,a18),(19,a19),(105,v193)] h194 K) (pieceK (C k) call F.ζ0 [1,1,1,0,0,0,1,0,1,1,1,1,1,0,1,0,0,1,0,0,1,1,1,1,1,1,1] [(1,a1),(2,a2),(3,a3),(4,a4),(5,a5),(12,a12),(13,a13),(14,a14),(16,a16),(17,a17),(18,a18),(19,a19),(105,v193)] h194 K)):=by kernel_rfl
theorem ζhm {β:Type} (k:Nat) (call:Caller) (a1 a2 a3 a4 a5 a12 a13 a14 a16 a17 a18 a19 v193:Value) (h194:Heap) (K:Kont β):pieceK (C k) call F.ζ0 [1,1,1,0,0,0,1,0,1,1,1,1,1,0,1,0,0,1,0,0,1,1,1,1,1,1,0] [(1,a1),(2,a2),(3,a3),(4,a4),(5,a5),(12,a12),(13,a13),(14,a14),(16,a16),(17,a17),(18,a18),(19,a19),(105,v193)] h194 K =
 (    (call F.ζg [a2,a18,a19,(.int .i64 0),(.int .i64 0)] h194).bind fun v195 h196 =>
 K .normal [(1,a1),(2,v195),(3,a3),(4,a4),(5,a5),(12,a12),(13,a13),(14,a14),(16,a16),(17,a17)] h196):=by kernel_rfl
theorem ζhn {β:Type} (k:Nat) (call:Caller) (e:Env) (h:Heap) (K:Kont β):pieceK (C k) call F.ζ0 [1,1,1,0,0,0,1,0,1,1,1,1,1,0,1,0,0,1,0,0,1,1,1,1,1,1,1] e h K = pieceK (C k) call F.ζ0 [1,1,1,0,0,0,1,0,1,1,1,1,1,0,1,0,0,1,0,0,1,1,1,1,1,1,1,0] e h (kSeq (pieceK (C k) call F.ζ0 [1,1,1,0,0,0,1,0,1,1,1,1,1,0,1,0,0,1,0,0,1,1,1,1,1,1,1,1]) K):=by kernel_rfl
theorem ζho {β:Type} (k:Nat) (call:Caller) (a1 a2 a3 a4 a5 a12 a13 a14 a16 a17 a18 a19 v193:Value) (h194:Heap) (K:Kont β):pieceK (C k) call F.ζ0 [1,1,1,0,0,0,1,0,1,1,1,1,1,0,1,0,0,1,0,0,1,1,1,1,1,1,1,0] [(1,a1),(2,a2),(3,a3),(4,a4),(5,a5),(12,a12),(13,a13),(14,a14),(16,a16),(17,a17),(18,a18),(19,a19),(105,v193)] h194 K =
 (    (binR Prog .eql 3 a19 (.int .i64 (-32768)) h194).bind fun v197 h198 =>
 K .normal [(1,a1),(2,a2),(3,a3),(4,a4),(5,a5),(12,a12),(13,a13),(14,a14),(16,a16),(17,a17),(18,a18),(19,a19),(111,v197)] h198):=by kernel_rfl
theorem ζhp {β:Type} (k:Nat) (call:Caller) (a1 a2 a3 a4 a5 a12 a13 a14 a16 a17 a18 a19 v197:Value) (h198:Heap) (K:Kont β):pieceK (C k) call F.ζ0 [1,1,1,0,0,0,1,0,1,1,1,1,1,0,1,0,0,1,0,0,1,1,1,1,1,1,1,1] [(1,a1),(2,a2),(3,a3),(4,a4),(5,a5),(12,a12),(13,a13),(14,a14),(16,a16),(17,a17),(18,a18),(19,a19),(111,v197)] h198 K =
 (condV (some v197) (pieceK (C k) call F.ζ0 [1,1,1,0,0,0,1,0,1,1,1,1,1,0,1,0,0,1,0,0,1,1,1,1,1,1,1,1,0] [(1,a1),(2,a2),(3,a3),(4,a4),(5,a5),(12,a12),(13,a13),(14,a14),(16,a16),(17,a17),(18,a18),(19,a19),(111,v197)] h198 K) (pieceK (C k) call F.ζ0 [1,1,1,0,0,0,1,0,1,1,1,1,1,0,1,0,0,1,0,0,1,1,1,1,1,1,1,1,1] [(1,a1),(2,a2),(3,a3),(4,a4),(5,a5),(12,a12),(13,a13),(14,a14),(16,a16),(17,a17),(18,a18),(19,a19),(111,v197)] h198 K)):=by kernel_rfl
theorem ζhq {β:Type} (k:Nat) (call:Caller) (a1 a2 a3 a4 a5 a12 a13 a14 a16 a17 a18 a19 v197:Value) (h198:Heap) (K:Kont β):pieceK (C k) call F.ζ0 [1,1,1,0,0,0,1,0,1,1,1,1,1,0,1,0,0,1,0,0,1,1,1,1,1,1,1,1,0] [(1,a1),(2,a2),(3,a3),(4,a4),(5,a5),(12,a12),(13,a13),(14,a14),(16,a16),(17,a17),(18,a18),(19,a19),(111,v197)] h198 K =
 (      (call F.ζj [a2,a3,a18] h198).bind fun v199 h200 =>
 K .normal [(1,a1),(2,v199),(3,a3),(4,a4),(5,a5),(12,a12),(13,a13),(14,a14),(16,a16),(17,a17)] h200):=by kernel_rfl
theorem ζhr {β:Type} (k:Nat) (call:Caller) (a1 a2 a3 a4 a5 a12 a13 a14 a16 a17 a18 a19 v197:Value) (h198:Heap) (K:Kont β):pieceK (C k) call F.ζ0 [1,1,1,0,0,0,1,0,1,1,1,1,1,0,1,0,0,1,0,0,1,1,1,1,1,1,1,1,1] [(1,a1),(2,a2),(3,a3),(4,a4),(5,a5),(12,a12),(13,a13),(14,a14),(16,a16),(17,a17),(18,a18),(19,a19),(111,v197)] h198 K =
 (      (call F.ζ14 [a2,a3,a18,a19] h198).bind fun v201 h202 =>
 K .normal [(1,a1),(2,v201),(3,a3),(4,a4),(5,a5),(12,a12),(13,a13),(14,a14),(16,a16),(17,a17)] h202):=by kernel_rfl
theorem ζhs {β:Type} (k:Nat) (call:Caller) (e:Env) (h:Heap) (K:Kont β):pieceK (C k) call F.ζ0 [1,1,1,0,0,0,1,0,1,1,1,1,1,0,1,0,0,1,0,0,1,1,1,1,1] e h K = pieceK (C k) call F.ζ0 [1,1,1,0,0,0,1,0,1,1,1,1,1,0,1,0,0,1,0,0,1,1,1,1,1,0] e h (kSeq (pieceK (C k) call F.ζ0 [1,1,1,0,0,0,1,0,1,1,1,1,1,0,1,0,0,1,0,0,1,1,1,1,1,1]) K):=by kernel_rfl
theorem ζht {β:Type} (k:Nat) (call:Caller) (a1 a2 a3 a4 a5 a12 a13 a14 a16 a17 a18 a19 a101:Value) (h:Heap) (K:Kont β):pieceK (C k) call F.ζ0 [1,1,1,0,0,0,1,0,1,1,1,1,1,0,1,0,0,1,0,0,1,1,1,1,1,0] [(1,a1),(2,a2),(3,a3),(4,a4),(5,a5),(12,a12),(13,a13),(14,a14),(16,a16),(17,a17),(18,a18),(19,a19),(101,a101)] h K =
 (  (unR .not a4 h).bind fun v203 h204 =>
 K .normal [(1,a1),(2,a2),(3,a3),(4,a4),(5,a5),(12,a12),(13,a13),(14,a14),(16,a16),(17,a17),(18,a18),(19,a19),(105,v203)] h204):=by kernel_rfl
theorem ζhu {β:Type} (k:Nat) (call:Caller) (a1 a2 a3 a4 a5 a12 a13 a14 a16 a17 a18 a19 v203:Value) (h204:Heap) (K:Kont β):pieceK (C k) call F.ζ0 [1,1,1,0,0,0,1,0,1,1,1,1,1,0,1,0,0,1,0,0,1,1,1,1,1,1] [(1,a1),(2,a2),(3,a3),(4,a4),(5,a5),(12,a12),(13,a13),(14,a14),(16,a16),(17,a17),(18,a18),(19,a19),(105,v203)] h204 K =
 (condV (some v203) (pieceK (C k) call F.ζ0 [1,1,1,0,0,0,1,0,1,1,1,1,1,0,1,0,0,1,0,0,1,1,1,1,1,1,0] [(1,a1),(2,a2),(3,a3),(4,a4),(5,a5),(12,a12),(13,a13),(14,a14),(16,a16),(17,a17),(18,a18),(19,a19),(105,v203)] h204 K) (pieceK (C k) call F.ζ0 [1,1,1,0,0,0,1,0,1,1,1,1,1,0,1,0,0,1,0,0,1,1,1,1,1,1,1] [(1,a1),(2,a2),(3,a3),(4,a4),(5,a5),(12,a12),(13,a13),(14,a14),(16,a16),(17,a17),(18,a18),(19,a19),(105,v203)] h204 K)):=by kernel_rfl
theorem ζhv {β:Type} (k:Nat) (call:Caller) (a1 a2 a3 a4 a5 a12 a13 a14 a16 a17 a18 a19 v203:Value) (h204:Heap) (K:Kont β):pieceK (C k) call F.ζ0 [1,1,1,0,0,0,1,0,1,1,1,1,1,0,1,0,0,1,0,0,1,1,1,1,1,1,0] [(1,a1),(2,a2),(3,a3),(4,a4),(5,a5),(12,a12),(13,a13),(14,a14),(16,a16),(17,a17),(18,a18),(19,a19),(105,v203)] h204 K =
 (    (call F.ζg [a2,a18,a19,(.int .i64 0),(.int .i64 0)] h204).bind fun v205 h206 =>
 K .normal [(1,a1),(2,v205),(3,a3),(4,a4),(5,a5),(12,a12),(13,a13),(14,a14),(16,a16),(17,a17)] h206):=by kernel_rfl
theorem ζhw {β:Type} (k:Nat) (call:Caller) (e:Env) (h:Heap) (K:Kont β):pieceK (C k) call F.ζ0 [1,1,1,0,0,0,1,0,1,1,1,1,1,0,1,0,0,1,0,0,1,1,1,1,1,1,1] e h K = pieceK (C k) call F.ζ0 [1,1,1,0,0,0,1,0,1,1,1,1,1,0,1,0,0,1,0,0,1,1,1,1,1,1,1,0] e h (kSeq (pieceK (C k) call F.ζ0 [1,1,1,0,0,0,1,0,1,1,1,1,1,0,1,0,0,1,0,0,1,1,1,1,1,1,1,1]) K):=by kernel_rfl
theorem ζhx {β:Type} (k:Nat) (call:Caller) (a1 a2 a3 a4 a5 a12 a13 a14 a16 a17 a18 a19 v203:Value) (h204:Heap) (K:Kont β):pieceK (C k) call F.ζ0 [1,1,1,0,0,0,1,0,1,1,1,1,1,0,1,0,0,1,0,0,1,1,1,1,1,1,1,0] [(1,a1),(2,a2),(3,a3),(4,a4),(5,a5),(12,a12),(13,a13),(14,a14),(16,a16),(17,a17),(18,a18),(19,a19),(105,v203)] h204 K =
 (    (binR Prog .eql 3 a19 (.int .i64 (-32768)) h204).bind fun v207 h208 =>
 K .normal [(1,a1),(2,a2),(3,a3),(4,a4),(5,a5),(12,a12),(13,a13),(14,a14),(16,a16),(17,a17),(18,a18),(19,a19),(111,v207)] h208):=by kernel_rfl
theorem ζeh {β:Type} (k:Nat) (call:Caller) (a1 a2 a3 a4 a5 a12 a13 a14 a16 a17 a18 a19 v207:Value) (h208:Heap) (K:Kont β):pieceK (C k) call F.ζ0 [1,1,1,0,0,0,1,0,1,1,1,1,1,0,1,0,0,1,0,0,1,1,1,1,1,1,1,1] [(1,a1),(2,a2),(3,a3),(4,a4),(5,a5),(12,a12),(13,a13),(14,a14),(16,a16),(17,a17),(18,a18),(19,a19),(111,v207)] h208 K =
 (condV (some v207) (pieceK (C k) call F.ζ0 [1,1,1,0,0,0,1,0,1,1,1,1,1,0,1,0,0,1,0,0,1,1,1,1,1,1,1,1,0] [(1,a1),(2,a2),(3,a3),(4,a4),(5,a5),(12,a12),(13,a13),(14,a14),(16,a16),(17,a17),(18,a18),(19,a19),(111,v207)] h208 K) (pieceK (C k) call F.ζ0 [1,1,1,0,0,0,1,0,1,1,1,1,1,0,1,0,0,1,0,0,1,1,1,1,1,1,1,1,1] [(1,a1),(2,a2),(3,a3),(4,a4),(5,a5),(12,a12),(13,a13),(14,a14),(16,a16),(17,a17),(18,a18),(19,a19),(111,v207)] h208 K)):=by kernel_rfl
theorem ζei {β:Type} (k:Nat) (call:Caller) (a1 a2 a3 a4 a5 a12 a13 a14 a16 a17 a18 a19 v207:Value) (h208:Heap) (K:Kont β):pieceK (C k) call F.ζ0 [1,1,1,0,0,0,1,0,1,1,1,1,1,0,1,0,0,1,0,0,1,1,1,1,1,1,1,1,0] [(1,a1),(2,a2),(3,a3),(4,a4),(5,a5),(12,a12),(13,a13),(14,a14),(16,a16),(17,a17),(18,a18),(19,a19),(111,v207)] h208 K =
 (      (call F.ζj [a2,a3,a18] h208).bind fun v209 h210 =>
 K .normal [(1,a1),(2,v209),(3,a3),(4,a4),(5,a5),(12,a12),(13,a13),(14,a14),(16,a16),(17,a17)] h210):=by kernel_rfl
theorem ζej {β:Type} (k:Nat) (call:Caller) (a1 a2 a3 a4 a5 a12 a13 a14 a16 a17 a18 a19 v207:Value) (h208:Heap) (K:Kont β):pieceK (C k) call F.ζ0 [1,1,1,0,0,0,1,0,1,1,1,1,1,0,1,0,0,1,0,0,1,1,1,1,1,1,1,1,1] [(1,a1),(2,a2),(3,a3),(4,a4),(5,a5),(12,a12),(13,a13),(14,a14),(16,a16),(17,a17),(18,a18),(19,a19),(111,v207)] h208 K =
 (      (call F.ζ14 [a2,a3,a18,a19] h208).bind fun v211 h212 =>
 K .normal [(1,a1),(2,v211),(3,a3),(4,a4),(5,a5),(12,a12),(13,a13),(14,a14),(16,a16),(17,a17)] h212):=by kernel_rfl
theorem ζek {β:Type} (k:Nat) (call:Caller) (a1 a2 a3 a4 a5 a12 a13 a14 a16 a17:Value) (h:Heap) (K:Kont β):pieceK (C k) call F.ζ0 [1,1,1,0,0,0,1,0,1,1,1,1,1,0,1,0,0,1,1] [(1,a1),(2,a2),(3,a3),(4,a4),(5,a5),(12,a12),(13,a13),(14,a14),(16,a16),(17,a17)] h K =
 (  (binR Prog .add 3 a17 (.int .i64 1) h).bind fun v213 h214 =>
 K .normal [(1,a1),(2,a2),(3,a3),(4,a4),(5,a5),(12,a12),(13,a13),(14,a14),(16,a16),(17,v213)] h214):=by kernel_rfl
theorem ζel (k:Nat) (a1 a2 a3 a4 a5 a12 a13 a14 a16 v213:Value) (h214:Heap):kRound (ownOf (C k) F.ζ0 [1,1,1,0,0,0,1,0,1,1,1,1,1,0,1,0,0]) .normal [(1,a1),(2,a2),(3,a3),(4,a4),(5,a5),(12,a12),(13,a13),(14,a14),(16,a16),(17,v213)] h214 =
 (.ok (.normal,[(1,a1),(2,a2),(3,a3),(4,a4),(5,a5),(12,a12),(13,a13),(14,a14),(16,a16),(17,v213)]) h214):=by kernel_rfl
theorem ζem {β:Type} (k:Nat) (call:Caller) (e:Env) (h:Heap) (K:Kont β):pieceK (C k) call F.ζ0 [1,1,1,1] e h K = pieceK (C k) call F.ζ0 [1,1,1,1,0] e h (kSeq (pieceK (C k) call F.ζ0 [1,1,1,1,1]) K):=by kernel_rfl
theorem ζen {β:Type} (k:Nat) (call:Caller) (a1 a2 a3 a4 a5 a12 a13 a26:Value) (h:Heap) (K:Kont β):pieceK (C k) call F.ζ0 [1,1,1,1,0] [(1,a1),(2,a2),(3,a3),(4,a4),(5,a5),(12,a12),(13,a13),(26,a26)] h K =
 (  (fieldAddrR Prog 171 a12 6 h).bindN fun v215 h216 =>
 (loadR Prog 3 v215 h216).bindN fun v217 h218 =>
 K .normal [(10,a2),(11,v217)] h218):=by kernel_rfl
theorem ζeo {β:Type} (k:Nat) (call:Caller) (e:Env) (h:Heap) (K:Kont β):pieceK (C k) call F.ζ0 [1,1,1,1,1] e h K = K .ret e h:=by kernel_rfl
theorem ζep (a2 v217:Value) (h218:Heap):kDone Prog (resOf Prog F.ζ0) .ret [(10,a2),(11,v217)] h218 =
 (  .ok (.tuple #[a2,v217]) h218):=by kernel_rfl
theorem ζeq {β:Type} (k:Nat) (call:Caller) (a1 a2 a3 a4 a5 a12 a13 a14 a17 a74:Value) (h:Heap) (K:Kont β):pieceK (C k) call F.ζ0 [1,1,1,0,0,0,1,0,1,1,1,1,1,1] [(1,a1),(2,a2),(3,a3),(4,a4),(5,a5),(12,a12),(13,a13),(14,a14),(17,a17),(74,a74)] h K =
 (  (loadR Prog 171 a12 h).bind fun v219 h220 =>
 (loadR Prog 129 a14 h220).bind fun v221 h222 =>
 (builtinV Prog .len [61] [a1] h222).bind fun v223 h224 =>
 (fieldAddrR Prog 171 a12 1 h224).bind fun v225 h226 =>
 (loadR Prog 3 v225 h226).bind fun v227 h228 =>
 (fieldAddrR Prog 171 a12 1 h228).bind fun v229 h230 =>
 (loadR Prog 3 v229 h230).bind fun v231 h232 =>
 (binR Prog .add 3 v231 (.int .i64 1) h232).bind fun v233 h234 =>
 (call F.ζc [v219,v221,v223,v227,v233] h234).bind fun v235 h236 =>
 (storeR Prog 171 a12 v235 h236).bind fun _v237 h238 =>
 K .normal [(1,a1),(2,a2),(3,a3),(4,a4),(5,a5),(12,a12),(13,a13)] h238):=by kernel_rfl
theorem ζer (k:Nat) (a1 a2 a3 a4 a5 a12 a13:Value) (h238:Heap):kRound (ownOf (C k) F.ζ0 [1,1,1,0,0,0]) .normal [(1,a1),(2,a2),(3,a3),(4,a4),(5,a5),(12,a12),(13,a13)] h238 =
 (.ok (.normal,[(1,a1),(2,a2),(3,a3),(4,a4),(5,a5),(12,a12),(13,a13)]) h238):=by kernel_rfl
theorem ζeg (k:Nat) (call:Caller) (a0 a1 a2 a3 a4:Value) (h:Heap):bodyK (C k) call F.ζ0 [a0,a1,a2,a3,a4] h = pieceK (C k) call F.ζ0 [] [(0,a0),(1,a1),(2,a2),(3,a3),(4,a4)] h (kDone Prog (resOf Prog F.ζ0)):=by kernel_rfl
theorem ζis (k:Nat) (call:Caller) (a0 a1 a2 a3 a4:Value) (h:Heap):bodyK (C k) call F.ζ0 [a0,a1,a2,a3,a4] h = ζ0 k call a0 a1 a2 a3 a4 h:=by
 rw [ζeg];simp only [ζf,ζit,ζiu,ζiv,ζiw,ζix,ζiy,ζiz,ζj0,ζj1,ζ0,ζq,ζs,ζr,ζl,ζn,ζm,ζp,ζo,Nat.reduceBEq,cond_true,cond_false]
theorem ζkk (k:Nat) (a0 a1 a2 a3 a4:Value) (h:Heap):R (T k) F.ζ0 [a0,a1,a2,a3,a4] h = nrm .fz h (ζ0 k (R (T k)) a0 a1 a2 a3 a4 h) :=
 (R_body (t:=T k) (T_scott k) (by kernel_rfl) (by kernel_rfl) _ _).trans (congrArg (nrm .fz h) (ζis k (R (T k)) a0 a1 a2 a3 a4 h))
theorem ζ2a (k:Nat) (call:Caller) (a1 a2 a3 a4 a5 a12 a13:Value) (h:Heap):ζ54 k call [(1,a1),(2,a2),(3,a3),(4,a4),(5,a5),(12,a12),(13,a13)] h =
 (fieldAddrR Prog 171 a12 5 h).bind fun v15 h16 =>
 (loadR Prog 4 v15 h16).bind fun v17 h18 =>
 (unR .not v17 h18).bind fun v19 h20 =>
 condV (some v19) (
 (fieldAddrR Prog 46 a5 0 h20).bind fun v21 h22 =>
 (loadR Prog 44 v21 h22).bind fun v23 h24 =>
 (loadR Prog 171 a12 h24).bind fun v25 h26 =>
 (call F.ζ1l [v23,v25,a1] h26).bind fun v27 h28 =>
 (extractR v27 0 h28).bind fun v29 h30 =>
 (extractR v27 1 h30).bind fun v31 h32 =>
 (allocR Prog 129 h32).bind fun v33 h34 =>
 (storeR Prog 129 v33 v29 h34).bind fun _v35 h36 =>
 (fieldAddrR Prog 129 v33 1 h36).bind fun v37 h38 =>
 (loadR Prog 3 v37 h38).bind fun v39 h40 =>
 (binR Prog .quo 3 v39 (.int .i64 8192) h40).bind fun v41 h42 =>
 (binR Prog .rem 3 v41 (.int .i64 2) h42).bind fun v43 h44 =>
 (binR Prog .eql 3 v43 (.int .i64 1) h44).bind fun v45 h46 =>
 condV (some v45) (
 (buildSliceR Prog 30 0 [] h46).bind fun v47 h48 =>
 ζt k call a1 a2 a3 a4 a5 a12 v47 v33 h48)
 (
 ζu k call a1 a2 a3 a4 a5 a12 a13 v33 v45 h46))
 (
 .ok ((.exit 0),[(1,a1),(2,a2),(3,a3),(4,a4),(5,a5),(12,a12),(13,a13),(26,v19)]) h20) :=
 (loopB_eq _ _).trans (by simp only [ζu,ζt,ζf,ζfg,ζfh,ζfi,ζfj,ζfk,ζfl,ζfm,ζfn,ζfo,ζfp,ζfq,ζfr,ζfs,ζft,ζfu,ζ0,ζq,ζs,ζr,ζl,ζn,ζm,ζp,ζo,Nat.reduceBEq,cond_true,cond_false])
theorem ζ58 (k:Nat) (call:Caller) (a1 a2 a3 a4 a5 a12 a13 a14:Value) (h:Heap):ζt k call a1 a2 a3 a4 a5 a12 a13 a14 h =
 (fieldAddrR Prog 129 a14 1 h).bind fun v49 h50 =>
 (loadR Prog 3 v49 h50).bind fun v51 h52 =>
 (binR Prog .geq 3 v51 (.int .i64 32768) h52).bind fun v53 h54 =>
 ((bif wantVal v53 true then fieldAddrR Prog 171 a12 1 h54 else Res.ok undef h54)).bind fun v55 h56 =>
 ((bif wantVal v53 true then loadR Prog 3 v55 h56 else Res.ok undef h56)).bind fun v57 h58 =>
 ((bif wantVal v53 true then Res.ok a1 h58 else Res.ok undef h58)).bind fun v59 h60 =>
 ((bif wantVal v53 true then builtinV Prog .len [61] [v59] h60 else Res.ok undef h60)).bind fun v61 h62 =>
 ((bif wantVal v53 true then binR Prog .lss 3 v57 v61 h62 else Res.ok undef h62)).bind fun v63 h64 =>
 (condV (some v53) (Res.ok v63 h64) (Res.ok (.bool false) h64)).bind fun v65 h66 =>
 condV (some v65) (
 (buildSliceR Prog 30 0 [] h66).bindN fun v67 h68 =>
 (builtinV Prog .append [30,30] [v67,a13] h68).bindN fun v69 h70 =>
 (fieldAddrR Prog 171 a12 1 h70).bindN fun v71 h72 =>
 (loadR Prog 3 v71 h72).bindN fun v73 h74 =>
 (buildSliceR Prog 30 1 [(0,v73)] h74).bindN fun v75 h76 =>
 (builtinV Prog .append [30,30] [v69,v75] h76).bindN fun v77 h78 =>
 chkR ((okVal (loadR Prog 3 v71 h66) v73 && true) && true) (
 ζv k call a1 a2 a3 a4 a5 a12 v77 a14 h78))
 (
 ζw k call a1 a2 a3 a4 a5 a12 a13 a14 v65 h66):=by simp only [ζw,ζv,ζu,ζt,ζf,ζfv,ζfw,ζfx,ζfy,ζfz,ζg0,ζ0,ζq,ζs,ζr,ζl,ζn,ζm,ζp,ζo,Nat.reduceBEq,cond_true,cond_false]
theorem ζ3z (k:Nat) (call:Caller) (a1 a2 a3 a4 a5 a12 a13 a14 a39:Value) (h:Heap):ζu k call a1 a2 a3 a4 a5 a12 a13 a14 a39 h =
 (fieldAddrR Prog 129 a14 1 h).bind fun v79 h80 =>
 (loadR Prog 3 v79 h80).bind fun v81 h82 =>
 (binR Prog .geq 3 v81 (.int .i64 32768) h82).bind fun v83 h84 =>
 ((bif wantVal v83 true then fieldAddrR Prog 171 a12 1 h84 else Res.ok undef h84)).bind fun v85 h86 =>
 ((bif wantVal v83 true then loadR Prog 3 v85 h86 else Res.ok undef h86)).bind fun v87 h88 =>
 ((bif wantVal v83 true then Res.ok a1 h88 else Res.ok undef h88)).bind fun v89 h90 =>
 ((bif wantVal v83 true then builtinV Prog .len [61] [v89] h90 else Res.ok undef h90)).bind fun v91 h92 =>
 ((bif wantVal v83 true then binR Prog .lss 3 v87 v91 h92 else Res.ok undef h92)).bind fun v93 h94 =>
 (condV (some v83) (Res.ok v93 h94) (Res.ok (.bool false) h94)).bind fun v95 h96 =>
 condV (some v95) (
 (buildSliceR Prog 30 0 [] h96).bindN fun v97 h98 =>
 (builtinV Prog .append [30,30] [v97,a13] h98).bindN fun v99 h100 =>
 (fieldAddrR Prog 171 a12 1 h100).bindN fun v101 h102 =>
 (loadR Prog 3 v101 h102).bindN fun v103 h104 =>
 (buildSliceR Prog 30 1 [(0,v103)] h104).bindN fun v105 h106 =>
 (builtinV Prog .append [30,30] [v99,v105] h106).bindN fun v107 h108 =>
 chkR ((okVal (loadR Prog 3 v101 h96) v103 && true) && true) (
 ζv k call a1 a2 a3 a4 a5 a12 v107 a14 h108))
 (
 ζw k call a1 a2 a3 a4 a5 a12 a13 a14 v95 h96):=by simp only [ζw,ζv,ζu,ζt,ζf,ζg1,ζg2,ζg3,ζg4,ζg5,ζg6,ζ0,ζq,ζs,ζr,ζl,ζn,ζm,ζp,ζo,Nat.reduceBEq,cond_true,cond_false]
theorem ζ59 (k:Nat) (call:Caller) (a1 a2 a3 a4 a5 a12 a13 a14:Value) (h:Heap):ζv k call a1 a2 a3 a4 a5 a12 a13 a14 h =
 (builtinV Prog .len [30] [a13] h).bind fun v109 h110 =>
 (binR Prog .gtr 3 v109 (.int .i64 8) h110).bind fun v111 h112 =>
 condV (some v111) (
 (sliceR Prog 30 a13 (some (.int .i64 1)) none none h112).bind fun v113 h114 =>
 ζ10 k call a1 a2 a3 a4 a5 a12 v113 a14 h114)
 (
 ζ11 k call a1 a2 a3 a4 a5 a12 a13 a14 v111 h112):=by simp only [ζ11,ζ10,ζw,ζv,ζu,ζt,ζf,ζg7,ζg8,ζg9,ζga,ζgb,ζgc,ζ0,ζq,ζs,ζr,ζl,ζn,ζm,ζp,ζo,Nat.reduceBEq,cond_true,cond_false]
theorem ζ40 (k:Nat) (call:Caller) (a1 a2 a3 a4 a5 a12 a13 a14 a50:Value) (h:Heap):ζw k call a1 a2 a3 a4 a5 a12 a13 a14 a50 h =
 (builtinV Prog .len [30] [a13] h).bind fun v115 h116 =>
 (binR Prog .gtr 3 v115 (.int .i64 8) h116).bind fun v117 h118 =>
 condV (some v117) (
 (sliceR Prog 30 a13 (some (.int .i64 1)) none none h118).bind fun v119 h120 =>
 ζ10 k call a1 a2 a3 a4 a5 a12 v119 a14 h120)
 (
 ζ11 k call a1 a2 a3 a4 a5 a12 a13 a14 v117 h118):=by simp only [ζ11,ζ10,ζw,ζv,ζu,ζt,ζf,ζgd,ζge,ζgf,ζgg,ζgh,ζgi,ζ0,ζq,ζs,ζr,ζl,ζn,ζm,ζp,ζo,Nat.reduceBEq,cond_true,cond_false]
theorem ζdl (k:Nat) (call:Caller) (a1 a2 a3 a4 a5 a12 a13 a14:Value) (h:Heap):ζ10 k call a1 a2 a3 a4 a5 a12 a13 a14 h =
 (fieldAddrR Prog 129 a14 2 h).bind fun v121 h122 =>
 (loadR Prog 3 v121 h122).bind fun v123 h124 =>
 (binR Prog .eql 3 v123 (.int .i64 65535) h124).bind fun v125 h126 =>
 (fieldAddrR Prog 129 a14 2 h126).bind fun v127 h128 =>
 (loadR Prog 3 v127 h128).bind fun v129 h130 =>
 (loopN (ζ2r k call) loopFuel [(1,a1),(2,a2),(3,a3),(4,a4),(5,a5),(12,a12),(13,a13),(14,a14),(16,v125),(17,v129)] h130).bind fun r131 h132 =>
 ζ17 k call r131.1 r131.2 h132:=by simp only [ζ11,ζ10,ζw,ζv,ζu,ζt,ζ17,ζf,ζgj,ζgk,ζgl,ζgm,ζgn,ζgo,ζgp,ζ0,ζq,ζs,ζr,ζl,ζn,ζm,ζp,ζo,Nat.reduceBEq,cond_true,cond_false]
theorem ζdm (k:Nat) (call:Caller) (a1 a2 a3 a4 a5 a12 a13 a14 a60:Value) (h:Heap):ζ11 k call a1 a2 a3 a4 a5 a12 a13 a14 a60 h =
 (fieldAddrR Prog 129 a14 2 h).bind fun v133 h134 =>
 (loadR Prog 3 v133 h134).bind fun v135 h136 =>
 (binR Prog .eql 3 v135 (.int .i64 65535) h136).bind fun v137 h138 =>
 (fieldAddrR Prog 129 a14 2 h138).bind fun v139 h140 =>
 (loadR Prog 3 v139 h140).bind fun v141 h142 =>
 (loopN (ζ2r k call) loopFuel [(1,a1),(2,a2),(3,a3),(4,a4),(5,a5),(12,a12),(13,a13),(14,a14),(16,v137),(17,v141)] h142).bind fun r143 h144 =>
 ζ17 k call r143.1 r143.2 h144:=by simp only [ζ11,ζ10,ζw,ζv,ζu,ζt,ζ17,ζf,ζgq,ζgr,ζgs,ζgt,ζgu,ζgv,ζgw,ζ0,ζq,ζs,ζr,ζl,ζn,ζm,ζp,ζo,Nat.reduceBEq,cond_true,cond_false]
theorem ζ41 (k:Nat) (call:Caller) (a1 a2 a3 a4 a5 a12 a13 a14 a16 a17:Value) (h:Heap):ζ2r k call [(1,a1),(2,a2),(3,a3),(4,a4),(5,a5),(12,a12),(13,a13),(14,a14),(16,a16),(17,a17)] h =
 (unR .not a16 h).bind fun v145 h146 =>
 ((bif wantVal v145 true then Res.ok a13 h146 else Res.ok undef h146)).bind fun v147 h148 =>
 ((bif wantVal v145 true then builtinV Prog .len [30] [v147] h148 else Res.ok undef h148)).bind fun v149 h150 =>
 ((bif wantVal v145 true then binR Prog .gtr 3 v149 (.int .i64 0) h150 else Res.ok undef h150)).bind fun v151 h152 =>
 (condV (some v145) (Res.ok v151 h152) (Res.ok (.bool false) h152)).bind fun v153 h154 =>
 condV (some v153) (
 (builtinV Prog .len [30] [a13] h154).bind fun v155 h156 =>
 (binR Prog .sub 3 v155 (.int .i64 1) h156).bind fun v157 h158 =>
 (indexAddrR Prog 30 a13 v157 h158).bind fun v159 h160 =>
 (loadR Prog 3 v159 h160).bind fun v161 h162 =>
 (builtinV Prog .len [30] [a13] h162).bind fun v163 h164 =>
 (binR Prog .sub 3 v163 (.int .i64 1) h164).bind fun v165 h166 =>
 (sliceR Prog 30 a13 none (some v165) none h166).bind fun v167 h168 =>
 (fieldAddrR Prog 46 a5 1 h168).bind fun v169 h170 =>
 (loadR Prog 22 v169 h170).bind fun v171 h172 =>
 (binR Prog .mul 3 (.int .i64 2) a17 h172).bind fun v173 h174 =>
 (call F.ζ2 [v171,v173,(.int .i64 2)] h174).bind fun v175 h176 =>
 (call F.ζ3d [v175] h176).bind fun v177 h178 =>
 (fieldAddrR Prog 46 a5 1 h178).bind fun v179 h180 =>
 (loadR Prog 22 v179 h180).bind fun v181 h182 =>
 (binR Prog .mul 3 (.int .i64 2) a17 h182).bind fun v183 h184 =>
 (call F.ζ2 [v181,v183,(.int .i64 2)] h184).bind fun v185 h186 =>
 (binR Prog .rem 3 v185 (.int .i64 2) h186).bind fun v187 h188 =>
 (binR Prog .eql 3 v187 (.int .i64 1) h188).bind fun v189 h190 =>
 condV (some v189) (
 (binR Prog .sub 3 v177 (.int .i64 1) h190).bind fun v191 h192 =>
 ζ23 k call a1 a2 a3 a4 a5 a12 v167 a14 v189 a17 v161 v191 h192)
 (
 ζ24 k call a1 a2 a3 a4 a5 a12 v167 a14 v189 a17 v161 v177 v189 h190))
 (
 .ok ((.exit 2),[(1,a1),(2,a2),(3,a3),(4,a4),(5,a5),(12,a12),(13,a13),(14,a14),(17,a17),(74,v153)]) h154) :=
 (loopB_eq _ _).trans (by simp only [ζ24,ζ23,ζ11,ζ10,ζw,ζv,ζu,ζt,ζ17,ζf,ζgx,ζgy,ζgz,ζh0,ζh1,ζh2,ζh3,ζh4,ζh5,ζh6,ζh7,ζh8,ζh9,ζha,ζhb,ζhc,ζhd,ζhe,ζhf,ζhg,ζhh,ζhi,ζ0,ζq,ζs,ζr,ζl,ζn,ζm,ζp,ζo,Nat.reduceBEq,cond_true,cond_false])
theorem ζ5a (k:Nat) (call:Caller) (a1 a2 a3 a4 a5 a12 a13 a14 a16 a17 a18 a19:Value) (h:Heap):ζ23 k call a1 a2 a3 a4 a5 a12 a13 a14 a16 a17 a18 a19 h =
 (unR .not a4 h).bind fun v193 h194 =>
 condV (some v193) (
 (call F.ζg [a2,a18,a19,(.int .i64 0),(.int .i64 0)] h194).bind fun v195 h196 =>
 ζ15 k call a1 v195 a3 a4 a5 a12 a13 a14 a16 a17 h196)
 (
 (binR Prog .eql 3 a19 (.int .i64 (-32768)) h194).bind fun v197 h198 =>
 condV (some v197) (
 (call F.ζj [a2,a3,a18] h198).bind fun v199 h200 =>
 ζ15 k call a1 v199 a3 a4 a5 a12 a13 a14 a16 a17 h200)
 (
 (call F.ζ14 [a2,a3,a18,a19] h198).bind fun v201 h202 =>
 ζ15 k call a1 v201 a3 a4 a5 a12 a13 a14 a16 a17 h202)):=by simp only [ζ15,ζ24,ζ23,ζ11,ζ10,ζw,ζv,ζu,ζt,ζ17,ζf,ζhj,ζhk,ζhl,ζhm,ζhn,ζho,ζhp,ζhq,ζhr,ζ0,ζq,ζs,ζr,ζl,ζn,ζm,ζp,ζo,Nat.reduceBEq,cond_true,cond_false]
theorem ζ5b (k:Nat) (call:Caller) (a1 a2 a3 a4 a5 a12 a13 a14 a16 a17 a18 a19 a101:Value) (h:Heap):ζ24 k call a1 a2 a3 a4 a5 a12 a13 a14 a16 a17 a18 a19 a101 h =
 (unR .not a4 h).bind fun v203 h204 =>
 condV (some v203) (
 (call F.ζg [a2,a18,a19,(.int .i64 0),(.int .i64 0)] h204).bind fun v205 h206 =>
 ζ15 k call a1 v205 a3 a4 a5 a12 a13 a14 a16 a17 h206)
 (
 (binR Prog .eql 3 a19 (.int .i64 (-32768)) h204).bind fun v207 h208 =>
 condV (some v207) (
 (call F.ζj [a2,a3,a18] h208).bind fun v209 h210 =>
 ζ15 k call a1 v209 a3 a4 a5 a12 a13 a14 a16 a17 h210)
 (
 (call F.ζ14 [a2,a3,a18,a19] h208).bind fun v211 h212 =>
 ζ15 k call a1 v211 a3 a4 a5 a12 a13 a14 a16 a17 h212)):=by simp only [ζ15,ζ24,ζ23,ζ11,ζ10,ζw,ζv,ζu,ζt,ζ17,ζf,ζhs,ζht,ζhu,ζhv,ζhw,ζhx,ζeh,ζei,ζej,ζ0,ζq,ζs,ζr,ζl,ζn,ζm,ζp,ζo,Nat.reduceBEq,cond_true,cond_false]
theorem ζ29 (k:Nat) (call:Caller) (a1 a2 a3 a4 a5 a12 a13 a14 a16 a17:Value) (h:Heap):ζ15 k call a1 a2 a3 a4 a5 a12 a13 a14 a16 a17 h =
 (binR Prog .add 3 a17 (.int .i64 1) h).bind fun v213 h214 =>
 .ok (.normal,[(1,a1),(2,a2),(3,a3),(4,a4),(5,a5),(12,a12),(13,a13),(14,a14),(16,a16),(17,v213)]) h214:=by simp only [ζ15,ζ24,ζ23,ζ11,ζ10,ζw,ζv,ζu,ζt,ζ17,ζf,ζek,ζel,ζ0,ζq,ζs,ζr,ζl,ζn,ζm,ζp,ζo,Nat.reduceBEq,cond_true,cond_false]
theorem ζcx (k:Nat) (call:Caller) (a1 a2 a3 a4 a5 a12 a13 a26:Value) (h:Heap):ζf k call (.exit 0) [(1,a1),(2,a2),(3,a3),(4,a4),(5,a5),(12,a12),(13,a13),(26,a26)] h =
 (fieldAddrR Prog 171 a12 6 h).bindN fun v215 h216 =>
 (loadR Prog 3 v215 h216).bindN fun v217 h218 =>
 .ok (.tuple #[a2,v217]) h218:=by simp only [ζ15,ζ24,ζ23,ζ11,ζ10,ζw,ζv,ζu,ζt,ζ17,ζf,ζem,ζen,ζeo,ζep,ζ0,ζq,ζs,ζr,ζl,ζn,ζm,ζp,ζo,Nat.reduceBEq,cond_true,cond_false]
theorem ζ7w (k:Nat) (call:Caller) (a1 a2 a3 a4 a5 a12 a13 a14 a17 a74:Value) (h:Heap):ζ17 k call (.exit 2) [(1,a1),(2,a2),(3,a3),(4,a4),(5,a5),(12,a12),(13,a13),(14,a14),(17,a17),(74,a74)] h =
 (loadR Prog 171 a12 h).bind fun v219 h220 =>
 (loadR Prog 129 a14 h220).bind fun v221 h222 =>
 (builtinV Prog .len [61] [a1] h222).bind fun v223 h224 =>
 (fieldAddrR Prog 171 a12 1 h224).bind fun v225 h226 =>
 (loadR Prog 3 v225 h226).bind fun v227 h228 =>
 (fieldAddrR Prog 171 a12 1 h228).bind fun v229 h230 =>
 (loadR Prog 3 v229 h230).bind fun v231 h232 =>
 (binR Prog .add 3 v231 (.int .i64 1) h232).bind fun v233 h234 =>
 (call F.ζc [v219,v221,v223,v227,v233] h234).bind fun v235 h236 =>
 (storeR Prog 171 a12 v235 h236).bind fun _v237 h238 =>
 .ok (.normal,[(1,a1),(2,a2),(3,a3),(4,a4),(5,a5),(12,a12),(13,a13)]) h238:=by simp only [ζ15,ζ24,ζ23,ζ11,ζ10,ζw,ζv,ζu,ζt,ζ17,ζf,ζeq,ζer,ζ0,ζq,ζs,ζr,ζl,ζn,ζm,ζp,ζo,Nat.reduceBEq,cond_true,cond_false]
end
end Go.Sw
end
