/-
  Functions' forms, and what is proved of them, part 8.
-/
import Derived.Test.YtanfippcmdialaaGreatSwCfg
import Derived.Test.YtanfippcmdialaaGreatSwW1
import Derived.Test.YtanfippcmdialaaGreatSwW5
import Derived.Test.YtanfippcmdialaaGreatSwW6
import Derived.Test.YtanfippcmdialaaGreatSwW7
set_option linter.unusedSimpArgs false
set_option linter.unusedVariables false
set_option linter.unusedSectionVars false
section
set_option maxRecDepth 100000
set_option linter.unusedVariables false
namespace Go.Sw
noncomputable def kmvN : String := ((Prog.info? 248).bind fun i => i.methods[0]?.map fun m => m.name).getD ""
noncomputable section
def ζ59 (k:Nat) (call:Caller) (a0 a1:Value) (h:Heap):Res Value :=
 (boxR a1 h).bind fun v1 h2 =>
 (allocR Prog 98 h2).bind fun v3 h4 =>
 (loadR Prog 3 v1 h4).bind fun v5 h6 =>
 (binR Prog .lss 3 v5 (.int .i64 1) h6).bind fun v7 h8 =>
 ((bif wantVal v7 false then loadR Prog 3 v1 h8 else Res.ok undef h8)).bind fun v9 h10 =>
 ((bif wantVal v7 false then binR Prog .gtr 3 v9 (.int .i64 65535) h10 else Res.ok undef h10)).bind fun v11 h12 =>
 (condV (some v7) (Res.ok (.bool true) h12) (Res.ok v11 h12)).bind fun v13 h14 =>
 condV (some v13) (
 (storeR Prog 98 v3 (.pointer none) h14).bind fun _v15 h16 =>
 (loadR Prog 98 v3 h16).bind fun v17 h18 =>
 .ok (.tuple #[v17,(.int .i64 1)]) h18)
 (
 (call F.view_Of [a0] h14).bind fun v19 h20 =>
 (call F.ζ28 [v19] h20).bind fun v21 h22 =>
 (call F.view_Of [v21] h22).bind fun v23 h24 =>
 (allocR Prog 113 h24).bind fun v25 h26 =>
 (storeR Prog 113 v25 v23 h26).bind fun _v27 h28 =>
 (call F.view_Try [(.func (.func F.ζ22) #[] #[v25,v1,v3])] h28).bind fun v29 h30 =>
 (unR .not v29 h30).bind fun v31 h32 =>
 condV (some v31) (
 (storeR Prog 98 v3 (.pointer none) h32).bind fun _v33 h34 =>
 (loadR Prog 98 v3 h34).bind fun v35 h36 =>
 .ok (.tuple #[v35,(.int .i64 2)]) h36)
 (
 (loadR Prog 98 v3 h32).bind fun v37 h38 =>
 (storeR Prog 98 v3 v37 h38).bind fun _v39 h40 =>
 (loadR Prog 98 v3 h40).bind fun v41 h42 =>
 .ok (.tuple #[v41,(.int .i64 0)]) h42))
theorem ζjn (k:Nat) (a0 a1:Value) (h:Heap):R (T k) F.ζ59 [a0,a1] h = nrm .fz h (ζ59 k (R (T k)) a0 a1 h) :=
 (R_body (t:=T k) (T_scott k) (by kernel_rfl) (by kernel_rfl) _ _).trans (by kernel_rfl)
def ζ53 (k:Nat) (call:Caller):Env → Heap → Res (AExit × Env):=loopB (C k) call F.ζt [1,0,1,0,0]
def ζ4f (k:Nat) (call:Caller):Kont Value:=kBlock 0 (kSeq (pieceK (C k) call F.ζt [1,1]) (kDone Prog (resOf Prog F.ζt)))
def ζ7b (k:Nat) (call:Caller) (a1 a2 a3 a4 a10 a11 a12 a17 a18 a19 a28:Value) (h:Heap):Res (AExit × Env) :=
 kSeq (pieceK (C k) call F.ζt [1,0,1,0,0,1,1,1]) (kRound (ownOf (C k) F.ζt [1,0,1,0,0])) .normal [(1,a1),(2,a2),(3,a3),(4,a4),(10,a10),(11,a11),(12,a12),(17,a17),(18,a18),(19,a19),(28,a28)] h
def ζ7c (k:Nat) (call:Caller) (a1 a2 a3 a4 a10 a11 a13 a17 a18 a19 a36:Value) (h:Heap):Res (AExit × Env) :=
 kSeq (pieceK (C k) call F.ζt [1,0,1,0,0,1,1,1]) (kRound (ownOf (C k) F.ζt [1,0,1,0,0])) .normal [(1,a1),(2,a2),(3,a3),(4,a4),(10,a10),(11,a11),(13,a13),(17,a17),(18,a18),(19,a19),(36,a36)] h
def ζt (k:Nat) (call:Caller) (a0 a1 a2 a3 a4:Value) (h:Heap):Res Value :=
 (allocR Prog 109 h).bind fun v1 h2 =>
 (nilR a0 h2).bind fun v3 h4 =>
 (fieldAddrR Prog 205 v3 0 h4).bind fun v5 h6 =>
 (loadR Prog 203 v5 h6).bind fun v7 h8 =>
 (builtinV Prog .len [203] [v7] h8).bind fun v9 h10 =>
 (loopN (ζ53 k call) loopFuel [(1,a1),(2,a2),(3,a3),(4,a4),(10,v1),(17,v7),(18,v9),(19,(.int .i64 0))] h10).bind fun r11 h12 =>
 ζ4f k call r11.1 r11.2 h12
theorem ζ7v (k:Nat) (a0 a1 a2 a3 a4:Value) (h:Heap):R (T k) F.ζt [a0,a1,a2,a3,a4] h = nrm .no h (ζt k (R (T k)) a0 a1 a2 a3 a4 h) :=
 (R_body (t:=T k) (T_scott k) (by kernel_rfl) (by kernel_rfl) _ _).trans (by kernel_rfl)
theorem ζ2g (k:Nat) (call:Caller) (a1 a2 a3 a4 a10 a17 a18 a19:Value) (h:Heap):ζ53 k call [(1,a1),(2,a2),(3,a3),(4,a4),(10,a10),(17,a17),(18,a18),(19,a19)] h =
 (binR Prog .lss 3 a19 a18 h).bind fun v13 h14 =>
 condV (some v13) (
 (indexAddrR Prog 203 a17 a19 h14).bind fun v15 h16 =>
 (loadR Prog 213 v15 h16).bind fun v17 h18 =>
 (allocR Prog 213 h18).bind fun v19 h20 =>
 (storeR Prog 213 v19 v17 h20).bind fun _v21 h22 =>
 (fieldAddrR Prog 213 v19 0 h22).bind fun v23 h24 =>
 (loadR Prog 209 v23 h24).bind fun v25 h26 =>
 (call F.ζ26 [v25,a3] h26).bind fun v27 h28 =>
 (unR .not v27 h28).bind fun v29 h30 =>
 condV (some v29) (
 ζ7b k call a1 a2 a3 a4 a10 a19 v19 a17 a18 a19 v29 h30)
 (
 (loadR Prog 213 v19 h30).bind fun v31 h32 =>
 (call F.ζ1 [v31,a1,a2,a3,a4] h32).bind fun v33 h34 =>
 (binR Prog .neq 37 v33 (.int .i64 0) h34).bind fun v35 h36 =>
 condV (some v35) (
 (buildR Prog 109 [(0,v33),(2,a19)] h36).bind fun v37 h38 =>
 (storeR Prog 109 a10 v37 h38).bind fun _v39 h40 =>
 .ok (.ret,[(10,a10)]) h40)
 (
 ζ7c k call a1 a2 a3 a4 a10 a19 v33 a17 a18 a19 v35 h36)))
 (
 .ok ((.exit 0),[(1,a1),(2,a2),(3,a3),(4,a4),(10,a10),(17,a17),(18,a18),(19,a19),(20,v13)]) h14) :=
 (loopB_eq _ _).trans (by kernel_rfl)
theorem ζ96 (k:Nat) (call:Caller) (a1 a2 a3 a4 a10 a11 a12 a17 a18 a19 a28:Value) (h:Heap):ζ7b k call a1 a2 a3 a4 a10 a11 a12 a17 a18 a19 a28 h =
 (binR Prog .add 3 a19 (.int .i64 1) h).bind fun v41 h42 =>
 .ok (.normal,[(1,a1),(2,a2),(3,a3),(4,a4),(10,a10),(17,a17),(18,a18),(19,v41)]) h42:=by kernel_rfl
theorem ζ97 (k:Nat) (call:Caller) (a1 a2 a3 a4 a10 a11 a13 a17 a18 a19 a36:Value) (h:Heap):ζ7c k call a1 a2 a3 a4 a10 a11 a13 a17 a18 a19 a36 h =
 (binR Prog .add 3 a19 (.int .i64 1) h).bind fun v43 h44 =>
 .ok (.normal,[(1,a1),(2,a2),(3,a3),(4,a4),(10,a10),(17,a17),(18,a18),(19,v43)]) h44:=by kernel_rfl
theorem ζ98 (k:Nat) (call:Caller) (a10:Value) (h:Heap):ζ4f k call .ret [(10,a10)] h =
 (loadR Prog 109 a10 h).bind fun v45 h46 =>
 .ok v45 h46:=by kernel_rfl
theorem ζ8m (k:Nat) (call:Caller) (a1 a2 a3 a4 a10 a17 a18 a19 a20:Value) (h:Heap):ζ4f k call (.exit 0) [(1,a1),(2,a2),(3,a3),(4,a4),(10,a10),(17,a17),(18,a18),(19,a19),(20,a20)] h =
 (buildR Prog 109 [] h).bind fun v47 h48 =>
 (storeR Prog 109 a10 v47 h48).bind fun _v49 h50 =>
 (loadR Prog 109 a10 h50).bind fun v51 h52 =>
 .ok v51 h52:=by kernel_rfl
def ζ5l (k:Nat) (call:Caller):Env → Heap → Res (AExit × Env):=loopB (C k) call F.ζ3d [1,1,1,1,1,0,1,0,0]
def ζas (k:Nat) (call:Caller):Kont Value:=kBlock 0 (kSeq (pieceK (C k) call F.ζ3d [1,1,1,1,1,1]) (kDone Prog (resOf Prog F.ζ3d)))
def ζ3d (k:Nat) (call:Caller) (a0 a1:Value) (h:Heap):Res Value :=
 (boxR a0 h).bind fun v1 h2 =>
 (loadR Prog 113 v1 h2).bindN fun v3 h4 =>
 (call F.ζ8 [v3,(.int .i64 0)] h4).bindT (fun p7 h8 => (loadR Prog 113 v1 h4).bindN fun v9 h10 => chkR ((okVal (loadR Prog 113 v1 h2) v9 && true) && true) (.panic p7 h8)) fun v5 h6 =>
 (loadR Prog 113 v1 h6).bindN fun v11 h12 =>
 (call F.ζb [v11,(.int .i64 4)] h12).bindT (fun p15 h16 => chkR ((okVal (loadR Prog 113 v1 h2) v11 && true) && true) (.panic p15 h16)) fun v13 h14 =>
 chkR ((okVal (loadR Prog 113 v1 h2) v11 && true) && true) (
 (binR Prog .geq 3 v5 (.int .i64 2) h14).bind fun v17 h18 =>
 ((bif wantVal v17 true then Res.ok v5 h18 else Res.ok undef h18)).bind fun v19 h20 =>
 ((bif wantVal v17 true then binR Prog .leq 3 v19 (.int .i64 4) h20 else Res.ok undef h20)).bind fun v21 h22 =>
 (condV (some v17) (Res.ok v21 h22) (Res.ok (.bool false) h22)).bind fun v23 h24 =>
 (call F.ζ1n [v23] h24).bind fun v25 h26 =>
 (buildR Prog 205 [] h26).bind fun v27 h28 =>
 (boxR v27 h28).bind fun v29 h30 =>
 (loopN (ζ5l k call) loopFuel [(1,a1),(2,v1),(7,v29),(8,(.int .i64 8)),(25,v13),(26,(.int .i64 0))] h30).bind fun r31 h32 =>
 ζas k call r31.1 r31.2 h32)
theorem ζjo (k:Nat) (a0 a1:Value) (h:Heap):R (T k) F.ζ3d [a0,a1] h = nrm .fz h (ζ3d k (R (T k)) a0 a1 h) :=
 (R_body (t:=T k) (T_scott k) (by kernel_rfl) (by kernel_rfl) _ _).trans (by kernel_rfl)
theorem ζ2m (k:Nat) (call:Caller) (a1 a2 a7 a8 a25 a26:Value) (h:Heap):ζ5l k call [(1,a1),(2,a2),(7,a7),(8,a8),(25,a25),(26,a26)] h =
 (binR Prog .lss 3 a26 a25 h).bind fun v33 h34 =>
 condV (some v33) (
 (loadR Prog 113 a2 h34).bind fun v35 h36 =>
 (call F.ζb [v35,a8] h36).bind fun v37 h38 =>
 (binR Prog .geq 3 v37 (.int .i64 12) h38).bind fun v39 h40 =>
 (call F.ζ1n [v39] h40).bind fun v41 h42 =>
 (loadR Prog 113 a2 h42).bind fun v43 h44 =>
 (call F.ζy [v43,a8,v37] h44).bind fun v45 h46 =>
 (allocR Prog 113 h46).bind fun v47 h48 =>
 (storeR Prog 113 v47 v45 h48).bind fun _v49 h50 =>
 (loadR Prog 113 v47 h50).bind fun v51 h52 =>
 (call F.ζb [v51,(.int .i64 4)] h52).bind fun v53 h54 =>
 (convR Prog 3 102 v53 h54).bind fun v55 h56 =>
 (call F.ζ4b [v55] h56).bind fun v57 h58 =>
 (allocR Prog 209 h58).bind fun v59 h60 =>
 (storeR Prog 209 v59 v57 h60).bind fun _v61 h62 =>
 (nilR a7 h62).bindN fun v63 h64 =>
 (fieldAddrR Prog 205 v63 0 h64).bindN fun v65 h66 =>
 (loadR Prog 203 v65 h66).bindN fun v67 h68 =>
 (loadR Prog 209 v59 h68).bindN fun v69 h70 =>
 (loadR Prog 209 v59 h70).bindN fun v71 h72 =>
 (loadR Prog 113 v47 h72).bindN fun v73 h74 =>
 (call F.ζg [v73,(.int .i64 12)] h74).bindT (fun p77 h78 => .panic p77 h78) fun v75 h76 =>
 (call F.ζ2h [v71,v75,a1] h76).bindT (fun p81 h82 => chkR ((okVal (loadR Prog 203 v65 h76) v67 && true) && ((okVal (loadR Prog 209 v59 h76) v69 && true) && ((okVal (loadR Prog 209 v59 h76) v71 && true) && true))) (.panic p81 h82)) fun v79 h80 =>
 (buildR Prog 213 [(0,v69),(1,v79)] h80).bindN fun v83 h84 =>
 (buildSliceR Prog 203 1 [(0,v83)] h84).bindN fun v85 h86 =>
 (builtinV Prog .append [203,203] [v67,v85] h86).bindN fun v87 h88 =>
 (nilR a7 h88).bindN fun v89 h90 =>
 (fieldAddrR Prog 205 v89 0 h90).bindN fun v91 h92 =>
 (storeR Prog 203 v91 v87 h92).bindN fun _v93 h94 =>
 chkR ((okVal (loadR Prog 203 v65 h76) v67 && (okVal (loadR Prog 203 v65 h80) v67 && (okVal (loadR Prog 203 v65 h86) v67 && true))) && ((okVal (loadR Prog 209 v59 h76) v69 && (okVal (loadR Prog 209 v59 h80) v69 && true)) && ((okVal (loadR Prog 209 v59 h76) v71 && true) && true))) (
 (binR Prog .add 3 a8 v37 h94).bind fun v95 h96 =>
 (binR Prog .add 3 a26 (.int .i64 1) h96).bind fun v97 h98 =>
 .ok (.normal,[(1,a1),(2,a2),(7,a7),(8,v95),(25,a25),(26,v97)]) h98))
 (
 .ok ((.exit 0),[(1,a1),(2,a2),(7,a7),(8,a8),(25,a25),(26,a26),(27,v33)]) h34) :=
 (loopB_eq _ _).trans (by kernel_rfl)
theorem ζc2 (k:Nat) (call:Caller) (a1 a2 a7 a8 a25 a26 a27:Value) (h:Heap):ζas k call (.exit 0) [(1,a1),(2,a2),(7,a7),(8,a8),(25,a25),(26,a26),(27,a27)] h =
 .ok a7 h:=by kernel_rfl
def ζ22 (k:Nat) (call:Caller) (a0 a1 a2:Value) (h:Heap):Res Value :=
 (loadR Prog 113 a0 h).bind fun v1 h2 =>
 (loadR Prog 3 a1 h2).bind fun v3 h4 =>
 (call F.ζ3d [v1,v3] h4).bind fun v5 h6 =>
 (storeR Prog 98 a2 v5 h6).bind fun _v7 h8 =>
 .ok (.tuple #[]) h8
theorem ζda (k:Nat) (a0 a1 a2:Value) (h:Heap):R (T k) F.ζ22 [a0,a1,a2] h = nrm .no h (ζ22 k (R (T k)) a0 a1 a2 h) :=
 (R_body (t:=T k) (T_scott k) (by kernel_rfl) (by kernel_rfl) _ _).trans (by kernel_rfl)
def ζdb (k:Nat) (call:Caller) (a1 a2 a4 a5:Value) (h:Heap):Res Value :=
 kSeq (pieceK CD call F.ζ1 [1,1]) (kDone Prog (resOf Prog F.ζ1)) .normal [(1,a1),(2,a2),(4,a4),(5,a5)] h
def ζdc (k:Nat) (call:Caller) (a1 a2 a4 a5 a14:Value) (h:Heap):Res Value :=
 kSeq (pieceK CD call F.ζ1 [1,1]) (kDone Prog (resOf Prog F.ζ1)) .normal [(1,a1),(2,a2),(4,a4),(5,a5),(14,a14)] h
def ζ1 (k:Nat) (call:Caller) (a0 a1 a2 a3 a4:Value) (h:Heap):Res Value :=
 (boxR a0 h).bind fun v1 h2 =>
 (fieldAddrR Prog 213 v1 0 h2).bind fun v3 h4 =>
 (loadR Prog 209 v3 h4).bind fun v5 h6 =>
 (call F.ζ15 [v5,a3] h6).bind fun v7 h8 =>
 condV (some v7) (
 (call F.ζ16 [a1] h8).bind fun v9 h10 =>
 (call F.ζi [a2] h10).bind fun v11 h12 =>
 ((.stuck:Res Value)).bind fun _v13 h14 =>
 ((.stuck:Res Value)).bind fun _v15 h16 =>
 ζdb k call a1 a2 a4 v1 h16)
 (
 ζdc k call a1 a2 a4 v1 v7 h8)
theorem ζ7w {β:Type} (f:Env → Heap → Kont β → Res β) (K:Kont β) (e:Env) (h:Heap):kSeq f K .normal e h = f e h K:=rfl
theorem ζ8s {β:Type} (k:Nat) (call:Caller) (a0 a1 a2 a3 a4:Value) (h:Heap) (K:Kont β):pieceK CD call F.ζ1 [0] [(0,a0),(1,a1),(2,a2),(3,a3),(4,a4)] h K =
 (  (boxR a0 h).bind fun v1 h2 =>
 K .normal [(1,a1),(2,a2),(3,a3),(4,a4),(5,v1)] h2):=by kernel_rfl
theorem ζ8t {β:Type} (k:Nat) (call:Caller) (a1 a2 a3 a4 v1:Value) (h2:Heap) (K:Kont β):pieceK CD call F.ζ1 [1,0,0] [(1,a1),(2,a2),(3,a3),(4,a4),(5,v1)] h2 K =
 (  (fieldAddrR Prog 213 v1 0 h2).bind fun v3 h4 =>
 (loadR Prog 209 v3 h4).bind fun v5 h6 =>
 (call F.ζ15 [v5,a3] h6).bind fun v7 h8 =>
 K .normal [(1,a1),(2,a2),(4,a4),(5,v1),(14,v7)] h8):=by kernel_rfl
theorem ζdd {β:Type} (k:Nat) (call:Caller) (a1 a2 a4 v1 v7:Value) (h8:Heap) (K:Kont β):pieceK CD call F.ζ1 [1,0,1,0,0] [(1,a1),(2,a2),(4,a4),(5,v1),(14,v7)] h8 K =
 (    (call F.ζ16 [a1] h8).bind fun v9 h10 =>
 K .normal [(1,a1),(2,a2),(4,a4),(5,v1)] h10):=by kernel_rfl
theorem ζc3 {β:Type} (k:Nat) (call:Caller) (a1 a2 a4 v1:Value) (h10:Heap) (K:Kont β):pieceK CD call F.ζ1 [1,0,1,0,1,0] [(1,a1),(2,a2),(4,a4),(5,v1)] h10 K =
 (    (call F.ζi [a2] h10).bind fun v11 h12 =>
 K .normal [(1,a1),(2,a2),(4,a4),(5,v1)] h12):=by kernel_rfl
theorem ζc4 {β:Type} (k:Nat) (call:Caller) (e:Env) (h:Heap) (K:Kont β):pieceK CD call F.ζ1 [1,1] e h K = pieceK CD call F.ζ1 [1,1,0] e h (kSeq (pieceK CD call F.ζ1 [1,1,1]) K):=by kernel_rfl
theorem ζc5 {β:Type} (k:Nat) (call:Caller) (a1 a2 a4 a5:Value) (h:Heap) (K:Kont β):pieceK CD call F.ζ1 [1,1,0] [(1,a1),(2,a2),(4,a4),(5,a5)] h K =
 (  (fieldAddrR Prog 213 a5 1 h).bind fun v17 h18 =>
 (loadR Prog 211 v17 h18).bind fun v19 h20 =>
 (fieldAddrR Prog 213 a5 0 h20).bind fun v21 h22 =>
 (fieldAddrR Prog 209 v21 1 h22).bind fun v23 h24 =>
 (loadR Prog 4 v23 h24).bind fun v25 h26 =>
 (invokeR Prog call v19 kmvN [a1,a2,a4,v25] h26).bind fun v27 h28 =>
 K .normal [(10,v27)] h28):=by kernel_rfl
theorem ζc6 {β:Type} (k:Nat) (call:Caller) (e:Env) (h:Heap) (K:Kont β):pieceK CD call F.ζ1 [1,1,1] e h K = K .ret e h:=by kernel_rfl
theorem ζ7x (v27:Value) (h28:Heap):kDone Prog (resOf Prog F.ζ1) .ret [(10,v27)] h28 =
 (  .ok v27 h28):=by kernel_rfl
theorem ζc7 {β:Type} (k:Nat) (call:Caller) (e:Env) (h:Heap) (K:Kont β):pieceK CD call F.ζ1 [1,1] e h K = pieceK CD call F.ζ1 [1,1,0] e h (kSeq (pieceK CD call F.ζ1 [1,1,1]) K):=by kernel_rfl
theorem ζc8 {β:Type} (k:Nat) (call:Caller) (a1 a2 a4 a5 a14:Value) (h:Heap) (K:Kont β):pieceK CD call F.ζ1 [1,1,0] [(1,a1),(2,a2),(4,a4),(5,a5),(14,a14)] h K =
 (  (fieldAddrR Prog 213 a5 1 h).bind fun v29 h30 =>
 (loadR Prog 211 v29 h30).bind fun v31 h32 =>
 (fieldAddrR Prog 213 a5 0 h32).bind fun v33 h34 =>
 (fieldAddrR Prog 209 v33 1 h34).bind fun v35 h36 =>
 (loadR Prog 4 v35 h36).bind fun v37 h38 =>
 (invokeR Prog call v31 kmvN [a1,a2,a4,v37] h38).bind fun v39 h40 =>
 K .normal [(10,v39)] h40):=by kernel_rfl
theorem ζc9 {β:Type} (k:Nat) (call:Caller) (e:Env) (h:Heap) (K:Kont β):pieceK CD call F.ζ1 [1,1,1] e h K = K .ret e h:=by kernel_rfl
def ζ2h (k:Nat) (call:Caller) (a0 a1 a2:Value) (h:Heap):Res Value :=
 (boxR a0 h).bind fun v1 h2 =>
 (boxR a1 h2).bind fun v3 h4 =>
 (fieldAddrR Prog 209 v1 2 h4).bind fun v5 h6 =>
 (loadR Prog 4 v5 h6).bind fun v7 h8 =>
 condV (some v7) (
 (buildR Prog 248 [] h8).bind fun v9 h10 =>
 (ifaceR Prog 248 v9 h10).bind fun v11 h12 =>
 .ok v11 h12)
 (
 (fieldAddrR Prog 209 v1 0 h8).bind fun v13 h14 =>
 (fieldAddrR Prog 207 v13 0 h14).bind fun v15 h16 =>
 (loadR Prog 3 v15 h16).bind fun v17 h18 =>
 (binR Prog .eql 3 v17 (.int .i64 0) h18).bind fun v19 h20 =>
 ((bif wantVal v19 false then fieldAddrR Prog 209 v1 0 h20 else Res.ok undef h20)).bind fun v21 h22 =>
 ((bif wantVal v19 false then fieldAddrR Prog 207 v21 0 h22 else Res.ok undef h22)).bind fun v23 h24 =>
 ((bif wantVal v19 false then loadR Prog 3 v23 h24 else Res.ok undef h24)).bind fun v25 h26 =>
 ((bif wantVal v19 false then binR Prog .eql 3 v25 (.int .i64 2) h26 else Res.ok undef h26)).bind fun v27 h28 =>
 (condV (some v19) (Res.ok (.bool true) h28) (Res.ok v27 h28)).bind fun v29 h30 =>
 ((bif wantVal v29 false then fieldAddrR Prog 209 v1 0 h30 else Res.ok undef h30)).bind fun v31 h32 =>
 ((bif wantVal v29 false then fieldAddrR Prog 207 v31 0 h32 else Res.ok undef h32)).bind fun v33 h34 =>
 ((bif wantVal v29 false then loadR Prog 3 v33 h34 else Res.ok undef h34)).bind fun v35 h36 =>
 ((bif wantVal v29 false then binR Prog .eql 3 v35 (.int .i64 6) h36 else Res.ok undef h36)).bind fun v37 h38 =>
 (condV (some v29) (Res.ok (.bool true) h38) (Res.ok v37 h38)).bind fun v39 h40 =>
 condV (some v39) (
 (fieldAddrR Prog 209 v1 0 h40).bind fun v41 h42 =>
 (fieldAddrR Prog 207 v41 0 h42).bind fun v43 h44 =>
 (loadR Prog 3 v43 h44).bind fun v45 h46 =>
 (loadR Prog 113 v3 h46).bind fun v47 h48 =>
 (call F.ζio [v45,v47,a2] h48).bind fun v49 h50 =>
 (buildR Prog 252 [(0,v49)] h50).bind fun v51 h52 =>
 (ifaceR Prog 252 v51 h52).bind fun v53 h54 =>
 .ok v53 h54)
 (
 (fieldAddrR Prog 209 v1 0 h40).bind fun v55 h56 =>
 (fieldAddrR Prog 207 v55 0 h56).bind fun v57 h58 =>
 (loadR Prog 3 v57 h58).bind fun v59 h60 =>
 (binR Prog .eql 3 v59 (.int .i64 1) h60).bind fun v61 h62 =>
 condV (some v61) (
 (loadR Prog 113 v3 h62).bind fun v63 h64 =>
 (call F.ζ84 [v63,a2] h64).bind fun v65 h66 =>
 (buildR Prog 254 [(0,v65)] h66).bind fun v67 h68 =>
 (ifaceR Prog 254 v67 h68).bind fun v69 h70 =>
 .ok v69 h70)
 (
 (fieldAddrR Prog 209 v1 0 h62).bind fun v71 h72 =>
 (fieldAddrR Prog 207 v71 0 h72).bind fun v73 h74 =>
 (loadR Prog 3 v73 h74).bind fun v75 h76 =>
 (binR Prog .eql 3 v75 (.int .i64 4) h76).bind fun v77 h78 =>
 condV (some v77) (
 (loadR Prog 113 v3 h78).bind fun v79 h80 =>
 (call F.ζ32 [v79,a2] h80).bind fun v81 h82 =>
 (buildR Prog 256 [(0,v81)] h82).bind fun v83 h84 =>
 (ifaceR Prog 256 v83 h84).bind fun v85 h86 =>
 .ok v85 h86)
 (
 (buildR Prog 248 [] h78).bind fun v87 h88 =>
 (ifaceR Prog 248 v87 h88).bind fun v89 h90 =>
 .ok v89 h90))))
theorem ζew (k:Nat) (a0 a1 a2:Value) (h:Heap):R (T k) F.ζ2h [a0,a1,a2] h = nrm .gc h (ζ2h k (R (T k)) a0 a1 a2 h) :=
 (R_body (t:=T k) (T_scott k) (by kernel_rfl) (by kernel_rfl) _ _).trans (by kernel_rfl)
def ζ3a (k:Nat) (call:Caller) (a0 a1 a2 a3 a4:Value) (h:Heap):Res Value :=
 (boxR a0 h).bind fun v1 h2 =>
 (fieldAddrR Prog 256 v1 0 h2).bind fun v3 h4 =>
 (loadR Prog 75 v3 h4).bind fun v5 h6 =>
 (call F.ζ31 [v5,a1,a2,a3] h6).bind fun v7 h8 =>
 .ok v7 h8
theorem ζb4 (k:Nat) (a0 a1 a2 a3 a4:Value) (h:Heap):R (T k) F.ζ3a [a0,a1,a2,a3,a4] h = nrm .no h (ζ3a k (R (T k)) a0 a1 a2 a3 a4 h) :=
 (R_body (t:=T k) (T_scott k) (by kernel_rfl) (by kernel_rfl) _ _).trans (by kernel_rfl)
end
end Go.Sw
end
section
namespace Go.Sw
open Go.RowKit
inductive Mv where
 | no
 | pairs (t:PTab)
 | stacks (t:STab)
 | binds (t:BTab)
def Mv.ok:Mv → Prop
 | .no => True
 | .pairs t => t.ok
 | .stacks t => t.ok
 | .binds t => t.ok
abbrev tyNo:Nat:=248
abbrev tyPairs:Nat:=252
abbrev tyStacks:Nat:=254
abbrev tyBinds:Nat:=256
def mvV:Mv → Value
 | .no => .iface tyNo (.agg #[])
 | .pairs t => .iface tyPairs (.agg #[ptabV t])
 | .stacks t => .iface tyStacks (.agg #[stackV t])
 | .binds t => .iface tyBinds (.agg #[bindV t])
theorem Flat.mv (m:Mv):Flat (mvV m):=by
 cases m with
 | no => exact .iface _ _ (.aggL .nil)
 | pairs t => exact .iface _ _ (.aggL (.cons (Flat.ptab t) .nil))
 | stacks t => exact .iface _ _ (.aggL (.cons (Flat.stack t) .nil))
 | binds t => exact .iface _ _ (.aggL (.cons (Flat.bind t) .nil))
theorem mv_fz (m:Mv) (n0:Nat) (H:Heap) (d:Nat):fzV n0 H (d + 3) (mvV m) = some (mvV m,[]):=by cases m <;> rfl
theorem mv_cells (m:Mv):(mvV m).cells = #[mvV m]:=by cases m <;> rfl
theorem mv_st (m:Mv):storable (mvV m) = true:=by cases m <;> rfl
def mvS (c:Cov) (b:List Int) (g:Int):Option Mv :=
 if c.var then some .no else
 if c.kind = 0 ∨ c.kind = 2 ∨ c.kind = 6 then (pTakeS c.kind b g).map .pairs else
 if c.kind = 1 then (stackS b g).map .stacks else
 if c.kind = 4 then (bindS b g).map .binds else some .no
end Go.Sw
end
section
namespace Go.Sw
open Go.RowKit
structure KSub where
 cov:Cov
 mv:Mv
abbrev encK (x:KSub):List Value:=[.int .i64 x.cov.kind,.bool x.cov.vert,.bool x.cov.back,.bool x.cov.cross,.bool x.cov.var,mvV x.mv]
theorem encK_len (x:KSub):(encK x).length = 6:=rfl
def ksubS (b:List Int) (g at_:Int):Option (Int × KSub):=(uS b at_ 4).bind fun size => if 12 ≤ size then (pieceS b at_ size).bind fun s => (uS s 4 4).bind fun w => (restS s 12).bind fun r => (mvS (covS w) r g).map fun m => (size,⟨covS w,m⟩) else none
def ksubsTo (b:List Int) (g:Int):Nat → Option (List KSub × Int)
 | 0 => some ([],8)
 | n + 1 => (ksubsTo b g n).bind fun x => (ksubS b g x.2).map fun y => (x.1 ++ [y.2],x.2 + y.1)
def kerxS (b:List Int) (g:Int):Option (List KSub):=(uS b 0 2).bind fun kind => (uS b 4 4).bind fun n => if 2 ≤ kind ∧ kind ≤ 4 then (ksubsTo b g n.toNat).map Prod.fst else none
abbrev kerxV (l:List KSub):Value:=boxV #[lv encK l]
theorem Flat.kerx (l:List KSub):Flat (kerxV l):=.boxV (l:=[Go.Sw.lv encK l]) (.cons (Flat.lv fun x _ => .cons (.int _ _) (.cons (.bool _) (.cons (.bool _) (.cons (.bool _) (.cons (.bool _) (.cons (Flat.mv _) .nil)))))) .nil)
theorem ζca {b:List Int} {g:Int} {j n:Nat} (h:ksubsTo b g j = none) (hn:j ≤ n):ksubsTo b g n = none:=by
 induction hn with
 | refl => exact h
 | step _ ih => simp only [ksubsTo,ih,Option.bind_none]
theorem ζmr {b:List Int} {g at_:Int} {y:Int × KSub} (h:ksubS b g at_ = some y):0 ≤ at_ ∧ 12 ≤ y.1 ∧ at_ + y.1 ≤ b.length:=by
 unfold ksubS at h;obtain ⟨size,_,h⟩:=Option.bind_eq_some_iff.1 h;split at h
 ·rename_i hs;obtain ⟨s,hp,h⟩:=Option.bind_eq_some_iff.1 h;obtain ⟨w,_,h⟩:=Option.bind_eq_some_iff.1 h;obtain ⟨r,_,h⟩:=Option.bind_eq_some_iff.1 h;obtain ⟨m,_,rfl⟩:=Option.map_eq_some_iff.1 h;have:=(ζ2w.1 hp).1;dsimp only;omega
 ·cases h
theorem ζdw {b:List Int} {g:Int}:∀ {n:Nat} {x:List KSub × Int},ksubsTo b g n = some x → x.1.length = n ∧ 12 * (x.1.length:Int) + 8 ≤ x.2 ∧ (x.2 ≤ b.length ∨ x.2 = 8)
 | 0,x,h => by injection h with h; subst h; simp
 | n + 1,x,h => by
  simp only [ksubsTo] at h;obtain ⟨z,hz,h⟩:=Option.bind_eq_some_iff.1 h;obtain ⟨y,hy,rfl⟩:=Option.map_eq_some_iff.1 h;have h1:=ζdw hz;have h2:=ζmr hy;simp only [List.length_append,List.length_singleton];omega
set_option maxHeartbeats 1000000 in
theorem ζjm (k:Nat) {b:List Int} (hb:Byt b) (g:Int) (hl:b.length < 2 ^ 31) (P:Int → Prop) (hmv0:∀ w r,P w → Byt r → r.length < 2 ^ 31 → ∀ H',R (T k) F.ζ2h [covV (covS w),vwB r,.int .i64 g] H' = orF (mvS (covS w) r g) mvV H') (hP:∀ j x,ksubsTo b g j = some x → ∀ size sb w,uS b x.2 4 = some size → pieceS b x.2 size = some sb → uS sb 4 4 = some w → P w) (n:Nat) (hn:n < 2 ^ 33) {p2 p7:Nat} {H0 H:Heap} (st:Star H0 H [itBlk p2 ⟨[lv encB b],1,false⟩,itBlk p7 ⟨[.slice none 0 0],1,false⟩]) :
  (∃ z a s o H' l,loopN (ζ5l k (R (T k))) loopFuel [(1,.int .i64 g),(2,ptrV p2),(7,ptrV p7),(8,.int .i64 8),(25,.int .i64 n),(26,.int .i64 0)] H = .ok (.exit 0,[(1,.int .i64 g),(2,ptrV p2),(7,ptrV p7),(8,a),(25,.int .i64 n),(26,z),(27,.bool false)]) H' ∧
   Star H0 H' [itBlk p2 ⟨[lv encB b],1,false⟩,itBlk p7 ⟨[s],1,false⟩,itRow o 6 s encK l] ∧ (ksubsTo b g n).map Prod.fst = some l) ∨
  (∃ H',loopN (ζ5l k (R (T k))) loopFuel [(1,.int .i64 g),(2,ptrV p2),(7,ptrV p7),(8,.int .i64 8),(25,.int .i64 n),(26,.int .i64 0)] H = .panic failV H' ∧ Ext H0 H' ∧ ksubsTo b g n = none):=by
 have st0:=st.more_row (Ext.refl _) (OwnO.nil encK _ 6) (fun b hb => by cases hb);simp only [List.cons_append,List.nil_append] at st0
 rcases loop_upP (body:=ζ5l k (R (T k))) n
  (fun j e' H' => ∃ l at_ s o,e' = [(1,.int .i64 g),(2,ptrV p2),(7,ptrV p7),(8,.int .i64 at_),(25,.int .i64 n),(26,.int .i64 j)] ∧ Star H0 H' [itBlk p2 ⟨[lv encB b],1,false⟩,itBlk p7 ⟨[s],1,false⟩,itRow o 6 s encK l] ∧ ksubsTo b g j = some (l,at_))
  (fun xx e' H' => xx = .exit 0 ∧ ∃ z a s o l,e' = [(1,.int .i64 g),(2,ptrV p2),(7,ptrV p7),(8,a),(25,.int .i64 n),(26,z),(27,.bool false)] ∧ Star H0 H' [itBlk p2 ⟨[lv encB b],1,false⟩,itBlk p7 ⟨[s],1,false⟩,itRow o 6 s encK l] ∧ (ksubsTo b g n).map Prod.fst = some l)
  (fun v H' => v = failV ∧ Ext H0 H' ∧ ksubsTo b g n = none)
  (fun j e' H' hj ⟨l,at_,s,o,he',st,hsub⟩ => by
   subst he';have hjl:(j:Int) < n:=by omega
   have hfit:=ζdw hsub;dsimp only at hfit;have b2:=st.get 0 rfl;have b7:=st.get 1 rfl;have hvb:veq (vwB b) (vwB b) = true:=veq_agg (l:=[lv encB b]) fun u hu => by simp at hu; subst hu; exact veq_B b
   have hu:=fun H' => U32_run k (Sl.lv H' 1 b) hb at_ (by omega);have hnone:ksubS b g at_ = none → ksubsTo b g n = none:=fun h => ζca (j:=j + 1) (by simp only [ksubsTo,hsub,Option.bind_some,h]; rfl) (by omega);cases hsz:uS b at_ 4 with
   | none =>
    rw [hsz] at hu;refine .inr (.inr ⟨failV,H',?_,rfl,st.ext,hnone (by unfold ksubS; rw [hsz]; rfl)⟩);rw [ζ2m];simp -implicitDefEqProofs (disch:=omega) [hjl,b2,hu,orF]
   | some size =>
    rw [hsz] at hu;have hszb:=uS_four hb hsz;by_cases hs12:12 ≤ size;rotate_left
    ·have hge:¬ size ≥ 12:=by omega
     have hnd:=fun H => ζ6k k H;refine .inr (.inr ⟨failV,H',?_,rfl,st.ext,hnone (by unfold ksubS; rw [hsz,Option.bind_some,if_neg hs12])⟩);rw [ζ2m];simp -implicitDefEqProofs (disch:=omega) [hjl,b2,hu,orF,hge,hnd]
    have hge:size ≥ 12:=hs12;have hnd:=fun H => ζ9h k H;have hcut:=fun H' => Cut_lv k b at_ size (by omega) H';cases hp:pieceS b at_ size with
    | none =>
     rw [hp] at hcut;refine .inr (.inr ⟨failV,H',?_,rfl,st.ext,hnone (by unfold ksubS; rw [hsz,Option.bind_some,if_pos hs12,hp]; rfl)⟩);rw [ζ2m];simp -implicitDefEqProofs (disch:=omega) [hjl,b2,hu,orF,hge,hnd,hcut]
    | some sb =>
     rw [hp] at hcut;have hpb:=hb.piece hp;have hpl:=(ζ2w.1 hp).1;have hu4:=fun H' => U32_run k (Sl.lv H' 1 sb) hpb.1 4 (by omega);obtain ⟨w,hw⟩:∃ w,uS sb 4 4 = some w:=uS_of_in (by unfold inS; simp; omega);rw [hw] at hu4;have hwb:=uS_four hpb.1 hw;have hr12:=fun H' => Rest_lv k sb 12 (by omega) (by omega) H';obtain ⟨r,hr⟩:∃ r,restS sb 12 = some r:=by unfold restS; rw [if_pos ⟨by omega,by omega⟩]; exact ⟨_,rfl⟩
     rw [hr] at hr12;have hrl:=ζ4l hr;have hof:=fun H' => ζl7 k w hwb.1 hwb.2 H';have hww:IntKind.u32.wrap w = w:=by unfold IntKind.wrap; simp [IntKind.signed,IntKind.bits]; omega
     have hmv:=hmv0 w r (hP j _ hsub _ _ _ hsz hp hw) (hpb.1.rest hr) (by omega);have hvs:=(st.row 2 rfl).veq;have hss:=(st.row 2 rfl).storable;have hsc:=(st.row 2 rfl).cells;have hvc:veq (covV (covS w)) (covV (covS w)) = true:=veq_agg (l:=encCov (covS w)) fun u hu => by
      simp at hu; rcases hu with rfl | rfl | rfl | rfl | rfl <;> simp
     have hvsb:veq (vwB sb) (vwB sb) = true:=veq_agg (l:=[lv encB sb]) fun u hu => by simp at hu; subst hu; exact veq_B sb
     have g1:=(st.push ⟨[lv encB sb],1,false⟩).push ⟨encCov (covS w),1,false⟩;simp only [List.cons_append,List.nil_append] at g1;have c7:=g1.get 1 rfl;have hne:¬ p7 = H'.n:=by have:=Heap.get_lt b7; omega
     have hne3:¬ p7 = H'.n + 1 + 1:=by have:=Heap.get_lt b7; omega
     have hne2:¬ p7 = H'.n + 1:=by have:=Heap.get_lt b7; omega
     have hS:ksubS b g at_ = (mvS (covS w) r g).map fun m => (size,⟨covS w,m⟩):=by unfold ksubS; rw [hsz,Option.bind_some,if_pos hs12,hp,Option.bind_some,hw,Option.bind_some,hr,Option.bind_some]
     generalize covS w = cv at hof hmv hvc g1 hS c7;cases hm:mvS cv r g with
     | none =>
      rw [hm] at hmv hS;refine .inr (.inr ⟨failV,_,?_,rfl,g1.ext,hnone hS⟩);rw [ζ2m];simp -implicitDefEqProofs (disch:=omega) [hjl,b2,hu,orF,hge,hnd,hcut,hu4,hww,hof,b7,hne,hne2,hr12,hmv,hvs,hvc,hvsb]
     | some m =>
      rw [hm] at hmv hS;obtain ⟨s',o',H2,e2,g2⟩:=g1.append1 (bytes:=40) 2 encK_len rfl ⟨cv,m⟩ (by omega) (by decide);simp only [List.set_cons_zero,List.set_cons_succ] at g2;obtain ⟨H3,e3,g3,_⟩:=g2.stCell 1 rfl 0 (g2.row 2 rfl).storable (g2.row 2 rfl).cells (by simp);simp only [List.set_cons_zero,List.set_cons_succ] at g3;refine .inl ⟨_,H3,?_,l ++ [⟨cv,m⟩],at_ + size,s',o',rfl,by simpa using g3.take 3,by simp only [ksubsTo,hsub,Option.bind_some,hS,Option.map_some]⟩;have w1:IntKind.i64.wrap (at_ + size) = at_ + size:=wrap_i64 (by omega) (by omega);have w2:IntKind.i64.wrap ((j:Int) + 1) = ((j + 1:Nat):Int):=by rw [wrap_i64 (by omega) (by omega)]; omega
      have e2:apR 6 40 s (.slice (some ⟨H'.n + 1 + 1,0,none⟩) 1 1) (((H'.push ⟨[lv encB sb],1,false⟩).push ⟨encCov cv,1,false⟩).push ⟨[.int .i64 cv.kind,.bool cv.vert,.bool cv.back,.bool cv.cross,.bool cv.var,mvV m],6,false⟩) = .ok s' H2:=e2;have c7':((H'.push ⟨[lv encB sb],1,false⟩).push ⟨encCov cv,1,false⟩).get p7 = some ⟨[s],1,false⟩:=c7;rw [ζ2m];simp -implicitDefEqProofs (disch:=omega) [-stR_ptr,stR_ptr 1 H'.n 0,stR_ptr 5 (H'.n + 1) 0,hjl,b2,hu,orF,hge,hnd,hcut,hu4,hww,hof,b7,hne,hne2,hne3,hr12,hmv,hvs,hvc,hvsb,mv_cells,mv_st,e2,e3,w1,w2]
      )
  (fun e' H' ⟨l,at_,s,o,he',st,hsub⟩ => by
   subst he';refine .inl ⟨.exit 0,_,H',?_,by simp,rfl,.int .i64 n,.int .i64 at_,s,o,l,rfl,st,by rw [hsub]; rfl⟩;rw [ζ2m];simp -implicitDefEqProofs) loopFuel 0 [(1,.int .i64 g),(2,ptrV p2),(7,ptrV p7),(8,.int .i64 8),(25,.int .i64 n),(26,.int .i64 0)] H (Nat.zero_le _) (by unfold loopFuel; omega) ⟨[],8,.slice none 0 0,none,rfl,st0,rfl⟩ with ⟨xx,e',H1,hr,rfl,z,a,s,o,l,rfl,st,hs⟩ | ⟨v,H1,hr,rfl,hx,hs⟩
 ·exact .inl ⟨z,a,s,o,H1,l,hr,st,hs⟩
 ·exact .inr ⟨H1,hr,hx,hs⟩
theorem ζg8 (k:Nat) (b:List Int) (hb:Byt b) (g:Int) (hl:b.length < 2 ^ 31) (P:Int → Prop) (hmv0:∀ w r,P w → Byt r → r.length < 2 ^ 31 → ∀ H',R (T k) F.ζ2h [covV (covS w),vwB r,.int .i64 g] H' = orF (mvS (covS w) r g) mvV H') (hP:∀ j x,ksubsTo b g j = some x → ∀ size sb w,uS b x.2 4 = some size → pieceS b x.2 size = some sb → uS sb 4 4 = some w → P w) (H:Heap):R (T k) F.ζ3d [vwB b,.int .i64 g] H = orF (kerxS b g) kerxV H:=by
 rw [ζjo];refine fz_orF ?_ fun _ _ => (Flat.kerx _).alive;have hx:Ext H (H.push ⟨[lv encB b],1,false⟩):=(Ext.refl H).push _;have hvb:veq (vwB b) (vwB b) = true:=veq_agg (l:=[lv encB b]) fun u hu => by simp at hu; subst hu; exact veq_B b
 unfold kerxS;simp -implicitDefEqProofs (disch:=omega) [ζ3d];refine Cp.callT (U16_run k (Sl.lv _ 1 b) hb 0 (by omega)) (fun _ => ⟨_,by simp -implicitDefEqProofs (disch:=omega) [hvb],hx⟩) fun kind hkind => ?_;simp -implicitDefEqProofs (disch:=omega) [hvb];refine Cp.callT (U32_run k (Sl.lv _ 1 b) hb 4 (by omega)) (fun _ => ⟨_,by simp -implicitDefEqProofs (disch:=omega) [hvb],hx⟩) fun n hn => ?_;have hnb:=uS_four hb hn;simp -implicitDefEqProofs (disch:=omega) [hvb];by_cases h2:2 ≤ kind;rotate_left
 ·rw [if_neg (fun h => h2 h.1)];have hnd:=fun H => ζ6k k H;simp -implicitDefEqProofs (disch:=omega) [h2,hnd];exact .throw hx
 simp -implicitDefEqProofs (disch:=omega) only [h2,true_and,decide_true,cond_true];simp -implicitDefEqProofs (disch:=omega);refine Cp.need hx fun h4 => ?_;simp -implicitDefEqProofs (disch:=omega);have st:=(((Star.nil H).push ⟨[lv encB b],1,false⟩).push ⟨[.slice none 0 0],1,false⟩)
 simp only [List.nil_append,List.cons_append,hn_push] at st;obtain ⟨N,rfl⟩:∃ N:Nat,n = (N:Int):=⟨n.toNat,by omega⟩
 rw [Int.toNat_natCast];rcases ζjm k hb g hl P hmv0 hP N (by omega) st with ⟨z,a,s,o,H',l,hr,st3,hs⟩ | ⟨H',hr,hx3,hs⟩
 ·rw [hs];have c7:=st3.get 1 rfl;simp -implicitDefEqProofs (disch:=omega) [hr,ζc2];refine .ok st3.ext ?_;obtain ⟨L,hf⟩:=(st3.own 2 rfl).freezeG (enc':=encK) encK_len 5 fun x _ =>
   ⟨_,ζ1s (v:=.int .i64 x.cov.kind) (u:=.int .i64 x.cov.kind) (L1:=[]) rfl (ζ1s (v:=.bool x.cov.vert) (u:=.bool x.cov.vert) (L1:=[]) rfl (ζ1s (v:=.bool x.cov.back) (u:=.bool x.cov.back) (L1:=[]) rfl (ζ1s (v:=.bool x.cov.cross) (u:=.bool x.cov.cross) (L1:=[]) rfl (ζ1s (v:=.bool x.cov.var) (u:=.bool x.cov.var) (L1:=[]) rfl (mapF_one (mv_fz x.mv _ _ _))))))⟩
  exact ⟨_,fz_box (by omega) c7 (mapF_one hf)⟩
 ·rw [Option.map_eq_none_iff.2 hs];simp -implicitDefEqProofs (disch:=omega) [hr];exact ⟨H',rfl,hx3⟩
end Go.Sw
end
section
namespace Go.Sw
open Go.RowKit
def kerxP (o:Option (List KSub)):Value:=match o with | some t => kerxV t | none => .pointer none
theorem ζkz (o:Option (List KSub)):Flat (kerxP o):=by
 cases o with
 | none => exact .nilPtr
 | some t => exact Flat.kerx t
theorem ζhh (k:Nat) {H:Heap} (b:List Int) (hb:Byt b) (g:Int) (hg:1 ≤ g ∧ g ≤ 65535) (hl:b.length < 2 ^ 31) (p2 p3 p4:Nat) (old:Value)
  (h2:H.get p2 = some ⟨[lv encB b],1,false⟩) (h3:H.get p3 = some ⟨[.int .i64 g],1,false⟩) (h4:H.get p4 = some ⟨[old],1,false⟩) (ht:∀ H',R (T k) F.ζ3d [vwB b,.int .i64 g] H' = orF (kerxS b g) kerxV H') :
  R (T k) F.ζ22 [ptrV p2,ptrV p3,ptrV p4] H = match kerxS b g with
   | some t => .ok (.tuple #[]) (H.set p4 (some ⟨[kerxV t],1,false⟩))
   | none => .panic failV H:=by
 rw [ζda];have ht:=ht H;cases h:kerxS b g with
 | none =>
  rw [h] at ht;refine ζv ⟨H,?_,Ext.refl H⟩ Flat.fail.alive;simp -implicitDefEqProofs (disch:=omega) [ζ22,h2,h3,ht]
 | some x =>
  rw [h] at ht;simp -implicitDefEqProofs (disch:=omega) [ζ22,h2,h3,h4,ht]
def kerxO (b:List Int) (g:Int):Option (List KSub):=if 1 ≤ g ∧ g ≤ 65535 then kerxS b g else none
def kerxN (b:List Int) (g:Int):Int:=if 1 ≤ g ∧ g ≤ 65535 then (if (kerxS b g).isSome then 0 else 2) else 1
theorem ζhg (k:Nat) {H:Heap} {v:Value} {b:List Int} (hv:Sl H 1 v encB b) (hb:Byt b) (g:Int) (hl:b.length ≤ 2 ^ 30) (ht:(1 ≤ g ∧ g ≤ 65535) → ∀ H',R (T k) F.ζ3d [vwB b,.int .i64 g] H' = orF (kerxS b g) kerxV H') :
  R (T k) F.ζ59 [v,.int .i64 g] H = .ok (.tuple #[kerxP (kerxO b g),.int .i64 (kerxN b g)]) H:=by
 rw [ζjn];have hx2:=(Ext.refl H).push ⟨[.int .i64 g],1,false⟩;have al:∀ o n,Alive H (.tuple #[kerxP o,.int .i64 n]):=fun o n => (Flat.tupleL (l:=[kerxP o,.int .i64 n]) (.cons (ζkz o) (.cons (.int _ _) .nil))).alive;have fz:∀ H' o n,fzV H.n H' fzDepth (.tuple #[kerxP o,.int .i64 n]) = some (.tuple #[kerxP o,.int .i64 n],[]):=fun H' o n => by
  cases o <;> rfl
 by_cases hgg:1 ≤ g ∧ g ≤ 65535
 ·have c1:¬ g < 1:=by omega
  have c2:¬ g > 65535:=by omega
  have hx3:=hx2.push ⟨[.pointer none],1,false⟩;have o3:=Of_run k (hv.up hx3);have by3:=ζhx k (hv.up hx3) hl;have o4:=fun H => Of_lv k b H;have hin:=ζhh k (H:=((H.push ⟨[.int .i64 g],1,false⟩).push ⟨[.pointer none],1,false⟩).push ⟨[lv encB b],1,false⟩) b hb g hgg (by omega) (H.n + 2) H.n (H.n + 1) (.pointer none) (by simp) (by simp) (by simp) (ht hgg);cases hlk:kerxS b g with
  | none =>
   rw [hlk] at hin;have ht:=Try_no k F.ζ22 #[ptrV (H.n + 2),ptrV H.n,ptrV (H.n + 1)] hin;refine nrm_fz (H':=((H.push ⟨[.int .i64 g],1,false⟩).push ⟨[.pointer none],1,false⟩).push ⟨[lv encB b],1,false⟩) (v:=.tuple #[kerxP none,.int .i64 2]) ?_ (by unfold kerxO kerxN; rw [if_pos hgg,if_pos hgg,hlk]; exact fz _ _ _) (hx3.push _) (al _ _);simp -implicitDefEqProofs (disch:=omega) [ζ59,c1,c2,o3,by3,o4,ht,kerxP]
  | some x =>
   rw [hlk] at hin;have ht:=Try_ok k F.ζ22 #[ptrV (H.n + 2),ptrV H.n,ptrV (H.n + 1)] hin;refine nrm_fz (H':=((H.push ⟨[.int .i64 g],1,false⟩).push ⟨[kerxV x],1,false⟩).push ⟨[lv encB b],1,false⟩) (v:=.tuple #[kerxP (some x),.int .i64 0]) ?_ (by unfold kerxO kerxN; rw [if_pos hgg,if_pos hgg,hlk]; exact fz _ _ _) ((hx2.push _).push _) (al _ _);simp at ht;simp -implicitDefEqProofs (disch:=omega) [ζ59,c1,c2,o3,by3,o4,ht,kerxP]
 ·refine nrm_fz (H':=(H.push ⟨[.int .i64 g],1,false⟩).push ⟨[.pointer none],1,false⟩) (v:=.tuple #[kerxP none,.int .i64 1]) ?_ (by unfold kerxO kerxN; rw [if_neg hgg,if_neg hgg]; exact fz _ _ _) (hx2.push _) (al _ _);by_cases c1:g < 1
  ·simp -implicitDefEqProofs (disch:=omega) [ζ59,c1,kerxP]
  ·have c2:g > 65535:=by omega
   simp -implicitDefEqProofs (disch:=omega) [ζ59,c1,c2,kerxP]
end Go.Sw
end
section
namespace Go.Sw
open Go.RowKit
variable {σ:Type}
theorem runD_inv (m:Mach) (hm:m.ok) (ln:σ → List Gl) (f:σ → Int → En → σ × Int × Int) (P:σ → Prop) (hf:∀ s i e,P s → 0 ≤ i → e ∈ m.ents → P (f s i e).1) (most:Int) :
  ∀ (n:Nat) (x:σ × Drv),P x.1 → 0 ≤ x.2.pl → 0 ≤ x.2.st → x.2.st < m.rows.length → P (runD m ln f most n x).2.2
 | 0,x,h,_,_,_ => h
 | n + 1,x,h,hp,h0,h1 => by
  have hmem:=entS_mem hm (ln x.1) x.2 ⟨h0,h1⟩;have hent:=hm.ent _ hmem;have hP:P (stepD m ln f x).1.1:=by unfold stepD; split <;> exact hf _ _ _ h hp hmem
  have hst:0 ≤ (stepD m ln f x).1.2.st ∧ (stepD m ln f x).1.2.st < m.rows.length:=by unfold stepD; split <;> exact ⟨hent.1,hent.2.1⟩
  have hpl:=stepD_pl m ln f x;unfold runD;split
  ·split
   ·exact hP
   ·split
    ·exact hP
    ·exact runD_inv m hm ln f P hf most n _ hP hpl hst.1 hst.2
  ·exact h
theorem ζi4 (m:Mach) (l:List Gl) (j:Nat):(clsS m l j).2 = decide (l.length ≤ j):=by
 unfold clsS atG;by_cases h2:(j:Int) < l.length
 ·obtain ⟨g,hg⟩:∃ g,l[j]? = some g:=⟨_,List.getElem?_eq_getElem (by omega)⟩
  rw [if_pos ⟨by omega,h2⟩,Int.toNat_natCast,hg,decide_eq_false (by omega)]
 ·rw [if_neg (fun hc => h2 hc.2),decide_eq_true (by omega)]
theorem runD_go (m:Mach) (ln:σ → List Gl) (f:σ → Int → En → σ × Int × Int) (most:Int) (len:Nat) (hmost:(len:Int) < most) (P:Nat → σ → Int → Prop) (hlen:∀ j s st,P j s st → (ln s).length = len)
  (hgo:∀ (j:Nat) s st,j ≤ len → P j s st → ¬ (entS m (ln s) ⟨st,j,j,0⟩).flags / 16384 % 2 = 1 ∧ (f s j (entS m (ln s) ⟨st,j,j,0⟩)).2.2 = (j:Int) + 1 ∧ (j < len → P (j + 1) (f s j (entS m (ln s) ⟨st,j,j,0⟩)).1 (entS m (ln s) ⟨st,j,j,0⟩).next)) :
  ∀ (c j n:Nat) (z:Int) (s:σ) (st:Int),z = j → len = j + c → c < n → P j s st → ∃ s' st',P len s' st' ∧ runD m ln f most n (s,⟨st,z,z,0⟩) = ((len:Int) + 1,0,(f s' len (entS m (ln s') ⟨st',len,len,0⟩)).1)
 | c,j,0,z,s,st,_,_,h,_ => by omega
 | 0,j,n + 1,z,s,st,hz,hj,hn,hP => by
  subst hz;obtain ⟨g1,g2,_⟩:=hgo j s st (by omega) hP;have hl:=hlen j s st hP;have hjl:j = len:=by omega
  subst hjl;refine ⟨s,st,hP,?_⟩;unfold runD;rw [if_pos (by dsimp only; omega)];unfold stepD;dsimp only;rw [if_neg g1,ζi4,hl,decide_eq_true (Nat.le_refl _)];rfl
 | c + 1,j,n + 1,z,s,st,hz,hj,hn,hP => by
  subst hz;obtain ⟨g1,g2,g3⟩:=hgo j s st (by omega) hP;have hl:=hlen j s st hP;have ih:=runD_go m ln f most len hmost P hlen hgo c (j + 1) n _ _ _ rfl (by omega) (by omega) (g3 (by omega));unfold runD;rw [if_pos (by dsimp only; omega)];unfold stepD;dsimp only;rw [if_neg g1,ζi4,hl,decide_eq_false (by omega),g2];simp only [Bool.false_eq_true,if_false];rw [if_neg (by decide),show max ((j:Int) + 1) 0 = ((j + 1:Nat):Int) by omega,show (j:Int) + 1 = ((j + 1:Nat):Int) by omega];exact ih
end Go.Sw
end
section
namespace Go.Sw
open Go.RowKit
end Go.Sw
end
section
namespace Go.Sw
open Go.RowKit
theorem ζaw (p:Plan) (w:Int) (rm rm':List Int) (h:rm.length = rm'.length):(planRoom p w rm).length = (planRoom p w rm').length:=by
 unfold planRoom;simp [h]
theorem get_nil (g:Int):getS ([]:List Pt) g = none:=rfl
theorem tab_get (s:List Int) (id:Int):getS (tabOf s).2 id = if 0 ≤ id then s[id.toNat]? else none:=by
 unfold tabOf;by_cases hc:s = []
 ·subst hc; simp [get_nil]
 ·rw [if_neg hc];have hpos:0 < s.length:=List.length_pos_iff.2 hc;unfold getS;by_cases h1:id ≤ (s.length:Int) - 1
  ·rw [show ([(⟨0,(s.length:Int) - 1,s⟩:Pt)]).find? (fun p => decide (id ≤ p.last)) = some ⟨0,(s.length:Int) - 1,s⟩ by simp [List.find?,h1],Option.bind_some];by_cases h0:0 ≤ id
   ·rw [if_pos h0,if_pos h0];unfold Pt.num;dsimp only;rw [show (min (id - 0) ((s.length:Int) - 1)).toNat = id.toNat by omega]
   ·rw [if_neg h0,if_neg h0]
  ·rw [show ([(⟨0,(s.length:Int) - 1,s⟩:Pt)]).find? (fun p => decide (id ≤ p.last)) = none by simp [List.find?,h1]];by_cases h0:0 ≤ id
   ·rw [if_pos h0,List.getElem?_eq_none (by omega)]; rfl
   ·rw [if_neg h0]; rfl
end Go.Sw
end
section
namespace Go.Sw
open Go.RowKit
variable {σ:Type}
end Go.Sw
end
section
namespace Go.Sw
open Go.RowKit
theorem ζlb (p:Plan) (w:Int) (n:Nat):∃ hd tl:List Int,hd.length = 16 ∧ ∀ rm:List Int,rm.length = n → planRoom p w rm = hd ++ (rm ++ tl):=by
 refine ⟨bytesOf (planN p:Int) 4 ++ (bytesOf (16 + n:Int) 4 ++ (bytesOf (16 + n + (ofS p.cls).length:Int) 4 ++ bytesOf (16 + n + (ofS p.cls).length + (rowsL (planN p) p.rows).length:Int) 4)),ofS p.cls ++ (rowsL (planN p) p.rows ++ entsB w p.ents),by simp,fun rm h => ?_⟩;unfold planRoom;rw [h];simp only [List.append_assoc]
theorem twos_byt (l:List Int):Byt (twos l):=Byt.flat fun r hr => by
 obtain ⟨x,_,rfl⟩:=List.mem_map.1 hr;exact ζ1o _ _
def roomB (p:Plan) (w:Int) (hi:Int) (l:List Int):List Int:=planRoom p w (bytesOf (hi + (planRoom p w (List.replicate 4 0)).length:Int) 4) ++ twos l
theorem ζgu (p:Plan) (w n:Int):(planRoom p w (bytesOf n 4)).length = (planRoom p w (List.replicate 4 0)).length:=ζaw p w _ _ (by simp)
end Go.Sw
end
section
namespace Go.Sw
open Go.RowKit
theorem updPl_at {l:List Pl} {j i:Nat} (f:Pl → Pl):(updPl l (j:Int) f)[i]? = if i = j then l[i]?.map f else l[i]?:=by
 unfold updPl;rw [if_pos (by omega),Int.toNat_natCast,List.getElem?_modify];by_cases hij:i = j
 ·subst hij; simp
 ·rw [if_neg hij];simp [show ¬ j = i from fun h => hij h.symm]
end Go.Sw
end
section
namespace Go.Sw
open Go.RowKit
set_option maxRecDepth 10000 in
theorem ζnb (t:BTab) (ht:t.m.ok) (pg:Int → Int → Option (Int × Int)) (gl:List Gl) (l:List Pl):(runB t pg gl l).1.length = l.length:=by
 unfold runB runBr;exact runD_inv t.m ht (fun _:List Pl × Int => gl) (fun s i e => (doBi t pg gl s i e,i,i + 1)) (fun s:List Pl × Int => s.1.length = l.length) (fun s i e hs _ _ => by
  dsimp only;unfold doBi;rw [ζbm];exact hs) (2 * (gl.length:Int) + 128) (2 * gl.length + 128) ((l,-1),⟨0,0,0,0⟩) rfl (Int.le_refl _) (Int.le_refl _) (by have:=ht.two; dsimp only; omega)
def pairsTo (t:PTab) (gl:List Gl) (cross down:Bool) (l:List Pl):Nat → List Pl
 | 0 => l
 | j + 1 => let n:=pgetS t ((gl[j]?).getD ⟨0,0⟩).id ((gl[j + 1]?).getD ⟨0,0⟩).id
  if cross then updPl (pairsTo t gl cross down l j) ((j + 1:Nat):Int) fun q => if down then ⟨q.adv,addI q.x n,q.y⟩ else ⟨q.adv,q.x,addI q.y n⟩
  else updPl (pairsTo t gl cross down l j) (j:Int) fun q => ⟨addI q.adv n,q.x,q.y⟩
def kmoveS (m:Mv) (gl:List Gl) (cross down:Bool) (pg:Int → Int → Option (Int × Int)) (l:List Pl):List Pl × Int :=
 match m with
 | .no => (l,0)
 | .pairs t => (pairsTo t gl cross down l (gl.length - 1),0)
 | .stacks t => runSt t gl down cross l
 | .binds t => runB t pg gl l
def subRun (x:KSub) (dir:Int) (gl:List Gl) (down:Bool) (pg:Int → Int → Option (Int × Int)) (l:List Pl):List Pl × Int :=
 if turnedS x.cov dir then ((kmoveS x.mv gl.reverse x.cov.cross down pg l.reverse).1.reverse,(kmoveS x.mv gl.reverse x.cov.cross down pg l.reverse).2)
 else kmoveS x.mv gl x.cov.cross down pg l
structure AnkIn (k:Nat) (L:List It) (il ip:Nat) (pv:Value) (pg:Int → Int → Option (Int × Int)):Prop where
 st:storable pv = true
 ce:pv.cells = #[pv]
 ok:PgOk pg
 at_:(∀ H,AnkAt k pv pg H) ∨ ∃ ia an,ia ≠ il ∧ ia ≠ ip ∧ L[ia]? = some (itBlk an ⟨nilAnk,1,false⟩) ∧ pv = ptrV an ∧ pg = noPg
theorem AnkIn.has {k:Nat} {L:List It} {il ip:Nat} {pv:Value} {pg:Int → Int → Option (Int × Int)} (h:AnkIn k L il ip pv pg) {L':List It} (hL:∀ i x,i ≠ il → i ≠ ip → L[i]? = some x → L'[i]? = some x) {H0 H:Heap} (st:Star H0 H L'):AnkAt k pv pg H:=by
 rcases h.at_ with h | ⟨ia,an,h1,h2,h3,rfl,rfl⟩
 ·exact h H
 ·exact noPg_at k (st.get ia (hL ia _ h1 h2 h3))
end Go.Sw
end
section
namespace Go.Sw
open Go.RowKit
def stillOps (nt:Nat) (os:List Oper):Bool:=os.all fun o => dstOk nt o.dst && o.guard.isNone && !isDfr o.op
theorem ζax {c:Cfg} {call:Caller} {nt:Nat} (ops:Array Oper):∀ (os:List Oper) (e:Env) (H:Heap) (ds:List Dfr),stillOps nt os = true →
  runOpsD c call nt os e H ds = (runOps c call nt ops os e H).bind fun e' H' => .ok (e',ds) H'
 | [],e,H,ds,_ => rfl
 | o :: os,e,H,ds,h => by
  unfold stillOps at h;rw [List.all_cons,Bool.and_eq_true,Bool.and_eq_true,Bool.and_eq_true] at h;obtain ⟨⟨⟨h1,h2⟩,h3⟩,h4⟩:=h;have h3':isDfr o.op = false:=by simpa using h3
  have h2':o.guard = none:=by simpa using h2
  have hw:wantedE ops e o = some true:=by unfold wantedE; rw [h2']
  unfold runOpsD runOps stepD1 stepO;rw [h1,h2,h3',hw];simp only [Bool.and_self,cond_true,cond_false,Res.bind_assoc];congr 1;funext v H';exact ζax ops os _ H' ds h4
def codeD (c:Cfg) (call:Caller) (f:FuncId) (p:List Nat) (e:Env) (H:Heap) (ds:List Dfr):Res ((AExit × Env) × List Dfr) :=
 execD c call (runDraw c call (ntOf c.P f)) (ntOf c.P f) (c.kp f) (partOf c.P f p) e H ds
def stillAt (P:Program) (f:FuncId) (p:List Nat):Bool:=match partOf P f p with
 | .region _ ops false => stillOps (ntOf P f) ops.toList
 | .seq a b => plainCode (.seq a b)
 | _ => false
theorem ζ3k {c:Cfg} {call:Caller} {f:FuncId} {p:List Nat} (h:stillAt c.P f p = true) (e:Env) (H:Heap) (ds:List Dfr) :
  codeD c call f p e H ds = pieceK c call f p e H fun x e H' => .ok ((x,e),ds) H':=by
 unfold codeD pieceK;unfold stillAt at h;split at h
 ·rename_i id ops hc;rw [hc,execK_eq];unfold execD exec;rw [ζax ops ops.toList e H ds h];simp only [cond_false,Res.bind_assoc];rfl
 ·rename_i a b hc;rw [hc,execK_eq];unfold execD;rw [h];rfl
 ·cases h
def seqD (r:(AExit × Env) × List Dfr) (H:Heap) (k:Env → Heap → List Dfr → Res ((AExit × Env) × List Dfr)):Res ((AExit × Env) × List Dfr):=match r.1.1 with
 | .normal => k r.1.2 H r.2
 | _ => .ok r H
def doneD (c:Cfg) (call:Caller) (f:FuncId) (r:(AExit × Env) × List Dfr) (H1:Heap):Res Value:=match r.1.1 with
 | .exit _ => .stuck
 | _ => (dfrRun c call r.2 H1).bind fun _ H2 => kDone c.P (resOf c.P f) .ret r.1.2 H2
def hasBody (P:Program) (f:FuncId) (n:Nat):Bool:=match P.funcs[f]? with
 | some fn => match fn.body with
  | some _ => Nat.ble n fn.ntmps
  | none => false
 | none => false
theorem ζkg {c:Cfg} {call:Caller} {f:FuncId} {args:List Value} {H:Heap} (h:hasBody c.P f args.length = true) :
  bodyD c call f args H = onOk (codeD c call f [] (Env.of 0 args) H []) (doneD c call f):=by
 unfold hasBody at h;split at h;rotate_left
 ·cases h
 rename_i fn hf;split at h;rotate_left
 ·cases h
 rename_i code hb;have hn:=h;have hp:partOf c.P f [] = code:=by unfold partOf; rw [hf]; dsimp only; rw [hb]; dsimp only; cases code <;> rfl
 have hnt:ntOf c.P f = fn.ntmps:=by unfold ntOf; rw [hf]
 have hrs:resOf c.P f = fn.results.toList:=by unfold resOf; rw [hf]
 unfold bodyD codeD;rw [hf];dsimp only;rw [hb];dsimp only;rw [hn,cond_true,hp,hnt];cases execD c call (runDraw c call fn.ntmps) fn.ntmps (c.kp f) code (Env.of 0 args) H [] with
 | stuck => rfl
 | panic v H => rfl
 | ok r H1 =>
  obtain ⟨⟨x,e⟩,ds⟩:=r;cases x <;> simp only [onOk,doneD,hrs,kDone_eq,doneK]
section
variable (call:Caller)
theorem subD_0 (e:Env) (H:Heap) (ds:List Dfr):codeD CD call F.ζ1 [] e H ds = (codeD CD call F.ζ1 [0] e H ds).bind fun r H' => seqD r H' (codeD CD call F.ζ1 [1]):=by kernel_rfl
theorem subD_1 (e:Env) (H:Heap) (ds:List Dfr):codeD CD call F.ζ1 [1] e H ds = (codeD CD call F.ζ1 [1,0] e H ds).bind fun r H' => seqD r H' (codeD CD call F.ζ1 [1,1]):=by kernel_rfl
theorem subD_10 (e:Env) (H:Heap) (ds:List Dfr):codeD CD call F.ζ1 [1,0] e H ds = (codeD CD call F.ζ1 [1,0,0] e H ds).bind fun r H' => seqD r H' (codeD CD call F.ζ1 [1,0,1]):=by kernel_rfl
theorem subD_101 (a1 a2 a4 v1 v7:Value) (H:Heap) (ds:List Dfr):codeD CD call F.ζ1 [1,0,1] [(1,a1),(2,a2),(4,a4),(5,v1),(14,v7)] H ds = condV (some v7) (codeD CD call F.ζ1 [1,0,1,0] [(1,a1),(2,a2),(4,a4),(5,v1),(14,v7)] H ds) (codeD CD call F.ζ1 [1,0,1,1] [(1,a1),(2,a2),(4,a4),(5,v1),(14,v7)] H ds):=by kernel_rfl
theorem ζnj (e:Env) (H:Heap) (ds:List Dfr):codeD CD call F.ζ1 [1,0,1,0] e H ds = (codeD CD call F.ζ1 [1,0,1,0,0] e H ds).bind fun r H' => seqD r H' (codeD CD call F.ζ1 [1,0,1,0,1]):=by kernel_rfl
theorem ζlm (e:Env) (H:Heap) (ds:List Dfr):codeD CD call F.ζ1 [1,0,1,0,1] e H ds = (codeD CD call F.ζ1 [1,0,1,0,1,0] e H ds).bind fun r H' => seqD r H' (codeD CD call F.ζ1 [1,0,1,0,1,1]):=by kernel_rfl
theorem ζk6 (e:Env) (H:Heap) (ds:List Dfr):codeD CD call F.ζ1 [1,0,1,0,1,1] e H ds = (codeD CD call F.ζ1 [1,0,1,0,1,1,0] e H ds).bind fun r H' => seqD r H' (codeD CD call F.ζ1 [1,0,1,0,1,1,1]):=by kernel_rfl
theorem subD_d1 (a1 a2 a4 v1:Value) (H:Heap) (ds:List Dfr):codeD CD call F.ζ1 [1,0,1,0,1,1,0] [(1,a1),(2,a2),(4,a4),(5,v1)] H ds = .ok ((.normal,[(1,a1),(2,a2),(4,a4),(5,v1)]),(F.ζ16,[a1]) :: ds) H:=by kernel_rfl
theorem subD_d2 (a1 a2 a4 v1:Value) (H:Heap) (ds:List Dfr):codeD CD call F.ζ1 [1,0,1,0,1,1,1] [(1,a1),(2,a2),(4,a4),(5,v1)] H ds = .ok ((.normal,[(1,a1),(2,a2),(4,a4),(5,v1)]),(F.ζi,[a2]) :: ds) H:=by kernel_rfl
theorem subD_no (e:Env) (H:Heap) (ds:List Dfr):codeD CD call F.ζ1 [1,0,1,1] e H ds = .ok ((.normal,e),ds) H:=by kernel_rfl
theorem ζiv (a0 a1 a2 a3 a4:Value) (H:Heap):bodyD CD call F.ζ1 [a0,a1,a2,a3,a4] H = onOk (codeD CD call F.ζ1 [] [(0,a0),(1,a1),(2,a2),(3,a3),(4,a4)] H []) (doneD CD call F.ζ1) :=
 ζkg (c:=CD) (by kernel_rfl)
theorem subD_s0:stillAt CD.P F.ζ1 [0] = true:=by kernel_rfl
theorem subD_s1:stillAt CD.P F.ζ1 [1,0,0] = true:=by kernel_rfl
theorem subD_s2:stillAt CD.P F.ζ1 [1,0,1,0,0] = true:=by kernel_rfl
theorem subD_s3:stillAt CD.P F.ζ1 [1,0,1,0,1,0] = true:=by kernel_rfl
theorem subD_s4:stillAt CD.P F.ζ1 [1,1] = true:=by kernel_rfl
end
end Go.Sw
end
section
namespace Go.Sw
open Go.RowKit
abbrev ksubV (x:KSub):Value:=.agg (encK x).toArray
section
variable (call:Caller)
theorem ζmo (a:Value) (args:List Value) (h:Heap):invokeR Prog call (.iface tyBinds a) kmvN args h = call F.ζ3a (a :: args) h:=by kernel_rfl
noncomputable def subTail (a1 a2 a4 a5:Value) (h:Heap):Res Value :=
 (fieldAddrR Prog 213 a5 1 h).bind fun v17 h18 =>
 (loadR Prog 211 v17 h18).bind fun v19 h20 =>
 (fieldAddrR Prog 213 a5 0 h20).bind fun v21 h22 =>
 (fieldAddrR Prog 209 v21 1 h22).bind fun v23 h24 =>
 (loadR Prog 4 v23 h24).bind fun v25 h26 =>
 (invokeR Prog call v19 kmvN [a1,a2,a4,v25] h26).bind fun v27 h28 =>
 .ok v27 h28
theorem tailD1 (a1 a2 a4 a5:Value) (h:Heap) (ds:List Dfr):codeD CD call F.ζ1 [1,1] [(1,a1),(2,a2),(4,a4),(5,a5)] h ds = (subTail call a1 a2 a4 a5 h).bind fun v h' => .ok ((.ret,[(10,v)]),ds) h':=by
 rw [ζ3k subD_s4,ζc4 0,ζc5 0];unfold subTail;simp only [Res.bind_assoc,ζ7w,ζc6 0,Res.bind_ok]
theorem tailD2 (a1 a2 a4 a5 a14:Value) (h:Heap) (ds:List Dfr):codeD CD call F.ζ1 [1,1] [(1,a1),(2,a2),(4,a4),(5,a5),(14,a14)] h ds = (subTail call a1 a2 a4 a5 h).bind fun v h' => .ok ((.ret,[(10,v)]),ds) h':=by
 rw [ζ3k subD_s4,ζc7 0,ζc8 0];unfold subTail;simp only [Res.bind_assoc,ζ7w,ζc9 0,Res.bind_ok]
theorem sub_no {a0 a1 a2 a3 a4 v1 v3 v5 v:Value} {H h2 h4 h6 h8 h9:Heap} (e1:boxR a0 H = .ok v1 h2) (e2:fieldAddrR Prog 213 v1 0 h2 = .ok v3 h4) (e3:loadR Prog 209 v3 h4 = .ok v5 h6) (e4:call F.ζ15 [v5,a3] h6 = .ok (.bool false) h8) (e5:subTail call a1 a2 a4 v1 h8 = .ok v h9) :
  bodyD CD call F.ζ1 [a0,a1,a2,a3,a4] H = .ok v h9:=by
 rw [ζiv,subD_0,ζ3k subD_s0,ζ8s 0,e1,Res.bind_ok,Res.bind_ok];simp only [seqD];rw [subD_1,subD_10,ζ3k subD_s1,ζ8t 0,e2,Res.bind_ok,e3,Res.bind_ok,e4,Res.bind_ok,Res.bind_ok];simp only [seqD];rw [subD_101,ζjc,subD_no,Res.bind_ok];simp only;rw [tailD2,e5,Res.bind_ok];simp only [onOk,doneD,dfrRun,Res.bind_ok];exact ζ7x v h9
theorem sub_yes {a0 a1 a2 a3 a4 v1 v3 v5 v w1 w2 w3 w4:Value} {H h2 h4 h6 h8 h10 h12 h28 h29 h30:Heap} (e1:boxR a0 H = .ok v1 h2) (e2:fieldAddrR Prog 213 v1 0 h2 = .ok v3 h4) (e3:loadR Prog 209 v3 h4 = .ok v5 h6) (e4:call F.ζ15 [v5,a3] h6 = .ok (.bool true) h8)
  (e5:call F.ζ16 [a1] h8 = .ok w1 h10) (e6:call F.ζi [a2] h10 = .ok w2 h12) (e7:subTail call a1 a2 a4 v1 h12 = .ok v h28) (e8:bodyK CD call F.ζi [a2] h28 = .ok w3 h29) (e9:bodyK CD call F.ζ16 [a1] h29 = .ok w4 h30) :
  bodyD CD call F.ζ1 [a0,a1,a2,a3,a4] H = .ok v h30:=by
 rw [ζiv,subD_0,ζ3k subD_s0,ζ8s 0,e1,Res.bind_ok,Res.bind_ok];simp only [seqD];rw [subD_1,subD_10,ζ3k subD_s1,ζ8t 0,e2,Res.bind_ok,e3,Res.bind_ok,e4,Res.bind_ok,Res.bind_ok];simp only [seqD];rw [subD_101,ζkl,ζnj,ζ3k subD_s2,ζdd 0,e5,Res.bind_ok,Res.bind_ok];simp only [seqD];rw [ζlm,ζ3k subD_s3,ζc3 0,e6,Res.bind_ok,Res.bind_ok];simp only [seqD];rw [ζk6,subD_d1,Res.bind_ok];simp only [seqD];rw [subD_d2,Res.bind_ok];simp only;rw [tailD1,e7,Res.bind_ok];simp only [onOk,doneD,dfrRun,e8,e9,Res.bind_ok];exact ζ7x v h30
end
theorem ζex (k:Nat) (a0 a1 a2 a3 a4:Value) (h:Heap):R (T k) F.ζ1 [a0,a1,a2,a3,a4] h = nrm .no h (bodyD CD (R (T k)) F.ζ1 [a0,a1,a2,a3,a4] h) :=
 (R_sp (t:=T k) (T_scott k) (s:=fun call args H => bodyD CD call F.ζ1 args H) (by kernel_rfl) [a0,a1,a2,a3,a4] h).trans (by rfl)
theorem ζgl {H H':Heap} {r:Res Value} {v:Value} (h:nrm .no H r = .ok v H'):r = .ok v H':=by
 cases r with
 | ok u H2 => exact h
 | panic u H2 =>
  unfold nrm at h;dsimp only at h;by_cases hc:Keeps [] H H2 ∧ Alive H u
  ·rw [if_pos hc] at h; cases h
  ·rw [if_neg hc] at h; cases h
 | stuck => cases h
theorem ζgb {k:Nat} {a v:Value} {H H':Heap} (h:R (T k) F.ζ16 [a] H = .ok v H'):bodyK CD (R (T k)) F.ζ16 [a] H = .ok v H':=by
 rw [ζ7y] at h;rw [← ζgl h];kernel_rfl
theorem ζdh {k:Nat} {a v:Value} {H H':Heap} (h:R (T k) F.ζi [a] H = .ok v H'):bodyK CD (R (T k)) F.ζi [a] H = .ok v H':=by
 rw [ζ69] at h;rw [← ζgl h];kernel_rfl
end Go.Sw
end
section
namespace Go.Sw
open Go.RowKit
theorem ζih {α:Type} {L:List α} {i:Nat} {x:α} (h:L[i]? = some x):L.set i x = L:=by
 obtain ⟨hlt,hx⟩:=List.getElem?_eq_some_iff.1 h;rw [← hx,List.set_getElem_self]
structure MoveOk (k:Nat) (m:Mv):Prop where
 run:∀ {H0 H:Heap} {L:List It} (_:Star H0 H L) (il ip:Nat) (_:il ≠ ip) {c p:Nat} {o op:Option Nat} {down:Bool} (cross:Bool) {gl:List Gl} {l:List Pl} (_:L[il]? = some (itLine c o gl)) (_:L[ip]? = some (itPl p op down l)) {pv:Value} {pg:Int → Int → Option (Int × Int)} (_:AnkIn k L il ip pv pg) (_:gl.length < 2 ^ 30) (_:∀ q,q ∈ l → q.ok),
  ∃ H',invokeR Prog (R (T k)) (mvV m) kmvN [ptrV c,ptrV p,pv,.bool cross] H = .ok (.int .i64 (kmoveS m gl cross down pg l).2) H' ∧ Star H0 H' (L.set ip (itPl p op down (kmoveS m gl cross down pg l).1)) ∧ ∀ q,q ∈ (kmoveS m gl cross down pg l).1 → q.ok
 len:∀ (gl:List Gl) (cross down:Bool) (pg:Int → Int → Option (Int × Int)) (l:List Pl),(kmoveS m gl cross down pg l).1.length = l.length
theorem MoveOk.binds (k:Nat) {t:BTab} (hm:t.ok):MoveOk k (.binds t):=by
 refine ⟨fun {H0 H L} h il ip hne {c p o op down} cross {gl l} hil hip {pv pg} hpg hl hok => ?_,fun gl cross down pg l => ζnb t hm.m pg gl l⟩;have hlt:=(List.getElem?_eq_some_iff.1 hip).1;have hll:=(List.getElem?_eq_some_iff.1 hil).1;have st:=h.push ⟨[bindV t],1,false⟩;obtain ⟨H',e,g,hko⟩:=ζft k t hm st il ip hne (c:=c) (p:=p) (o:=o) (op:=op) (down:=down) (gl:=gl) (l:=l) (by rw [List.getElem?_append_left hll]; exact hil) (by rw [List.getElem?_append_left hlt]; exact hip) hpg.ok (fun H2 l2 Y h2 => hpg.has (fun i x h1 h3 h4 => by
  have hi:=(List.getElem?_eq_some_iff.1 h4).1;rw [List.getElem?_append_left (by simp; omega),List.getElem?_set_ne (by omega),List.getElem?_append_left hi];exact h4) h2) hpg.st hpg.ce (by omega) hok
 rw [List.set_append_left _ _ hlt] at g;have g:=g.take L.length;rw [List.take_append_of_le_length (by simp),List.take_of_length_le (by simp)] at g;refine ⟨H',?_,g,hko⟩;show invokeR Prog (R (T k)) (.iface tyBinds _) _ _ _ = _;rw [ζmo,ζb4,nrm_of];simp -implicitDefEqProofs [ζ3a,e,kmoveS]
theorem AnkIn.more {k:Nat} {L L':List It} {il ip:Nat} {pv:Value} {pg:Int → Int → Option (Int × Int)} (h:AnkIn k L il ip pv pg) (hL:∀ i x,i ≠ il → i ≠ ip → L[i]? = some x → L'[i]? = some x):AnkIn k L' il ip pv pg:=by
 refine ⟨h.st,h.ce,h.ok,?_⟩;rcases h.at_ with h | ⟨ia,an,h1,h2,h3,h4⟩
 ·exact .inl h
 ·exact .inr ⟨ia,an,h1,h2,hL _ _ h1 h2 h3,h4⟩
theorem ζec {k:Nat} {H H':Heap} {x:KSub} {q:Nat} (hq:H.get q = some ⟨encK x,1,false⟩) {c p v pv:Value} (h:invokeR Prog (R (T k)) (mvV x.mv) kmvN [c,p,pv,.bool x.cov.cross] H = .ok v H'):subTail (R (T k)) c p pv (ptrV q) H = .ok v H':=by
 unfold subTail;simp -implicitDefEqProofs [hq,mv_cells,h]
theorem ζhu (k:Nat) (x:KSub) (hx:MoveOk k x.mv) (dir:Int) {H0 H:Heap} {L:List It} (h:Star H0 H L) (il ip:Nat) (hne:il ≠ ip) {c p:Nat} {o op:Option Nat} {down:Bool} {gl:List Gl} {l:List Pl} (hil:L[il]? = some (itLine c o gl)) (hip:L[ip]? = some (itPl p op down l)) {pv:Value} {pg:Int → Int → Option (Int × Int)} (hpg:AnkIn k L il ip pv pg) (hl:gl.length < 2 ^ 30) (hll:l.length < 2 ^ 30) (hok:∀ q,q ∈ l → q.ok) :
  ∃ H',R (T k) F.ζ1 [ksubV x,ptrV c,ptrV p,.int .i64 dir,pv] H = .ok (.int .i64 (subRun x dir gl down pg l).2) H' ∧ Star H0 H' (L.set ip (itPl p op down (subRun x dir gl down pg l).1)) ∧ ∀ q,q ∈ (subRun x dir gl down pg l).1 → q.ok:=by
 have hlt:=(List.getElem?_eq_some_iff.1 hip).1;have hlt2:=(List.getElem?_eq_some_iff.1 hil).1;have hbx:boxR (ksubV x) H = .ok (ptrV H.n) (H.push ⟨encK x,1,false⟩):=by
  simp -implicitDefEqProofs [mv_st]
 have hf0:∀ H',fieldAddrR Prog 213 (ptrV H.n) 0 H' = .ok (ptrV H.n) H':=fun H' => by
  simp -implicitDefEqProofs
 have st:=h.push ⟨encK x,1,false⟩;have hil1:(L ++ [itBlk H.n ⟨encK x,1,false⟩])[il]? = some (itLine c o gl):=by rw [List.getElem?_append_left hlt2]; exact hil
 have hip1:(L ++ [itBlk H.n ⟨encK x,1,false⟩])[ip]? = some (itPl p op down l):=by rw [List.getElem?_append_left hlt]; exact hip
 have hq1:(L ++ [itBlk H.n ⟨encK x,1,false⟩])[L.length]? = some (itBlk H.n ⟨encK x,1,false⟩):=by simp
 have hld:∀ H':Heap,H'.get H.n = some ⟨encK x,1,false⟩ → loadR Prog 209 (ptrV H.n) H' = .ok (covV x.cov) H':=fun H' hg => by
  simp -implicitDefEqProofs [hg]
 have ht:=fun H' => ζlp k x.cov dir H';have hmore:∀ i y,i ≠ il → i ≠ ip → L[i]? = some y → (L ++ [itBlk H.n ⟨encK x,1,false⟩])[i]? = some y:=fun i y h1 h2 h3 => by
  rw [List.getElem?_append_left (List.getElem?_eq_some_iff.1 h3).1]; exact h3
 rw [ζex];unfold subRun;cases hT:turnedS x.cov dir with
 | false =>
  rw [hT] at ht;obtain ⟨H2,e2,g2,hko⟩:=hx.run st il ip hne x.cov.cross hil1 hip1 (pv:=pv) (pg:=pg) (hpg.more hmore) hl hok;rw [List.set_append_left _ _ hlt] at g2;have g2:=g2.take L.length;rw [List.take_append_of_le_length (by simp),List.take_of_length_le (by simp)] at g2;refine ⟨H2,?_,g2,hko⟩;exact nrm_of (sub_no (R (T k)) hbx (hf0 _) (hld _ (st.get _ hq1)) (ht _) (ζec (st.get _ hq1) e2))
 | true =>
  rw [hT] at ht;obtain ⟨H2,e2,g2⟩:=ζat k st il hil1 (by omega);have hip2:((L ++ [itBlk H.n ⟨encK x,1,false⟩]).set il (itLine c o gl.reverse))[ip]? = some (itPl p op down l):=by rw [List.getElem?_set_ne hne]; exact hip1
  obtain ⟨H3,e3,g3⟩:=ζef k g2 ip hip2 (by omega);have hil3:(((L ++ [itBlk H.n ⟨encK x,1,false⟩]).set il (itLine c o gl.reverse)).set ip (itPl p op down l.reverse))[il]? = some (itLine c o gl.reverse):=by
   rw [List.getElem?_set_ne (Ne.symm hne),List.getElem?_set_self (by simp; omega)]
  have hip3:(((L ++ [itBlk H.n ⟨encK x,1,false⟩]).set il (itLine c o gl.reverse)).set ip (itPl p op down l.reverse))[ip]? = some (itPl p op down l.reverse):=by
   rw [List.getElem?_set_self (by simp; omega)]
  have hq3:(((L ++ [itBlk H.n ⟨encK x,1,false⟩]).set il (itLine c o gl.reverse)).set ip (itPl p op down l.reverse))[L.length]? = some (itBlk H.n ⟨encK x,1,false⟩):=by
   rw [List.getElem?_set_ne (by omega),List.getElem?_set_ne (by omega)]; exact hq1
  obtain ⟨H4,e4,g4,hko⟩:=hx.run g3 il ip hne x.cov.cross hil3 hip3 (pv:=pv) (pg:=pg) (hpg.more fun i y h1 h2 h3 => by
   rw [List.getElem?_set_ne (Ne.symm h2),List.getElem?_set_ne (Ne.symm h1)]; exact hmore i y h1 h2 h3) (by simpa using hl) (fun q hq => hok q (by simpa using hq))
  have hlen:=hx.len gl.reverse x.cov.cross down pg l.reverse;generalize kmoveS x.mv gl.reverse x.cov.cross down pg l.reverse = res at e4 g4 hlen hko;rw [List.set_set] at g4;have hip4:(((L ++ [itBlk H.n ⟨encK x,1,false⟩]).set il (itLine c o gl.reverse)).set ip (itPl p op down res.1))[ip]? = some (itPl p op down res.1):=by
   rw [List.getElem?_set_self (by simp; omega)]
  obtain ⟨H5,e5,g5⟩:=ζef k g4 ip hip4 (by rw [hlen,List.length_reverse]; omega);rw [List.set_set] at g5;have hil5:(((L ++ [itBlk H.n ⟨encK x,1,false⟩]).set il (itLine c o gl.reverse)).set ip (itPl p op down res.1.reverse))[il]? = some (itLine c o gl.reverse):=by
   rw [List.getElem?_set_ne (Ne.symm hne),List.getElem?_set_self (by simp; omega)]
  obtain ⟨H6,e6,g6⟩:=ζat k g5 il hil5 (by simp; omega);rw [List.reverse_reverse,List.set_comm _ _ (Ne.symm hne),List.set_set,ζih hil1,List.set_append_left _ _ hlt] at g6;have g6:=g6.take L.length;rw [List.take_append_of_le_length (by simp),List.take_of_length_le (by simp)] at g6;refine ⟨H6,?_,g6,fun q hq => hko q (by simpa using hq)⟩;exact nrm_of (sub_yes (R (T k)) hbx (hf0 _) (hld _ (st.get _ hq1)) (ht _) e2 e3 (ζec (g3.get _ hq3) e4) (ζdh e5) (ζgb e6))
end Go.Sw
end
section
namespace Go.Sw
open Go.RowKit
theorem ζk7 {k:Nat} (x:KSub) (hx:MoveOk k x.mv) (dir:Int) (gl:List Gl) (down:Bool) (pg:Int → Int → Option (Int × Int)) (l:List Pl):(subRun x dir gl down pg l).1.length = l.length:=by
 unfold subRun;split
 ·simp [hx.len]
 ·exact hx.len ..
def runKs (dir:Int) (gl:List Gl) (down:Bool) (pg:Int → Int → Option (Int × Int)):List KSub → Nat → List Pl → List Pl × Int × Nat
 | [],_,l => (l,0,0)
 | x :: xs,j,l => if runsS x.cov dir then (if (subRun x dir gl down pg l).2 = 0 then runKs dir gl down pg xs (j + 1) (subRun x dir gl down pg l).1 else ((subRun x dir gl down pg l).1,(subRun x dir gl down pg l).2,j)) else runKs dir gl down pg xs (j + 1) l
abbrev fltV (z:Int) (j:Nat):Value:=.agg #[.int .i64 z,.int .i64 0,.int .i64 j]
set_option maxHeartbeats 1000000 in
theorem ζg7 (k:Nat) (t:List KSub) (ht:∀ x,x ∈ t → MoveOk k x.mv) (htl:t.length < 2 ^ 31) (dir:Int) {H0 H:Heap} {L:List It} (h:Star H0 H L) (il ip:Nat) (hne:il ≠ ip) {c p:Nat} {o op:Option Nat} {down:Bool} {gl:List Gl} {l:List Pl} (hil:L[il]? = some (itLine c o gl)) (hip:L[ip]? = some (itPl p op down l)) {pv:Value} {pg:Int → Int → Option (Int × Int)} (hpg:AnkIn k L il ip pv pg) (hl:gl.length < 2 ^ 30) (hll:l.length < 2 ^ 30) (hok:∀ q,q ∈ l → q.ok) :
  ∃ H',R (T k) F.ζt [kerxV t,ptrV c,ptrV p,.int .i64 dir,pv] H = .ok (fltV (runKs dir gl down pg t 0 l).2.1 (runKs dir gl down pg t 0 l).2.2) H' ∧ Star H0 H' (L.set ip (itPl p op down (runKs dir gl down pg t 0 l).1)) ∧ ∀ q,q ∈ (runKs dir gl down pg t 0 l).1 → q.ok:=by
 generalize hW:runKs dir gl down pg t 0 l = W;have hlt:=(List.getElem?_eq_some_iff.1 hip).1;have hlt2:=(List.getElem?_eq_some_iff.1 hil).1;have st:=h.push ⟨[.int .i64 0,.int .i64 0,.int .i64 0],1,false⟩
 obtain ⟨xx,e',H1,hr1,hQ⟩:=loop_up (body:=ζ53 k (R (T k))) t.length
  (fun j e' H' => e' = [(1,ptrV c),(2,ptrV p),(3,.int .i64 dir),(4,pv),(10,ptrV H.n),(17,lv encK t),(18,.int .i64 t.length),(19,.int .i64 j)] ∧ ∃ lj,Star H0 H' (L.set ip (itPl p op down lj) ++ [itBlk H.n ⟨[.int .i64 0,.int .i64 0,.int .i64 0],1,false⟩]) ∧ lj.length = l.length ∧ (∀ q,q ∈ lj → q.ok) ∧ W = runKs dir gl down pg (t.drop j) j lj)
  (fun xx e' H' => (∀ q,q ∈ W.1 → q.ok) ∧ ((xx = .ret ∧ e' = [(10,ptrV H.n)] ∧ Star H0 H' (L.set ip (itPl p op down W.1) ++ [itBlk H.n ⟨[.int .i64 W.2.1,.int .i64 0,.int .i64 W.2.2],1,false⟩])) ∨
   (xx = .exit 0 ∧ (∃ z,e' = [(1,ptrV c),(2,ptrV p),(3,.int .i64 dir),(4,pv),(10,ptrV H.n),(17,lv encK t),(18,.int .i64 t.length),(19,z),(20,.bool false)]) ∧ W.2 = (0,0) ∧ Star H0 H' (L.set ip (itPl p op down W.1) ++ [itBlk H.n ⟨[.int .i64 0,.int .i64 0,.int .i64 0],1,false⟩]))))
  (e0:=[(1,ptrV c),(2,ptrV p),(3,.int .i64 dir),(4,pv),(10,ptrV H.n),(17,lv encK t),(18,.int .i64 t.length),(19,.int .i64 0)]) (H0:=H.push ⟨[.int .i64 0,.int .i64 0,.int .i64 0],1,false⟩) ⟨rfl,l,by rw [ζih hip]; exact st,rfl,hok,hW.symm⟩ (by omega)
  (fun j e' H' hj ⟨he',lj,st,hlj,hokj,hrun⟩ => by
   subst he';have hjl:(j:Int) < t.length:=by omega
   have hx:t[j]? = some t[j]:=List.getElem?_eq_getElem hj;have hxm:MoveOk k t[j].mv:=ht _ (List.getElem_mem hj);rw [List.drop_eq_getElem_cons hj] at hrun;generalize t[j] = x at hx hxm hrun;have i0:=fun H' => ixS_lvN encK_len t .i64 j x hx H';have w2:IntKind.i64.wrap ((j:Int) + 1) = ((j + 1:Nat):Int):=by rw [wrap_i64 (by omega) (by omega)]; omega
   have hru:=fun H' => runs_run k x.cov dir H';have st2:=st.push ⟨encK x,1,false⟩;have hil2:((L.set ip (itPl p op down lj) ++ [itBlk H.n ⟨[.int .i64 0,.int .i64 0,.int .i64 0],1,false⟩]) ++ [itBlk H'.n ⟨encK x,1,false⟩])[il]? = some (itLine c o gl):=by
    rw [List.append_assoc,List.getElem?_append_left (by simpa using hlt2),List.getElem?_set_ne (Ne.symm hne)]; exact hil
   have hip2:((L.set ip (itPl p op down lj) ++ [itBlk H.n ⟨[.int .i64 0,.int .i64 0,.int .i64 0],1,false⟩]) ++ [itBlk H'.n ⟨encK x,1,false⟩])[ip]? = some (itPl p op down lj):=by
    rw [List.append_assoc,List.getElem?_append_left (by simpa using hlt),List.getElem?_set_self hlt]
   unfold runKs at hrun;cases hT:runsS x.cov dir with
   | false =>
    rw [hT] at hru;rw [hT,if_neg (by simp)] at hrun;refine .inl ⟨_,H'.push ⟨encK x,1,false⟩,?_,rfl,lj,?_,hlj,hokj,hrun⟩
    ·rw [ζ2g];simp -implicitDefEqProofs [hjl,i0,hru,ζ96,w2,mv_st,mv_cells]
    ·exact st.rest ((Ext.refl H').push _)
   | true =>
    rw [hT] at hru;rw [hT,if_pos rfl] at hrun;obtain ⟨H2,e2,g2,hko⟩:=ζhu k x hxm dir st2 il ip hne hil2 hip2 (pv:=pv) (pg:=pg) (hpg.more fun i y h1 h2 h3 => by
     rw [List.append_assoc,List.getElem?_append_left (by simpa using (List.getElem?_eq_some_iff.1 h3).1),List.getElem?_set_ne (Ne.symm h2)]; exact h3) hl (by omega) hokj
    have hlen:=ζk7 x hxm dir gl down pg lj;generalize subRun x dir gl down pg lj = res at e2 g2 hko hrun hlen;rw [List.append_assoc,List.set_append_left _ _ (by simpa using hlt),List.set_set,← List.append_assoc] at g2;have g2:=g2.take ((L.set ip (itPl p op down lj)).length + 1);rw [List.take_append_of_le_length (by simp),List.take_of_length_le (by simp)] at g2;by_cases hz:res.2 = 0
    ·rw [if_pos hz] at hrun;refine .inl ⟨_,H2,?_,rfl,res.1,g2,by omega,hko,hrun⟩;rw [ζ2g];simp -implicitDefEqProofs [hjl,i0,hru,ζ97,w2,mv_st,mv_cells,e2,hz]
    ·rw [if_neg hz] at hrun;have hz2:(res.2 != 0) = true:=by simpa using hz
     have hlast:(L.set ip (itPl p op down res.1) ++ [itBlk H.n ⟨[.int .i64 0,.int .i64 0,.int .i64 0],1,false⟩])[L.length]? = some (itBlk H.n ⟨[.int .i64 0,.int .i64 0,.int .i64 0],1,false⟩):=by
      rw [List.getElem?_append_right (by simp)]; simp
     obtain ⟨H3,e3,g3,_⟩:=Star.stAll g2 L.length hlast [.int .i64 res.2,.int .i64 0,.int .i64 j] 3 rfl rfl;rw [List.set_append_right _ _ (by simp)] at g3;simp only [List.length_set,Nat.sub_self,List.set_cons_zero] at g3;refine .inr ⟨.ret,_,H3,?_,by simp,?_,.inl ⟨rfl,rfl,?_⟩⟩
     ·rw [ζ2g];simp -implicitDefEqProofs [hjl,i0,hru,mv_st,mv_cells,e2,hz2,e3]
     ·rw [hrun]; exact hko
     ·rw [hrun]; exact g3)
  (fun e' H' ⟨he',lj,st,hlj,hokj,hrun⟩ => by
   subst he';rw [List.drop_length] at hrun;replace hrun:W = (lj,0,0):=hrun;refine ⟨.exit 0,[(1,ptrV c),(2,ptrV p),(3,.int .i64 dir),(4,pv),(10,ptrV H.n),(17,lv encK t),(18,.int .i64 t.length),(19,.int .i64 t.length),(20,.bool false)],H',?_,by simp,?_,.inr ⟨rfl,⟨_,rfl⟩,?_,?_⟩⟩
   ·rw [ζ2g];simp -implicitDefEqProofs
   ·rw [hrun]; exact hokj
   ·rw [hrun]
   ·rw [hrun]; exact st)
 obtain ⟨hko,hQ⟩:=hQ;have fin:∀ {H':Heap} {b:It},Star H0 H' (L.set ip (itPl p op down W.1) ++ [b]) → Star H0 H' (L.set ip (itPl p op down W.1)):=fun g => by
  have:=g.take (L.set ip (itPl p op down W.1)).length
  rwa [List.take_append_of_le_length (by simp),List.take_of_length_le (by simp)] at this
 have hlast:∀ (b:It),(L.set ip (itPl p op down W.1) ++ [b])[L.length]? = some b:=fun b => by
  rw [List.getElem?_append_right (by simp)]; simp
 rcases hQ with ⟨rfl,rfl,st1⟩ | ⟨rfl,⟨z,rfl⟩,hz,st1⟩
 ·have hg:=st1.get _ (hlast _);refine ⟨H1,?_,fin st1,hko⟩;rw [ζ7v,nrm_of];simp -implicitDefEqProofs [ζt,hr1,ζ98,hg]
 ·obtain ⟨H2,e2,g2,_⟩:=Star.stAll st1 L.length (hlast _) [.int .i64 0,.int .i64 0,.int .i64 0] 3 rfl rfl;rw [List.set_append_right _ _ (by simp)] at g2;simp only [List.length_set,Nat.sub_self,List.set_cons_zero] at g2;have hg:=g2.get _ (hlast _);have h1:W.2.1 = 0:=by rw [hz]
  have h2:W.2.2 = 0:=by rw [hz]
  rw [h1,h2];refine ⟨H2,?_,fin g2,hko⟩;rw [ζ7v,nrm_of];simp -implicitDefEqProofs [ζt,hr1,ζ8m,e2,hg]
end Go.Sw
end
section
set_option maxRecDepth 100000
set_option linter.unusedVariables false
namespace Go.Sw
noncomputable section
def ζ2t (k:Nat) (call:Caller):Env → Heap → Res (AExit × Env):=loopB (C k) call F.ζ1e [1,1,0,1,0,0]
def ζ63 (k:Nat) (call:Caller):Kont Value:=kBlock 0 (kSeq (pieceK (C k) call F.ζ1e [1,1,1]) (kDone Prog (resOf Prog F.ζ1e)))
def ζ1e (k:Nat) (call:Caller) (a0:Value) (h:Heap):Res Value :=
 (call F.ζ3 [(.slice none 0 0),(.int .i64 2),(.int .i64 2)] h).bind fun v1 h2 =>
 (call F.ζ3 [v1,(.int .i64 0),(.int .i64 2)] h2).bind fun v3 h4 =>
 (builtinV Prog .len [94] [a0] h4).bind fun v5 h6 =>
 (call F.ζ3 [v3,v5,(.int .i64 4)] h6).bind fun v7 h8 =>
 (builtinV Prog .len [94] [a0] h8).bind fun v9 h10 =>
 (loopN (ζ2t k call) loopFuel [(3,v7),(11,a0),(12,v9),(13,(.int .i64 0))] h10).bind fun r11 h12 =>
 ζ63 k call r11.1 r11.2 h12
theorem ζan (k:Nat) (a0:Value) (h:Heap):R (T k) F.ζ1e [a0] h = nrm .fz h (ζ1e k (R (T k)) a0 h) :=
 (R_body (t:=T k) (T_scott k) (by kernel_rfl) (by kernel_rfl) _ _).trans (by kernel_rfl)
theorem ζ4y (k:Nat) (call:Caller) (a3 a11 a12 a13:Value) (h:Heap):ζ2t k call [(3,a3),(11,a11),(12,a12),(13,a13)] h =
 (binR Prog .lss 3 a13 a12 h).bind fun v13 h14 =>
 condV (some v13) (
 (indexAddrR Prog 94 a11 a13 h14).bind fun v15 h16 =>
 (loadR Prog 104 v15 h16).bind fun v17 h18 =>
 (allocR Prog 104 h18).bind fun v19 h20 =>
 (storeR Prog 104 v19 v17 h20).bind fun _v21 h22 =>
 (fieldAddrR Prog 104 v19 1 h22).bindN fun v23 h24 =>
 (loadR Prog 22 v23 h24).bindN fun v25 h26 =>
 (builtinV Prog .len [22] [v25] h26).bindN fun v27 h28 =>
 (binR Prog .add 3 (.int .i64 12) v27 h28).bindN fun v29 h30 =>
 (call F.ζ3 [a3,v29,(.int .i64 4)] h30).bindT (fun p33 h34 => (fieldAddrR Prog 104 v19 0 h30).bindN fun v35 h36 => (loadR Prog 102 v35 h36).bindN fun v37 h38 => (convR Prog 102 3 v37 h38).bindN fun v39 h40 => chkR ((okVal (loadR Prog 102 v35 h22) v37 && true) && true) (.panic p33 h34)) fun v31 h32 =>
 (fieldAddrR Prog 104 v19 0 h32).bindN fun v41 h42 =>
 (loadR Prog 102 v41 h42).bindN fun v43 h44 =>
 (convR Prog 102 3 v43 h44).bindN fun v45 h46 =>
 (call F.ζ3 [v31,v45,(.int .i64 4)] h46).bindT (fun p49 h50 => chkR ((okVal (loadR Prog 102 v41 h22) v43 && true) && true) (.panic p49 h50)) fun v47 h48 =>
 chkR ((okVal (loadR Prog 102 v41 h22) v43 && true) && true) (
 (buildSliceR Prog 22 4 [(0,(.int .u8 0)),(1,(.int .u8 0)),(2,(.int .u8 0)),(3,(.int .u8 0))] h48).bindN fun v51 h52 =>
 (builtinV Prog .append [22,22] [v47,v51] h52).bindN fun v53 h54 =>
 (fieldAddrR Prog 104 v19 1 h54).bindN fun v55 h56 =>
 (loadR Prog 22 v55 h56).bindN fun v57 h58 =>
 (builtinV Prog .append [22,22] [v53,v57] h58).bindN fun v59 h60 =>
 chkR ((okVal (loadR Prog 22 v55 h48) v57 && (okVal (loadR Prog 22 v55 h52) v57 && true)) && true) (
 (binR Prog .add 3 a13 (.int .i64 1) h60).bind fun v61 h62 =>
 .ok (.normal,[(3,v59),(11,a11),(12,a12),(13,v61)]) h62)))
 (
 .ok ((.exit 0),[(3,a3),(11,a11),(12,a12),(13,a13),(14,v13)]) h14) :=
 (loopB_eq _ _).trans (by kernel_rfl)
theorem ζ7r (k:Nat) (call:Caller) (a3 a11 a12 a13 a14:Value) (h:Heap):ζ63 k call (.exit 0) [(3,a3),(11,a11),(12,a12),(13,a13),(14,a14)] h =
 .ok a3 h:=by kernel_rfl
end
end Go.Sw
end
