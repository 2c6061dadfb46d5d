/-
  Functions' forms, and what is proved of them, part 7.
-/
import Derived.Test.YtanfippcmdialaaSwCfg
import Derived.Test.YtanfippcmdialaaSwW6
import Derived.Test.YtanfippcmdialaaSwW5
set_option linter.unusedSimpArgs false
set_option linter.unusedVariables false
set_option linter.unusedSectionVars false
section
set_option maxRecDepth 100000
set_option linter.unusedVariables false
namespace Go.Sw
noncomputable section
def ζ4p (k:Nat) (call:Caller):Env → Heap → Res (AExit × Env):=loopB (C k) call F.ζr [1,1,0,1,0,0]
def ζ74 (k:Nat) (call:Caller):Kont Value:=kBlock 0 (kSeq (pieceK (C k) call F.ζr [1,1,1]) (kDone Prog (resOf Prog F.ζr)))
def ζ7t (k:Nat) (call:Caller) (a0 a6 a8 a9 a10:Value) (h:Heap):Res (AExit × Env) :=
 kSeq (pieceK (C k) call F.ζr [1,1,0,1,0,0,1,1]) (kRound (ownOf (C k) F.ζr [1,1,0,1,0,0])) .normal [(0,a0),(6,a6),(8,a8),(9,a9),(10,a10)] h
def ζ7u (k:Nat) (call:Caller) (a0 a6 a8 a9 a10 a52:Value) (h:Heap):Res (AExit × Env) :=
 kSeq (pieceK (C k) call F.ζr [1,1,0,1,0,0,1,1]) (kRound (ownOf (C k) F.ζr [1,1,0,1,0,0])) .normal [(0,a0),(6,a6),(8,a8),(9,a9),(10,a10),(52,a52)] h
def ζr (k:Nat) (call:Caller) (a0 a1 a2:Value) (h:Heap):Res Value :=
 (allocR Prog 38 h).bind fun v1 h2 =>
 (call F.ζe [a0,a1,a2] h2).bind fun v3 h4 =>
 (extractR v3 0 h4).bind fun v5 h6 =>
 (extractR v3 1 h6).bind fun v7 h8 =>
 (loopN (ζ4p k call) loopFuel [(0,a0),(6,v1),(8,v5),(9,v7),(10,(.int .i64 0))] h8).bind fun r9 h10 =>
 ζ74 k call r9.1 r9.2 h10
theorem ζcd (k:Nat) (a0 a1 a2:Value) (h:Heap):R (T k) F.ζr [a0,a1,a2] h = nrm .fz h (ζr k (R (T k)) a0 a1 a2 h) :=
 (R_body (t:=T k) (T_scott k) (by kernel_rfl) (by kernel_rfl) _ _).trans (by kernel_rfl)
theorem ζ5r (k:Nat) (call:Caller) (a0 a6 a8 a9 a10:Value) (h:Heap):ζ4p k call [(0,a0),(6,a6),(8,a8),(9,a9),(10,a10)] h =
 (builtinV Prog .len [36] [a8] h).bind fun v11 h12 =>
 (binR Prog .lss 3 a10 v11 h12).bind fun v13 h14 =>
 condV (some v13) (
 (indexAddrR Prog 36 a8 a10 h14).bindN fun v15 h16 =>
 (fieldAddrR Prog 173 v15 0 h16).bindN fun v17 h18 =>
 (loadR Prog 3 v17 h18).bindN fun v19 h20 =>
 (indexAddrR Prog 36 a8 a10 h20).bindN fun v21 h22 =>
 (fieldAddrR Prog 173 v21 1 h22).bindN fun v23 h24 =>
 (loadR Prog 3 v23 h24).bindN fun v25 h26 =>
 (binR Prog .gtr 3 v19 v25 h26).bindN fun v27 h28 =>
 ((bif wantVal v27 false then Res.ok a10 h28 else Res.ok undef h28)).bindN fun v29 h30 =>
 ((bif wantVal v27 false then binR Prog .gtr 3 v29 (.int .i64 0) h30 else Res.ok undef h30)).bindN fun v31 h32 =>
 ((bif wantVal v27 false then Res.ok v31 h32 else Res.ok undef h32)).bindN fun v33 h34 =>
 ((bif wantVal v33 true then Res.ok a8 h34 else Res.ok undef h34)).bindN fun v35 h36 =>
 ((bif wantVal v33 true then Res.ok a10 h36 else Res.ok undef h36)).bindN fun v37 h38 =>
 ((bif wantVal v33 true then binR Prog .sub 3 v37 (.int .i64 1) h38 else Res.ok undef h38)).bindN fun v39 h40 =>
 ((bif wantVal v33 true then indexAddrR Prog 36 v35 v39 h40 else Res.ok undef h40)).bindN fun v41 h42 =>
 ((bif wantVal v33 true then fieldAddrR Prog 173 v41 1 h42 else Res.ok undef h42)).bindN fun v43 h44 =>
 ((bif wantVal v33 true then loadR Prog 3 v43 h44 else Res.ok undef h44)).bindN fun v45 h46 =>
 ((bif wantVal v33 true then Res.ok a8 h46 else Res.ok undef h46)).bindN fun v47 h48 =>
 ((bif wantVal v33 true then Res.ok a10 h48 else Res.ok undef h48)).bindN fun v49 h50 =>
 ((bif wantVal v33 true then indexAddrR Prog 36 v47 v49 h50 else Res.ok undef h50)).bindN fun v51 h52 =>
 ((bif wantVal v33 true then fieldAddrR Prog 173 v51 0 h52 else Res.ok undef h52)).bindN fun v53 h54 =>
 ((bif wantVal v33 true then loadR Prog 3 v53 h54 else Res.ok undef h54)).bindN fun v55 h56 =>
 ((bif wantVal v33 true then binR Prog .geq 3 v45 v55 h56 else Res.ok undef h56)).bindN fun v57 h58 =>
 ((bif wantVal v27 false then condV (some v33) (Res.ok v57 h58) (Res.ok (.bool false) h58) else Res.ok undef h58)).bindN fun v59 h60 =>
 (condV (some v27) (Res.ok (.bool true) h60) (Res.ok v59 h60)).bindN fun v61 h62 =>
 condV (some v61) (
 ζ7t k call a0 a6 a8 (.bool false) a10 h62)
 (
 ζ7u k call a0 a6 a8 a9 a10 v61 h62))
 (
 .ok ((.exit 0),[(0,a0),(6,a6),(8,a8),(9,a9),(10,a10),(21,v13)]) h14) :=
 (loopB_eq _ _).trans (by kernel_rfl)
theorem ζ5p (k:Nat) (call:Caller) (a0 a6 a8 a9 a10:Value) (h:Heap):ζ7t k call a0 a6 a8 a9 a10 h =
 (binR Prog .add 3 a10 (.int .i64 1) h).bind fun v63 h64 =>
 .ok (.normal,[(0,a0),(6,a6),(8,a8),(9,a9),(10,v63)]) h64:=by kernel_rfl
theorem ζ5q (k:Nat) (call:Caller) (a0 a6 a8 a9 a10 a52:Value) (h:Heap):ζ7u k call a0 a6 a8 a9 a10 a52 h =
 (binR Prog .add 3 a10 (.int .i64 1) h).bind fun v65 h66 =>
 .ok (.normal,[(0,a0),(6,a6),(8,a8),(9,a9),(10,v65)]) h66:=by kernel_rfl
theorem ζ59 (k:Nat) (call:Caller) (a0 a6 a8 a9 a10 a21:Value) (h:Heap):ζ74 k call (.exit 0) [(0,a0),(6,a6),(8,a8),(9,a9),(10,a10),(21,a21)] h =
 (unR .not a9 h).bind fun v67 h68 =>
 condV (some v67) (
 (buildR Prog 38 [] h68).bind fun v69 h70 =>
 (storeR Prog 38 a6 v69 h70).bind fun _v71 h72 =>
 (loadR Prog 38 a6 h72).bind fun v73 h74 =>
 .ok (.tuple #[v73,(.bool false)]) h74)
 (
 (buildR Prog 38 [(0,a0),(1,a8)] h68).bind fun v75 h76 =>
 (storeR Prog 38 a6 v75 h76).bind fun _v77 h78 =>
 (loadR Prog 38 a6 h78).bind fun v79 h80 =>
 .ok (.tuple #[v79,(.bool true)]) h80):=by kernel_rfl
def ζ4b (k:Nat) (call:Caller):Env → Heap → Res (AExit × Env):=loopB (C k) call F.ζe [1,0,1,0,1,1,1,1,1,1,1,0,1,1,0,1,0,0]
def ζ6p (k:Nat) (call:Caller):Kont Value:=kBlock 1 (kSeq (pieceK (C k) call F.ζe [1,0,1,0,1,1,1,1,1,1,1,0,1,1,1]) (kBlock 0 (kSeq (pieceK (C k) call F.ζe [1,1]) (kDone Prog (resOf Prog F.ζe)))))
def ζe (k:Nat) (call:Caller) (a0 a1 a2:Value) (h:Heap):Res Value :=
 (call F.ζ3 [a0,(.int .i64 0),(.int .i64 2)] h).bind fun v1 h2 =>
 (binR Prog .eql 3 v1 (.int .i64 0) h2).bind fun v3 h4 =>
 condV (some v3) (
 (binR Prog .sub 3 a1 (.int .i64 1) h4).bind fun v5 h6 =>
 (buildR Prog 173 [(0,(.int .i64 0)),(1,v5),(2,(.int .i64 2)),(3,a2),(4,a2)] h6).bind fun v7 h8 =>
 (buildSliceR Prog 36 1 [(0,v7)] h8).bind fun v9 h10 =>
 (builtinV Prog .len [31] [a0] h10).bind fun v11 h12 =>
 (call F.ζj [v11,(.int .i64 2),a1,a2] h12).bind fun v13 h14 =>
 .ok (.tuple #[v9,v13]) h14)
 (
 (binR Prog .eql 3 v1 (.int .i64 2) h4).bind fun v15 h16 =>
 condV (some v15) (
 (call F.ζ4 [a0,a2,(.bool false)] h16).bind fun v17 h18 =>
 (extractR v17 0 h18).bind fun v19 h20 =>
 (extractR v17 1 h20).bind fun v21 h22 =>
 .ok (.tuple #[v19,v21]) h22)
 (
 (binR Prog .eql 3 v1 (.int .i64 4) h16).bind fun v23 h24 =>
 condV (some v23) (
 (call F.ζ4 [a0,a2,(.bool true)] h24).bind fun v25 h26 =>
 (extractR v25 0 h26).bind fun v27 h28 =>
 (extractR v25 1 h28).bind fun v29 h30 =>
 .ok (.tuple #[v27,v29]) h30)
 (
 (binR Prog .eql 3 v1 (.int .i64 6) h24).bind fun v31 h32 =>
 condV (some v31) (
 (binR Prog .add 3 (.int .i64 2) a2 h32).bind fun v33 h34 =>
 (call F.ζ6 [a0,(.int .i64 2),v33,(.int .i64 1)] h34).bind fun v35 h36 =>
 (extractR v35 0 h36).bind fun v37 h38 =>
 (extractR v35 1 h38).bind fun v39 h40 =>
 (extractR v35 2 h40).bind fun v41 h42 =>
 (buildSliceR Prog 36 0 [] h42).bind fun v43 h44 =>
 (loopN (ζ4b k call) loopFuel [(0,a0),(2,a2),(8,v37),(10,v41),(11,v43),(12,(.int .i64 0))] h44).bind fun r45 h46 =>
 ζ6p k call r45.1 r45.2 h46)
 (
 (binR Prog .eql 3 v1 (.int .i64 8) h32).bind fun v47 h48 =>
 condV (some v47) (
 (call F.ζm [a0,(.int .i64 2),a2] h48).bind fun v49 h50 =>
 (extractR v49 0 h50).bind fun v51 h52 =>
 (extractR v49 1 h52).bind fun v53 h54 =>
 .ok (.tuple #[v51,v53]) h54)
 (
 (binR Prog .eql 3 v1 (.int .i64 10) h48).bind fun v55 h56 =>
 condV (some v55) (
 (call F.ζ3 [a0,(.int .i64 2),(.int .i64 2)] h56).bind fun v57 h58 =>
 (binR Prog .neq 3 v57 (.int .i64 1) h58).bind fun v59 h60 =>
 ((bif wantVal v59 true then Res.ok v57 h60 else Res.ok undef h60)).bind fun v61 h62 =>
 ((bif wantVal v59 true then binR Prog .neq 3 v61 (.int .i64 2) h62 else Res.ok undef h62)).bind fun v63 h64 =>
 (condV (some v59) (Res.ok v63 h64) (Res.ok (.bool false) h64)).bind fun v65 h66 =>
 ((bif wantVal v65 true then Res.ok v57 h66 else Res.ok undef h66)).bind fun v67 h68 =>
 ((bif wantVal v65 true then binR Prog .neq 3 v67 (.int .i64 4) h68 else Res.ok undef h68)).bind fun v69 h70 =>
 (condV (some v65) (Res.ok v69 h70) (Res.ok (.bool false) h70)).bind fun v71 h72 =>
 condV (some v71) (
 .ok (.tuple #[(.slice none 0 0),(.bool false)]) h72)
 (
 (call F.ζm [a0,(.int .i64 4),v57] h72).bind fun v73 h74 =>
 (extractR v73 0 h74).bind fun v75 h76 =>
 (extractR v73 1 h76).bind fun v77 h78 =>
 .ok (.tuple #[v75,v77]) h78))
 (
 .ok (.tuple #[(.slice none 0 0),(.bool false)]) h56))))))
theorem ζbp (k:Nat) (a0 a1 a2:Value) (h:Heap):R (T k) F.ζe [a0,a1,a2] h = nrm .fz h (ζe k (R (T k)) a0 a1 a2 h) :=
 (R_body (t:=T k) (T_scott k) (by kernel_rfl) (by kernel_rfl) _ _).trans (by kernel_rfl)
theorem ζ5a (k:Nat) (call:Caller) (a0 a2 a8 a10 a11 a12:Value) (h:Heap):ζ4b k call [(0,a0),(2,a2),(8,a8),(10,a10),(11,a11),(12,a12)] h =
 (builtinV Prog .len [23] [a8] h).bind fun v79 h80 =>
 (binR Prog .lss 3 a12 v79 h80).bind fun v81 h82 =>
 condV (some v81) (
 (indexAddrR Prog 23 a8 a12 h82).bind fun v83 h84 =>
 (loadR Prog 3 v83 h84).bind fun v85 h86 =>
 (call F.ζ3 [a0,v85,(.int .i64 2)] h86).bind fun v87 h88 =>
 (indexAddrR Prog 23 a8 a12 h88).bind fun v89 h90 =>
 (loadR Prog 3 v89 h90).bind fun v91 h92 =>
 (binR Prog .add 3 v91 (.int .i64 2) h92).bind fun v93 h94 =>
 (buildR Prog 173 [(0,v87),(1,v87),(2,v93),(3,a2)] h94).bind fun v95 h96 =>
 (buildSliceR Prog 36 1 [(0,v95)] h96).bind fun v97 h98 =>
 (builtinV Prog .append [36,36] [a11,v97] h98).bind fun v99 h100 =>
 (binR Prog .add 3 a12 (.int .i64 1) h100).bind fun v101 h102 =>
 .ok (.normal,[(0,a0),(2,a2),(8,a8),(10,a10),(11,v99),(12,v101)]) h102)
 (
 .ok ((.exit 1),[(0,a0),(2,a2),(8,a8),(10,a10),(11,a11),(12,a12),(58,v81)]) h82) :=
 (loopB_eq _ _).trans (by kernel_rfl)
theorem ζ8x (k:Nat) (call:Caller) (a0 a2 a8 a10 a11 a12 a58:Value) (h:Heap):ζ6p k call (.exit 1) [(0,a0),(2,a2),(8,a8),(10,a10),(11,a11),(12,a12),(58,a58)] h =
 .ok (.tuple #[a11,a10]) h:=by kernel_rfl
def ζ5b (k:Nat) (call:Caller) (a0 a1 a2 a8:Value) (h:Heap):Res Value :=
 kSeq (pieceK (C k) call F.ζ4 [1,1,1]) (kDone Prog (resOf Prog F.ζ4)) .normal [(0,a0),(1,a1),(2,a2),(8,a8)] h
def ζ5c (k:Nat) (call:Caller) (a0 a1 a2 a8 a17:Value) (h:Heap):Res Value :=
 kSeq (pieceK (C k) call F.ζ4 [1,1,1]) (kDone Prog (resOf Prog F.ζ4)) .normal [(0,a0),(1,a1),(2,a2),(8,a8),(17,a17)] h
def ζ27 (k:Nat) (call:Caller):Env → Heap → Res (AExit × Env):=loopB (C k) call F.ζ4 [1,1,1,1,1,0,1,0,0]
def ζ2s (k:Nat) (call:Caller):Kont Value:=kBlock 0 (kSeq (pieceK (C k) call F.ζ4 [1,1,1,1,1,1]) (kDone Prog (resOf Prog F.ζ4)))
def ζ5d (k:Nat) (call:Caller) (a0 a1 a2 a9 a11 a12 a13 a14:Value) (h:Heap):Res (AExit × Env) :=
 kSeq (pieceK (C k) call F.ζ4 [1,1,1,1,1,0,1,0,0,1,0,0,1,1]) (kBlock 1 (kSeq (pieceK (C k) call F.ζ4 [1,1,1,1,1,0,1,0,0,1,1]) (kRound (ownOf (C k) F.ζ4 [1,1,1,1,1,0,1,0,0])))) .normal [(0,a0),(1,a1),(2,a2),(9,a9),(11,a11),(12,a12),(13,a13),(14,a14)] h
def ζ5e (k:Nat) (call:Caller) (a0 a1 a2 a9 a11 a12 a13 a14 a55:Value) (h:Heap):Res (AExit × Env) :=
 kSeq (pieceK (C k) call F.ζ4 [1,1,1,1,1,0,1,0,0,1,0,0,1,1]) (kBlock 1 (kSeq (pieceK (C k) call F.ζ4 [1,1,1,1,1,0,1,0,0,1,1]) (kRound (ownOf (C k) F.ζ4 [1,1,1,1,1,0,1,0,0])))) .normal [(0,a0),(1,a1),(2,a2),(9,a9),(11,a11),(12,a12),(13,a13),(14,a14),(55,a55)] h
def ζ4 (k:Nat) (call:Caller) (a0 a1 a2:Value) (h:Heap):Res Value :=
 (binR Prog .add 3 (.int .i64 4) a1 h).bind fun v1 h2 =>
 condV (some a2) (
 ζ5b k call a0 a1 a2 (.int .i64 6) h2)
 (
 ζ5c k call a0 a1 a2 v1 a2 h2)
theorem ζ9z (k:Nat) (a0 a1 a2:Value) (h:Heap):R (T k) F.ζ4 [a0,a1,a2] h = nrm .fz h (ζ4 k (R (T k)) a0 a1 a2 h) :=
 (R_body (t:=T k) (T_scott k) (by kernel_rfl) (by kernel_rfl) _ _).trans (by kernel_rfl)
theorem ζ7v (k:Nat) (call:Caller) (a0 a1 a2 a8:Value) (h:Heap):ζ5b k call a0 a1 a2 a8 h =
 (call F.ζ6 [a0,(.int .i64 2),a8,(.int .i64 2)] h).bind fun v3 h4 =>
 (extractR v3 0 h4).bind fun v5 h6 =>
 (extractR v3 1 h6).bind fun v7 h8 =>
 (extractR v3 2 h8).bind fun v9 h10 =>
 (buildSliceR Prog 36 0 [] h10).bind fun v11 h12 =>
 (loopN (ζ27 k call) loopFuel [(0,a0),(1,a1),(2,a2),(9,v5),(11,v9),(12,v11),(13,(.int .i64 0))] h12).bind fun r13 h14 =>
 ζ2s k call r13.1 r13.2 h14:=by kernel_rfl
theorem ζ7w (k:Nat) (call:Caller) (a0 a1 a2 a8 a17:Value) (h:Heap):ζ5c k call a0 a1 a2 a8 a17 h =
 (call F.ζ6 [a0,(.int .i64 2),a8,(.int .i64 2)] h).bind fun v15 h16 =>
 (extractR v15 0 h16).bind fun v17 h18 =>
 (extractR v15 1 h18).bind fun v19 h20 =>
 (extractR v15 2 h20).bind fun v21 h22 =>
 (buildSliceR Prog 36 0 [] h22).bind fun v23 h24 =>
 (loopN (ζ27 k call) loopFuel [(0,a0),(1,a1),(2,a2),(9,v17),(11,v21),(12,v23),(13,(.int .i64 0))] h24).bind fun r25 h26 =>
 ζ2s k call r25.1 r25.2 h26:=by kernel_rfl
theorem ζ2h (k:Nat) (call:Caller) (a0 a1 a2 a9 a11 a12 a13:Value) (h:Heap):ζ27 k call [(0,a0),(1,a1),(2,a2),(9,a9),(11,a11),(12,a12),(13,a13)] h =
 (builtinV Prog .len [23] [a9] h).bind fun v27 h28 =>
 (binR Prog .lss 3 a13 v27 h28).bind fun v29 h30 =>
 ((bif wantVal v29 true then Res.ok a11 h30 else Res.ok undef h30)).bind fun v31 h32 =>
 (condV (some v29) (Res.ok v31 h32) (Res.ok (.bool false) h32)).bind fun v33 h34 =>
 condV (some v33) (
 (indexAddrR Prog 23 a9 a13 h34).bindN fun v35 h36 =>
 (loadR Prog 3 v35 h36).bindN fun v37 h38 =>
 (binR Prog .add 3 v37 (.int .i64 2) h38).bindN fun v39 h40 =>
 (call F.ζ3 [a0,v39,(.int .i64 2)] h40).bindT (fun p43 h44 => (indexAddrR Prog 23 a9 a13 h40).bindN fun v45 h46 => (loadR Prog 3 v45 h46).bindN fun v47 h48 => (indexAddrR Prog 23 a9 a13 h48).bindN fun v49 h50 => (loadR Prog 3 v49 h50).bindN fun v51 h52 => (binR Prog .add 3 v51 (.int .i64 4) h52).bindN fun v53 h54 => (allocR Prog 173 h54).bindN fun v55 h56 => chkR ((okVal (loadR Prog 3 v45 h34) v47 && true) && ((okVal (loadR Prog 3 v49 h34) v51 && (okVal (loadR Prog 3 v49 h56) v51 && true)) && true)) (.panic p43 h44)) fun v41 h42 =>
 (indexAddrR Prog 23 a9 a13 h42).bindN fun v57 h58 =>
 (loadR Prog 3 v57 h58).bindN fun v59 h60 =>
 (call F.ζ3 [a0,v59,(.int .i64 2)] h60).bindT (fun p63 h64 => (indexAddrR Prog 23 a9 a13 h60).bindN fun v65 h66 => (loadR Prog 3 v65 h66).bindN fun v67 h68 => (binR Prog .add 3 v67 (.int .i64 4) h68).bindN fun v69 h70 => (allocR Prog 173 h70).bindN fun v71 h72 => chkR ((okVal (loadR Prog 3 v57 h34) v59 && true) && ((okVal (loadR Prog 3 v65 h34) v67 && (okVal (loadR Prog 3 v65 h42) v67 && (okVal (loadR Prog 3 v65 h72) v67 && true))) && true)) (.panic p63 h64)) fun v61 h62 =>
 (indexAddrR Prog 23 a9 a13 h62).bindN fun v73 h74 =>
 (loadR Prog 3 v73 h74).bindN fun v75 h76 =>
 (binR Prog .add 3 v75 (.int .i64 4) h76).bindN fun v77 h78 =>
 (buildR Prog 173 [(0,v41),(1,v61),(2,v77),(3,a1)] h78).bindN fun v79 h80 =>
 (allocR Prog 173 h80).bindN fun v81 h82 =>
 (storeR Prog 173 v81 v79 h82).bindN fun _v83 h84 =>
 chkR ((okVal (loadR Prog 3 v57 h34) v59 && true) && ((okVal (loadR Prog 3 v73 h34) v75 && (okVal (loadR Prog 3 v73 h42) v75 && (okVal (loadR Prog 3 v73 h82) v75 && true))) && true)) (
 condV (some a2) (
 (indexAddrR Prog 23 a9 a13 h84).bind fun v85 h86 =>
 (loadR Prog 3 v85 h86).bind fun v87 h88 =>
 (binR Prog .add 3 v87 (.int .i64 4) h88).bind fun v89 h90 =>
 (call F.ζ3 [a0,v89,(.int .i64 2)] h90).bind fun v91 h92 =>
 (fieldAddrR Prog 173 v81 2 h92).bind fun v93 h94 =>
 (storeR Prog 3 v93 v91 h94).bind fun _v95 h96 =>
 (fieldAddrR Prog 173 v81 4 h96).bind fun v97 h98 =>
 (storeR Prog 3 v97 a1 h98).bind fun _v99 h100 =>
 (builtinV Prog .len [31] [a0] h100).bind fun v101 h102 =>
 (fieldAddrR Prog 173 v81 2 h102).bind fun v103 h104 =>
 (loadR Prog 3 v103 h104).bind fun v105 h106 =>
 (fieldAddrR Prog 173 v81 1 h106).bind fun v107 h108 =>
 (loadR Prog 3 v107 h108).bind fun v109 h110 =>
 (fieldAddrR Prog 173 v81 0 h110).bind fun v111 h112 =>
 (loadR Prog 3 v111 h112).bind fun v113 h114 =>
 (binR Prog .sub 3 v109 v113 h114).bind fun v115 h116 =>
 (binR Prog .add 3 v115 (.int .i64 1) h116).bind fun v117 h118 =>
 (call F.ζj [v101,v105,v117,a1] h118).bind fun v119 h120 =>
 ζ5d k call a0 a1 a2 a9 v119 a12 a13 v81 h120)
 (
 ζ5e k call a0 a1 a2 a9 a11 a12 a13 v81 a2 h84)))
 (
 .ok ((.exit 0),[(0,a0),(1,a1),(2,a2),(9,a9),(11,a11),(12,a12),(13,a13),(32,v33)]) h34) :=
 (loopB_eq _ _).trans (by kernel_rfl)
theorem ζ7x (k:Nat) (call:Caller) (a0 a1 a2 a9 a11 a12 a13 a14:Value) (h:Heap):ζ5d k call a0 a1 a2 a9 a11 a12 a13 a14 h =
 (loadR Prog 173 a14 h).bind fun v121 h122 =>
 (buildSliceR Prog 36 1 [(0,v121)] h122).bind fun v123 h124 =>
 (builtinV Prog .append [36,36] [a12,v123] h124).bind fun v125 h126 =>
 (binR Prog .add 3 a13 (.int .i64 1) h126).bind fun v127 h128 =>
 .ok (.normal,[(0,a0),(1,a1),(2,a2),(9,a9),(11,a11),(12,v125),(13,v127)]) h128:=by kernel_rfl
theorem ζ7y (k:Nat) (call:Caller) (a0 a1 a2 a9 a11 a12 a13 a14 a55:Value) (h:Heap):ζ5e k call a0 a1 a2 a9 a11 a12 a13 a14 a55 h =
 (loadR Prog 173 a14 h).bind fun v129 h130 =>
 (buildSliceR Prog 36 1 [(0,v129)] h130).bind fun v131 h132 =>
 (builtinV Prog .append [36,36] [a12,v131] h132).bind fun v133 h134 =>
 (binR Prog .add 3 a13 (.int .i64 1) h134).bind fun v135 h136 =>
 .ok (.normal,[(0,a0),(1,a1),(2,a2),(9,a9),(11,a11),(12,v133),(13,v135)]) h136:=by kernel_rfl
theorem ζ3g (k:Nat) (call:Caller) (a0 a1 a2 a9 a11 a12 a13 a32:Value) (h:Heap):ζ2s k call (.exit 0) [(0,a0),(1,a1),(2,a2),(9,a9),(11,a11),(12,a12),(13,a13),(32,a32)] h =
 .ok (.tuple #[a12,a11]) h:=by kernel_rfl
def ζm (k:Nat) (call:Caller) (a0 a1 a2:Value) (h:Heap):Res Value :=
 (call F.ζ3 [a0,a1,(.int .i64 2)] h).bind fun v1 h2 =>
 (binR Prog .add 3 a1 (.int .i64 2) h2).bind fun v3 h4 =>
 (call F.ζ3 [a0,v3,(.int .i64 2)] h4).bind fun v5 h6 =>
 (binR Prog .lss 3 v1 (.int .i64 0) h6).bind fun v7 h8 =>
 ((bif wantVal v7 false then Res.ok v5 h8 else Res.ok undef h8)).bind fun v9 h10 =>
 ((bif wantVal v7 false then binR Prog .lss 3 v9 (.int .i64 0) h10 else Res.ok undef h10)).bind fun v11 h12 =>
 (condV (some v7) (Res.ok (.bool true) h12) (Res.ok v11 h12)).bind fun v13 h14 =>
 ((bif wantVal v13 false then Res.ok v1 h14 else Res.ok undef h14)).bind fun v15 h16 =>
 ((bif wantVal v13 false then Res.ok v5 h16 else Res.ok undef h16)).bind fun v17 h18 =>
 ((bif wantVal v13 false then binR Prog .add 3 v15 v17 h18 else Res.ok undef h18)).bind fun v19 h20 =>
 ((bif wantVal v13 false then binR Prog .gtr 3 v19 (.int .i64 65536) h20 else Res.ok undef h20)).bind fun v21 h22 =>
 (condV (some v13) (Res.ok (.bool true) h22) (Res.ok v21 h22)).bind fun v23 h24 =>
 ((bif wantVal v23 false then Res.ok a0 h24 else Res.ok undef h24)).bind fun v25 h26 =>
 ((bif wantVal v23 false then builtinV Prog .len [31] [v25] h26 else Res.ok undef h26)).bind fun v27 h28 =>
 ((bif wantVal v23 false then Res.ok a1 h28 else Res.ok undef h28)).bind fun v29 h30 =>
 ((bif wantVal v23 false then binR Prog .add 3 v29 (.int .i64 4) h30 else Res.ok undef h30)).bind fun v31 h32 =>
 ((bif wantVal v23 false then Res.ok v5 h32 else Res.ok undef h32)).bind fun v33 h34 =>
 ((bif wantVal v23 false then Res.ok a2 h34 else Res.ok undef h34)).bind fun v35 h36 =>
 ((bif wantVal v23 false then call F.ζj [v27,v31,v33,v35] h36 else Res.ok undef h36)).bind fun v37 h38 =>
 ((bif wantVal v23 false then unR .not v37 h38 else Res.ok undef h38)).bind fun v39 h40 =>
 (condV (some v23) (Res.ok (.bool true) h40) (Res.ok v39 h40)).bind fun v41 h42 =>
 condV (some v41) (
 .ok (.tuple #[(.slice none 0 0),(.bool false)]) h42)
 (
 (binR Prog .eql 3 v5 (.int .i64 0) h42).bind fun v43 h44 =>
 condV (some v43) (
 (buildSliceR Prog 36 0 [] h44).bind fun v45 h46 =>
 .ok (.tuple #[v45,(.bool true)]) h46)
 (
 (binR Prog .add 3 v1 v5 h44).bind fun v47 h48 =>
 (binR Prog .sub 3 v47 (.int .i64 1) h48).bind fun v49 h50 =>
 (binR Prog .add 3 a1 (.int .i64 4) h50).bind fun v51 h52 =>
 (buildR Prog 173 [(0,v1),(1,v49),(2,v51),(3,a2),(4,a2)] h52).bind fun v53 h54 =>
 (buildSliceR Prog 36 1 [(0,v53)] h54).bind fun v55 h56 =>
 .ok (.tuple #[v55,(.bool true)]) h56))
theorem ζak (k:Nat) (a0 a1 a2:Value) (h:Heap):R (T k) F.ζm [a0,a1,a2] h = nrm .fz h (ζm k (R (T k)) a0 a1 a2 h) :=
 (R_body (t:=T k) (T_scott k) (by kernel_rfl) (by kernel_rfl) _ _).trans (by kernel_rfl)
end
end Go.Sw
end
section
namespace Go.Sw
open Go.RowKit
abbrev encRP (r:RP):List Value:=[.int .i64 r.first,.int .i64 r.last,.int .i64 r.pos,.int .i64 r.size,.int .i64 r.step]
theorem ζ6v (r:RP):(encRP r).length = 5:=rfl
theorem ζ9l (l:List RP):∀ p,p ∈ l → ∀ v,v ∈ encRP p → Still v:=fun p _ v hv => by
 simp [encRP] at hv;rcases hv with rfl | rfl | rfl | rfl | rfl <;> trivial
theorem Flat.RPs (l:List RP):Flat (Go.Sw.lv encRP l):=.lv fun p _ => .cons (.int _ _) (.cons (.int _ _) (.cons (.int _ _) (.cons (.int _ _) (.cons (.int _ _) .nil))))
def PartsAre (o:Option (List RP)) (v:Value):Prop:=∃ l,v = .tuple #[lv encRP l,.bool o.isSome] ∧ (∀ x,o = some x → l = x) ∧ l.length ≤ 65536
theorem ζ69 (l:List RP) (x:Bool):Flat (.tuple #[lv encRP l,.bool x]):=.tupleL (.cons (Flat.RPs _) (.cons (.bool _) .nil))
def segE (b:List Int) (z:Int) (each:Bool) (p:Int):RP:=if each then ⟨gU b (p + 2) 2,gU b p 2,gU b (p + 4) 2,z,z⟩ else ⟨gU b (p + 2) 2,gU b p 2,p + 4,z,0⟩
def segB (b:List Int) (z:Int) (each:Bool) (p:Int):Bool:=if each then rowsB b.length (gU b (p + 4) 2) (gU b p 2 - gU b (p + 2) 2 + 1) z else true
theorem segR_eq (b:List Int) (z:Int) (each:Bool) (p:Int):segR b z each p = if segB b z each p then some (segE b z each p) else none:=by
 unfold segR segB segE;cases each <;> simp
theorem ζj7 {β:Type} {f:Int → Option β} {l:List Int} {j:Nat} {p:Int} (hp:l[j]? = some p):mapO f (l.take (j + 1)) = (mapO f (l.take j)).bind fun r => (f p).map fun y => r ++ [y]:=by
 have h:∀ (a:List Int),mapO f (a ++ [p]) = (mapO f a).bind fun r => (f p).map fun y => r ++ [y]:=by
  intro a
  induction a with
  | nil => simp [mapO]; cases f p <;> rfl
  | cons x a ih =>
   simp only [List.cons_append,mapO,ih];cases f x with
   | none => rfl
   | some y =>
    simp only [Option.bind_some];cases mapO f a with
    | none => rfl
    | some r => simp only [Option.bind_some,Option.map_some]; cases f p <;> rfl
 rw [ζ1o hp,h]
theorem ζfu {β:Type} {f:Int → Option β} {l:List Int} {j:Nat} (h:mapO f (l.take j) = none):mapO f l = none:=by
 have:∀ (a b:List Int),mapO f a = none → mapO f (a ++ b) = none:=by
  intro a
  induction a with
  | nil => intro b h; cases h
  | cons x a ih =>
   intro b h;simp only [List.cons_append,mapO] at h ⊢;cases hx:f x with
   | none => rfl
   | some y =>
    rw [hx] at h;simp only [Option.bind_some,Option.map_eq_none_iff] at h ⊢;exact ih b h
 rw [← List.take_append_drop j l];exact this _ _ h
theorem ζhm (k:Nat) (b:List Int) (hb:Byt b) (z:Int) (hz:z = 2 ∨ z = 4) (each:Bool) (hl:b.length < 2 ^ 31) (H:Heap) :
  ∃ v,R (T k) F.ζ4 [lv encB b,.int .i64 z,.bool each] H = .ok v H ∧ PartsAre (refSegS b z each) v:=by
 have hU:=fun j H' => refU_run k (H:=H') (Sl.lv H' 1 b) hb j 2 (by omega) (by omega);have hRows:=fun i n H' => ζ7l k b.length i n z (by omega) (by omega) H';obtain ⟨need,hneed⟩:∃ need:Int,need = if each then 6 else 4 + z:=⟨_,rfl⟩
 have hr5:∀ H',R (T k) F.ζ6 [lv encB b,.int .i64 2,.int .i64 need,.int .i64 2] H' = .ok (rowsO b 2 need 2) H':=fun H' => ζhh k b hb 2 need 2 hl (by omega) (by omega) (by subst hneed; split <;> omega) (by subst hneed; split <;> omega) H'
 -- the rows
 obtain ⟨ps,ok,zz,hrow,hps,hok⟩:∃ (ps:List Int) (ok:Bool) (zz:Int),rowsO b 2 need 2 = .tuple #[lv encI ps,.int .i64 zz,.bool ok] ∧ (∀ p,p ∈ ps → 0 ≤ p ∧ p < 2 ^ 34) ∧
   ps.length < 65536 ∧ refSegS b z each = (if ok then mapO (segR b z each) ps else none) ∧ (ok = false → ps = []):=by
  unfold rowsO refSegS;rw [← hneed];cases ht:takeS b 2 need 2 with
  | none => exact ⟨[],false,0,rfl,(fun p h => by cases h),by simp,rfl,fun _ => rfl⟩
  | some rows =>
   obtain ⟨s,n,h1,h2,h3,h4,h5,h6⟩:=ζcr ht;have hs:=uS_two hb h1;have hn:=uS_two hb h2;rw [gU_some h1];refine ⟨posS 2 s rows.length,true,s,rfl,fun p hp => ?_,by simp; omega,rfl,fun h => by cases h⟩;obtain ⟨i,hi⟩:=List.getElem?_of_mem hp;have hlt:=(List.getElem?_eq_some_iff.1 hi).1;simp at hlt;rw [posS_get _ _ _ _ hlt] at hi;injection hi with hi;have:=Int.mul_nonneg hs.1 (show (0:Int) ≤ (i:Nat) by omega);have:s * (i:Nat) ≤ 65536 * 65536:=Int.mul_le_mul (by omega) (by omega) (by omega) (by omega);omega
 obtain ⟨hplen,href,hoknil⟩:=hok;rw [href]
 obtain ⟨x,e',H1,hr,rfl,hx,a,s,out,fl,rfl,ho,hq⟩:=loop_up (body:=ζ27 k (R (T k))) ps.length
  (fun j e H' => Ext H H' ∧ ∃ s out fl,e = [(0,lv encB b),(1,.int .i64 z),(2,.bool each),(9,lv encI ps),(11,.bool fl),(12,s),(13,.int .i64 j)] ∧ Own H H' 5 s encRP out ∧
   out.length ≤ j ∧ ((ok = true ∧ fl = true ∧ mapO (segR b z each) (ps.take j) = some out) ∨ (fl = false ∧ (ok = false ∨ mapO (segR b z each) ps = none))))
  (fun x e H' => x = .exit 0 ∧ Ext H H' ∧ ∃ a s out fl,e = [(0,lv encB b),(1,.int .i64 z),(2,.bool each),(9,lv encI ps),(11,.bool fl),(12,s),(13,a),(32,.bool false)] ∧ Own H H' 5 s encRP out ∧
   out.length ≤ ps.length ∧ ((ok = true ∧ fl = true ∧ mapO (segR b z each) ps = some out) ∨ (fl = false ∧ (ok = false ∨ mapO (segR b z each) ps = none))))
  (e0:=[(0,lv encB b),(1,.int .i64 z),(2,.bool each),(9,lv encI ps),(11,.bool ok),(12,bareV),(13,.int .i64 0)]) (H0:=H)
  ⟨Ext.refl H,bareV,[],ok,rfl,Own.bare _ _ _,by simp,by cases ok; exact .inr ⟨rfl,.inl rfl⟩; exact .inl ⟨rfl,rfl,rfl⟩⟩ (by omega)
  (fun j e H' hj ⟨hx,s,out,fl,he,ho,hol,hq⟩ => by
   subst he;have hlt:(j:Int) < ps.length:=by omega
   rcases hq with ⟨hok,rfl,hm⟩ | ⟨rfl,hn⟩
   rotate_left
   ·refine .inr ⟨.exit 0,_,H',?_,by simp,rfl,hx,.int .i64 j,s,out,false,rfl,ho,by omega,.inr ⟨rfl,hn⟩⟩;rw [ζ2h];simp -implicitDefEqProofs (disch:=omega) [hlt]
   ·obtain ⟨p,hp⟩:∃ p,ps[j]? = some p:=⟨_,List.getElem?_eq_getElem hj⟩
    have hpb:=hps p (List.mem_of_getElem? hp);have i1:=fun H' => ixS_lvN encI_len ps .i64 j p hp H';have u0:=fun H' => hU p H';have u2:=fun H' => hU (p + 2) H';have u4:=fun H' => hU (p + 4) H';have g0:=gU_two hb p;have g2:=gU_two hb (p + 2);have g4:=gU_two hb (p + 4);obtain ⟨f,hf⟩:∃ f,gU b (p + 2) 2 = f:=⟨_,rfl⟩
    obtain ⟨l,hll⟩:∃ l,gU b p 2 = l:=⟨_,rfl⟩
    obtain ⟨q,hqq⟩:∃ q,gU b (p + 4) 2 = q:=⟨_,rfl⟩
    rw [hf] at g2;rw [hll] at g0;rw [hqq] at g4;have u0:∀ H',R (T k) F.ζ3 [lv encB b,.int .i64 p,.int .i64 2] H' = .ok (.int .i64 l) H':=fun H' => by rw [u0]; unfold gU at hll; rw [hll]
    have u2:∀ H',R (T k) F.ζ3 [lv encB b,.int .i64 (p + 2),.int .i64 2] H' = .ok (.int .i64 f) H':=fun H' => by rw [u2]; unfold gU at hf; rw [hf]
    have u4:∀ H',R (T k) F.ζ3 [lv encB b,.int .i64 (p + 4),.int .i64 2] H' = .ok (.int .i64 q) H':=fun H' => by rw [u4]; unfold gU at hqq; rw [hqq]
    have hE:segE b z each p = if each then ⟨f,l,q,z,z⟩ else ⟨f,l,p + 4,z,0⟩:=by unfold segE; rw [hf,hll,hqq]
    have hB:segB b z each p = if each then rowsB b.length q (l - f + 1) z else true:=by unfold segB; rw [hf,hll,hqq]
    have hx1:Ext H' (H'.push ⟨encRP (segE b z each p),1,false⟩):=(Ext.refl H').push _;obtain ⟨s2,H2,e2,o2,x2⟩:=ap1_own (bytes:=40) ζ6v (ho.up hx1) (hx.trans hx1) (segE b z each p) (by omega) (by decide);refine .inl ⟨_,H2,?_,x2,s2,out ++ [segE b z each p],segB b z each p,rfl,o2,by simp; omega,?_⟩
    ·rw [ζ2h];rw [hE] at e2;rw [hB];cases each with
     | false =>
      simp only [Bool.false_eq_true,if_false,hn_push,encRP] at e2 ⊢;simp -implicitDefEqProofs (disch:=omega) [hlt,i1,u0,u2,ζ7y,e2]
     | true =>
      simp only [if_true,hn_push,encRP] at e2 ⊢;simp -implicitDefEqProofs (disch:=omega) [hlt,i1,u0,u2,u4,hRows,ζ7x,e2]
    ·cases hsb:segB b z each p with
     | true =>
      refine .inl ⟨hok,rfl,?_⟩;rw [ζj7 hp,hm,segR_eq,hsb];rfl
     | false =>
      refine .inr ⟨rfl,.inr (ζfu (j:=j + 1) ?_)⟩;rw [ζj7 hp,hm,segR_eq,hsb];rfl)
  (fun e H' ⟨hx,s,out,fl,he,ho,hol,hq⟩ => by
   subst he;refine ⟨.exit 0,_,H',?_,by simp,rfl,hx,.int .i64 ps.length,s,out,fl,rfl,ho,hol,by rw [List.take_length] at hq; exact hq⟩;rw [ζ2h];simp -implicitDefEqProofs)
 obtain ⟨L,hf⟩:=ho.freeze ζ6v (ζ9l _) 5;have hall:ζ4 k (R (T k)) (lv encB b) (.int .i64 z) (.bool each) H = .ok (.tuple #[s,.bool fl]) H1:=by
  cases each with
  | false =>
   simp only [Bool.false_eq_true,if_false] at hneed;subst hneed;have hr5':=hr5;rw [hrow] at hr5';rcases hz with rfl | rfl <;> simp only [show (4:Int) + 2 = 6 from rfl,show (4:Int) + 4 = 8 from rfl] at hr5' <;> simp -implicitDefEqProofs (disch:=omega) [ζ4,ζ7w,hr5',hr,ζ3g]
  | true =>
   simp only [if_true] at hneed;subst hneed;have hr5':=hr5;rw [hrow] at hr5';rcases hz with rfl | rfl <;> simp -implicitDefEqProofs (disch:=omega) [ζ4,ζ7v,hr5',hr,ζ3g]
 refine ⟨.tuple #[lv encRP out,.bool fl],?_,?_⟩
 ·rw [ζ9z];exact nrm_fz hall (fz_tuple (l:=[s,.bool fl]) (ζ1b hf (mapF_one (L:=[]) rfl))) hx (ζ69 _ _).alive
 ·rcases hq with ⟨hol,⟨rfl,rfl,hm⟩ | ⟨rfl,hn⟩⟩
  ·exact ⟨out,by simp [hm],fun x h => (by simp [hm] at h; exact h),by omega⟩
  ·have:(if ok = true then mapO (segR b z each) ps else none) = none:=by
    rcases hn with rfl | hn
    ·rfl
    ·rw [hn]; split <;> rfl
   rw [this];exact ⟨out,rfl,fun x h => (by cases h),by omega⟩
end Go.Sw
end
section
namespace Go.Sw
open Go.RowKit
theorem refNo {H:Heap} {r:Res Value} (h:r = .ok (.tuple #[.slice none 0 0,.bool false]) H):nrm .fz H r = .ok (.tuple #[lv encRP [],.bool false]) H :=
 nrm_fz (L:=[]) h rfl (Ext.refl H) (ζ69 [] false).alive
theorem PartsAre.no:PartsAre none (.tuple #[lv encRP [],.bool false]):=⟨[],rfl,fun x h => (by cases h),by simp⟩
theorem ζhs (k:Nat) (b:List Int) (hb:Byt b) (i z:Int) (hz:z = 1 ∨ z = 2 ∨ z = 4) (hi:0 ≤ i ∧ i ≤ 4) (hl:b.length < 2 ^ 31) (H:Heap) :
  ∃ v,R (T k) F.ζm [lv encB b,.int .i64 i,.int .i64 z] H = .ok v H ∧ PartsAre (refTrimS b i z) v:=by
 have hU:=fun j H' => refU_run k (H:=H') (Sl.lv H' 1 b) hb j 2 (by omega) (by omega);have hR:=fun n H' => ζ7l k b.length (i + 4) n z (by omega) (by omega) H';rw [ζak];unfold refTrimS;cases h1:uS b i 2 with
 | none =>
  refine ⟨_,refNo ?_,.no⟩;have u1:=fun H' => hU i H';rw [h1] at u1;have g2:=gU_two hb (i + 2);unfold gU at g2;simp -implicitDefEqProofs (disch:=omega) [ζm,u1,hU]
 | some f =>
  have u1:=fun H' => hU i H';rw [h1] at u1;have hf:=uS_two hb h1;have hf':¬ f < 0:=by omega
  cases h2:uS b (i + 2) 2 with
  | none =>
   refine ⟨_,refNo ?_,.no⟩;have u2:=fun H' => hU (i + 2) H';rw [h2] at u2;simp -implicitDefEqProofs (disch:=omega) [ζm,u1,u2,hf']
  | some n =>
   have u2:=fun H' => hU (i + 2) H';rw [h2] at u2;have hn:=uS_two hb h2;have hn':¬ n < 0:=by omega
   simp only [Option.bind_some,Option.getD_some] at u1 u2 ⊢;by_cases h3:f + n ≤ 65536
   ·have h3':¬ f + n > 65536:=by omega
    cases h4:rowsB b.length (i + 4) n z with
    | false =>
     rw [if_neg (by simp)];refine ⟨_,refNo ?_,.no⟩;have hR4:=hR n;rw [h4] at hR4;simp -implicitDefEqProofs (disch:=omega) [ζm,u1,u2,hf',hn',h3',hR4]
    | true =>
     rw [if_pos ⟨h3,rfl⟩];have hR4:=hR n;rw [h4] at hR4;by_cases h0:n = 0
     ·subst h0;rw [if_pos rfl];have h3'':¬ 65536 < f:=by omega
      refine ⟨.tuple #[lv encRP [],.bool true],nrm_fz (v:=.tuple #[bareV,.bool true]) (H':=H) (L:=[]) ?_ rfl (Ext.refl H) (ζ69 [] true).alive,[],rfl,fun x h => (by injection h),by simp⟩;simp -implicitDefEqProofs (disch:=omega) [ζm,u1,u2,hf',h3'',hR4]
     ·rw [if_neg h0];have h0':(n == 0) = false:=by simpa using h0
      obtain ⟨r,hr⟩:∃ r:RP,r = ⟨f,f + n - 1,i + 4,z,z⟩:=⟨_,rfl⟩
      rw [← hr];have ho:Own H (H.push ⟨encRP r,5,false⟩) 5 (.slice (some ⟨H.n,0,none⟩) 1 1) encRP [r]:=.inr ⟨H.n,rfl,by omega,ζb _ _ _ rfl⟩;obtain ⟨L,hfz⟩:=ho.freeze ζ6v (ζ9l _) 5;refine ⟨.tuple #[lv encRP [r],.bool true],nrm_fz (v:=.tuple #[.slice (some ⟨H.n,0,none⟩) 1 1,.bool true]) (H':=H.push ⟨encRP r,5,false⟩) ?_ (fz_tuple (l:=[.slice (some ⟨H.n,0,none⟩) 1 1,.bool true]) (ζ1b hfz (mapF_one (L:=[]) rfl))) ((Ext.refl H).push _) (ζ69 [r] true).alive,[r],rfl,fun x h => (by injection h),by simp⟩;subst hr;simp -implicitDefEqProofs (disch:=omega) [ζm,u1,u2,hf',hn',h3',hR4,h0']
   ·rw [if_neg (fun h => h3 h.1)];have h3':f + n > 65536:=by omega
    refine ⟨_,refNo ?_,.no⟩;simp -implicitDefEqProofs (disch:=omega) [ζm,u1,u2,hf',hn',h3']
theorem PartsAre.val {o:Option (List RP)} {v:Value} (h:PartsAre o v):∃ l ok,v = .tuple #[lv encRP l,.bool ok] ∧ o = (if ok then some l else none) ∧ l.length ≤ 65536:=by
 obtain ⟨l,rfl,h1,h2⟩:=h;cases o with
 | none => exact ⟨l,false,rfl,rfl,h2⟩
 | some x => exact ⟨l,true,rfl,by simp [h1 x rfl],h2⟩
theorem PartsAre.pass {o:Option (List RP)} {l:List RP} {ok:Bool} (h:o = (if ok then some l else none)) (hl:l.length ≤ 65536):PartsAre o (.tuple #[lv encRP l,.bool ok]):=by
 subst h;cases ok with
 | true => exact ⟨l,rfl,fun x h => (by injection h),hl⟩
 | false => exact ⟨l,rfl,fun x h => (by cases h),hl⟩
theorem ζcn {H:Heap} {r:Res Value} {l:List RP} {ok:Bool} (h:r = .ok (.tuple #[lv encRP l,.bool ok]) H):nrm .fz H r = .ok (.tuple #[lv encRP l,.bool ok]) H :=
 nrm_fz (L:=[]) h rfl (Ext.refl H) (ζ69 l ok).alive
theorem ζkh (k:Nat) (b:List Int) (hb:Byt b) (g z:Int) (hg:1 ≤ g ∧ g ≤ 65535) (hz:z = 2 ∨ z = 4) (hl:b.length < 2 ^ 31) (H:Heap) :
  ∃ v,R (T k) F.ζe [lv encB b,.int .i64 g,.int .i64 z] H = .ok v H ∧ PartsAre (refPartsS b g z (gU b 0 2)) v:=by
 have hU:=fun j H' => refU_run k (H:=H') (Sl.lv H' 1 b) hb j 2 (by omega) (by omega);have hR:=fun H' => ζ7l k b.length 2 g z (by omega) (by omega) H';rw [ζbp];have hu0:∀ H',R (T k) F.ζ3 [lv encB b,.int .i64 0,.int .i64 2] H' = .ok (.int .i64 (gU b 0 2)) H':=fun H' => hU 0 H';have hu2:∀ H',R (T k) F.ζ3 [lv encB b,.int .i64 2,.int .i64 2] H' = .ok (.int .i64 (gU b 2 2)) H':=fun H' => hU 2 H';generalize gU b 0 2 = fmt at hu0 ⊢;unfold refPartsS;by_cases h0:fmt = 0
 ·subst h0;rw [if_pos rfl];obtain ⟨r,hr⟩:∃ r:RP,r = ⟨0,g - 1,2,z,z⟩:=⟨_,rfl⟩
  rw [← hr];have ho:Own H (H.push ⟨encRP r,5,false⟩) 5 (.slice (some ⟨H.n,0,none⟩) 1 1) encRP [r]:=.inr ⟨H.n,rfl,by omega,ζb _ _ _ rfl⟩;obtain ⟨L,hfz⟩:=ho.freeze ζ6v (ζ9l _) 5;refine ⟨.tuple #[lv encRP [r],.bool (rowsB b.length 2 g z)],nrm_fz (v:=.tuple #[.slice (some ⟨H.n,0,none⟩) 1 1,.bool (rowsB b.length 2 g z)]) (H':=H.push ⟨encRP r,5,false⟩) ?_ (fz_tuple (l:=[.slice (some ⟨H.n,0,none⟩) 1 1,.bool (rowsB b.length 2 g z)]) (ζ1b hfz (mapF_one (L:=[]) rfl))) ((Ext.refl H).push _) (ζ69 [r] _).alive,.pass rfl (by simp)⟩;subst hr;simp -implicitDefEqProofs (disch:=omega) [ζe,hu0,hR]
 rw [if_neg h0];have h0':(fmt == 0) = false:=by simpa using h0
 by_cases h2:fmt = 2
 ·subst h2;rw [if_pos rfl];obtain ⟨v,e,hp⟩:=ζhm k b hb z hz false hl H;obtain ⟨l,ok,rfl,ho,hll⟩:=hp.val;refine ⟨_,ζcn (l:=l) (ok:=ok) ?_,.pass ho hll⟩;simp -implicitDefEqProofs (disch:=omega) [ζe,hu0,e]
 rw [if_neg h2];have h2':(fmt == 2) = false:=by simpa using h2
 by_cases h4:fmt = 4
 ·subst h4;rw [if_pos rfl];obtain ⟨v,e,hp⟩:=ζhm k b hb z hz true hl H;obtain ⟨l,ok,rfl,ho,hll⟩:=hp.val;refine ⟨_,ζcn (l:=l) (ok:=ok) ?_,.pass ho hll⟩;simp -implicitDefEqProofs (disch:=omega) [ζe,hu0,e]
 rw [if_neg h4];have h4':(fmt == 4) = false:=by simpa using h4
 by_cases h6:fmt = 6
 ·subst h6;rw [if_pos rfl];have hr5:=fun H' => ζhh k b hb 2 (2 + z) 1 hl (by omega) (by omega) (by omega) (by omega) H'
  obtain ⟨ps,ok,zz,hrow,hps,hpl,hok⟩:∃ (ps:List Int) (ok:Bool) (zz:Int),rowsO b 2 (2 + z) 1 = .tuple #[lv encI ps,.int .i64 zz,.bool ok] ∧ (∀ p,p ∈ ps → 0 ≤ p ∧ p < 2 ^ 34) ∧
    ps.length < 65536 ∧ refOneS b z = (if ok then some (ps.map (oneR b z)) else none):=by
   unfold rowsO refOneS;cases ht:takeS b 2 (2 + z) 1 with
   | none => exact ⟨[],false,0,rfl,(fun p h => by cases h),by simp,rfl⟩
   | some rows =>
    obtain ⟨s,n,h1,h2,h3,h4,h5,h6⟩:=ζcr ht;have hs:=uS_two hb h1;have hn:=uS_two hb h2;rw [gU_some h1];refine ⟨posS 2 s rows.length,true,s,rfl,fun p hp => ?_,by simp; omega,by rw [Option.map_some]; rfl⟩;obtain ⟨j,hj⟩:=List.getElem?_of_mem hp;have hjl:=(List.getElem?_eq_some_iff.1 hj).1;rw [posS_len] at hjl;rw [posS_get _ _ _ _ hjl] at hj;injection hj with hj;have h7:=Int.mul_nonneg hs.1 (show (0:Int) ≤ (j:Int) by omega);have h8:s * (j:Int) ≤ 65536 * 65536:=Int.mul_le_mul (by omega) (by omega) (by omega) (by omega);omega
  rw [hrow] at hr5;rw [hok]
  obtain ⟨x,e',H1,hr,rfl,hx,a,s,rfl,ho⟩:=loop_up (body:=ζ4b k (R (T k))) ps.length
   (fun j e H' => Ext H H' ∧ ∃ s,e = [(0,lv encB b),(2,.int .i64 z),(8,lv encI ps),(10,.bool ok),(11,s),(12,.int .i64 j)] ∧ Own H H' 5 s encRP ((ps.take j).map (oneR b z)))
   (fun x e H' => x = .exit 1 ∧ Ext H H' ∧ ∃ a s,e = [(0,lv encB b),(2,.int .i64 z),(8,lv encI ps),(10,.bool ok),(11,s),(12,a),(58,.bool false)] ∧ Own H H' 5 s encRP (ps.map (oneR b z)))
   (e0:=[(0,lv encB b),(2,.int .i64 z),(8,lv encI ps),(10,.bool ok),(11,bareV),(12,.int .i64 0)]) (H0:=H) ⟨Ext.refl H,_,rfl,Own.bare _ _ _⟩ (by omega)
   (fun j e H' hj ⟨hx,s,he,ho⟩ => by
    subst he;have hlt:(j:Int) < ps.length:=by omega
    obtain ⟨p,hp⟩:∃ p,ps[j]? = some p:=⟨_,List.getElem?_eq_getElem hj⟩
    have hpb:=hps p (List.mem_of_getElem? hp);have i1:=fun H' => ixS_lvN encI_len ps .i64 j p hp H';have u0:∀ H',R (T k) F.ζ3 [lv encB b,.int .i64 p,.int .i64 2] H' = .ok (.int .i64 (gU b p 2)) H':=fun H' => hU p H';obtain ⟨s2,H2,e2,o2,x2⟩:=ap1_own (bytes:=40) ζ6v ho hx (oneR b z p) (by simp; omega) (by decide);refine .inl ⟨_,H2,?_,x2,s2,rfl,by rw [ζ1o hp,List.map_append]; exact o2⟩;rw [ζ5a];unfold encRP oneR at e2;simp -implicitDefEqProofs (disch:=omega) [hlt,i1,u0,e2])
   (fun e H' ⟨hx,s,he,ho⟩ => by
    subst he;refine ⟨.exit 1,_,H',?_,by simp,rfl,hx,.int .i64 ps.length,s,rfl,by rw [List.take_length] at ho; exact ho⟩;rw [ζ5a];simp -implicitDefEqProofs)
  obtain ⟨L,hf⟩:=ho.freeze ζ6v (ζ9l _) 5;refine ⟨.tuple #[lv encRP (ps.map (oneR b z)),.bool ok],nrm_fz (v:=.tuple #[s,.bool ok]) (H':=H1) ?_ (fz_tuple (l:=[s,.bool ok]) (ζ1b hf (mapF_one (L:=[]) rfl))) hx (ζ69 _ _).alive,.pass rfl (by simp; omega)⟩;rcases hz with rfl | rfl <;> simp -implicitDefEqProofs (disch:=omega) at hr5 <;> simp -implicitDefEqProofs (disch:=omega) [ζe,hu0,hr5,hr,ζ8x]
 rw [if_neg h6];have h6':(fmt == 6) = false:=by simpa using h6
 by_cases h8:fmt = 8
 ·subst h8;rw [if_pos rfl];obtain ⟨v,e,hp⟩:=ζhs k b hb 2 z (by omega) (by omega) hl H;obtain ⟨l,ok,rfl,ho,hll⟩:=hp.val;refine ⟨_,ζcn (l:=l) (ok:=ok) ?_,.pass ho hll⟩;simp -implicitDefEqProofs (disch:=omega) [ζe,hu0,e]
 rw [if_neg h8];have h8':(fmt == 8) = false:=by simpa using h8
 by_cases h10:fmt = 10
 ·subst h10;rw [if_pos rfl];have hno:¬ (gU b 2 2 = 1 ∨ gU b 2 2 = 2 ∨ gU b 2 2 = 4) → ζe k (R (T k)) (lv encB b) (.int .i64 g) (.int .i64 z) H = .ok (.tuple #[.slice none 0 0,.bool false]) H:=fun hu => by
   have u1:(gU b 2 2 == 1) = false:=by simpa using fun h => hu (.inl h)
   have u2:(gU b 2 2 == 2) = false:=by simpa using fun h => hu (.inr (.inl h))
   have u4:(gU b 2 2 == 4) = false:=by simpa using fun h => hu (.inr (.inr h))
   simp -implicitDefEqProofs (disch:=omega) [ζe,hu0,hu2,bne,u1,u2,u4]
  cases h:uS b 2 2 with
  | none =>
   have hg2:gU b 2 2 = -1:=by unfold gU; rw [h]; rfl
   exact ⟨_,refNo (hno (by rw [hg2]; decide)),.no⟩
  | some u =>
   have hg2:=gU_some h;rw [hg2] at hu2 hno;simp only [Option.bind_some];by_cases hu:u = 1 ∨ u = 2 ∨ u = 4
   ·rw [if_pos hu];obtain ⟨v,e,hp⟩:=ζhs k b hb 4 u hu (by omega) hl H;obtain ⟨l,ok,rfl,ho,hll⟩:=hp.val;refine ⟨_,ζcn (l:=l) (ok:=ok) ?_,.pass ho hll⟩;rcases hu with rfl | rfl | rfl <;> simp -implicitDefEqProofs (disch:=omega) [ζe,hu0,hu2,bne,e]
   ·rw [if_neg hu];exact ⟨_,refNo (hno hu),.no⟩
 rw [if_neg h10];have h10':(fmt == 10) = false:=by simpa using h10
 refine ⟨_,refNo ?_,.no⟩;simp -implicitDefEqProofs (disch:=omega) [ζe,hu0,h0',h2',h4',h6',h8',h10']
end Go.Sw
end
section
namespace Go.Sw
open Go.RowKit
theorem ζgy (r:RP):∀ a:List RP,goodR (a ++ [r]) = (goodR a && decide (r.first ≤ r.last) && match a.getLast? with | some q => decide (q.last < r.first) | none => true)
 | [] => by simp [goodR]
 | [x] => by
  simp only [List.singleton_append,goodR,List.getLast?_singleton];cases decide (x.first ≤ x.last) <;> cases decide (x.last < r.first) <;> cases decide (r.first ≤ r.last) <;> rfl
 | x :: y :: t => by
  have ih:=ζgy r (y :: t);simp only [List.cons_append] at ih ⊢;simp only [goodR,ih,List.getLast?_cons_cons];simp only [Bool.and_assoc]
abbrev tabRV (b:List Int) (rs:List RP):Value:=.agg #[lv encB b,lv encRP rs]
def tabRO (b:List Int) (o:Option (List RP)):Value:=match o with | some rs => tabRV b rs | none => tabRV [] []
theorem Flat.tabRV (b:List Int) (rs:List RP):Flat (tabRV b rs):=.aggL (.cons (Flat.B _) (.cons (Flat.RPs _) .nil))
theorem ζme (b:List Int) (o:Option (List RP)):Flat (tabRO b o):=by
 unfold tabRO;split
 ·exact Flat.tabRV _ _
 ·exact Flat.tabRV _ _
theorem ζm1 (k:Nat) (b:List Int) (hb:Byt b) (g z:Int) (hg:1 ≤ g ∧ g ≤ 65535) (hz:z = 2 ∨ z = 4) (hl:b.length < 2 ^ 31) (H:Heap) :
  R (T k) F.ζr [lv encB b,.int .i64 g,.int .i64 z] H = .ok (.tuple #[tabRO b (refReadS b g z),.bool (refReadS b g z).isSome]) H:=by
 have hx0:Ext H (H.push ⟨[.slice none 0 0,.slice none 0 0],1,false⟩):=(Ext.refl H).push _;obtain ⟨v,e,hp⟩:=ζkh k b hb g z hg hz hl (H.push ⟨[.slice none 0 0,.slice none 0 0],1,false⟩);obtain ⟨l,ok,rfl,ho,hll⟩:=hp.val;rw [ζcd]
 obtain ⟨x,e',H1,hr,rfl,rfl,rfl⟩:=loop_up (body:=ζ4p k (R (T k))) l.length
  (fun j e H' => H' = H.push ⟨[.slice none 0 0,.slice none 0 0],1,false⟩ ∧ e = [(0,lv encB b),(6,.pointer (some ⟨H.n,0,none⟩)),(8,lv encRP l),(9,.bool (ok && goodR (l.take j))),(10,.int .i64 j)])
  (fun x e H' => H' = H.push ⟨[.slice none 0 0,.slice none 0 0],1,false⟩ ∧ x = .exit 0 ∧ e = [(0,lv encB b),(6,.pointer (some ⟨H.n,0,none⟩)),(8,lv encRP l),(9,.bool (ok && goodR l)),(10,.int .i64 l.length),(21,.bool false)])
  (e0:=[(0,lv encB b),(6,.pointer (some ⟨H.n,0,none⟩)),(8,lv encRP l),(9,.bool ok),(10,.int .i64 0)]) (H0:=H.push ⟨[.slice none 0 0,.slice none 0 0],1,false⟩) ⟨rfl,by simp [goodR]⟩ (by omega)
  (fun j e H' hj ⟨hH,he⟩ => by
   subst he hH;have hlt:(j:Int) < l.length:=by omega
   obtain ⟨r,hr⟩:∃ r,l[j]? = some r:=⟨_,List.getElem?_eq_getElem hj⟩
   have i1:=fun H' => ixS_lvN ζ6v l .i64 j r hr H';refine .inl ⟨_,_,?_,rfl,rfl⟩;rw [ζ5r,ζ1o hr,ζgy];by_cases h1:r.last < r.first
   ·have h1':¬ r.first ≤ r.last:=by omega
    simp -implicitDefEqProofs (disch:=omega) [hlt,i1,h1,h1',ζ5p]
   ·have h1':r.first ≤ r.last:=by omega
    cases j with
    | zero =>
     simp -implicitDefEqProofs (disch:=omega) at i1 hlt;simp -implicitDefEqProofs (disch:=omega) [hlt,i1,h1,h1',ζ5q,goodR]
    | succ j =>
     obtain ⟨q,hq⟩:∃ q,l[j]? = some q:=⟨_,List.getElem?_eq_getElem (by omega)⟩
     have i2:=fun H' => ixS_lvN ζ6v l .i64 j q hq H';have hlast:(l.take (j + 1)).getLast? = some q:=by rw [ζ1o hq]; simp
     rw [hlast];have hj0:(0:Int) < (j:Int) + 1:=by omega
     simp -implicitDefEqProofs (disch:=omega) at i1 hlt;by_cases h2:r.first ≤ q.last
     ·have h2':¬ q.last < r.first:=by omega
      simp -implicitDefEqProofs (disch:=omega) [hlt,i1,i2,h1,h1',h2,h2',hj0,ζ5p]
     ·have h2':q.last < r.first:=by omega
      simp -implicitDefEqProofs (disch:=omega) [hlt,i1,i2,h1,h1',h2,h2',hj0,ζ5q])
  (fun e H' ⟨hH,he⟩ => by
   subst he hH;refine ⟨.exit 0,_,_,?_,by simp,rfl,rfl,rfl⟩;rw [ζ5r,List.take_length];simp -implicitDefEqProofs)
 have hread:refReadS b g z = if (ok && goodR l) = true then some l else none:=by
  unfold refReadS;rw [ho];cases ok <;> simp
 rw [hread];cases hgood:(ok && goodR l) with
 | false =>
  rw [hgood] at hr;refine nrm_fz (v:=.tuple #[.agg #[.slice none 0 0,.slice none 0 0],.bool false]) (L:=[]) (H':=H.push ⟨[.slice none 0 0,.slice none 0 0],1,false⟩) ?_ rfl hx0 (Flat.tupleL (.cons (ζme b none) (.cons (.bool _) .nil))).alive;simp -implicitDefEqProofs [ζr,e,hr,ζ59]
 | true =>
  rw [hgood] at hr;refine nrm_fz (v:=.tuple #[tabRV b l,.bool true]) (L:=[]) (H':=H.push ⟨[lv encB b,lv encRP l],1,false⟩) ?_ rfl ((Ext.refl H).push _) (Flat.tupleL (.cons (Flat.tabRV b l) (.cons (.bool _) .nil))).alive;simp -implicitDefEqProofs [ζr,e,hr,ζ59]
def RP.ok (r:RP):Prop:=-1 ≤ r.first ∧ r.first ≤ 65536 ∧ -1 ≤ r.last ∧ r.last ≤ 65536 ∧ -1 ≤ r.pos ∧ r.pos < 2 ^ 35 ∧ 0 ≤ r.step ∧ r.step ≤ 4 ∧ 0 ≤ r.size ∧ r.size ≤ 4
end Go.Sw
end
section
namespace Go.Sw
open Go.RowKit
theorem ζ2l {b rv:List Int} {j:Int}:restS b j = some rv ↔ (0 ≤ j ∧ j ≤ b.length) ∧ rv = b.drop j.toNat:=by
 unfold restS;split
 ·rename_i h;exact ⟨fun e => by injection e with e; exact ⟨h,e.symm⟩,fun e => by rw [e.2]⟩
 ·rename_i h;exact ⟨fun e => (by cases e),fun e => absurd e.1 h⟩
theorem ζ89 {b rv:List Int} {j:Int} (h:restS b j = some rv):(rv.length:Int) = b.length - j:=by
 obtain ⟨h1,rfl⟩:=ζ2l.1 h;simp;omega
theorem uS_rest {b rv:List Int} {j:Int} (h:restS b j = some rv) {x:Int} (hx:0 ≤ x) (z:Int):uS rv x z = uS b (j + x) z:=by
 have hl:=ζ89 h;obtain ⟨h1,rfl⟩:=ζ2l.1 h;unfold uS pieceS;by_cases hc:0 ≤ z ∧ x ≤ b.length - j ∧ z ≤ b.length - j - x
 ·rw [if_pos (by omega),if_pos (by omega),List.drop_drop,show j.toNat + x.toNat = (j + x).toNat by omega]
 ·rw [if_neg (by omega),if_neg (by omega)]
def needsS (b:List Int) (i step:Int) (n:Nat):Int:=needL ((List.range n).map fun j => gU b (i + (j:Nat) * step) 2)
theorem rowK_iff {rv:List Int} {n:Int} (hn:0 < n) {k:Nat}:(rowK rv n k).isSome = true ↔ 2 * n * (k + 1) ≤ rv.length:=by
 unfold rowK;rw [ζ64 (by omega),ζ8a (by omega)];have h0:0 ≤ 2 * n * (k:Int):=Int.mul_nonneg (by omega) (by omega);have h1:2 * n * ((k:Int) + 1) = 2 * n * k + 2 * n:=by rw [Int.mul_add]; omega
 constructor
 ·rintro ⟨_,_,_,h⟩; omega
 ·intro h; exact ⟨h0,by omega,by omega,by omega⟩
theorem row_at {b rv:List Int} {j:Int} (h:restS b j = some rv) {n:Int} {k:Nat} {r:List Int} (hn:0 < n) (hr:rowK rv n k = some r):r = (List.range n.toNat).map fun i => gU b (j + (n * k + (i:Nat)) * 2) 2:=by
 have hs:=(rowK_iff (rv:=rv) (k:=k) hn).1 (by rw [hr]; rfl);have hr':=hr;unfold rowK listS at hr';obtain ⟨q,hq,hqr⟩:=Option.map_eq_some_iff.1 hr';have hlen:r.length = n.toNat:=by rw [← hqr]; simp
 have hk0:0 ≤ n * (k:Int):=Int.mul_nonneg (by omega) (by omega);apply List.ext_getElem?;intro i;by_cases hi:i < n.toNat
 ·rw [ζfs (by omega) hr i (by omega),List.getElem?_map,List.getElem?_range hi,uS_rest h (by rw [Int.mul_assoc]; omega)];have e:j + (2 * n * (k:Int) + (i:Int) * 2) = j + (n * k + (i:Nat)) * 2:=by rw [Int.mul_assoc,Int.add_mul]; omega
  rw [e];have hlen:=ζ89 h;have hj:=(ζ2l.1 h).1;have h1:2 * n * ((k:Int) + 1) = 2 * (n * k) + 2 * n:=by rw [Int.mul_add,Int.mul_assoc]; omega
  obtain ⟨x,hx⟩:∃ x,uS b (j + (n * k + (i:Nat)) * 2) 2 = some x:=uS_of_in (by unfold inS; exact decide_eq_true (by rw [Int.add_mul]; omega));rw [hx,Option.map_some,gU_some hx]
 ·rw [List.getElem?_eq_none (by omega),List.getElem?_eq_none (by simp; omega)]
theorem ζdq {b rv:List Int} {j:Int} (h:restS b j = some rv) {n:Int} (hn:0 < n):∀ {s:Nat} {rs:List (List Int)},rowsTo rv n s = some rs → rs.flatten = (List.range (s * n.toNat)).map fun (i:Nat) => gU b (j + (i:Int) * 2) 2
 | 0,rs,hr => by injection hr with hr; subst hr; simp
 | s + 1,rs,hr => by
  unfold rowsTo at hr;rw [ζ7i] at hr;obtain ⟨rs',h1,hr⟩:=Option.bind_eq_some_iff.1 hr;obtain ⟨r,h2,rfl⟩:=Option.map_eq_some_iff.1 hr;rw [List.flatten_append,ζdq h hn h1,Nat.succ_mul,List.range_add,List.map_append];congr 1;simp only [List.flatten_cons,List.flatten_nil,List.append_nil,row_at h hn h2,List.map_map];apply List.map_congr_left;intro i _;simp only [Function.comp];congr 2;have:((s * n.toNat + i:Nat):Int) = n * s + i:=by
   obtain ⟨m,rfl⟩:=Int.eq_ofNat_of_zero_le (Int.le_of_lt hn);simp [Int.mul_comm]
  rw [this]
theorem ζm4 {b rv:List Int} {j:Int} (h:restS b j = some rv) {n:Int} (hn:0 < n) {s:Nat} {rs:List (List Int)} (hr:rowsTo rv n s = some rs):needsS b j 2 (s * n.toNat) = needR rs:=by
 unfold needsS needR;rw [ζdq h hn hr]
theorem ζm5 {b rv:List Int} {j:Int} (h:restS b j = some rv) {n:Int} (hn:0 < n) {s:Nat} (hs:0 < s):(rowsTo rv n s).isSome = rowsB b.length j s (2 * n):=by
 have hl:=ζ89 h;have hj:=(ζ2l.1 h).1;rw [Bool.eq_iff_iff,ζ8a (by omega)];have e:(s:Int) * (2 * n) = 2 * n * s:=Int.mul_comm _ _;constructor
 ·intro hsome;obtain ⟨rs,hrs⟩:=Option.isSome_iff_exists.1 hsome;obtain ⟨y,hy,_⟩:=mapO_at hrs (i:=s - 1) (by omega);have:=(rowK_iff (rv:=rv) (k:=s - 1) hn).1 (by rw [hy]; rfl);rw [show (((s - 1:Nat):Int) + 1) = s by omega] at this;exact ⟨hj.1,by omega,hj.2,by omega⟩
 ·rintro ⟨_,_,_,h4⟩;obtain ⟨r,hr⟩:=ζ93 (f:=rowK rv n) (n:=s) fun i hi => by
   rw [rowK_iff hn];have:2 * n * ((i:Int) + 1) ≤ 2 * n * s:=Int.mul_le_mul_of_nonneg_left (by omega) (by omega);omega
  exact Option.isSome_iff_exists.2 ⟨r,hr⟩
theorem entK_iff {ev:List Int} {w:Int} (hw:0 ≤ w) {k:Nat}:(entK ev w k).isSome = true ↔ (4 + 2 * w) * (k + 1) ≤ ev.length:=by
 unfold entK;rw [Option.isSome_map,ζav];unfold inS;rw [decide_eq_true_eq];have h0:0 ≤ (4 + 2 * w) * (k:Int):=Int.mul_nonneg (by omega) (by omega);have h1:(4 + 2 * w) * ((k:Int) + 1) = (4 + 2 * w) * k + (4 + 2 * w):=by rw [Int.mul_add]; omega
 omega
theorem ζlj {b ev:List Int} {q:Int} (h:restS b q = some ev) {w:Int} (hw:0 ≤ w) (s:Nat):(entsTo ev w s).isSome = rowsB b.length q s (4 + 2 * w):=by
 have hl:=ζ89 h;have hj:=(ζ2l.1 h).1;rw [Bool.eq_iff_iff,ζ8a (by omega)];have e:(s:Int) * (4 + 2 * w) = (4 + 2 * w) * s:=Int.mul_comm _ _;constructor
 ·intro hsome;obtain ⟨rs,hrs⟩:=Option.isSome_iff_exists.1 hsome;refine ⟨hj.1,by omega,hj.2,?_⟩;by_cases h0:s = 0
  ·subst h0; simp; omega
  ·obtain ⟨y,hy,_⟩:=mapO_at hrs (i:=s - 1) (by omega);have:=(entK_iff (ev:=ev) (k:=s - 1) hw).1 (by rw [hy]; rfl);rw [show (((s - 1:Nat):Int) + 1) = s by omega] at this;omega
 ·rintro ⟨_,_,_,h4⟩;obtain ⟨r,hr⟩:=ζ93 (f:=entK ev w) (n:=s) fun i hi => by
   rw [entK_iff hw];have:(4 + 2 * w) * ((i:Int) + 1) ≤ (4 + 2 * w) * s:=Int.mul_le_mul_of_nonneg_left (by omega) (by omega);omega
  exact Option.isSome_iff_exists.2 ⟨r,hr⟩
theorem ent_at {b ev:List Int} {q:Int} (h:restS b q = some ev) {w:Int} (hw:0 ≤ w ∧ w ≤ 2) {k:Nat} {e:En} (he:entK ev w k = some e) :
  e = ⟨gU b (q + (k:Int) * (4 + 2 * w)) 2,gU b (q + (k:Int) * (4 + 2 * w) + 2) 2,if 0 < w then gU b (q + (k:Int) * (4 + 2 * w) + 4) 2 else 0,if 1 < w then gU b (q + (k:Int) * (4 + 2 * w) + 6) 2 else 0⟩:=by
 unfold entK at he;obtain ⟨r,hr,rfl⟩:=Option.map_eq_some_iff.1 he;have h0:0 ≤ (4 + 2 * w) * (k:Int):=Int.mul_nonneg (by omega) (by omega);have sub:∀ x,0 ≤ x → x + 2 ≤ 4 + 2 * w → gU r x 2 = gU b (q + (k:Int) * (4 + 2 * w) + x) 2:=fun x hx hx2 => by
  unfold gU;rw [uS_sub hr hx (by omega) hx2,uS_rest h (by omega),Int.mul_comm (k:Int),Int.add_assoc]
 have s0:=sub 0 (by omega) (by omega);rw [Int.add_zero] at s0;unfold entOf;rw [s0,sub 2 (by omega) (by omega)];congr 1
 ·by_cases h1:0 < w
  ·rw [if_pos h1,if_pos h1,sub 4 (by omega) (by omega)]
  ·rw [if_neg h1,if_neg h1]
 ·by_cases h1:1 < w
  ·rw [if_pos h1,if_pos h1,sub 6 (by omega) (by omega)]
  ·rw [if_neg h1,if_neg h1]
theorem ζli {b ev:List Int} {q:Int} (h:restS b q = some ev) {w:Int} (hw:0 ≤ w ∧ w ≤ 2) {s:Nat} {es:List En} (hr:entsTo ev w s = some es):needsS b q (4 + 2 * w) s = needL (es.map En.next):=by
 unfold needsS;congr 1;apply List.ext_getElem?;intro i;have hl:=mapO_len hr;rw [List.length_range] at hl;by_cases hi:i < s
 ·obtain ⟨y,h1,h2⟩:=mapO_at hr hi;rw [List.getElem?_map,List.getElem?_map,List.getElem?_range hi,h2,Option.map_some,Option.map_some,ent_at h hw h1]
 ·rw [List.getElem?_eq_none (by simp; omega),List.getElem?_eq_none (by simp; omega)]
theorem ζlu {rv:List Int} {n:Int} {s t:Nat} (hst:s ≤ t) {rs rt:List (List Int)} (h1:rowsTo rv n s = some rs) (h2:rowsTo rv n t = some rt):needR rs ≤ needR rt:=by
 have h3:=ζbg hst h2;have h4:mapO (rowK rv n) (List.range s) = some rs:=h1;rw [h4] at h3;injection h3 with h3;rw [h3];have:=List.take_append_drop s rt;conv => rhs; rw [← this]
 unfold needR;rw [List.flatten_append,ζ4l];omega
structure RMach where
 b:List Int
 cl:Int
 rowsAt:Int
 entsAt:Int
 states:Int
 n:Int
 words:Int
 tb:List Int
 parts:List RP
def rmOf (b:List Int) (g w:Int) (m:Mach):RMach :=
 ⟨b,m.classes,gU b 8 4,gU b 12 4,m.rows.length,m.ents.length,w,b.drop (gU b 4 4).toNat,(refReadS (b.drop (gU b 4 4).toNat) g 2).getD []⟩
def refMachS (b:List Int) (g w:Int):Option RMach:=(machS b g w).map (rmOf b g w)
theorem ζex {b:List Int} {g w:Int} {m:Mach} (h:machS b g w = some m):∃ i j q tb rv ev x,uS b 0 4 = some m.classes ∧ 4 ≤ m.classes ∧ m.classes ≤ 65535 ∧ uS b 4 4 = some i ∧ restS b i = some tb ∧ lookS tb g 2 = some m.tab ∧
  uS b 8 4 = some j ∧ restS b j = some rv ∧ uS b 12 4 = some q ∧ restS b q = some ev ∧ closeA rv ev m.classes w 2 = some x ∧ m.rows = x.1 ∧ m.ents = x.2:=by
 unfold machS at h;obtain ⟨n,h0,h⟩:=Option.bind_eq_some_iff.1 h;split at h;rotate_left
 ·cases h
 rename_i hn;obtain ⟨i,h1,h⟩:=Option.bind_eq_some_iff.1 h;obtain ⟨tb,h2,h⟩:=Option.bind_eq_some_iff.1 h;obtain ⟨tab,h3,h⟩:=Option.bind_eq_some_iff.1 h;obtain ⟨j,h4,h⟩:=Option.bind_eq_some_iff.1 h;obtain ⟨rv,h5,h⟩:=Option.bind_eq_some_iff.1 h;obtain ⟨k,h6,h⟩:=Option.bind_eq_some_iff.1 h;obtain ⟨ev,h7,h⟩:=Option.bind_eq_some_iff.1 h;obtain ⟨x,h8,rfl⟩:=Option.map_eq_some_iff.1 h;exact ⟨i,j,k,tb,rv,ev,x,h0,hn.1,hn.2,h1,h2,h3,h4,h5,h6,h7,h8,rfl,rfl⟩
end Go.Sw
end
section
namespace Go.Sw
open Go.RowKit
theorem twos_get (l:List Int) (pre rest:List Int) (i:Nat) (x:Int) (hx:l[i]? = some x) (hb:0 ≤ x ∧ x < 65536) (p:Int) (hp:p = pre.length + 2 * i):uS (pre ++ (twos l ++ rest)) p 2 = some x:=by
 obtain ⟨hi,hg⟩:=List.getElem?_eq_some_iff.1 hx;have e:twos l = twos (l.take i) ++ (bytesOf x 2 ++ twos (l.drop (i + 1))):=by
  have:l = l.take i ++ ([x] ++ l.drop (i + 1)):=by
   rw [← hg,List.singleton_append,← List.drop_eq_getElem_cons hi,List.take_append_drop]
  conv => lhs; rw [this]
  simp [twos]
 rw [e,← List.append_assoc];have h:=uS_at (pre ++ twos (l.take i)) (twos (l.drop (i + 1)) ++ rest) (n:=x) (k:=2) p 2 (by rw [List.length_append,twos_len,List.length_take]; omega) rfl hb.1 (by simpa using hb.2);simpa [List.append_assoc] using h
def entM (w:Int) (e:En):En:=⟨m16 e.next,m16 e.flags,if 0 < w then m16 e.a else 0,if 1 < w then m16 e.b else 0⟩
theorem ζer {w:Int} (hw:w = 0 ∨ w = 1 ∨ w = 2) (e:En):(entB w e).length = (4 + 2 * w).toNat:=by
 unfold entB;simp only [List.length_append,ζ2o];rcases hw with rfl | rfl | rfl <;> simp
theorem ζn7 {w:Int} (hw:w = 0 ∨ w = 1 ∨ w = 2) {es:List En} (x:List Int) {i:Nat} {e:En} (he:es[i]? = some e):entK (entsB w es ++ x) w i = some (entM w e):=by
 obtain ⟨hi,hg⟩:=List.getElem?_eq_some_iff.1 he;have hall:entsB w es = entsB w (es.take i) ++ (entB w e ++ entsB w (es.drop (i + 1))):=by
  have:es = es.take i ++ ([e] ++ es.drop (i + 1)):=by
   rw [← hg,List.singleton_append,← List.drop_eq_getElem_cons hi,List.take_append_drop]
  conv => lhs; rw [this]
  simp [entsB]
 have hl:(entsB w (es.take i)).length = i * (4 + 2 * w).toNat:=by
  unfold entsB;rw [flat_len (z:=(4 + 2 * w).toNat) (fun r hr => by obtain ⟨p,_,rfl⟩:=List.mem_map.1 hr; exact ζer hw p),List.length_map,List.length_take,Nat.min_eq_left (by omega)]
 unfold entK;have hp:pieceS (entsB w es ++ x) ((4 + 2 * w) * i) (4 + 2 * w) = some (entB w e):=by
  rw [hall,List.append_assoc,List.append_assoc];refine ζjc _ _ _ _ _ ?_ ?_
  ·rw [hl,Int.mul_comm];have:(((4 + 2 * w).toNat:Nat):Int) = 4 + 2 * w:=by omega
   rw [Int.natCast_mul,this]
  ·rw [ζer hw]; omega
 rw [hp,Option.map_some];congr 1;have b1:=ζ6w e.next;have b2:=ζ6w e.flags;have b3:=ζ6w e.a;have b4:=ζ6w e.b;have at_:∀ (p q:List Int) (n i:Int),i = p.length → 0 ≤ n → n < 65536 → gU (p ++ (bytesOf n 2 ++ q)) i 2 = n:=fun p q n i hi h0 h1 => gU_some (uS_at p q i 2 hi rfl h0 (by simpa using h1));unfold entOf entM entB;rcases hw with rfl | rfl | rfl
 ·simp;exact ⟨at_ [] _ _ 0 (by simp) b1.1 b1.2,by simpa using at_ (bytesOf (m16 e.next) 2) [] _ 2 (by simp) b2.1 b2.2⟩
 ·simp;exact ⟨at_ [] _ _ 0 (by simp) b1.1 b1.2,at_ (bytesOf (m16 e.next) 2) _ _ 2 (by simp) b2.1 b2.2,by simpa using at_ (bytesOf (m16 e.next) 2 ++ bytesOf (m16 e.flags) 2) [] _ 4 (by simp) b3.1 b3.2⟩
 ·simp
  exact ⟨at_ [] _ _ 0 (by simp) b1.1 b1.2,at_ (bytesOf (m16 e.next) 2) _ _ 2 (by simp) b2.1 b2.2,by simpa [List.append_assoc] using at_ (bytesOf (m16 e.next) 2 ++ bytesOf (m16 e.flags) 2) (bytesOf (m16 e.b) 2) _ 4 (by simp) b3.1 b3.2,
   by simpa [List.append_assoc] using at_ (bytesOf (m16 e.next) 2 ++ (bytesOf (m16 e.flags) 2 ++ bytesOf (m16 e.a) 2)) [] _ 6 (by simp) b4.1 b4.2⟩
def planRoom (p:Plan) (w:Int) (rm:List Int):List Int :=
 bytesOf (planN p:Int) 4 ++ (bytesOf (16 + rm.length:Int) 4 ++ (bytesOf (16 + rm.length + (ofS p.cls).length:Int) 4 ++ (bytesOf (16 + rm.length + (ofS p.cls).length + (rowsL (planN p) p.rows).length:Int) 4 ++ (rm ++ (ofS p.cls ++ (rowsL (planN p) p.rows ++ entsB w p.ents))))))
theorem ζg1 (p:Plan) (w:Int) (room:Nat):planBytes p w room = planRoom p w (List.replicate room 0):=by
 unfold planBytes planRoom;simp [List.append_assoc]
def tabOf (cls:List Int):Int × List Pt:=(8,if cls = [] then [] else [⟨0,(cls.length:Int) - 1,cls⟩])
theorem ζog (l:List Int) (pre rest:List Int) (hb:∀ x,x ∈ l → 0 ≤ x ∧ x < 65536) (i:Int) (hi:i = pre.length):listS (pre ++ (twos l ++ rest)) i l.length 2 = some l:=by
 have hs:(listS (pre ++ (twos l ++ rest)) i l.length 2).isSome = true:=by
  rw [ζ64 (by omega),ζ8a (by omega)];simp [twos_len];omega
 obtain ⟨vs,hv⟩:=Option.isSome_iff_exists.1 hs;rw [hv];congr 1;have hlen:vs.length = l.length:=by
  unfold listS at hv;obtain ⟨r,_,rfl⟩:=Option.map_eq_some_iff.1 hv;simp
 apply List.ext_getElem?;intro j;by_cases hj:j < l.length
 ·obtain ⟨x,hx⟩:∃ x,l[j]? = some x:=⟨_,List.getElem?_eq_getElem hj⟩
  rw [ζfs (by omega) hv j (by omega),hx];exact twos_get l pre rest j x hx (hb x (List.mem_of_getElem? hx)) _ (by omega)
 ·rw [List.getElem?_eq_none (by omega),List.getElem?_eq_none (by omega)]
theorem look_ofS (cls:List Int) (hb:∀ x,x ∈ cls → 0 ≤ x ∧ x < 65536) (hl:cls.length ≤ 65535) (rest:List Int) (g:Int):lookS (ofS cls ++ rest) g 2 = some (tabOf cls):=by
 have h0:uS (ofS cls ++ rest) 0 2 = some 8:=by
  have:=uS_at [] (bytesOf 0 2 ++ (bytesOf cls.length 2 ++ (twos cls ++ rest))) (n:=8) (k:=2) 0 2 rfl rfl (by omega) (by decide);simpa [ofS,List.append_assoc] using this
 have h2:uS (ofS cls ++ rest) 2 2 = some 0:=by
  have:=uS_at (bytesOf 8 2) (bytesOf cls.length 2 ++ (twos cls ++ rest)) (n:=0) (k:=2) 2 2 (by simp) rfl (by omega) (by decide);simpa [ofS,List.append_assoc] using this
 have h4:uS (ofS cls ++ rest) (2 + 2) 2 = some (cls.length:Int):=by
  have:=uS_at (bytesOf 8 2 ++ bytesOf 0 2) (twos cls ++ rest) (n:=cls.length) (k:=2) (2 + 2) 2 (by simp) rfl (by omega) (by simp; omega);simpa [ofS,List.append_assoc] using this
 have h6:listS (ofS cls ++ rest) (2 + 4) cls.length 2 = some cls:=by
  have:=ζog cls (bytesOf 8 2 ++ bytesOf 0 2 ++ bytesOf cls.length 2) rest hb (2 + 4) (by simp);simpa [ofS,List.append_assoc] using this
 unfold lookS partsS;rw [h0,Option.bind_some];simp only [show ¬ ((8:Int) = 0) by decide,show ¬ ((8:Int) = 2) by decide,show ¬ ((8:Int) = 4) by decide,show ¬ ((8:Int) = 6) by decide,if_false,if_true];unfold trimS;rw [h2,Option.bind_some,h4,Option.bind_some,if_pos (by omega),h6,Option.map_some,Option.bind_some];unfold tabOf;by_cases hc:cls = []
 ·subst hc; rfl
 ·rw [if_neg hc,if_neg (show ¬ ((cls.length:Int) = 0) by have:=List.length_pos_iff.2 hc; omega)];simp [risesS]
theorem ζnr (p:Plan) (w:Int) (rm more:List Int) (hrm:rm.length ≤ 1000) (h1:p.cls.length ≤ 1000) (h2:p.rows.length ≤ 1000) (hn:planN p ≤ 11) :
  let b:=planRoom p w rm ++ more
  uS b 0 4 = some (planN p:Int) ∧ uS b 4 4 = some (16 + rm.length:Int) ∧ restS b (16 + rm.length:Int) = some (ofS p.cls ++ (rowsL (planN p) p.rows ++ (entsB w p.ents ++ more))) ∧
  uS b 8 4 = some (16 + rm.length + (ofS p.cls).length:Int) ∧ restS b (16 + rm.length + (ofS p.cls).length:Int) = some (rowsL (planN p) p.rows ++ (entsB w p.ents ++ more)) ∧
  uS b 12 4 = some (16 + rm.length + (ofS p.cls).length + (rowsL (planN p) p.rows).length:Int) ∧ restS b (16 + rm.length + (ofS p.cls).length + (rowsL (planN p) p.rows).length:Int) = some (entsB w p.ents ++ more):=by
 intro b;have hofl:(ofS p.cls).length = 6 + p.cls.length * 2:=by unfold ofS; simp [twos_len]; omega
 have hrl:(rowsL (planN p) p.rows).length ≤ 1000 * 22:=by rw [ζcq]; exact Nat.mul_le_mul h2 (by omega)
 have rest:∀ (pre q:List Int) (i:Int),i = pre.length → restS (pre ++ q) i = some q:=fun pre q i hi => by
  subst hi;unfold restS;rw [if_pos ⟨by omega,by simp; omega⟩];simp
 have hb:b = bytesOf (planN p:Int) 4 ++ (bytesOf (16 + rm.length:Int) 4 ++ (bytesOf (16 + rm.length + (ofS p.cls).length:Int) 4 ++ (bytesOf (16 + rm.length + (ofS p.cls).length + (rowsL (planN p) p.rows).length:Int) 4 ++ (rm ++ (ofS p.cls ++ (rowsL (planN p) p.rows ++ (entsB w p.ents ++ more))))))):=by
  show planRoom p w rm ++ more = _;unfold planRoom;simp only [List.append_assoc]
 rw [hb];refine ⟨?_,?_,?_,?_,?_,?_,?_⟩
 ·exact uS_at [] _ 0 4 rfl rfl (by omega) (by simp; omega)
 ·exact uS_at (bytesOf (planN p:Int) 4) _ 4 4 (by simp) rfl (by omega) (by simp; omega)
 ·have:=rest (bytesOf (planN p:Int) 4 ++ (bytesOf (16 + rm.length:Int) 4 ++ (bytesOf (16 + rm.length + (ofS p.cls).length:Int) 4 ++ (bytesOf (16 + rm.length + (ofS p.cls).length + (rowsL (planN p) p.rows).length:Int) 4 ++ rm)))) (ofS p.cls ++ (rowsL (planN p) p.rows ++ (entsB w p.ents ++ more))) (16 + rm.length) (by simp; omega);simpa only [List.append_assoc] using this
 ·have:=uS_at (bytesOf (planN p:Int) 4 ++ bytesOf (16 + rm.length:Int) 4) (bytesOf (16 + rm.length + (ofS p.cls).length + (rowsL (planN p) p.rows).length:Int) 4 ++ (rm ++ (ofS p.cls ++ (rowsL (planN p) p.rows ++ (entsB w p.ents ++ more))))) (n:=16 + rm.length + (ofS p.cls).length) (k:=4) 8 4 (by simp) rfl (by omega) (by simp; omega);simpa only [List.append_assoc] using this
 ·have:=rest (bytesOf (planN p:Int) 4 ++ (bytesOf (16 + rm.length:Int) 4 ++ (bytesOf (16 + rm.length + (ofS p.cls).length:Int) 4 ++ (bytesOf (16 + rm.length + (ofS p.cls).length + (rowsL (planN p) p.rows).length:Int) 4 ++ (rm ++ ofS p.cls))))) (rowsL (planN p) p.rows ++ (entsB w p.ents ++ more)) (16 + rm.length + (ofS p.cls).length) (by simp; omega);simpa only [List.append_assoc] using this
 ·have:=uS_at (bytesOf (planN p:Int) 4 ++ bytesOf (16 + rm.length:Int) 4 ++ bytesOf (16 + rm.length + (ofS p.cls).length:Int) 4) (rm ++ (ofS p.cls ++ (rowsL (planN p) p.rows ++ (entsB w p.ents ++ more)))) (n:=16 + rm.length + (ofS p.cls).length + (rowsL (planN p) p.rows).length) (k:=4) 12 4 (by simp) rfl (by omega) (by simp; omega);simpa only [List.append_assoc] using this
 ·have:=rest (bytesOf (planN p:Int) 4 ++ (bytesOf (16 + rm.length:Int) 4 ++ (bytesOf (16 + rm.length + (ofS p.cls).length:Int) 4 ++ (bytesOf (16 + rm.length + (ofS p.cls).length + (rowsL (planN p) p.rows).length:Int) 4 ++ (rm ++ (ofS p.cls ++ rowsL (planN p) p.rows)))))) (entsB w p.ents ++ more) (16 + rm.length + (ofS p.cls).length + (rowsL (planN p) p.rows).length) (by simp; omega);simpa only [List.append_assoc] using this
theorem ζns (p:Plan) (hp:p.ok) (w:Int) (rm more:List Int) (hrm:rm.length ≤ 1000) (h1:p.cls.length ≤ 1000) (h2:p.rows.length ≤ 1000) (g:Int) :
  machS (planRoom p w rm ++ more) g w = (closeA (rowsL (planN p) p.rows ++ (entsB w p.ents ++ more)) (entsB w p.ents ++ more) (planN p) w 2).map fun x => ⟨planN p,tabOf p.cls,x.1,x.2⟩:=by
 have hN:=planN_eq p hp.2.2;obtain ⟨e1,e2,e3,e4,e5,e6,e7⟩:=ζnr p w rm more hrm h1 h2 hN.2;have hn4:4 ≤ planN p:=by unfold planN; omega
 unfold machS;rw [e1,Option.bind_some,if_pos (by omega),e2,Option.bind_some,e3,Option.bind_some,look_ofS p.cls (fun x hx => by have:=hp.1 x hx; omega) (by omega) _ g,Option.bind_some,e4,Option.bind_some,e5,Option.bind_some,e6,Option.bind_some,e7,Option.bind_some]
end Go.Sw
end
