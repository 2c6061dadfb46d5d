/-
  Functions' forms, and what is proved of them, part 6.
-/
import Derived.Test.YtnaodjnimkndbabSwCfg
import Derived.Test.YtnaodjnimkndbabSwW5
set_option linter.unusedSimpArgs false
set_option linter.unusedVariables false
set_option linter.unusedSectionVars false
section
set_option maxRecDepth 100000
set_option linter.unusedVariables false
namespace Go.Sw
noncomputable section
def ζ5j (k : Nat) (call : Caller) : Env → Heap → Res (AExit × Env) := loopB (C k) call F.ζs [1, 1, 0, 1, 0, 0]
def ζ7r (k : Nat) (call : Caller) : Kont Value := kBlock 0 (kSeq (pieceK (C k) call F.ζs [1, 1, 1]) (kDone Prog (resOf Prog F.ζs)))
def ζ8e (k : Nat) (call : Caller) (a0 a6 a8 a9 a10 : Value) (h : Heap) : Res (AExit × Env) :=
 kSeq (pieceK (C k) call F.ζs [1, 1, 0, 1, 0, 0, 1, 1]) (kRound (ownOf (C k) F.ζs [1, 1, 0, 1, 0, 0])) .normal [(0, a0), (6, a6), (8, a8), (9, a9), (10, a10)] h
def ζ8f (k : Nat) (call : Caller) (a0 a6 a8 a9 a10 a52 : Value) (h : Heap) : Res (AExit × Env) :=
 kSeq (pieceK (C k) call F.ζs [1, 1, 0, 1, 0, 0, 1, 1]) (kRound (ownOf (C k) F.ζs [1, 1, 0, 1, 0, 0])) .normal [(0, a0), (6, a6), (8, a8), (9, a9), (10, a10), (52, a52)] h
def ζs (k : Nat) (call : Caller) (a0 a1 a2 : Value) (h : Heap) : Res Value :=
 (allocR Prog 39 h).bind fun v1 h2 =>
 (call F.ζe [a0, a1, a2] h2).bind fun v3 h4 =>
 (extractR v3 0 h4).bind fun v5 h6 =>
 (extractR v3 1 h6).bind fun v7 h8 =>
 (loopN (ζ5j k call) loopFuel [(0, a0), (6, v1), (8, v5), (9, v7), (10, (.int .i64 0))] h8).bind fun r9 h10 =>
 ζ7r k call r9.1 r9.2 h10
theorem ζgd (k : Nat) (a0 a1 a2 : Value) (h : Heap) : R (T k) F.ζs [a0, a1, a2] h = nrm .fz h (ζs k (R (T k)) a0 a1 a2 h) :=
 (R_body (t := T k) (T_scott k) (by kernel_rfl) (by kernel_rfl) _ _).trans (by kernel_rfl)
theorem ζ6p (k : Nat) (call : Caller) (a0 a6 a8 a9 a10 : Value) (h : Heap) : ζ5j k call [(0, a0), (6, a6), (8, a8), (9, a9), (10, a10)] h =
 (builtinV Prog .len [37] [a8] h).bind fun v11 h12 =>
 (binR Prog .lss 3 a10 v11 h12).bind fun v13 h14 =>
 condV (some v13) (
 (indexAddrR Prog 37 a8 a10 h14).bindN fun v15 h16 =>
 (fieldAddrR Prog 294 v15 0 h16).bindN fun v17 h18 =>
 (loadR Prog 3 v17 h18).bindN fun v19 h20 =>
 (indexAddrR Prog 37 a8 a10 h20).bindN fun v21 h22 =>
 (fieldAddrR Prog 294 v21 1 h22).bindN fun v23 h24 =>
 (loadR Prog 3 v23 h24).bindN fun v25 h26 =>
 (binR Prog .gtr 3 v19 v25 h26).bindN fun v27 h28 =>
 ((bif wantVal v27 false then Res.ok a10 h28 else Res.ok undef h28)).bindN fun v29 h30 =>
 ((bif wantVal v27 false then binR Prog .gtr 3 v29 (.int .i64 0) h30 else Res.ok undef h30)).bindN fun v31 h32 =>
 ((bif wantVal v27 false then Res.ok v31 h32 else Res.ok undef h32)).bindN fun v33 h34 =>
 ((bif wantVal v33 true then Res.ok a8 h34 else Res.ok undef h34)).bindN fun v35 h36 =>
 ((bif wantVal v33 true then Res.ok a10 h36 else Res.ok undef h36)).bindN fun v37 h38 =>
 ((bif wantVal v33 true then binR Prog .sub 3 v37 (.int .i64 1) h38 else Res.ok undef h38)).bindN fun v39 h40 =>
 ((bif wantVal v33 true then indexAddrR Prog 37 v35 v39 h40 else Res.ok undef h40)).bindN fun v41 h42 =>
 ((bif wantVal v33 true then fieldAddrR Prog 294 v41 1 h42 else Res.ok undef h42)).bindN fun v43 h44 =>
 ((bif wantVal v33 true then loadR Prog 3 v43 h44 else Res.ok undef h44)).bindN fun v45 h46 =>
 ((bif wantVal v33 true then Res.ok a8 h46 else Res.ok undef h46)).bindN fun v47 h48 =>
 ((bif wantVal v33 true then Res.ok a10 h48 else Res.ok undef h48)).bindN fun v49 h50 =>
 ((bif wantVal v33 true then indexAddrR Prog 37 v47 v49 h50 else Res.ok undef h50)).bindN fun v51 h52 =>
 ((bif wantVal v33 true then fieldAddrR Prog 294 v51 0 h52 else Res.ok undef h52)).bindN fun v53 h54 =>
 ((bif wantVal v33 true then loadR Prog 3 v53 h54 else Res.ok undef h54)).bindN fun v55 h56 =>
 ((bif wantVal v33 true then binR Prog .geq 3 v45 v55 h56 else Res.ok undef h56)).bindN fun v57 h58 =>
 ((bif wantVal v27 false then condV (some v33) (Res.ok v57 h58) (Res.ok (.bool false) h58) else Res.ok undef h58)).bindN fun v59 h60 =>
 (condV (some v27) (Res.ok (.bool true) h60) (Res.ok v59 h60)).bindN fun v61 h62 =>
 condV (some v61) (
 ζ8e k call a0 a6 a8 (.bool false) a10 h62)
 (
 ζ8f k call a0 a6 a8 a9 a10 v61 h62))
 (
 .ok ((.exit 0), [(0, a0), (6, a6), (8, a8), (9, a9), (10, a10), (21, v13)]) h14) :=
 (loopB_eq _ _).trans (by kernel_rfl)
theorem ζ6n (k : Nat) (call : Caller) (a0 a6 a8 a9 a10 : Value) (h : Heap) : ζ8e k call a0 a6 a8 a9 a10 h =
 (binR Prog .add 3 a10 (.int .i64 1) h).bind fun v63 h64 =>
 .ok (.normal, [(0, a0), (6, a6), (8, a8), (9, a9), (10, v63)]) h64 := by kernel_rfl
theorem ζ6o (k : Nat) (call : Caller) (a0 a6 a8 a9 a10 a52 : Value) (h : Heap) : ζ8f k call a0 a6 a8 a9 a10 a52 h =
 (binR Prog .add 3 a10 (.int .i64 1) h).bind fun v65 h66 =>
 .ok (.normal, [(0, a0), (6, a6), (8, a8), (9, a9), (10, v65)]) h66 := by kernel_rfl
theorem ζ5y (k : Nat) (call : Caller) (a0 a6 a8 a9 a10 a21 : Value) (h : Heap) : ζ7r k call (.exit 0) [(0, a0), (6, a6), (8, a8), (9, a9), (10, a10), (21, a21)] h =
 (unR .not a9 h).bind fun v67 h68 =>
 condV (some v67) (
 (buildR Prog 39 [] h68).bind fun v69 h70 =>
 (storeR Prog 39 a6 v69 h70).bind fun _v71 h72 =>
 (loadR Prog 39 a6 h72).bind fun v73 h74 =>
 .ok (.tuple #[v73, (.bool false)]) h74)
 (
 (buildR Prog 39 [(0, a0), (1, a8)] h68).bind fun v75 h76 =>
 (storeR Prog 39 a6 v75 h76).bind fun _v77 h78 =>
 (loadR Prog 39 a6 h78).bind fun v79 h80 =>
 .ok (.tuple #[v79, (.bool true)]) h80) := by kernel_rfl
def ζ4y (k : Nat) (call : Caller) : Env → Heap → Res (AExit × Env) := loopB (C k) call F.ζe [1, 0, 1, 0, 1, 1, 1, 1, 1, 1, 1, 0, 1, 1, 0, 1, 0, 0]
def ζ7c (k : Nat) (call : Caller) : Kont Value := kBlock 1 (kSeq (pieceK (C k) call F.ζe [1, 0, 1, 0, 1, 1, 1, 1, 1, 1, 1, 0, 1, 1, 1]) (kBlock 0 (kSeq (pieceK (C k) call F.ζe [1, 1]) (kDone Prog (resOf Prog F.ζe)))))
def ζe (k : Nat) (call : Caller) (a0 a1 a2 : Value) (h : Heap) : Res Value :=
 (call F.ζ1 [a0, (.int .i64 0), (.int .i64 2)] h).bind fun v1 h2 =>
 (binR Prog .eql 3 v1 (.int .i64 0) h2).bind fun v3 h4 =>
 condV (some v3) (
 (binR Prog .sub 3 a1 (.int .i64 1) h4).bind fun v5 h6 =>
 (buildR Prog 294 [(0, (.int .i64 0)), (1, v5), (2, (.int .i64 2)), (3, a2), (4, a2)] h6).bind fun v7 h8 =>
 (buildSliceR Prog 37 1 [(0, v7)] h8).bind fun v9 h10 =>
 (builtinV Prog .len [22] [a0] h10).bind fun v11 h12 =>
 (call F.ζk [v11, (.int .i64 2), a1, a2] h12).bind fun v13 h14 =>
 .ok (.tuple #[v9, v13]) h14)
 (
 (binR Prog .eql 3 v1 (.int .i64 2) h4).bind fun v15 h16 =>
 condV (some v15) (
 (call F.ζ2 [a0, a2, (.bool false)] h16).bind fun v17 h18 =>
 (extractR v17 0 h18).bind fun v19 h20 =>
 (extractR v17 1 h20).bind fun v21 h22 =>
 .ok (.tuple #[v19, v21]) h22)
 (
 (binR Prog .eql 3 v1 (.int .i64 4) h16).bind fun v23 h24 =>
 condV (some v23) (
 (call F.ζ2 [a0, a2, (.bool true)] h24).bind fun v25 h26 =>
 (extractR v25 0 h26).bind fun v27 h28 =>
 (extractR v25 1 h28).bind fun v29 h30 =>
 .ok (.tuple #[v27, v29]) h30)
 (
 (binR Prog .eql 3 v1 (.int .i64 6) h24).bind fun v31 h32 =>
 condV (some v31) (
 (binR Prog .add 3 (.int .i64 2) a2 h32).bind fun v33 h34 =>
 (call F.ζ5 [a0, (.int .i64 2), v33, (.int .i64 1)] h34).bind fun v35 h36 =>
 (extractR v35 0 h36).bind fun v37 h38 =>
 (extractR v35 1 h38).bind fun v39 h40 =>
 (extractR v35 2 h40).bind fun v41 h42 =>
 (buildSliceR Prog 37 0 [] h42).bind fun v43 h44 =>
 (loopN (ζ4y k call) loopFuel [(0, a0), (2, a2), (8, v37), (10, v41), (11, v43), (12, (.int .i64 0))] h44).bind fun r45 h46 =>
 ζ7c k call r45.1 r45.2 h46)
 (
 (binR Prog .eql 3 v1 (.int .i64 8) h32).bind fun v47 h48 =>
 condV (some v47) (
 (call F.ζo [a0, (.int .i64 2), a2] h48).bind fun v49 h50 =>
 (extractR v49 0 h50).bind fun v51 h52 =>
 (extractR v49 1 h52).bind fun v53 h54 =>
 .ok (.tuple #[v51, v53]) h54)
 (
 (binR Prog .eql 3 v1 (.int .i64 10) h48).bind fun v55 h56 =>
 condV (some v55) (
 (call F.ζ1 [a0, (.int .i64 2), (.int .i64 2)] h56).bind fun v57 h58 =>
 (binR Prog .neq 3 v57 (.int .i64 1) h58).bind fun v59 h60 =>
 ((bif wantVal v59 true then Res.ok v57 h60 else Res.ok undef h60)).bind fun v61 h62 =>
 ((bif wantVal v59 true then binR Prog .neq 3 v61 (.int .i64 2) h62 else Res.ok undef h62)).bind fun v63 h64 =>
 (condV (some v59) (Res.ok v63 h64) (Res.ok (.bool false) h64)).bind fun v65 h66 =>
 ((bif wantVal v65 true then Res.ok v57 h66 else Res.ok undef h66)).bind fun v67 h68 =>
 ((bif wantVal v65 true then binR Prog .neq 3 v67 (.int .i64 4) h68 else Res.ok undef h68)).bind fun v69 h70 =>
 (condV (some v65) (Res.ok v69 h70) (Res.ok (.bool false) h70)).bind fun v71 h72 =>
 condV (some v71) (
 .ok (.tuple #[(.slice none 0 0), (.bool false)]) h72)
 (
 (call F.ζo [a0, (.int .i64 4), v57] h72).bind fun v73 h74 =>
 (extractR v73 0 h74).bind fun v75 h76 =>
 (extractR v73 1 h76).bind fun v77 h78 =>
 .ok (.tuple #[v75, v77]) h78))
 (
 .ok (.tuple #[(.slice none 0 0), (.bool false)]) h56))))))
theorem ζfq (k : Nat) (a0 a1 a2 : Value) (h : Heap) : R (T k) F.ζe [a0, a1, a2] h = nrm .fz h (ζe k (R (T k)) a0 a1 a2 h) :=
 (R_body (t := T k) (T_scott k) (by kernel_rfl) (by kernel_rfl) _ _).trans (by kernel_rfl)
theorem ζ5z (k : Nat) (call : Caller) (a0 a2 a8 a10 a11 a12 : Value) (h : Heap) : ζ4y k call [(0, a0), (2, a2), (8, a8), (10, a10), (11, a11), (12, a12)] h =
 (builtinV Prog .len [27] [a8] h).bind fun v79 h80 =>
 (binR Prog .lss 3 a12 v79 h80).bind fun v81 h82 =>
 condV (some v81) (
 (indexAddrR Prog 27 a8 a12 h82).bind fun v83 h84 =>
 (loadR Prog 3 v83 h84).bind fun v85 h86 =>
 (call F.ζ1 [a0, v85, (.int .i64 2)] h86).bind fun v87 h88 =>
 (indexAddrR Prog 27 a8 a12 h88).bind fun v89 h90 =>
 (loadR Prog 3 v89 h90).bind fun v91 h92 =>
 (binR Prog .add 3 v91 (.int .i64 2) h92).bind fun v93 h94 =>
 (buildR Prog 294 [(0, v87), (1, v87), (2, v93), (3, a2)] h94).bind fun v95 h96 =>
 (buildSliceR Prog 37 1 [(0, v95)] h96).bind fun v97 h98 =>
 (builtinV Prog .append [37, 37] [a11, v97] h98).bind fun v99 h100 =>
 (binR Prog .add 3 a12 (.int .i64 1) h100).bind fun v101 h102 =>
 .ok (.normal, [(0, a0), (2, a2), (8, a8), (10, a10), (11, v99), (12, v101)]) h102)
 (
 .ok ((.exit 1), [(0, a0), (2, a2), (8, a8), (10, a10), (11, a11), (12, a12), (58, v81)]) h82) :=
 (loopB_eq _ _).trans (by kernel_rfl)
theorem ζ9p (k : Nat) (call : Caller) (a0 a2 a8 a10 a11 a12 a58 : Value) (h : Heap) : ζ7c k call (.exit 1) [(0, a0), (2, a2), (8, a8), (10, a10), (11, a11), (12, a12), (58, a58)] h =
 .ok (.tuple #[a11, a10]) h := by kernel_rfl
def ζ60 (k : Nat) (call : Caller) (a0 a1 a2 a8 : Value) (h : Heap) : Res Value :=
 kSeq (pieceK (C k) call F.ζ2 [1, 1, 1]) (kDone Prog (resOf Prog F.ζ2)) .normal [(0, a0), (1, a1), (2, a2), (8, a8)] h
def ζ61 (k : Nat) (call : Caller) (a0 a1 a2 a8 a17 : Value) (h : Heap) : Res Value :=
 kSeq (pieceK (C k) call F.ζ2 [1, 1, 1]) (kDone Prog (resOf Prog F.ζ2)) .normal [(0, a0), (1, a1), (2, a2), (8, a8), (17, a17)] h
def ζ2o (k : Nat) (call : Caller) : Env → Heap → Res (AExit × Env) := loopB (C k) call F.ζ2 [1, 1, 1, 1, 1, 0, 1, 0, 0]
def ζ3h (k : Nat) (call : Caller) : Kont Value := kBlock 0 (kSeq (pieceK (C k) call F.ζ2 [1, 1, 1, 1, 1, 1]) (kDone Prog (resOf Prog F.ζ2)))
def ζ62 (k : Nat) (call : Caller) (a0 a1 a2 a9 a11 a12 a13 a14 : Value) (h : Heap) : Res (AExit × Env) :=
 kSeq (pieceK (C k) call F.ζ2 [1, 1, 1, 1, 1, 0, 1, 0, 0, 1, 0, 0, 1, 1]) (kBlock 1 (kSeq (pieceK (C k) call F.ζ2 [1, 1, 1, 1, 1, 0, 1, 0, 0, 1, 1]) (kRound (ownOf (C k) F.ζ2 [1, 1, 1, 1, 1, 0, 1, 0, 0])))) .normal [(0, a0), (1, a1), (2, a2), (9, a9), (11, a11), (12, a12), (13, a13), (14, a14)] h
def ζ63 (k : Nat) (call : Caller) (a0 a1 a2 a9 a11 a12 a13 a14 a55 : Value) (h : Heap) : Res (AExit × Env) :=
 kSeq (pieceK (C k) call F.ζ2 [1, 1, 1, 1, 1, 0, 1, 0, 0, 1, 0, 0, 1, 1]) (kBlock 1 (kSeq (pieceK (C k) call F.ζ2 [1, 1, 1, 1, 1, 0, 1, 0, 0, 1, 1]) (kRound (ownOf (C k) F.ζ2 [1, 1, 1, 1, 1, 0, 1, 0, 0])))) .normal [(0, a0), (1, a1), (2, a2), (9, a9), (11, a11), (12, a12), (13, a13), (14, a14), (55, a55)] h
def ζ2 (k : Nat) (call : Caller) (a0 a1 a2 : Value) (h : Heap) : Res Value :=
 (binR Prog .add 3 (.int .i64 4) a1 h).bind fun v1 h2 =>
 condV (some a2) (
 ζ60 k call a0 a1 a2 (.int .i64 6) h2)
 (
 ζ61 k call a0 a1 a2 v1 a2 h2)
theorem ζdb (k : Nat) (a0 a1 a2 : Value) (h : Heap) : R (T k) F.ζ2 [a0, a1, a2] h = nrm .fz h (ζ2 k (R (T k)) a0 a1 a2 h) :=
 (R_body (t := T k) (T_scott k) (by kernel_rfl) (by kernel_rfl) _ _).trans (by kernel_rfl)
theorem ζ8g (k : Nat) (call : Caller) (a0 a1 a2 a8 : Value) (h : Heap) : ζ60 k call a0 a1 a2 a8 h =
 (call F.ζ5 [a0, (.int .i64 2), a8, (.int .i64 2)] h).bind fun v3 h4 =>
 (extractR v3 0 h4).bind fun v5 h6 =>
 (extractR v3 1 h6).bind fun v7 h8 =>
 (extractR v3 2 h8).bind fun v9 h10 =>
 (buildSliceR Prog 37 0 [] h10).bind fun v11 h12 =>
 (loopN (ζ2o k call) loopFuel [(0, a0), (1, a1), (2, a2), (9, v5), (11, v9), (12, v11), (13, (.int .i64 0))] h12).bind fun r13 h14 =>
 ζ3h k call r13.1 r13.2 h14 := by kernel_rfl
theorem ζ8h (k : Nat) (call : Caller) (a0 a1 a2 a8 a17 : Value) (h : Heap) : ζ61 k call a0 a1 a2 a8 a17 h =
 (call F.ζ5 [a0, (.int .i64 2), a8, (.int .i64 2)] h).bind fun v15 h16 =>
 (extractR v15 0 h16).bind fun v17 h18 =>
 (extractR v15 1 h18).bind fun v19 h20 =>
 (extractR v15 2 h20).bind fun v21 h22 =>
 (buildSliceR Prog 37 0 [] h22).bind fun v23 h24 =>
 (loopN (ζ2o k call) loopFuel [(0, a0), (1, a1), (2, a2), (9, v17), (11, v21), (12, v23), (13, (.int .i64 0))] h24).bind fun r25 h26 =>
 ζ3h k call r25.1 r25.2 h26 := by kernel_rfl
theorem ζ36 (k : Nat) (call : Caller) (a0 a1 a2 a9 a11 a12 a13 : Value) (h : Heap) : ζ2o k call [(0, a0), (1, a1), (2, a2), (9, a9), (11, a11), (12, a12), (13, a13)] h =
 (builtinV Prog .len [27] [a9] h).bind fun v27 h28 =>
 (binR Prog .lss 3 a13 v27 h28).bind fun v29 h30 =>
 ((bif wantVal v29 true then Res.ok a11 h30 else Res.ok undef h30)).bind fun v31 h32 =>
 (condV (some v29) (Res.ok v31 h32) (Res.ok (.bool false) h32)).bind fun v33 h34 =>
 condV (some v33) (
 (indexAddrR Prog 27 a9 a13 h34).bindN fun v35 h36 =>
 (loadR Prog 3 v35 h36).bindN fun v37 h38 =>
 (binR Prog .add 3 v37 (.int .i64 2) h38).bindN fun v39 h40 =>
 (call F.ζ1 [a0, v39, (.int .i64 2)] h40).bindT (fun p43 h44 => (indexAddrR Prog 27 a9 a13 h40).bindN fun v45 h46 => (loadR Prog 3 v45 h46).bindN fun v47 h48 => (indexAddrR Prog 27 a9 a13 h48).bindN fun v49 h50 => (loadR Prog 3 v49 h50).bindN fun v51 h52 => (binR Prog .add 3 v51 (.int .i64 4) h52).bindN fun v53 h54 => (allocR Prog 294 h54).bindN fun v55 h56 => chkR ((okVal (loadR Prog 3 v45 h34) v47 && true) && ((okVal (loadR Prog 3 v49 h34) v51 && (okVal (loadR Prog 3 v49 h56) v51 && true)) && true)) (.panic p43 h44)) fun v41 h42 =>
 (indexAddrR Prog 27 a9 a13 h42).bindN fun v57 h58 =>
 (loadR Prog 3 v57 h58).bindN fun v59 h60 =>
 (call F.ζ1 [a0, v59, (.int .i64 2)] h60).bindT (fun p63 h64 => (indexAddrR Prog 27 a9 a13 h60).bindN fun v65 h66 => (loadR Prog 3 v65 h66).bindN fun v67 h68 => (binR Prog .add 3 v67 (.int .i64 4) h68).bindN fun v69 h70 => (allocR Prog 294 h70).bindN fun v71 h72 => chkR ((okVal (loadR Prog 3 v57 h34) v59 && true) && ((okVal (loadR Prog 3 v65 h34) v67 && (okVal (loadR Prog 3 v65 h42) v67 && (okVal (loadR Prog 3 v65 h72) v67 && true))) && true)) (.panic p63 h64)) fun v61 h62 =>
 (indexAddrR Prog 27 a9 a13 h62).bindN fun v73 h74 =>
 (loadR Prog 3 v73 h74).bindN fun v75 h76 =>
 (binR Prog .add 3 v75 (.int .i64 4) h76).bindN fun v77 h78 =>
 (buildR Prog 294 [(0, v41), (1, v61), (2, v77), (3, a1)] h78).bindN fun v79 h80 =>
 (allocR Prog 294 h80).bindN fun v81 h82 =>
 (storeR Prog 294 v81 v79 h82).bindN fun _v83 h84 =>
 chkR ((okVal (loadR Prog 3 v57 h34) v59 && true) && ((okVal (loadR Prog 3 v73 h34) v75 && (okVal (loadR Prog 3 v73 h42) v75 && (okVal (loadR Prog 3 v73 h82) v75 && true))) && true)) (
 condV (some a2) (
 (indexAddrR Prog 27 a9 a13 h84).bind fun v85 h86 =>
 (loadR Prog 3 v85 h86).bind fun v87 h88 =>
 (binR Prog .add 3 v87 (.int .i64 4) h88).bind fun v89 h90 =>
 (call F.ζ1 [a0, v89, (.int .i64 2)] h90).bind fun v91 h92 =>
 (fieldAddrR Prog 294 v81 2 h92).bind fun v93 h94 =>
 (storeR Prog 3 v93 v91 h94).bind fun _v95 h96 =>
 (fieldAddrR Prog 294 v81 4 h96).bind fun v97 h98 =>
 (storeR Prog 3 v97 a1 h98).bind fun _v99 h100 =>
 (builtinV Prog .len [22] [a0] h100).bind fun v101 h102 =>
 (fieldAddrR Prog 294 v81 2 h102).bind fun v103 h104 =>
 (loadR Prog 3 v103 h104).bind fun v105 h106 =>
 (fieldAddrR Prog 294 v81 1 h106).bind fun v107 h108 =>
 (loadR Prog 3 v107 h108).bind fun v109 h110 =>
 (fieldAddrR Prog 294 v81 0 h110).bind fun v111 h112 =>
 (loadR Prog 3 v111 h112).bind fun v113 h114 =>
 (binR Prog .sub 3 v109 v113 h114).bind fun v115 h116 =>
 (binR Prog .add 3 v115 (.int .i64 1) h116).bind fun v117 h118 =>
 (call F.ζk [v101, v105, v117, a1] h118).bind fun v119 h120 =>
 ζ62 k call a0 a1 a2 a9 v119 a12 a13 v81 h120)
 (
 ζ63 k call a0 a1 a2 a9 a11 a12 a13 v81 a2 h84)))
 (
 .ok ((.exit 0), [(0, a0), (1, a1), (2, a2), (9, a9), (11, a11), (12, a12), (13, a13), (32, v33)]) h34) :=
 (loopB_eq _ _).trans (by kernel_rfl)
theorem ζ8i (k : Nat) (call : Caller) (a0 a1 a2 a9 a11 a12 a13 a14 : Value) (h : Heap) : ζ62 k call a0 a1 a2 a9 a11 a12 a13 a14 h =
 (loadR Prog 294 a14 h).bind fun v121 h122 =>
 (buildSliceR Prog 37 1 [(0, v121)] h122).bind fun v123 h124 =>
 (builtinV Prog .append [37, 37] [a12, v123] h124).bind fun v125 h126 =>
 (binR Prog .add 3 a13 (.int .i64 1) h126).bind fun v127 h128 =>
 .ok (.normal, [(0, a0), (1, a1), (2, a2), (9, a9), (11, a11), (12, v125), (13, v127)]) h128 := by kernel_rfl
theorem ζ8j (k : Nat) (call : Caller) (a0 a1 a2 a9 a11 a12 a13 a14 a55 : Value) (h : Heap) : ζ63 k call a0 a1 a2 a9 a11 a12 a13 a14 a55 h =
 (loadR Prog 294 a14 h).bind fun v129 h130 =>
 (buildSliceR Prog 37 1 [(0, v129)] h130).bind fun v131 h132 =>
 (builtinV Prog .append [37, 37] [a12, v131] h132).bind fun v133 h134 =>
 (binR Prog .add 3 a13 (.int .i64 1) h134).bind fun v135 h136 =>
 .ok (.normal, [(0, a0), (1, a1), (2, a2), (9, a9), (11, a11), (12, v133), (13, v135)]) h136 := by kernel_rfl
theorem ζ46 (k : Nat) (call : Caller) (a0 a1 a2 a9 a11 a12 a13 a32 : Value) (h : Heap) : ζ3h k call (.exit 0) [(0, a0), (1, a1), (2, a2), (9, a9), (11, a11), (12, a12), (13, a13), (32, a32)] h =
 .ok (.tuple #[a12, a11]) h := by kernel_rfl
def ζo (k : Nat) (call : Caller) (a0 a1 a2 : Value) (h : Heap) : Res Value :=
 (call F.ζ1 [a0, a1, (.int .i64 2)] h).bind fun v1 h2 =>
 (binR Prog .add 3 a1 (.int .i64 2) h2).bind fun v3 h4 =>
 (call F.ζ1 [a0, v3, (.int .i64 2)] h4).bind fun v5 h6 =>
 (binR Prog .lss 3 v1 (.int .i64 0) h6).bind fun v7 h8 =>
 ((bif wantVal v7 false then Res.ok v5 h8 else Res.ok undef h8)).bind fun v9 h10 =>
 ((bif wantVal v7 false then binR Prog .lss 3 v9 (.int .i64 0) h10 else Res.ok undef h10)).bind fun v11 h12 =>
 (condV (some v7) (Res.ok (.bool true) h12) (Res.ok v11 h12)).bind fun v13 h14 =>
 ((bif wantVal v13 false then Res.ok v1 h14 else Res.ok undef h14)).bind fun v15 h16 =>
 ((bif wantVal v13 false then Res.ok v5 h16 else Res.ok undef h16)).bind fun v17 h18 =>
 ((bif wantVal v13 false then binR Prog .add 3 v15 v17 h18 else Res.ok undef h18)).bind fun v19 h20 =>
 ((bif wantVal v13 false then binR Prog .gtr 3 v19 (.int .i64 65536) h20 else Res.ok undef h20)).bind fun v21 h22 =>
 (condV (some v13) (Res.ok (.bool true) h22) (Res.ok v21 h22)).bind fun v23 h24 =>
 ((bif wantVal v23 false then Res.ok a0 h24 else Res.ok undef h24)).bind fun v25 h26 =>
 ((bif wantVal v23 false then builtinV Prog .len [22] [v25] h26 else Res.ok undef h26)).bind fun v27 h28 =>
 ((bif wantVal v23 false then Res.ok a1 h28 else Res.ok undef h28)).bind fun v29 h30 =>
 ((bif wantVal v23 false then binR Prog .add 3 v29 (.int .i64 4) h30 else Res.ok undef h30)).bind fun v31 h32 =>
 ((bif wantVal v23 false then Res.ok v5 h32 else Res.ok undef h32)).bind fun v33 h34 =>
 ((bif wantVal v23 false then Res.ok a2 h34 else Res.ok undef h34)).bind fun v35 h36 =>
 ((bif wantVal v23 false then call F.ζk [v27, v31, v33, v35] h36 else Res.ok undef h36)).bind fun v37 h38 =>
 ((bif wantVal v23 false then unR .not v37 h38 else Res.ok undef h38)).bind fun v39 h40 =>
 (condV (some v23) (Res.ok (.bool true) h40) (Res.ok v39 h40)).bind fun v41 h42 =>
 condV (some v41) (
 .ok (.tuple #[(.slice none 0 0), (.bool false)]) h42)
 (
 (binR Prog .eql 3 v5 (.int .i64 0) h42).bind fun v43 h44 =>
 condV (some v43) (
 (buildSliceR Prog 37 0 [] h44).bind fun v45 h46 =>
 .ok (.tuple #[v45, (.bool true)]) h46)
 (
 (binR Prog .add 3 v1 v5 h44).bind fun v47 h48 =>
 (binR Prog .sub 3 v47 (.int .i64 1) h48).bind fun v49 h50 =>
 (binR Prog .add 3 a1 (.int .i64 4) h50).bind fun v51 h52 =>
 (buildR Prog 294 [(0, v1), (1, v49), (2, v51), (3, a2), (4, a2)] h52).bind fun v53 h54 =>
 (buildSliceR Prog 37 1 [(0, v53)] h54).bind fun v55 h56 =>
 .ok (.tuple #[v55, (.bool true)]) h56))
theorem ζei (k : Nat) (a0 a1 a2 : Value) (h : Heap) : R (T k) F.ζo [a0, a1, a2] h = nrm .fz h (ζo k (R (T k)) a0 a1 a2 h) :=
 (R_body (t := T k) (T_scott k) (by kernel_rfl) (by kernel_rfl) _ _).trans (by kernel_rfl)
def ζ6a (k : Nat) (call : Caller) : Env → Heap → Res (AExit × Env) := loopB (C k) call F.ζ22 [1, 0, 1, 0, 0]
def ζ5i (k : Nat) (call : Caller) : Kont Value := kBlock 0 (kSeq (pieceK (C k) call F.ζ22 [1, 1]) (kDone Prog (resOf Prog F.ζ22)))
def ζ22 (k : Nat) (call : Caller) (a0 a1 : Value) (h : Heap) : Res Value :=
 (boxR a0 h).bind fun v1 h2 =>
 (loopN (ζ6a k call) loopFuel [(1, a1), (2, v1), (6, (.int .i64 0))] h2).bind fun r3 h4 =>
 ζ5i k call r3.1 r3.2 h4
theorem ζi8 (k : Nat) (a0 a1 : Value) (h : Heap) : R (T k) F.ζ22 [a0, a1] h = nrm .gc h (ζ22 k (R (T k)) a0 a1 h) :=
 (R_body (t := T k) (T_scott k) (by kernel_rfl) (by kernel_rfl) _ _).trans (by kernel_rfl)
theorem ζ3d (k : Nat) (call : Caller) (a1 a2 a6 : Value) (h : Heap) : ζ6a k call [(1, a1), (2, a2), (6, a6)] h =
 (fieldAddrR Prog 39 a2 1 h).bind fun v5 h6 =>
 (loadR Prog 37 v5 h6).bind fun v7 h8 =>
 (builtinV Prog .len [37] [v7] h8).bind fun v9 h10 =>
 (binR Prog .lss 3 a6 v9 h10).bind fun v11 h12 =>
 condV (some v11) (
 (fieldAddrR Prog 39 a2 1 h12).bind fun v13 h14 =>
 (loadR Prog 37 v13 h14).bind fun v15 h16 =>
 (indexAddrR Prog 37 v15 a6 h16).bind fun v17 h18 =>
 (loadR Prog 294 v17 h18).bind fun v19 h20 =>
 (allocR Prog 294 h20).bind fun v21 h22 =>
 (storeR Prog 294 v21 v19 h22).bind fun _v23 h24 =>
 (fieldAddrR Prog 294 v21 0 h24).bind fun v25 h26 =>
 (loadR Prog 3 v25 h26).bind fun v27 h28 =>
 (binR Prog .geq 3 a1 v27 h28).bind fun v29 h30 =>
 ((bif wantVal v29 true then Res.ok a1 h30 else Res.ok undef h30)).bind fun v31 h32 =>
 ((bif wantVal v29 true then fieldAddrR Prog 294 v21 1 h32 else Res.ok undef h32)).bind fun v33 h34 =>
 ((bif wantVal v29 true then loadR Prog 3 v33 h34 else Res.ok undef h34)).bind fun v35 h36 =>
 ((bif wantVal v29 true then binR Prog .leq 3 v31 v35 h36 else Res.ok undef h36)).bind fun v37 h38 =>
 (condV (some v29) (Res.ok v37 h38) (Res.ok (.bool false) h38)).bind fun v39 h40 =>
 condV (some v39) (
 (fieldAddrR Prog 39 a2 0 h40).bind fun v41 h42 =>
 (loadR Prog 22 v41 h42).bind fun v43 h44 =>
 (fieldAddrR Prog 294 v21 2 h44).bind fun v45 h46 =>
 (loadR Prog 3 v45 h46).bind fun v47 h48 =>
 (fieldAddrR Prog 294 v21 0 h48).bind fun v49 h50 =>
 (loadR Prog 3 v49 h50).bind fun v51 h52 =>
 (binR Prog .sub 3 a1 v51 h52).bind fun v53 h54 =>
 (fieldAddrR Prog 294 v21 4 h54).bind fun v55 h56 =>
 (loadR Prog 3 v55 h56).bind fun v57 h58 =>
 (binR Prog .mul 3 v53 v57 h58).bind fun v59 h60 =>
 (binR Prog .add 3 v47 v59 h60).bind fun v61 h62 =>
 (fieldAddrR Prog 294 v21 3 h62).bind fun v63 h64 =>
 (loadR Prog 3 v63 h64).bind fun v65 h66 =>
 (call F.ζ1 [v43, v61, v65] h66).bind fun v67 h68 =>
 .ok (.ret, [(4, v67), (5, (.bool true))]) h68)
 (
 (binR Prog .add 3 a6 (.int .i64 1) h40).bind fun v69 h70 =>
 .ok (.normal, [(1, a1), (2, a2), (6, v69)]) h70))
 (
 .ok ((.exit 0), [(1, a1), (2, a2), (6, a6), (12, v11)]) h12) :=
 (loopB_eq _ _).trans (by kernel_rfl)
theorem ζeh (k : Nat) (call : Caller) (a4 a5 : Value) (h : Heap) : ζ5i k call .ret [(4, a4), (5, a5)] h =
 .ok (.tuple #[a4, a5]) h := by kernel_rfl
theorem ζda (k : Nat) (call : Caller) (a1 a2 a6 a12 : Value) (h : Heap) : ζ5i k call (.exit 0) [(1, a1), (2, a2), (6, a6), (12, a12)] h =
 .ok (.tuple #[(.int .i64 0), (.bool false)]) h := by kernel_rfl
end
end Go.Sw
end
section
namespace Go.Sw
open Go.RowKit
abbrev encRP (r : RP) : List Value := [.int .i64 r.first, .int .i64 r.last, .int .i64 r.pos, .int .i64 r.size, .int .i64 r.step]
theorem ζ6r (r : RP) : (encRP r).length = 5 := rfl
theorem ζcy (l : List RP) : ∀ p, p ∈ l → ∀ v, v ∈ encRP p → Still v := fun p _ v hv => by
 simp [encRP] at hv;rcases hv with rfl | rfl | rfl | rfl | rfl <;> trivial
theorem Flat.RPs (l : List RP) : Flat (Go.Sw.lv encRP l) := .lv fun p _ => .cons (.int _ _) (.cons (.int _ _) (.cons (.int _ _) (.cons (.int _ _) (.cons (.int _ _) .nil))))
def PartsAre (o : Option (List RP)) (v : Value) : Prop := ∃ l, v = .tuple #[lv encRP l, .bool o.isSome] ∧ (∀ x, o = some x → l = x) ∧ l.length ≤ 65536
theorem ζ76 (l : List RP) (x : Bool) : Flat (.tuple #[lv encRP l, .bool x]) := .tupleL (.cons (Flat.RPs _) (.cons (.bool _) .nil))
def segE (b : List Int) (z : Int) (each : Bool) (p : Int) : RP := if each then ⟨gU b (p + 2) 2, gU b p 2, gU b (p + 4) 2, z, z⟩ else ⟨gU b (p + 2) 2, gU b p 2, p + 4, z, 0⟩
def segB (b : List Int) (z : Int) (each : Bool) (p : Int) : Bool := if each then rowsB b.length (gU b (p + 4) 2) (gU b p 2 - gU b (p + 2) 2 + 1) z else true
theorem segR_eq (b : List Int) (z : Int) (each : Bool) (p : Int) : segR b z each p = if segB b z each p then some (segE b z each p) else none := by
 unfold segR segB segE;cases each <;> simp
theorem ζmd {β : Type} {f : Int → Option β} {l : List Int} {j : Nat} {p : Int} (hp : l[j]? = some p) : mapO f (l.take (j + 1)) = (mapO f (l.take j)).bind fun r => (f p).map fun y => r ++ [y] := by
 have h : ∀ (a : List Int), mapO f (a ++ [p]) = (mapO f a).bind fun r => (f p).map fun y => r ++ [y] := by
  intro a
  induction a with
  | nil => simp [mapO]; cases f p <;> rfl
  | cons x a ih =>
   simp only [List.cons_append, mapO, ih];cases f x with
   | none => rfl
   | some y =>
    simp only [Option.bind_some];cases mapO f a with
    | none => rfl
    | some r => simp only [Option.bind_some, Option.map_some]; cases f p <;> rfl
 rw [ζ2p hp, h]
theorem ζk2 {β : Type} {f : Int → Option β} {l : List Int} {j : Nat} (h : mapO f (l.take j) = none) : mapO f l = none := by
 have : ∀ (a b : List Int), mapO f a = none → mapO f (a ++ b) = none := by
  intro a
  induction a with
  | nil => intro b h; cases h
  | cons x a ih =>
   intro b h;simp only [List.cons_append, mapO] at h ⊢;cases hx : f x with
   | none => rfl
   | some y =>
    rw [hx] at h;simp only [Option.bind_some, Option.map_eq_none_iff] at h ⊢;exact ih b h
 rw [← List.take_append_drop j l];exact this _ _ h
theorem ζl9 (k : Nat) (b : List Int) (hb : Byt b) (z : Int) (hz : z = 2 ∨ z = 4) (each : Bool) (hl : b.length < 2 ^ 31) (H : Heap) :
  ∃ v, R (T k) F.ζ2 [lv encB b, .int .i64 z, .bool each] H = .ok v H ∧ PartsAre (refSegS b z each) v := by
 have hU := fun j H' => refU_run k (H := H') (Sl.lv H' 1 b) hb j 2 (by omega) (by omega);have hRows := fun i n H' => ζ88 k b.length i n z (by omega) (by omega) H';obtain ⟨need, hneed⟩ : ∃ need : Int, need = if each then 6 else 4 + z := ⟨_, rfl⟩
 have hr5 : ∀ H', R (T k) F.ζ5 [lv encB b, .int .i64 2, .int .i64 need, .int .i64 2] H' = .ok (rowsO b 2 need 2) H' := fun H' => ζl5 k b hb 2 need 2 hl (by omega) (by omega) (by subst hneed; split <;> omega) (by subst hneed; split <;> omega) H'
 -- the rows
 obtain ⟨ps, ok, zz, hrow, hps, hok⟩ : ∃ (ps : List Int) (ok : Bool) (zz : Int), rowsO b 2 need 2 = .tuple #[lv encI ps, .int .i64 zz, .bool ok] ∧ (∀ p, p ∈ ps → 0 ≤ p ∧ p < 2 ^ 34) ∧
   ps.length < 65536 ∧ refSegS b z each = (if ok then mapO (segR b z each) ps else none) ∧ (ok = false → ps = []) := by
  unfold rowsO refSegS;rw [← hneed];cases ht : takeS b 2 need 2 with
  | none => exact ⟨[], false, 0, rfl, (fun p h => by cases h), by simp, rfl, fun _ => rfl⟩
  | some rows =>
   obtain ⟨s, n, h1, h2, h3, h4, h5, h6⟩ := ζfa ht;have hs := uS_two hb h1;have hn := uS_two hb h2;rw [gU_some h1];refine ⟨posS 2 s rows.length, true, s, rfl, fun p hp => ?_, by simp; omega, rfl, fun h => by cases h⟩;obtain ⟨i, hi⟩ := List.getElem?_of_mem hp;have hlt := (List.getElem?_eq_some_iff.1 hi).1;simp at hlt;rw [posS_get _ _ _ _ hlt] at hi;injection hi with hi;have := Int.mul_nonneg hs.1 (show (0 : Int) ≤ (i : Nat) by omega);have : s * (i : Nat) ≤ 65536 * 65536 := Int.mul_le_mul (by omega) (by omega) (by omega) (by omega);omega
 obtain ⟨hplen, href, hoknil⟩ := hok;rw [href]
 obtain ⟨x, e', H1, hr, rfl, hx, a, s, out, fl, rfl, ho, hq⟩ := loop_up (body := ζ2o k (R (T k))) ps.length
  (fun j e H' => Ext H H' ∧ ∃ s out fl, e = [(0, lv encB b), (1, .int .i64 z), (2, .bool each), (9, lv encI ps), (11, .bool fl), (12, s), (13, .int .i64 j)] ∧ Own H H' 5 s encRP out ∧
   out.length ≤ j ∧ ((ok = true ∧ fl = true ∧ mapO (segR b z each) (ps.take j) = some out) ∨ (fl = false ∧ (ok = false ∨ mapO (segR b z each) ps = none))))
  (fun x e H' => x = .exit 0 ∧ Ext H H' ∧ ∃ a s out fl, e = [(0, lv encB b), (1, .int .i64 z), (2, .bool each), (9, lv encI ps), (11, .bool fl), (12, s), (13, a), (32, .bool false)] ∧ Own H H' 5 s encRP out ∧
   out.length ≤ ps.length ∧ ((ok = true ∧ fl = true ∧ mapO (segR b z each) ps = some out) ∨ (fl = false ∧ (ok = false ∨ mapO (segR b z each) ps = none))))
  (e0 := [(0, lv encB b), (1, .int .i64 z), (2, .bool each), (9, lv encI ps), (11, .bool ok), (12, bareV), (13, .int .i64 0)]) (H0 := H)
  ⟨Ext.refl H, bareV, [], ok, rfl, Own.bare _ _ _, by simp, by cases ok; exact .inr ⟨rfl, .inl rfl⟩; exact .inl ⟨rfl, rfl, rfl⟩⟩ (by omega)
  (fun j e H' hj ⟨hx, s, out, fl, he, ho, hol, hq⟩ => by
   subst he;have hlt : (j : Int) < ps.length := by omega
   rcases hq with ⟨hok, rfl, hm⟩ | ⟨rfl, hn⟩
   rotate_left
   ·refine .inr ⟨.exit 0, _, H', ?_, by simp, rfl, hx, .int .i64 j, s, out, false, rfl, ho, by omega, .inr ⟨rfl, hn⟩⟩;rw [ζ36];simp -implicitDefEqProofs (disch := omega) [hlt]
   ·obtain ⟨p, hp⟩ : ∃ p, ps[j]? = some p := ⟨_, List.getElem?_eq_getElem hj⟩
    have hpb := hps p (List.mem_of_getElem? hp);have i1 := fun H' => ixS_lvN encI_len ps .i64 j p hp H';have u0 := fun H' => hU p H';have u2 := fun H' => hU (p + 2) H';have u4 := fun H' => hU (p + 4) H';have g0 := gU_two hb p;have g2 := gU_two hb (p + 2);have g4 := gU_two hb (p + 4);obtain ⟨f, hf⟩ : ∃ f, gU b (p + 2) 2 = f := ⟨_, rfl⟩
    obtain ⟨l, hll⟩ : ∃ l, gU b p 2 = l := ⟨_, rfl⟩
    obtain ⟨q, hqq⟩ : ∃ q, gU b (p + 4) 2 = q := ⟨_, rfl⟩
    rw [hf] at g2;rw [hll] at g0;rw [hqq] at g4;have u0 : ∀ H', R (T k) F.ζ1 [lv encB b, .int .i64 p, .int .i64 2] H' = .ok (.int .i64 l) H' := fun H' => by rw [u0]; unfold gU at hll; rw [hll]
    have u2 : ∀ H', R (T k) F.ζ1 [lv encB b, .int .i64 (p + 2), .int .i64 2] H' = .ok (.int .i64 f) H' := fun H' => by rw [u2]; unfold gU at hf; rw [hf]
    have u4 : ∀ H', R (T k) F.ζ1 [lv encB b, .int .i64 (p + 4), .int .i64 2] H' = .ok (.int .i64 q) H' := fun H' => by rw [u4]; unfold gU at hqq; rw [hqq]
    have hE : segE b z each p = if each then ⟨f, l, q, z, z⟩ else ⟨f, l, p + 4, z, 0⟩ := by unfold segE; rw [hf, hll, hqq]
    have hB : segB b z each p = if each then rowsB b.length q (l - f + 1) z else true := by unfold segB; rw [hf, hll, hqq]
    have hx1 : Ext H' (H'.push ⟨encRP (segE b z each p), 1, false⟩) := (Ext.refl H').push _;obtain ⟨s2, H2, e2, o2, x2⟩ := ap1_own (bytes := 40) ζ6r (ho.up hx1) (hx.trans hx1) (segE b z each p) (by omega) (by decide);refine .inl ⟨_, H2, ?_, x2, s2, out ++ [segE b z each p], segB b z each p, rfl, o2, by simp; omega, ?_⟩
    ·rw [ζ36];rw [hE] at e2;rw [hB];cases each with
     | false =>
      simp only [Bool.false_eq_true, if_false, hn_push, encRP] at e2 ⊢;simp -implicitDefEqProofs (disch := omega) [hlt, i1, u0, u2, ζ8j, e2]
     | true =>
      simp only [if_true, hn_push, encRP] at e2 ⊢;simp -implicitDefEqProofs (disch := omega) [hlt, i1, u0, u2, u4, hRows, ζ8i, e2]
    ·cases hsb : segB b z each p with
     | true =>
      refine .inl ⟨hok, rfl, ?_⟩;rw [ζmd hp, hm, segR_eq, hsb];rfl
     | false =>
      refine .inr ⟨rfl, .inr (ζk2 (j := j + 1) ?_)⟩;rw [ζmd hp, hm, segR_eq, hsb];rfl)
  (fun e H' ⟨hx, s, out, fl, he, ho, hol, hq⟩ => by
   subst he;refine ⟨.exit 0, _, H', ?_, by simp, rfl, hx, .int .i64 ps.length, s, out, fl, rfl, ho, hol, by rw [List.take_length] at hq; exact hq⟩;rw [ζ36];simp -implicitDefEqProofs)
 obtain ⟨L, hf⟩ := ho.freeze ζ6r (ζcy _) 5;have hall : ζ2 k (R (T k)) (lv encB b) (.int .i64 z) (.bool each) H = .ok (.tuple #[s, .bool fl]) H1 := by
  cases each with
  | false =>
   simp only [Bool.false_eq_true, if_false] at hneed;subst hneed;have hr5' := hr5;rw [hrow] at hr5';rcases hz with rfl | rfl <;> simp only [show (4 : Int) + 2 = 6 from rfl, show (4 : Int) + 4 = 8 from rfl] at hr5' <;> simp -implicitDefEqProofs (disch := omega) [ζ2, ζ8h, hr5', hr, ζ46]
  | true =>
   simp only [if_true] at hneed;subst hneed;have hr5' := hr5;rw [hrow] at hr5';rcases hz with rfl | rfl <;> simp -implicitDefEqProofs (disch := omega) [ζ2, ζ8g, hr5', hr, ζ46]
 refine ⟨.tuple #[lv encRP out, .bool fl], ?_, ?_⟩
 ·rw [ζdb];exact nrm_fz hall (fz_tuple (l := [s, .bool fl]) (ζ14 hf (mapF_one (L := []) rfl))) hx (ζ76 _ _).alive
 ·rcases hq with ⟨hol, ⟨rfl, rfl, hm⟩ | ⟨rfl, hn⟩⟩
  ·exact ⟨out, by simp [hm], fun x h => (by simp [hm] at h; exact h), by omega⟩
  ·have : (if ok = true then mapO (segR b z each) ps else none) = none := by
    rcases hn with rfl | hn
    ·rfl
    ·rw [hn]; split <;> rfl
   rw [this];exact ⟨out, rfl, fun x h => (by cases h), by omega⟩
end Go.Sw
end
section
namespace Go.Sw
open Go.RowKit
theorem refNo {H : Heap} {r : Res Value} (h : r = .ok (.tuple #[.slice none 0 0, .bool false]) H) : nrm .fz H r = .ok (.tuple #[lv encRP [], .bool false]) H :=
 nrm_fz (L := []) h rfl (Ext.refl H) (ζ76 [] false).alive
theorem PartsAre.no : PartsAre none (.tuple #[lv encRP [], .bool false]) := ⟨[], rfl, fun x h => (by cases h), by simp⟩
theorem ζle (k : Nat) (b : List Int) (hb : Byt b) (i z : Int) (hz : z = 1 ∨ z = 2 ∨ z = 4) (hi : 0 ≤ i ∧ i ≤ 4) (hl : b.length < 2 ^ 31) (H : Heap) :
  ∃ v, R (T k) F.ζo [lv encB b, .int .i64 i, .int .i64 z] H = .ok v H ∧ PartsAre (refTrimS b i z) v := by
 have hU := fun j H' => refU_run k (H := H') (Sl.lv H' 1 b) hb j 2 (by omega) (by omega);have hR := fun n H' => ζ88 k b.length (i + 4) n z (by omega) (by omega) H';rw [ζei];unfold refTrimS;cases h1 : uS b i 2 with
 | none =>
  refine ⟨_, refNo ?_, .no⟩;have u1 := fun H' => hU i H';rw [h1] at u1;have g2 := gU_two hb (i + 2);unfold gU at g2;simp -implicitDefEqProofs (disch := omega) [ζo, u1, hU]
 | some f =>
  have u1 := fun H' => hU i H';rw [h1] at u1;have hf := uS_two hb h1;have hf' : ¬ f < 0 := by omega
  cases h2 : uS b (i + 2) 2 with
  | none =>
   refine ⟨_, refNo ?_, .no⟩;have u2 := fun H' => hU (i + 2) H';rw [h2] at u2;simp -implicitDefEqProofs (disch := omega) [ζo, u1, u2, hf']
  | some n =>
   have u2 := fun H' => hU (i + 2) H';rw [h2] at u2;have hn := uS_two hb h2;have hn' : ¬ n < 0 := by omega
   simp only [Option.bind_some, Option.getD_some] at u1 u2 ⊢;by_cases h3 : f + n ≤ 65536
   ·have h3' : ¬ f + n > 65536 := by omega
    cases h4 : rowsB b.length (i + 4) n z with
    | false =>
     rw [if_neg (by simp)];refine ⟨_, refNo ?_, .no⟩;have hR4 := hR n;rw [h4] at hR4;simp -implicitDefEqProofs (disch := omega) [ζo, u1, u2, hf', hn', h3', hR4]
    | true =>
     rw [if_pos ⟨h3, rfl⟩];have hR4 := hR n;rw [h4] at hR4;by_cases h0 : n = 0
     ·subst h0;rw [if_pos rfl];have h3'' : ¬ 65536 < f := by omega
      refine ⟨.tuple #[lv encRP [], .bool true], nrm_fz (v := .tuple #[bareV, .bool true]) (H' := H) (L := []) ?_ rfl (Ext.refl H) (ζ76 [] true).alive, [], rfl, fun x h => (by injection h), by simp⟩;simp -implicitDefEqProofs (disch := omega) [ζo, u1, u2, hf', h3'', hR4]
     ·rw [if_neg h0];have h0' : (n == 0) = false := by simpa using h0
      obtain ⟨r, hr⟩ : ∃ r : RP, r = ⟨f, f + n - 1, i + 4, z, z⟩ := ⟨_, rfl⟩
      rw [← hr];have ho : Own H (H.push ⟨encRP r, 5, false⟩) 5 (.slice (some ⟨H.n, 0, none⟩) 1 1) encRP [r] := .inr ⟨H.n, rfl, by omega, ζb _ _ _ rfl⟩;obtain ⟨L, hfz⟩ := ho.freeze ζ6r (ζcy _) 5;refine ⟨.tuple #[lv encRP [r], .bool true], nrm_fz (v := .tuple #[.slice (some ⟨H.n, 0, none⟩) 1 1, .bool true]) (H' := H.push ⟨encRP r, 5, false⟩) ?_ (fz_tuple (l := [.slice (some ⟨H.n, 0, none⟩) 1 1, .bool true]) (ζ14 hfz (mapF_one (L := []) rfl))) ((Ext.refl H).push _) (ζ76 [r] true).alive, [r], rfl, fun x h => (by injection h), by simp⟩;subst hr;simp -implicitDefEqProofs (disch := omega) [ζo, u1, u2, hf', hn', h3', hR4, h0']
   ·rw [if_neg (fun h => h3 h.1)];have h3' : f + n > 65536 := by omega
    refine ⟨_, refNo ?_, .no⟩;simp -implicitDefEqProofs (disch := omega) [ζo, u1, u2, hf', hn', h3']
theorem PartsAre.val {o : Option (List RP)} {v : Value} (h : PartsAre o v) : ∃ l ok, v = .tuple #[lv encRP l, .bool ok] ∧ o = (if ok then some l else none) ∧ l.length ≤ 65536 := by
 obtain ⟨l, rfl, h1, h2⟩ := h;cases o with
 | none => exact ⟨l, false, rfl, rfl, h2⟩
 | some x => exact ⟨l, true, rfl, by simp [h1 x rfl], h2⟩
theorem PartsAre.pass {o : Option (List RP)} {l : List RP} {ok : Bool} (h : o = (if ok then some l else none)) (hl : l.length ≤ 65536) : PartsAre o (.tuple #[lv encRP l, .bool ok]) := by
 subst h;cases ok with
 | true => exact ⟨l, rfl, fun x h => (by injection h), hl⟩
 | false => exact ⟨l, rfl, fun x h => (by cases h), hl⟩
theorem ζgu {H : Heap} {r : Res Value} {l : List RP} {ok : Bool} (h : r = .ok (.tuple #[lv encRP l, .bool ok]) H) : nrm .fz H r = .ok (.tuple #[lv encRP l, .bool ok]) H :=
 nrm_fz (L := []) h rfl (Ext.refl H) (ζ76 l ok).alive
theorem ζnf (k : Nat) (b : List Int) (hb : Byt b) (g z : Int) (hg : 1 ≤ g ∧ g ≤ 65535) (hz : z = 2 ∨ z = 4) (hl : b.length < 2 ^ 31) (H : Heap) :
  ∃ v, R (T k) F.ζe [lv encB b, .int .i64 g, .int .i64 z] H = .ok v H ∧ PartsAre (refPartsS b g z (gU b 0 2)) v := by
 have hU := fun j H' => refU_run k (H := H') (Sl.lv H' 1 b) hb j 2 (by omega) (by omega);have hR := fun H' => ζ88 k b.length 2 g z (by omega) (by omega) H';rw [ζfq];have hu0 : ∀ H', R (T k) F.ζ1 [lv encB b, .int .i64 0, .int .i64 2] H' = .ok (.int .i64 (gU b 0 2)) H' := fun H' => hU 0 H';have hu2 : ∀ H', R (T k) F.ζ1 [lv encB b, .int .i64 2, .int .i64 2] H' = .ok (.int .i64 (gU b 2 2)) H' := fun H' => hU 2 H';generalize gU b 0 2 = fmt at hu0 ⊢;unfold refPartsS;by_cases h0 : fmt = 0
 ·subst h0;rw [if_pos rfl];obtain ⟨r, hr⟩ : ∃ r : RP, r = ⟨0, g - 1, 2, z, z⟩ := ⟨_, rfl⟩
  rw [← hr];have ho : Own H (H.push ⟨encRP r, 5, false⟩) 5 (.slice (some ⟨H.n, 0, none⟩) 1 1) encRP [r] := .inr ⟨H.n, rfl, by omega, ζb _ _ _ rfl⟩;obtain ⟨L, hfz⟩ := ho.freeze ζ6r (ζcy _) 5;refine ⟨.tuple #[lv encRP [r], .bool (rowsB b.length 2 g z)], nrm_fz (v := .tuple #[.slice (some ⟨H.n, 0, none⟩) 1 1, .bool (rowsB b.length 2 g z)]) (H' := H.push ⟨encRP r, 5, false⟩) ?_ (fz_tuple (l := [.slice (some ⟨H.n, 0, none⟩) 1 1, .bool (rowsB b.length 2 g z)]) (ζ14 hfz (mapF_one (L := []) rfl))) ((Ext.refl H).push _) (ζ76 [r] _).alive, .pass rfl (by simp)⟩;subst hr;simp -implicitDefEqProofs (disch := omega) [ζe, hu0, hR]
 rw [if_neg h0];have h0' : (fmt == 0) = false := by simpa using h0
 by_cases h2 : fmt = 2
 ·subst h2;rw [if_pos rfl];obtain ⟨v, e, hp⟩ := ζl9 k b hb z hz false hl H;obtain ⟨l, ok, rfl, ho, hll⟩ := hp.val;refine ⟨_, ζgu (l := l) (ok := ok) ?_, .pass ho hll⟩;simp -implicitDefEqProofs (disch := omega) [ζe, hu0, e]
 rw [if_neg h2];have h2' : (fmt == 2) = false := by simpa using h2
 by_cases h4 : fmt = 4
 ·subst h4;rw [if_pos rfl];obtain ⟨v, e, hp⟩ := ζl9 k b hb z hz true hl H;obtain ⟨l, ok, rfl, ho, hll⟩ := hp.val;refine ⟨_, ζgu (l := l) (ok := ok) ?_, .pass ho hll⟩;simp -implicitDefEqProofs (disch := omega) [ζe, hu0, e]
 rw [if_neg h4];have h4' : (fmt == 4) = false := by simpa using h4
 by_cases h6 : fmt = 6
 ·subst h6;rw [if_pos rfl];have hr5 := fun H' => ζl5 k b hb 2 (2 + z) 1 hl (by omega) (by omega) (by omega) (by omega) H'
  obtain ⟨ps, ok, zz, hrow, hps, hpl, hok⟩ : ∃ (ps : List Int) (ok : Bool) (zz : Int), rowsO b 2 (2 + z) 1 = .tuple #[lv encI ps, .int .i64 zz, .bool ok] ∧ (∀ p, p ∈ ps → 0 ≤ p ∧ p < 2 ^ 34) ∧
    ps.length < 65536 ∧ refOneS b z = (if ok then some (ps.map (oneR b z)) else none) := by
   unfold rowsO refOneS;cases ht : takeS b 2 (2 + z) 1 with
   | none => exact ⟨[], false, 0, rfl, (fun p h => by cases h), by simp, rfl⟩
   | some rows =>
    obtain ⟨s, n, h1, h2, h3, h4, h5, h6⟩ := ζfa ht;have hs := uS_two hb h1;have hn := uS_two hb h2;rw [gU_some h1];refine ⟨posS 2 s rows.length, true, s, rfl, fun p hp => ?_, by simp; omega, by rw [Option.map_some]; rfl⟩;obtain ⟨j, hj⟩ := List.getElem?_of_mem hp;have hjl := (List.getElem?_eq_some_iff.1 hj).1;rw [posS_len] at hjl;rw [posS_get _ _ _ _ hjl] at hj;injection hj with hj;have h7 := Int.mul_nonneg hs.1 (show (0 : Int) ≤ (j : Int) by omega);have h8 : s * (j : Int) ≤ 65536 * 65536 := Int.mul_le_mul (by omega) (by omega) (by omega) (by omega);omega
  rw [hrow] at hr5;rw [hok]
  obtain ⟨x, e', H1, hr, rfl, hx, a, s, rfl, ho⟩ := loop_up (body := ζ4y k (R (T k))) ps.length
   (fun j e H' => Ext H H' ∧ ∃ s, e = [(0, lv encB b), (2, .int .i64 z), (8, lv encI ps), (10, .bool ok), (11, s), (12, .int .i64 j)] ∧ Own H H' 5 s encRP ((ps.take j).map (oneR b z)))
   (fun x e H' => x = .exit 1 ∧ Ext H H' ∧ ∃ a s, e = [(0, lv encB b), (2, .int .i64 z), (8, lv encI ps), (10, .bool ok), (11, s), (12, a), (58, .bool false)] ∧ Own H H' 5 s encRP (ps.map (oneR b z)))
   (e0 := [(0, lv encB b), (2, .int .i64 z), (8, lv encI ps), (10, .bool ok), (11, bareV), (12, .int .i64 0)]) (H0 := H) ⟨Ext.refl H, _, rfl, Own.bare _ _ _⟩ (by omega)
   (fun j e H' hj ⟨hx, s, he, ho⟩ => by
    subst he;have hlt : (j : Int) < ps.length := by omega
    obtain ⟨p, hp⟩ : ∃ p, ps[j]? = some p := ⟨_, List.getElem?_eq_getElem hj⟩
    have hpb := hps p (List.mem_of_getElem? hp);have i1 := fun H' => ixS_lvN encI_len ps .i64 j p hp H';have u0 : ∀ H', R (T k) F.ζ1 [lv encB b, .int .i64 p, .int .i64 2] H' = .ok (.int .i64 (gU b p 2)) H' := fun H' => hU p H';obtain ⟨s2, H2, e2, o2, x2⟩ := ap1_own (bytes := 40) ζ6r ho hx (oneR b z p) (by simp; omega) (by decide);refine .inl ⟨_, H2, ?_, x2, s2, rfl, by rw [ζ2p hp, List.map_append]; exact o2⟩;rw [ζ5z];unfold encRP oneR at e2;simp -implicitDefEqProofs (disch := omega) [hlt, i1, u0, e2])
   (fun e H' ⟨hx, s, he, ho⟩ => by
    subst he;refine ⟨.exit 1, _, H', ?_, by simp, rfl, hx, .int .i64 ps.length, s, rfl, by rw [List.take_length] at ho; exact ho⟩;rw [ζ5z];simp -implicitDefEqProofs)
  obtain ⟨L, hf⟩ := ho.freeze ζ6r (ζcy _) 5;refine ⟨.tuple #[lv encRP (ps.map (oneR b z)), .bool ok], nrm_fz (v := .tuple #[s, .bool ok]) (H' := H1) ?_ (fz_tuple (l := [s, .bool ok]) (ζ14 hf (mapF_one (L := []) rfl))) hx (ζ76 _ _).alive, .pass rfl (by simp; omega)⟩;rcases hz with rfl | rfl <;> simp -implicitDefEqProofs (disch := omega) at hr5 <;> simp -implicitDefEqProofs (disch := omega) [ζe, hu0, hr5, hr, ζ9p]
 rw [if_neg h6];have h6' : (fmt == 6) = false := by simpa using h6
 by_cases h8 : fmt = 8
 ·subst h8;rw [if_pos rfl];obtain ⟨v, e, hp⟩ := ζle k b hb 2 z (by omega) (by omega) hl H;obtain ⟨l, ok, rfl, ho, hll⟩ := hp.val;refine ⟨_, ζgu (l := l) (ok := ok) ?_, .pass ho hll⟩;simp -implicitDefEqProofs (disch := omega) [ζe, hu0, e]
 rw [if_neg h8];have h8' : (fmt == 8) = false := by simpa using h8
 by_cases h10 : fmt = 10
 ·subst h10;rw [if_pos rfl];have hno : ¬ (gU b 2 2 = 1 ∨ gU b 2 2 = 2 ∨ gU b 2 2 = 4) → ζe k (R (T k)) (lv encB b) (.int .i64 g) (.int .i64 z) H = .ok (.tuple #[.slice none 0 0, .bool false]) H := fun hu => by
   have u1 : (gU b 2 2 == 1) = false := by simpa using fun h => hu (.inl h)
   have u2 : (gU b 2 2 == 2) = false := by simpa using fun h => hu (.inr (.inl h))
   have u4 : (gU b 2 2 == 4) = false := by simpa using fun h => hu (.inr (.inr h))
   simp -implicitDefEqProofs (disch := omega) [ζe, hu0, hu2, bne, u1, u2, u4]
  cases h : uS b 2 2 with
  | none =>
   have hg2 : gU b 2 2 = -1 := by unfold gU; rw [h]; rfl
   exact ⟨_, refNo (hno (by rw [hg2]; decide)), .no⟩
  | some u =>
   have hg2 := gU_some h;rw [hg2] at hu2 hno;simp only [Option.bind_some];by_cases hu : u = 1 ∨ u = 2 ∨ u = 4
   ·rw [if_pos hu];obtain ⟨v, e, hp⟩ := ζle k b hb 4 u hu (by omega) hl H;obtain ⟨l, ok, rfl, ho, hll⟩ := hp.val;refine ⟨_, ζgu (l := l) (ok := ok) ?_, .pass ho hll⟩;rcases hu with rfl | rfl | rfl <;> simp -implicitDefEqProofs (disch := omega) [ζe, hu0, hu2, bne, e]
   ·rw [if_neg hu];exact ⟨_, refNo (hno hu), .no⟩
 rw [if_neg h10];have h10' : (fmt == 10) = false := by simpa using h10
 refine ⟨_, refNo ?_, .no⟩;simp -implicitDefEqProofs (disch := omega) [ζe, hu0, h0', h2', h4', h6', h8', h10']
end Go.Sw
end
section
namespace Go.Sw
open Go.RowKit
theorem ζki (r : RP) : ∀ a : List RP, goodR (a ++ [r]) = (goodR a && decide (r.first ≤ r.last) && match a.getLast? with | some q => decide (q.last < r.first) | none => true)
 | [] => by simp [goodR]
 | [x] => by
  simp only [List.singleton_append, goodR, List.getLast?_singleton];cases decide (x.first ≤ x.last) <;> cases decide (x.last < r.first) <;> cases decide (r.first ≤ r.last) <;> rfl
 | x :: y :: t => by
  have ih := ζki r (y :: t);simp only [List.cons_append] at ih ⊢;simp only [goodR, ih, List.getLast?_cons_cons];simp only [Bool.and_assoc]
abbrev tabRV (b : List Int) (rs : List RP) : Value := .agg #[lv encB b, lv encRP rs]
def tabRO (b : List Int) (o : Option (List RP)) : Value := match o with | some rs => tabRV b rs | none => tabRV [] []
theorem Flat.tabRV (b : List Int) (rs : List RP) : Flat (tabRV b rs) := .aggL (.cons (Flat.B _) (.cons (Flat.RPs _) .nil))
theorem ζow (b : List Int) (o : Option (List RP)) : Flat (tabRO b o) := by
 unfold tabRO;split
 ·exact Flat.tabRV _ _
 ·exact Flat.tabRV _ _
theorem ζol (k : Nat) (b : List Int) (hb : Byt b) (g z : Int) (hg : 1 ≤ g ∧ g ≤ 65535) (hz : z = 2 ∨ z = 4) (hl : b.length < 2 ^ 31) (H : Heap) :
  R (T k) F.ζs [lv encB b, .int .i64 g, .int .i64 z] H = .ok (.tuple #[tabRO b (refReadS b g z), .bool (refReadS b g z).isSome]) H := by
 have hx0 : Ext H (H.push ⟨[.slice none 0 0, .slice none 0 0], 1, false⟩) := (Ext.refl H).push _;obtain ⟨v, e, hp⟩ := ζnf k b hb g z hg hz hl (H.push ⟨[.slice none 0 0, .slice none 0 0], 1, false⟩);obtain ⟨l, ok, rfl, ho, hll⟩ := hp.val;rw [ζgd]
 obtain ⟨x, e', H1, hr, rfl, rfl, rfl⟩ := loop_up (body := ζ5j k (R (T k))) l.length
  (fun j e H' => H' = H.push ⟨[.slice none 0 0, .slice none 0 0], 1, false⟩ ∧ e = [(0, lv encB b), (6, .pointer (some ⟨H.n, 0, none⟩)), (8, lv encRP l), (9, .bool (ok && goodR (l.take j))), (10, .int .i64 j)])
  (fun x e H' => H' = H.push ⟨[.slice none 0 0, .slice none 0 0], 1, false⟩ ∧ x = .exit 0 ∧ e = [(0, lv encB b), (6, .pointer (some ⟨H.n, 0, none⟩)), (8, lv encRP l), (9, .bool (ok && goodR l)), (10, .int .i64 l.length), (21, .bool false)])
  (e0 := [(0, lv encB b), (6, .pointer (some ⟨H.n, 0, none⟩)), (8, lv encRP l), (9, .bool ok), (10, .int .i64 0)]) (H0 := H.push ⟨[.slice none 0 0, .slice none 0 0], 1, false⟩) ⟨rfl, by simp [goodR]⟩ (by omega)
  (fun j e H' hj ⟨hH, he⟩ => by
   subst he hH;have hlt : (j : Int) < l.length := by omega
   obtain ⟨r, hr⟩ : ∃ r, l[j]? = some r := ⟨_, List.getElem?_eq_getElem hj⟩
   have i1 := fun H' => ixS_lvN ζ6r l .i64 j r hr H';refine .inl ⟨_, _, ?_, rfl, rfl⟩;rw [ζ6p, ζ2p hr, ζki];by_cases h1 : r.last < r.first
   ·have h1' : ¬ r.first ≤ r.last := by omega
    simp -implicitDefEqProofs (disch := omega) [hlt, i1, h1, h1', ζ6n]
   ·have h1' : r.first ≤ r.last := by omega
    cases j with
    | zero =>
     simp -implicitDefEqProofs (disch := omega) at i1 hlt;simp -implicitDefEqProofs (disch := omega) [hlt, i1, h1, h1', ζ6o, goodR]
    | succ j =>
     obtain ⟨q, hq⟩ : ∃ q, l[j]? = some q := ⟨_, List.getElem?_eq_getElem (by omega)⟩
     have i2 := fun H' => ixS_lvN ζ6r l .i64 j q hq H';have hlast : (l.take (j + 1)).getLast? = some q := by rw [ζ2p hq]; simp
     rw [hlast];have hj0 : (0 : Int) < (j : Int) + 1 := by omega
     simp -implicitDefEqProofs (disch := omega) at i1 hlt;by_cases h2 : r.first ≤ q.last
     ·have h2' : ¬ q.last < r.first := by omega
      simp -implicitDefEqProofs (disch := omega) [hlt, i1, i2, h1, h1', h2, h2', hj0, ζ6n]
     ·have h2' : q.last < r.first := by omega
      simp -implicitDefEqProofs (disch := omega) [hlt, i1, i2, h1, h1', h2, h2', hj0, ζ6o])
  (fun e H' ⟨hH, he⟩ => by
   subst he hH;refine ⟨.exit 0, _, _, ?_, by simp, rfl, rfl, rfl⟩;rw [ζ6p, List.take_length];simp -implicitDefEqProofs)
 have hread : refReadS b g z = if (ok && goodR l) = true then some l else none := by
  unfold refReadS;rw [ho];cases ok <;> simp
 rw [hread];cases hgood : (ok && goodR l) with
 | false =>
  rw [hgood] at hr;refine nrm_fz (v := .tuple #[.agg #[.slice none 0 0, .slice none 0 0], .bool false]) (L := []) (H' := H.push ⟨[.slice none 0 0, .slice none 0 0], 1, false⟩) ?_ rfl hx0 (Flat.tupleL (.cons (ζow b none) (.cons (.bool _) .nil))).alive;simp -implicitDefEqProofs [ζs, e, hr, ζ5y]
 | true =>
  rw [hgood] at hr;refine nrm_fz (v := .tuple #[tabRV b l, .bool true]) (L := []) (H' := H.push ⟨[lv encB b, lv encRP l], 1, false⟩) ?_ rfl ((Ext.refl H).push _) (Flat.tupleL (.cons (Flat.tabRV b l) (.cons (.bool _) .nil))).alive;simp -implicitDefEqProofs [ζs, e, hr, ζ5y]
def RP.ok (r : RP) : Prop := -1 ≤ r.first ∧ r.first ≤ 65536 ∧ -1 ≤ r.last ∧ r.last ≤ 65536 ∧ -1 ≤ r.pos ∧ r.pos < 2 ^ 35 ∧ 0 ≤ r.step ∧ r.step ≤ 4 ∧ 0 ≤ r.size ∧ r.size ≤ 4
theorem ζky {b : List Int} (hb : Byt b) {i need : Int} {keys : Nat} {rows : List (List Int)} (h : takeS b i need keys = some rows) (hi : 0 ≤ i ∧ i ≤ 65536) : ∀ p, p ∈ posS i (gU b i 2) rows.length → 0 ≤ p ∧ p < 2 ^ 34 := by
 obtain ⟨s, n, h1, h2, h3, h4, h5, h6⟩ := ζfa h;have hs := uS_two hb h1;have hn := uS_two hb h2;rw [gU_some h1];intro p hp;obtain ⟨j, hj⟩ := List.getElem?_of_mem hp;have hjl := (List.getElem?_eq_some_iff.1 hj).1;rw [posS_len] at hjl;rw [posS_get _ _ _ _ hjl] at hj;injection hj with hj;have h7 := Int.mul_nonneg hs.1 (show (0 : Int) ≤ (j : Int) by omega);have h8 : s * (j : Int) ≤ 65536 * 65536 := Int.mul_le_mul (by omega) (by omega) (by omega) (by omega);omega
theorem ζl2 {b : List Int} (hb : Byt b) {i z : Int} (hi : 0 ≤ i ∧ i ≤ 4) (hz : z = 1 ∨ z = 2 ∨ z = 4) {rs : List RP} (h : refTrimS b i z = some rs) : ∀ r, r ∈ rs → r.ok := by
 unfold refTrimS at h;obtain ⟨f, hf, h⟩ := Option.bind_eq_some_iff.1 h;obtain ⟨n, hn, h⟩ := Option.bind_eq_some_iff.1 h;have hf := uS_two hb hf;have hn := uS_two hb hn;split at h
 ·rename_i hc;injection h with h;subst h;intro r hr;split at hr
  ·cases hr
  ·rw [List.mem_singleton] at hr;subst hr;refine ⟨?_, ?_, ?_, ?_, ?_, ?_, ?_, ?_, ?_, ?_⟩ <;> dsimp only <;> omega
 ·cases h
theorem ζni {b : List Int} (hb : Byt b) {g z fmt : Int} (hg : 1 ≤ g ∧ g ≤ 65535) (hz : z = 2 ∨ z = 4) {rs : List RP} (h : refPartsS b g z fmt = some rs) : ∀ r, r ∈ rs → r.ok := by
 have seg : ∀ each rs, refSegS b z each = some rs → ∀ r, r ∈ rs → r.ok := fun each rs h => by
  unfold refSegS at h;obtain ⟨rows, h1, h2⟩ := Option.bind_eq_some_iff.1 h;refine mapO_all h2 fun p r hp hr => ?_;have hpb := ζky hb h1 (by omega) p hp;have g0 := gU_two hb p;have g2 := gU_two hb (p + 2);have g4 := gU_two hb (p + 4);unfold segR at hr;split at hr
  ·split at hr
   ·injection hr with hr;subst hr;refine ⟨?_, ?_, ?_, ?_, ?_, ?_, ?_, ?_, ?_, ?_⟩ <;> dsimp only <;> omega
   ·cases hr
  ·injection hr with hr;subst hr;refine ⟨?_, ?_, ?_, ?_, ?_, ?_, ?_, ?_, ?_, ?_⟩ <;> dsimp only <;> omega
 unfold refPartsS at h;split at h
 ·split at h
  ·injection h with h;subst h;intro r hr;rw [List.mem_singleton] at hr;subst hr;refine ⟨?_, ?_, ?_, ?_, ?_, ?_, ?_, ?_, ?_, ?_⟩ <;> dsimp only <;> omega
  ·cases h
 split at h
 ·exact seg _ _ h
 split at h
 ·exact seg _ _ h
 split at h
 ·unfold refOneS at h;obtain ⟨rows, h1, rfl⟩ := Option.map_eq_some_iff.1 h;intro r hr;obtain ⟨p, hp, rfl⟩ := List.mem_map.1 hr;have hpb := ζky hb h1 (by omega) p hp;have g0 := gU_two hb p;unfold oneR;refine ⟨?_, ?_, ?_, ?_, ?_, ?_, ?_, ?_, ?_, ?_⟩ <;> dsimp only <;> omega
 split at h
 ·exact ζl2 hb (by omega) (by omega) h
 split at h
 ·obtain ⟨u, _, h⟩ := Option.bind_eq_some_iff.1 h;split at h
  ·rename_i hu;exact ζl2 hb (by omega) hu h
  ·cases h
 ·cases h
theorem ζon {b : List Int} (hb : Byt b) {g z : Int} (hg : 1 ≤ g ∧ g ≤ 65535) (hz : z = 2 ∨ z = 4) {rs : List RP} (h : refReadS b g z = some rs) : ∀ r, r ∈ rs → r.ok := by
 unfold refReadS at h;obtain ⟨qs, h1, h⟩ := Option.bind_eq_some_iff.1 h;split at h
 ·injection h with h;subst h;exact ζni hb hg hz h1
 ·cases h
theorem ζnj {b : List Int} {g z : Int} {rs : List RP} (hb : Byt b) (hg : 1 ≤ g ∧ g ≤ 65535) (hz : z = 2 ∨ z = 4) {x : Int × List Pt} (hx : lookS b g z = some x) (h : refReadS b g z = some rs) : rs.length < 2 ^ 31 := by
 obtain ⟨rs', h1, h2⟩ := (look_ref hb hg.1 hg.2 hz).1 x hx;rw [h] at h1;injection h1 with h1;subst h1;have : ∀ (ps : List Pt) (rs : List RP), Rel b ps rs → rs.length = ps.length := by
  intro ps
  induction ps with
  | nil => intro rs h; cases rs with | nil => rfl | cons _ _ => cases h
  | cons p ps ih => intro rs h; cases rs with | nil => cases h | cons r rs => simp [ih rs h.2]
 rw [this _ _ h2];exact ζm8 hb hx
theorem ζpp (k : Nat) (b : List Int) (hb : Byt b) (rs : List RP) (hok : ∀ r, r ∈ rs → r.ok) (hrl : rs.length < 2 ^ 31) (hl : b.length < 2 ^ 31) (id : Int) (H : Heap) :
  R (T k) F.ζ22 [tabRV b rs, .int .i64 id] H = .ok (.tuple #[.int .i64 ((refGetS b rs id).getD 0), .bool (refGetS b rs id).isSome]) H := by
 rw [ζi8];obtain ⟨B, hB⟩ : ∃ B : Blk, B = ⟨[lv encB b, lv encRP rs], 1, false⟩ := ⟨_, rfl⟩
 have hx0 : Ext H (H.push B) := (Ext.refl H).push _
 obtain ⟨x, e', H1, hr, hx, hq⟩ := loop_up (body := ζ6a k (R (T k))) rs.length
  (fun j e H' => e = [(1, .int .i64 id), (2, .pointer (some ⟨H.n, 0, none⟩)), (6, .int .i64 j)] ∧ Ext (H.push B) H' ∧ refGetS b rs id = refGetS b (rs.drop j) id)
  (fun x e H' => Ext H H' ∧ ((x = .ret ∧ ∃ n, e = [(4, .int .i64 n), (5, .bool true)] ∧ refGetS b rs id = some n) ∨ (x = .exit 0 ∧ (∃ a c, e = [(1, .int .i64 id), (2, .pointer (some ⟨H.n, 0, none⟩)), (6, a), (12, c)]) ∧ refGetS b rs id = none)))
  (e0 := [(1, .int .i64 id), (2, .pointer (some ⟨H.n, 0, none⟩)), (6, .int .i64 0)]) (H0 := H.push B) ⟨rfl, Ext.refl _, rfl⟩ (by omega)
  (fun j e H' hj ⟨he, hx, hg⟩ => by
   subst he;have hlt : (j : Int) < rs.length := by omega
   obtain ⟨r, hr⟩ : ∃ r, rs[j]? = some r := ⟨_, List.getElem?_eq_getElem hj⟩
   have hrok := hok r (List.mem_of_getElem? hr);obtain ⟨o1, o2, o3, o4, o5, o6, o7, o8, o9, o10⟩ := hrok;have i1 := fun H' => ixS_lvN ζ6r rs .i64 j r hr H';have hget : H'.get H.n = some ⟨[lv encB b, lv encRP rs], 1, false⟩ := hx.get (by rw [ζb _ _ _ rfl, hB]);have hne : ¬ H.n = H'.n := by have := Heap.get_lt hget; omega
   have hx2 : Ext H' (H'.push ⟨encRP r, 1, false⟩) := (Ext.refl H').push _;have hdrop : rs.drop j = r :: rs.drop (j + 1) := by
    obtain ⟨h1, h2⟩ := List.getElem?_eq_some_iff.1 hr;rw [List.drop_eq_getElem_cons h1, h2]
   rw [hdrop] at hg;unfold refGetS at hg;rw [List.find?_cons] at hg;by_cases h1 : r.first ≤ id
   ·by_cases h2 : id ≤ r.last
    ·rw [decide_eq_true (show r.first ≤ id ∧ id ≤ r.last from ⟨h1, h2⟩)] at hg;dsimp only at hg;have hm0 : 0 ≤ (id - r.first) * r.step := Int.mul_nonneg (by omega) o7;have hm1 : (id - r.first) * r.step ≤ 65540 * 4 := Int.mul_le_mul (by omega) (by omega) (by omega) (by omega);have hu := fun H' => refU_run k (H := H') (Sl.lv H' 1 b) hb (r.pos + (id - r.first) * r.step) r.size (by omega) (by omega);refine .inr ⟨.ret, _, H'.push ⟨encRP r, 1, false⟩, ?_, by simp, hx0.trans (hx.trans hx2), .inl ⟨rfl, gU b (r.pos + (id - r.first) * r.step) r.size, rfl, hg⟩⟩;rw [ζ3d];unfold gU;simp -implicitDefEqProofs (disch := omega) [hlt, i1, hget, hne, h1, h2, hu]
    ·rw [decide_eq_false (fun h => h2 h.2)] at hg;refine .inl ⟨_, H'.push ⟨encRP r, 1, false⟩, ?_, rfl, hx.trans hx2, hg⟩;rw [ζ3d];simp -implicitDefEqProofs (disch := omega) [hlt, i1, hget, hne, h1, h2]
   ·rw [decide_eq_false (fun h => h1 h.1)] at hg;refine .inl ⟨_, H'.push ⟨encRP r, 1, false⟩, ?_, rfl, hx.trans hx2, hg⟩;rw [ζ3d];simp -implicitDefEqProofs (disch := omega) [hlt, i1, hget, hne, h1])
  (fun e H' ⟨he, hx, hg⟩ => by
   subst he;have hget : H'.get H.n = some ⟨[lv encB b, lv encRP rs], 1, false⟩ := hx.get (by rw [ζb _ _ _ rfl, hB]);refine ⟨.exit 0, _, H', ?_, by simp, hx0.trans hx, .inr ⟨rfl, ⟨.int .i64 rs.length, .bool false, rfl⟩, by rw [hg, List.drop_length]; rfl⟩⟩;rw [ζ3d];simp -implicitDefEqProofs [hget])
 rw [hB] at hr;rcases hq with ⟨rfl, n, rfl, hg⟩ | ⟨rfl, ⟨a, c, rfl⟩, hg⟩
 ·rw [hg];refine nrm_gc ⟨H1, ?_, hx⟩ (Flat.tupleL (.cons (.int _ _) (.cons (.bool _) .nil))).alive;simp -implicitDefEqProofs [ζ22, hr, ζeh]
 ·rw [hg];refine nrm_gc ⟨H1, ?_, hx⟩ (Flat.tupleL (.cons (.int _ _) (.cons (.bool _) .nil))).alive;simp -implicitDefEqProofs [ζ22, hr, ζda]
end Go.Sw
end
section
namespace Go.Sw
open Go.RowKit
theorem ζ2t {b rv : List Int} {j : Int} : restS b j = some rv ↔ (0 ≤ j ∧ j ≤ b.length) ∧ rv = b.drop j.toNat := by
 unfold restS;split
 ·rename_i h;exact ⟨fun e => by injection e with e; exact ⟨h, e.symm⟩, fun e => by rw [e.2]⟩
 ·rename_i h;exact ⟨fun e => (by cases e), fun e => absurd e.1 h⟩
theorem ζ95 {b rv : List Int} {j : Int} (h : restS b j = some rv) : (rv.length : Int) = b.length - j := by
 obtain ⟨h1, rfl⟩ := ζ2t.1 h;simp;omega
theorem uS_rest {b rv : List Int} {j : Int} (h : restS b j = some rv) {x : Int} (hx : 0 ≤ x) (z : Int) : uS rv x z = uS b (j + x) z := by
 have hl := ζ95 h;obtain ⟨h1, rfl⟩ := ζ2t.1 h;unfold uS pieceS;by_cases hc : 0 ≤ z ∧ x ≤ b.length - j ∧ z ≤ b.length - j - x
 ·rw [if_pos (by omega), if_pos (by omega), List.drop_drop, show j.toNat + x.toNat = (j + x).toNat by omega]
 ·rw [if_neg (by omega), if_neg (by omega)]
def needsS (b : List Int) (i step : Int) (n : Nat) : Int := needL ((List.range n).map fun j => gU b (i + (j : Nat) * step) 2)
theorem rowK_iff {rv : List Int} {n : Int} (hn : 0 < n) {k : Nat} : (rowK rv n k).isSome = true ↔ 2 * n * (k + 1) ≤ rv.length := by
 unfold rowK;rw [ζ90 (by omega), ζd2 (by omega)];have h0 : 0 ≤ 2 * n * (k : Int) := Int.mul_nonneg (by omega) (by omega);have h1 : 2 * n * ((k : Int) + 1) = 2 * n * k + 2 * n := by rw [Int.mul_add]; omega
 constructor
 ·rintro ⟨_, _, _, h⟩; omega
 ·intro h; exact ⟨h0, by omega, by omega, by omega⟩
theorem row_at {b rv : List Int} {j : Int} (h : restS b j = some rv) {n : Int} {k : Nat} {r : List Int} (hn : 0 < n) (hr : rowK rv n k = some r) : r = (List.range n.toNat).map fun i => gU b (j + (n * k + (i : Nat)) * 2) 2 := by
 have hs := (rowK_iff (rv := rv) (k := k) hn).1 (by rw [hr]; rfl);have hr' := hr;unfold rowK listS at hr';obtain ⟨q, hq, hqr⟩ := Option.map_eq_some_iff.1 hr';have hlen : r.length = n.toNat := by rw [← hqr]; simp
 have hk0 : 0 ≤ n * (k : Int) := Int.mul_nonneg (by omega) (by omega);apply List.ext_getElem?;intro i;by_cases hi : i < n.toNat
 ·rw [ζm7 (by omega) hr i (by omega), List.getElem?_map, List.getElem?_range hi, uS_rest h (by rw [Int.mul_assoc]; omega)];have e : j + (2 * n * (k : Int) + (i : Int) * 2) = j + (n * k + (i : Nat)) * 2 := by rw [Int.mul_assoc, Int.add_mul]; omega
  rw [e];have hlen := ζ95 h;have hj := (ζ2t.1 h).1;have h1 : 2 * n * ((k : Int) + 1) = 2 * (n * k) + 2 * n := by rw [Int.mul_add, Int.mul_assoc]; omega
  obtain ⟨x, hx⟩ : ∃ x, uS b (j + (n * k + (i : Nat)) * 2) 2 = some x := uS_of_in (by unfold inS; exact decide_eq_true (by rw [Int.add_mul]; omega));rw [hx, Option.map_some, gU_some hx]
 ·rw [List.getElem?_eq_none (by omega), List.getElem?_eq_none (by simp; omega)]
theorem ζhx {b rv : List Int} {j : Int} (h : restS b j = some rv) {n : Int} (hn : 0 < n) : ∀ {s : Nat} {rs : List (List Int)}, rowsTo rv n s = some rs → rs.flatten = (List.range (s * n.toNat)).map fun (i : Nat) => gU b (j + (i : Int) * 2) 2
 | 0, rs, hr => by injection hr with hr; subst hr; simp
 | s + 1, rs, hr => by
  unfold rowsTo at hr;rw [ζ87] at hr;obtain ⟨rs', h1, hr⟩ := Option.bind_eq_some_iff.1 hr;obtain ⟨r, h2, rfl⟩ := Option.map_eq_some_iff.1 hr;rw [List.flatten_append, ζhx h hn h1, Nat.succ_mul, List.range_add, List.map_append];congr 1;simp only [List.flatten_cons, List.flatten_nil, List.append_nil, row_at h hn h2, List.map_map];apply List.map_congr_left;intro i _;simp only [Function.comp];congr 2;have : ((s * n.toNat + i : Nat) : Int) = n * s + i := by
   obtain ⟨m, rfl⟩ := Int.eq_ofNat_of_zero_le (Int.le_of_lt hn);simp [Int.mul_comm]
  rw [this]
theorem ζop {b rv : List Int} {j : Int} (h : restS b j = some rv) {n : Int} (hn : 0 < n) {s : Nat} {rs : List (List Int)} (hr : rowsTo rv n s = some rs) : needsS b j 2 (s * n.toNat) = needR rs := by
 unfold needsS needR;rw [ζhx h hn hr]
theorem ζoq {b rv : List Int} {j : Int} (h : restS b j = some rv) {n : Int} (hn : 0 < n) {s : Nat} (hs : 0 < s) : (rowsTo rv n s).isSome = rowsB b.length j s (2 * n) := by
 have hl := ζ95 h;have hj := (ζ2t.1 h).1;rw [Bool.eq_iff_iff, ζd2 (by omega)];have e : (s : Int) * (2 * n) = 2 * n * s := Int.mul_comm _ _;constructor
 ·intro hsome;obtain ⟨rs, hrs⟩ := Option.isSome_iff_exists.1 hsome;obtain ⟨y, hy, _⟩ := mapO_at hrs (i := s - 1) (by omega);have := (rowK_iff (rv := rv) (k := s - 1) hn).1 (by rw [hy]; rfl);rw [show (((s - 1 : Nat) : Int) + 1) = s by omega] at this;exact ⟨hj.1, by omega, hj.2, by omega⟩
 ·rintro ⟨_, _, _, h4⟩;obtain ⟨r, hr⟩ := ζ9x (f := rowK rv n) (n := s) fun i hi => by
   rw [rowK_iff hn];have : 2 * n * ((i : Int) + 1) ≤ 2 * n * s := Int.mul_le_mul_of_nonneg_left (by omega) (by omega);omega
  exact Option.isSome_iff_exists.2 ⟨r, hr⟩
theorem entK_iff {ev : List Int} {w : Int} (hw : 0 ≤ w) {k : Nat} : (entK ev w k).isSome = true ↔ (4 + 2 * w) * (k + 1) ≤ ev.length := by
 unfold entK;rw [Option.isSome_map, ζgq];unfold inS;rw [decide_eq_true_eq];have h0 : 0 ≤ (4 + 2 * w) * (k : Int) := Int.mul_nonneg (by omega) (by omega);have h1 : (4 + 2 * w) * ((k : Int) + 1) = (4 + 2 * w) * k + (4 + 2 * w) := by rw [Int.mul_add]; omega
 omega
theorem ζo5 {b ev : List Int} {q : Int} (h : restS b q = some ev) {w : Int} (hw : 0 ≤ w) (s : Nat) : (entsTo ev w s).isSome = rowsB b.length q s (4 + 2 * w) := by
 have hl := ζ95 h;have hj := (ζ2t.1 h).1;rw [Bool.eq_iff_iff, ζd2 (by omega)];have e : (s : Int) * (4 + 2 * w) = (4 + 2 * w) * s := Int.mul_comm _ _;constructor
 ·intro hsome;obtain ⟨rs, hrs⟩ := Option.isSome_iff_exists.1 hsome;refine ⟨hj.1, by omega, hj.2, ?_⟩;by_cases h0 : s = 0
  ·subst h0; simp; omega
  ·obtain ⟨y, hy, _⟩ := mapO_at hrs (i := s - 1) (by omega);have := (entK_iff (ev := ev) (k := s - 1) hw).1 (by rw [hy]; rfl);rw [show (((s - 1 : Nat) : Int) + 1) = s by omega] at this;omega
 ·rintro ⟨_, _, _, h4⟩;obtain ⟨r, hr⟩ := ζ9x (f := entK ev w) (n := s) fun i hi => by
   rw [entK_iff hw];have : (4 + 2 * w) * ((i : Int) + 1) ≤ (4 + 2 * w) * s := Int.mul_le_mul_of_nonneg_left (by omega) (by omega);omega
  exact Option.isSome_iff_exists.2 ⟨r, hr⟩
theorem ent_at {b ev : List Int} {q : Int} (h : restS b q = some ev) {w : Int} (hw : 0 ≤ w ∧ w ≤ 2) {k : Nat} {e : En} (he : entK ev w k = some e) :
  e = ⟨gU b (q + (k : Int) * (4 + 2 * w)) 2, gU b (q + (k : Int) * (4 + 2 * w) + 2) 2, if 0 < w then gU b (q + (k : Int) * (4 + 2 * w) + 4) 2 else 0, if 1 < w then gU b (q + (k : Int) * (4 + 2 * w) + 6) 2 else 0⟩ := by
 unfold entK at he;obtain ⟨r, hr, rfl⟩ := Option.map_eq_some_iff.1 he;have h0 : 0 ≤ (4 + 2 * w) * (k : Int) := Int.mul_nonneg (by omega) (by omega);have sub : ∀ x, 0 ≤ x → x + 2 ≤ 4 + 2 * w → gU r x 2 = gU b (q + (k : Int) * (4 + 2 * w) + x) 2 := fun x hx hx2 => by
  unfold gU;rw [uS_sub hr hx (by omega) hx2, uS_rest h (by omega), Int.mul_comm (k : Int), Int.add_assoc]
 have s0 := sub 0 (by omega) (by omega);rw [Int.add_zero] at s0;unfold entOf;rw [s0, sub 2 (by omega) (by omega)];congr 1
 ·by_cases h1 : 0 < w
  ·rw [if_pos h1, if_pos h1, sub 4 (by omega) (by omega)]
  ·rw [if_neg h1, if_neg h1]
 ·by_cases h1 : 1 < w
  ·rw [if_pos h1, if_pos h1, sub 6 (by omega) (by omega)]
  ·rw [if_neg h1, if_neg h1]
theorem ζo4 {b ev : List Int} {q : Int} (h : restS b q = some ev) {w : Int} (hw : 0 ≤ w ∧ w ≤ 2) {s : Nat} {es : List En} (hr : entsTo ev w s = some es) : needsS b q (4 + 2 * w) s = needL (es.map En.next) := by
 unfold needsS;congr 1;apply List.ext_getElem?;intro i;have hl := mapO_len hr;rw [List.length_range] at hl;by_cases hi : i < s
 ·obtain ⟨y, h1, h2⟩ := mapO_at hr hi;rw [List.getElem?_map, List.getElem?_map, List.getElem?_range hi, h2, Option.map_some, Option.map_some, ent_at h hw h1]
 ·rw [List.getElem?_eq_none (by simp; omega), List.getElem?_eq_none (by simp; omega)]
theorem ζog {rv : List Int} {n : Int} {s t : Nat} (hst : s ≤ t) {rs rt : List (List Int)} (h1 : rowsTo rv n s = some rs) (h2 : rowsTo rv n t = some rt) : needR rs ≤ needR rt := by
 have h3 := ζfl hst h2;have h4 : mapO (rowK rv n) (List.range s) = some rs := h1;rw [h4] at h3;injection h3 with h3;rw [h3];have := List.take_append_drop s rt;conv => rhs; rw [← this]
 unfold needR;rw [List.flatten_append, ζ5d];omega
structure RMach where
 b : List Int
 cl : Int
 rowsAt : Int
 entsAt : Int
 states : Int
 n : Int
 words : Int
 tb : List Int
 parts : List RP
def rmOf (b : List Int) (g w : Int) (m : Mach) : RMach :=
 ⟨b, m.classes, gU b 8 4, gU b 12 4, m.rows.length, m.ents.length, w, b.drop (gU b 4 4).toNat, (refReadS (b.drop (gU b 4 4).toNat) g 2).getD []⟩
def refMachS (b : List Int) (g w : Int) : Option RMach := (machS b g w).map (rmOf b g w)
theorem ζfj {b : List Int} {g w : Int} {m : Mach} (h : machS b g w = some m) : ∃ i j q tb rv ev x, uS b 0 4 = some m.classes ∧ 4 ≤ m.classes ∧ m.classes ≤ 65535 ∧ uS b 4 4 = some i ∧ restS b i = some tb ∧ lookS tb g 2 = some m.tab ∧
  uS b 8 4 = some j ∧ restS b j = some rv ∧ uS b 12 4 = some q ∧ restS b q = some ev ∧ closeA rv ev m.classes w 2 = some x ∧ m.rows = x.1 ∧ m.ents = x.2 := by
 unfold machS at h;obtain ⟨n, h0, h⟩ := Option.bind_eq_some_iff.1 h;split at h;rotate_left
 ·cases h
 rename_i hn;obtain ⟨i, h1, h⟩ := Option.bind_eq_some_iff.1 h;obtain ⟨tb, h2, h⟩ := Option.bind_eq_some_iff.1 h;obtain ⟨tab, h3, h⟩ := Option.bind_eq_some_iff.1 h;obtain ⟨j, h4, h⟩ := Option.bind_eq_some_iff.1 h;obtain ⟨rv, h5, h⟩ := Option.bind_eq_some_iff.1 h;obtain ⟨k, h6, h⟩ := Option.bind_eq_some_iff.1 h;obtain ⟨ev, h7, h⟩ := Option.bind_eq_some_iff.1 h;obtain ⟨x, h8, rfl⟩ := Option.map_eq_some_iff.1 h;exact ⟨i, j, k, tb, rv, ev, x, h0, hn.1, hn.2, h1, h2, h3, h4, h5, h6, h7, h8, rfl, rfl⟩
end Go.Sw
end
section
namespace Go.Sw
open Go.RowKit
end Go.Sw
end
section
namespace Go.Sw
open Go.RowKit
end Go.Sw
end
section
namespace Go.Sw
open Go.RowKit
end Go.Sw
end
