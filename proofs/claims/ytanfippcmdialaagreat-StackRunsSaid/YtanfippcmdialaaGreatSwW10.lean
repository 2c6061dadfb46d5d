/-
  Functions' forms, and what is proved of them, part 10.
-/
import Derived.Test.YtanfippcmdialaaGreatSwCfg
import Derived.Test.YtanfippcmdialaaGreatSwW9
import Derived.Test.YtanfippcmdialaaGreatSwW8
import Derived.Test.YtanfippcmdialaaGreatSwW1
set_option linter.unusedSimpArgs false
set_option linter.unusedVariables false
set_option linter.unusedSectionVars false
section
set_option maxRecDepth 100000
set_option linter.unusedVariables false
namespace Go.Sw
noncomputable section
def ζ5t (k:Nat) (call:Caller) (a0 a1:Value) (h:Heap):Res Value :=
 (boxR a1 h).bind fun v1 h2 =>
 (allocR Prog 36 h2).bind fun v3 h4 =>
 (loadR Prog 3 v1 h4).bind fun v5 h6 =>
 (binR Prog .lss 3 v5 (.int .i64 1) h6).bind fun v7 h8 =>
 ((bif wantVal v7 false then loadR Prog 3 v1 h8 else Res.ok undef h8)).bind fun v9 h10 =>
 ((bif wantVal v7 false then binR Prog .gtr 3 v9 (.int .i64 65535) h10 else Res.ok undef h10)).bind fun v11 h12 =>
 (condV (some v7) (Res.ok (.bool true) h12) (Res.ok v11 h12)).bind fun v13 h14 =>
 condV (some v13) (
 (storeR Prog 36 v3 (.pointer none) h14).bind fun _v15 h16 =>
 (loadR Prog 36 v3 h16).bind fun v17 h18 =>
 .ok (.tuple #[v17,(.int .i64 1)]) h18)
 (
 (call F.view_Of [a0] h14).bind fun v19 h20 =>
 (call F.ζ46 [v19] h20).bind fun v21 h22 =>
 (call F.view_Of [v21] h22).bind fun v23 h24 =>
 (allocR Prog 113 h24).bind fun v25 h26 =>
 (storeR Prog 113 v25 v23 h26).bind fun _v27 h28 =>
 (call F.view_Try [(.func (.func F.ζ2t) #[] #[v25,v1,v3])] h28).bind fun v29 h30 =>
 (unR .not v29 h30).bind fun v31 h32 =>
 condV (some v31) (
 (storeR Prog 36 v3 (.pointer none) h32).bind fun _v33 h34 =>
 (loadR Prog 36 v3 h34).bind fun v35 h36 =>
 .ok (.tuple #[v35,(.int .i64 2)]) h36)
 (
 (loadR Prog 36 v3 h32).bind fun v37 h38 =>
 (storeR Prog 36 v3 v37 h38).bind fun _v39 h40 =>
 (loadR Prog 36 v3 h40).bind fun v41 h42 =>
 .ok (.tuple #[v41,(.int .i64 0)]) h42))
theorem ζob (k:Nat) (a0 a1:Value) (h:Heap):R (T k) F.ζ5t [a0,a1] h = nrm .fz h (ζ5t k (R (T k)) a0 a1 h) :=
 (R_body (t:=T k) (T_scott k) (by kernel_rfl) (by kernel_rfl) _ _).trans (by kernel_rfl)
def ζ45 (k:Nat) (call:Caller) (a0 a1 a2 a3:Value) (h:Heap):Res Value :=
 (boxR a0 h).bind fun v1 h2 =>
 (boxR a1 h2).bind fun v3 h4 =>
 (boxR a2 h4).bind fun v5 h6 =>
 (boxR a3 h6).bind fun v7 h8 =>
 (allocR Prog 156 h8).bind fun v9 h10 =>
 (loadR Prog 36 v1 h10).bindN fun v11 h12 =>
 (nilR v11 h12).bindN fun v13 h14 =>
 (fieldAddrR Prog 161 v13 0 h14).bindN fun v15 h16 =>
 (loadR Prog 159 v15 h16).bindN fun v17 h18 =>
 (loadR Prog 52 v3 h18).bindN fun v19 h20 =>
 (call F.ζ6g [(.func (.func F.ζa) #[] #[v9,v3,v1,v5,v7])] h20).bindT (fun p23 h24 => .panic p23 h24) fun v21 h22 =>
 (call F.ζ5o [v17,v19,v21] h22).bindT (fun p27 h28 => chkR ((okVal (loadR Prog 36 v1 h22) v11 && true) && ((okVal (loadR Prog 159 v15 h22) v17 && true) && ((okVal (loadR Prog 52 v3 h22) v19 && true) && true))) (.panic p27 h28)) fun v25 h26 =>
 (extractR v25 0 h26).bindN fun v29 h30 =>
 (extractR v25 1 h30).bindN fun v31 h32 =>
 chkR ((okVal (loadR Prog 36 v1 h22) v11 && true) && ((okVal (loadR Prog 159 v15 h22) v17 && true) && ((okVal (loadR Prog 52 v3 h22) v19 && true) && true))) (
 .ok v31 h32)
theorem ζi9 (k:Nat) (a0 a1 a2 a3:Value) (h:Heap):R (T k) F.ζ45 [a0,a1,a2,a3] h = nrm .no h (ζ45 k (R (T k)) a0 a1 a2 a3 h) :=
 (R_body (t:=T k) (T_scott k) (by kernel_rfl) (by kernel_rfl) _ _).trans (by kernel_rfl)
def ζ2t (k:Nat) (call:Caller) (a0 a1 a2:Value) (h:Heap):Res Value :=
 (loadR Prog 113 a0 h).bind fun v1 h2 =>
 (loadR Prog 3 a1 h2).bind fun v3 h4 =>
 (call F.ζ3a [v1,v3] h4).bind fun v5 h6 =>
 (storeR Prog 36 a2 v5 h6).bind fun _v7 h8 =>
 .ok (.tuple #[]) h8
theorem ζka (k:Nat) (a0 a1 a2:Value) (h:Heap):R (T k) F.ζ2t [a0,a1,a2] h = nrm .no h (ζ2t k (R (T k)) a0 a1 a2 h) :=
 (R_body (t:=T k) (T_scott k) (by kernel_rfl) (by kernel_rfl) _ _).trans (by kernel_rfl)
def ζ6w (k:Nat) (call:Caller):Env → Heap → Res (AExit × Env):=loopB (C k) call F.ζ3a [1,1,0,1,0,0]
def ζeb (k:Nat) (call:Caller):Kont Value:=kBlock 0 (kSeq (pieceK (C k) call F.ζ3a [1,1,1]) (kDone Prog (resOf Prog F.ζ3a)))
def ζ5j (k:Nat) (call:Caller):Env → Heap → Res (AExit × Env):=loopB (C k) call F.ζ3a [1,1,0,1,0,0,1,1,0,0,1,1,0,0]
def ζec (k:Nat) (call:Caller):Kont (AExit × Env):=kBlock 2 (kBlock 1 (kSeq (pieceK (C k) call F.ζ3a [1,1,0,1,0,0,1,1,1]) (kRound (ownOf (C k) F.ζ3a [1,1,0,1,0,0]))))
def ζ3a (k:Nat) (call:Caller) (a0 a1:Value) (h:Heap):Res Value :=
 (boxR a0 h).bind fun v1 h2 =>
 (loadR Prog 113 v1 h2).bindN fun v3 h4 =>
 (call F.ζ3b [v3,a1,(.int .i64 1)] h4).bindT (fun p7 h8 => (loadR Prog 113 v1 h4).bindN fun v9 h10 => (loadR Prog 113 v1 h10).bindN fun v11 h12 => chkR ((okVal (loadR Prog 113 v1 h2) v9 && true) && ((okVal (loadR Prog 113 v1 h2) v11 && true) && true)) (.panic p7 h8)) fun v5 h6 =>
 (loadR Prog 113 v1 h6).bindN fun v13 h14 =>
 (loadR Prog 113 v1 h14).bindN fun v15 h16 =>
 (call F.ζ25 [v15,(.int .i64 16)] h16).bindT (fun p19 h20 => chkR ((okVal (loadR Prog 113 v1 h2) v13 && true) && ((okVal (loadR Prog 113 v1 h2) v15 && true) && true)) (.panic p19 h20)) fun v17 h18 =>
 (call F.ζ21 [v13,v17] h18).bindT (fun p23 h24 => chkR ((okVal (loadR Prog 113 v1 h2) v13 && (okVal (loadR Prog 113 v1 h18) v13 && true)) && ((okVal (loadR Prog 113 v1 h2) v15 && true) && true)) (.panic p23 h24)) fun v21 h22 =>
 (buildR Prog 161 [(0,v5),(1,v21)] h22).bindN fun v25 h26 =>
 (boxR v25 h26).bindN fun v27 h28 =>
 chkR ((okVal (loadR Prog 113 v1 h2) v13 && (okVal (loadR Prog 113 v1 h18) v13 && true)) && ((okVal (loadR Prog 113 v1 h2) v15 && true) && true)) (
 (nilR v27 h28).bind fun v29 h30 =>
 (fieldAddrR Prog 161 v29 0 h30).bind fun v31 h32 =>
 (loadR Prog 159 v31 h32).bind fun v33 h34 =>
 (call F.ζ22 [v33] h34).bind fun v35 h36 =>
 (builtinV Prog .len [24] [v35] h36).bind fun v37 h38 =>
 (loopN (ζ6w k call) loopFuel [(5,v27),(22,v35),(23,v37),(24,(.int .i64 0))] h38).bind fun r39 h40 =>
 ζeb k call r39.1 r39.2 h40)
theorem ζoc (k:Nat) (a0 a1:Value) (h:Heap):R (T k) F.ζ3a [a0,a1] h = nrm .fz h (ζ3a k (R (T k)) a0 a1 h) :=
 (R_body (t:=T k) (T_scott k) (by kernel_rfl) (by kernel_rfl) _ _).trans (by kernel_rfl)
theorem ζ8b (k:Nat) (call:Caller) (a5 a22 a23 a24:Value) (h:Heap):ζ6w k call [(5,a5),(22,a22),(23,a23),(24,a24)] h =
 (binR Prog .lss 3 a24 a23 h).bind fun v41 h42 =>
 condV (some v41) (
 (indexAddrR Prog 24 a22 a24 h42).bind fun v43 h44 =>
 (loadR Prog 129 v43 h44).bind fun v45 h46 =>
 (allocR Prog 129 h46).bind fun v47 h48 =>
 (storeR Prog 129 v47 v45 h48).bind fun _v49 h50 =>
 (fieldAddrR Prog 129 v47 2 h50).bind fun v51 h52 =>
 (loadR Prog 3 v51 h52).bind fun v53 h54 =>
 (loopN (ζ5j k call) loopFuel [(5,a5),(7,v47),(8,v53),(22,a22),(23,a23),(24,a24)] h54).bind fun r55 h56 =>
 ζec k call r55.1 r55.2 h56)
 (
 .ok ((.exit 0),[(5,a5),(22,a22),(23,a23),(24,a24),(25,v41)]) h42) :=
 (loopB_eq _ _).trans (by kernel_rfl)
theorem ζ4l (k:Nat) (call:Caller) (a5 a7 a8 a22 a23 a24:Value) (h:Heap):ζ5j k call [(5,a5),(7,a7),(8,a8),(22,a22),(23,a23),(24,a24)] h =
 (fieldAddrR Prog 129 a7 2 h).bind fun v57 h58 =>
 (loadR Prog 3 v57 h58).bind fun v59 h60 =>
 (binR Prog .neq 3 v59 (.int .i64 65535) h60).bind fun v61 h62 =>
 ((bif wantVal v61 true then Res.ok a5 h62 else Res.ok undef h62)).bind fun v63 h64 =>
 ((bif wantVal v61 true then nilR v63 h64 else Res.ok undef h64)).bind fun v65 h66 =>
 ((bif wantVal v61 true then fieldAddrR Prog 161 v65 1 h66 else Res.ok undef h66)).bind fun v67 h68 =>
 ((bif wantVal v61 true then loadR Prog 113 v67 h68 else Res.ok undef h68)).bind fun v69 h70 =>
 ((bif wantVal v61 true then Res.ok a8 h70 else Res.ok undef h70)).bind fun v71 h72 =>
 ((bif wantVal v61 true then binR Prog .mul 3 (.int .i64 2) v71 h72 else Res.ok undef h72)).bind fun v73 h74 =>
 ((bif wantVal v61 true then call F.ζd [v69,v73] h74 else Res.ok undef h74)).bind fun v75 h76 =>
 ((bif wantVal v61 true then binR Prog .and 3 v75 (.int .i64 1) h76 else Res.ok undef h76)).bind fun v77 h78 =>
 ((bif wantVal v61 true then binR Prog .eql 3 v77 (.int .i64 0) h78 else Res.ok undef h78)).bind fun v79 h80 =>
 (condV (some v61) (Res.ok v79 h80) (Res.ok (.bool false) h80)).bind fun v81 h82 =>
 condV (some v81) (
 (binR Prog .add 3 a8 (.int .i64 1) h82).bind fun v83 h84 =>
 .ok (.normal,[(5,a5),(7,a7),(8,v83),(22,a22),(23,a23),(24,a24)]) h84)
 (
 .ok ((.exit 2),[(5,a5),(7,a7),(8,a8),(22,a22),(23,a23),(24,a24),(43,v81)]) h82) :=
 (loopB_eq _ _).trans (by kernel_rfl)
theorem ζia (k:Nat) (call:Caller) (a5 a22 a23 a24 a25:Value) (h:Heap):ζeb k call (.exit 0) [(5,a5),(22,a22),(23,a23),(24,a24),(25,a25)] h =
 .ok a5 h:=by kernel_rfl
theorem ζib (k:Nat) (call:Caller) (a5 a7 a8 a22 a23 a24 a43:Value) (h:Heap):ζec k call (.exit 2) [(5,a5),(7,a7),(8,a8),(22,a22),(23,a23),(24,a24),(43,a43)] h =
 (binR Prog .add 3 a24 (.int .i64 1) h).bind fun v85 h86 =>
 .ok (.normal,[(5,a5),(22,a22),(23,a23),(24,v85)]) h86:=by kernel_rfl
def ζ4i (k:Nat) (call:Caller) (a0 a2 a3 a4 a5 a6 a8:Value) (h:Heap):Res Value :=
 kSeq (pieceK (C k) call F.ζa [1,1]) (kDone Prog (resOf Prog F.ζa)) .normal [(0,a0),(2,a2),(3,a3),(4,a4),(5,a5),(6,a6),(8,a8)] h
def ζ4j (k:Nat) (call:Caller) (a0 a2 a3 a4 a5 a6 a8 a12:Value) (h:Heap):Res Value :=
 kSeq (pieceK (C k) call F.ζa [1,1]) (kDone Prog (resOf Prog F.ζa)) .normal [(0,a0),(2,a2),(3,a3),(4,a4),(5,a5),(6,a6),(8,a8),(12,a12)] h
def ζ2h (k:Nat) (call:Caller) (a2 a4 a5 a6 a8:Value) (h:Heap):Res Value :=
 kSeq (pieceK (C k) call F.ζa [1,1,1]) (kDone Prog (resOf Prog F.ζa)) .normal [(2,a2),(4,a4),(5,a5),(6,a6),(8,a8)] h
def ζ2i (k:Nat) (call:Caller) (a0 a2 a4 a5 a6 a8 a23:Value) (h:Heap):Res Value :=
 kSeq (pieceK (C k) call F.ζa [1,1,1]) (kDone Prog (resOf Prog F.ζa)) .normal [(0,a0),(2,a2),(4,a4),(5,a5),(6,a6),(8,a8),(23,a23)] h
def ζa (k:Nat) (call:Caller) (a0 a1 a2 a3 a4 a5 a6:Value) (h:Heap):Res Value :=
 (boxR a1 h).bind fun v1 h2 =>
 (fieldAddrR Prog 129 v1 1 h2).bind fun v3 h4 =>
 (loadR Prog 3 v3 h4).bind fun v5 h6 =>
 (binR Prog .and 3 v5 (.int .i64 8192) h6).bind fun v7 h8 =>
 (binR Prog .neq 3 v7 (.int .i64 0) h8).bind fun v9 h10 =>
 condV (some v9) (
 (buildR Prog 156 [] h10).bind fun v11 h12 =>
 (storeR Prog 156 a2 v11 h12).bind fun _v13 h14 =>
 ζ4i k call a0 a2 a3 a4 a5 a6 v1 h14)
 (
 ζ4j k call a0 a2 a3 a4 a5 a6 v1 v9 h10)
theorem ζ7l (k:Nat) (a0 a1 a2 a3 a4 a5 a6:Value) (h:Heap):R (T k) F.ζa [a0,a1,a2,a3,a4,a5,a6] h = nrm .no h (ζa k (R (T k)) a0 a1 a2 a3 a4 a5 a6 h) :=
 (R_body (t:=T k) (T_scott k) (by kernel_rfl) (by kernel_rfl) _ _).trans (by kernel_rfl)
theorem ζ3s (k:Nat) (call:Caller) (a0 a2 a3 a4 a5 a6 a8:Value) (h:Heap):ζ4i k call a0 a2 a3 a4 a5 a6 a8 h =
 (fieldAddrR Prog 129 a8 1 h).bind fun v15 h16 =>
 (loadR Prog 3 v15 h16).bind fun v17 h18 =>
 (binR Prog .and 3 v17 (.int .i64 32768) h18).bind fun v19 h20 =>
 (binR Prog .neq 3 v19 (.int .i64 0) h20).bind fun v21 h22 =>
 ((bif wantVal v21 true then Res.ok a0 h22 else Res.ok undef h22)).bind fun v23 h24 =>
 ((bif wantVal v21 true then loadR Prog 52 a3 h24 else Res.ok undef h24)).bind fun v25 h26 =>
 ((bif wantVal v21 true then call F.ζ39 [v25] h26 else Res.ok undef h26)).bind fun v27 h28 =>
 ((bif wantVal v21 true then binR Prog .lss 3 v23 v27 h28 else Res.ok undef h28)).bind fun v29 h30 =>
 (condV (some v21) (Res.ok v29 h30) (Res.ok (.bool false) h30)).bind fun v31 h32 =>
 condV (some v31) (
 (call F.ζ1k [a2,a0] h32).bind fun v33 h34 =>
 ζ2h k call a2 a4 a5 a6 a8 h34)
 (
 ζ2i k call a0 a2 a4 a5 a6 a8 v31 h32):=by kernel_rfl
theorem ζ3t (k:Nat) (call:Caller) (a0 a2 a3 a4 a5 a6 a8 a12:Value) (h:Heap):ζ4j k call a0 a2 a3 a4 a5 a6 a8 a12 h =
 (fieldAddrR Prog 129 a8 1 h).bind fun v35 h36 =>
 (loadR Prog 3 v35 h36).bind fun v37 h38 =>
 (binR Prog .and 3 v37 (.int .i64 32768) h38).bind fun v39 h40 =>
 (binR Prog .neq 3 v39 (.int .i64 0) h40).bind fun v41 h42 =>
 ((bif wantVal v41 true then Res.ok a0 h42 else Res.ok undef h42)).bind fun v43 h44 =>
 ((bif wantVal v41 true then loadR Prog 52 a3 h44 else Res.ok undef h44)).bind fun v45 h46 =>
 ((bif wantVal v41 true then call F.ζ39 [v45] h46 else Res.ok undef h46)).bind fun v47 h48 =>
 ((bif wantVal v41 true then binR Prog .lss 3 v43 v47 h48 else Res.ok undef h48)).bind fun v49 h50 =>
 (condV (some v41) (Res.ok v49 h50) (Res.ok (.bool false) h50)).bind fun v51 h52 =>
 condV (some v51) (
 (call F.ζ1k [a2,a0] h52).bind fun v53 h54 =>
 ζ2h k call a2 a4 a5 a6 a8 h54)
 (
 ζ2i k call a0 a2 a4 a5 a6 a8 v51 h52):=by kernel_rfl
theorem ζ5h (k:Nat) (call:Caller) (a2 a4 a5 a6 a8:Value) (h:Heap):ζ2h k call a2 a4 a5 a6 a8 h =
 (fieldAddrR Prog 129 a8 2 h).bind fun v55 h56 =>
 (loadR Prog 3 v55 h56).bind fun v57 h58 =>
 (binR Prog .neq 3 v57 (.int .i64 65535) h58).bind fun v59 h60 =>
 condV (some v59) (
 (loadR Prog 36 a4 h60).bind fun v61 h62 =>
 (loadR Prog 49 a5 h62).bind fun v63 h64 =>
 (fieldAddrR Prog 129 a8 2 h64).bind fun v65 h66 =>
 (loadR Prog 3 v65 h66).bind fun v67 h68 =>
 (loadR Prog 4 a6 h68).bind fun v69 h70 =>
 (call F.ζ16 [v61,a2,v63,v67,v69] h70).bind fun v71 h72 =>
 .ok (.tuple #[]) h72)
 (
 .ok (.tuple #[]) h60):=by kernel_rfl
theorem ζ5i (k:Nat) (call:Caller) (a0 a2 a4 a5 a6 a8 a23:Value) (h:Heap):ζ2i k call a0 a2 a4 a5 a6 a8 a23 h =
 (fieldAddrR Prog 129 a8 2 h).bind fun v73 h74 =>
 (loadR Prog 3 v73 h74).bind fun v75 h76 =>
 (binR Prog .neq 3 v75 (.int .i64 65535) h76).bind fun v77 h78 =>
 condV (some v77) (
 (loadR Prog 36 a4 h78).bind fun v79 h80 =>
 (loadR Prog 49 a5 h80).bind fun v81 h82 =>
 (fieldAddrR Prog 129 a8 2 h82).bind fun v83 h84 =>
 (loadR Prog 3 v83 h84).bind fun v85 h86 =>
 (loadR Prog 4 a6 h86).bind fun v87 h88 =>
 (call F.ζ16 [v79,a2,v81,v85,v87] h88).bind fun v89 h90 =>
 .ok (.tuple #[]) h90)
 (
 .ok (.tuple #[]) h78):=by kernel_rfl
def ζ9p (k:Nat) (call:Caller) (a0 a1:Value) (h:Heap):Res Value :=
 kSeq (pieceK (C k) call F.ζ1k [1]) (kDone Prog (resOf Prog F.ζ1k)) .normal [(0,a0),(1,a1)] h
def ζ9q (k:Nat) (call:Caller) (a0 a1 a8:Value) (h:Heap):Res Value :=
 kSeq (pieceK (C k) call F.ζ1k [1]) (kDone Prog (resOf Prog F.ζ1k)) .normal [(0,a0),(1,a1),(8,a8)] h
def ζ1k (k:Nat) (call:Caller) (a0 a1:Value) (h:Heap):Res Value :=
 (nilR a0 h).bind fun v1 h2 =>
 (fieldAddrR Prog 156 v1 1 h2).bind fun v3 h4 =>
 (loadR Prog 3 v3 h4).bind fun v5 h6 =>
 (binR Prog .eql 3 v5 (.int .i64 8) h6).bind fun v7 h8 =>
 condV (some v7) (
 (nilR a0 h8).bindN fun v9 h10 =>
 (fieldAddrR Prog 156 v9 0 h10).bindN fun v11 h12 =>
 (sliceR Prog 154 v11 none none none h12).bindN fun v13 h14 =>
 (nilR a0 h14).bindN fun v15 h16 =>
 (fieldAddrR Prog 156 v15 0 h16).bindN fun v17 h18 =>
 (sliceR Prog 154 v17 (some (.int .i64 1)) none none h18).bindN fun v19 h20 =>
 (builtinV Prog .copy [30,30] [v13,v19] h20).bindN fun v21 h22 =>
 (nilR a0 h22).bind fun v23 h24 =>
 (fieldAddrR Prog 156 v23 1 h24).bind fun v25 h26 =>
 (loadR Prog 3 v25 h26).bind fun v27 h28 =>
 (binR Prog .sub 3 v27 (.int .i64 1) h28).bind fun v29 h30 =>
 (nilR a0 h30).bind fun v31 h32 =>
 (fieldAddrR Prog 156 v31 1 h32).bind fun v33 h34 =>
 (storeR Prog 3 v33 v29 h34).bind fun _v35 h36 =>
 ζ9p k call a0 a1 h36)
 (
 ζ9q k call a0 a1 v7 h8)
theorem ζic (k:Nat) (a0 a1:Value) (h:Heap):R (T k) F.ζ1k [a0,a1] h = nrm .no h (ζ1k k (R (T k)) a0 a1 h) :=
 (R_body (t:=T k) (T_scott k) (by kernel_rfl) (by kernel_rfl) _ _).trans (by kernel_rfl)
theorem ζcb (k:Nat) (call:Caller) (a0 a1:Value) (h:Heap):ζ9p k call a0 a1 h =
 (nilR a0 h).bindN fun v37 h38 =>
 (fieldAddrR Prog 156 v37 1 h38).bindN fun v39 h40 =>
 (loadR Prog 3 v39 h40).bindN fun v41 h42 =>
 (nilR a0 h42).bindN fun v43 h44 =>
 (fieldAddrR Prog 156 v43 0 h44).bindN fun v45 h46 =>
 (indexAddrR Prog 154 v45 v41 h46).bindN fun v47 h48 =>
 (storeR Prog 3 v47 a1 h48).bindN fun _v49 h50 =>
 (nilR a0 h50).bind fun v51 h52 =>
 (fieldAddrR Prog 156 v51 1 h52).bind fun v53 h54 =>
 (loadR Prog 3 v53 h54).bind fun v55 h56 =>
 (binR Prog .add 3 v55 (.int .i64 1) h56).bind fun v57 h58 =>
 (nilR a0 h58).bind fun v59 h60 =>
 (fieldAddrR Prog 156 v59 1 h60).bind fun v61 h62 =>
 (storeR Prog 3 v61 v57 h62).bind fun _v63 h64 =>
 .ok (.tuple #[]) h64:=by kernel_rfl
theorem ζcc (k:Nat) (call:Caller) (a0 a1 a8:Value) (h:Heap):ζ9q k call a0 a1 a8 h =
 (nilR a0 h).bindN fun v65 h66 =>
 (fieldAddrR Prog 156 v65 1 h66).bindN fun v67 h68 =>
 (loadR Prog 3 v67 h68).bindN fun v69 h70 =>
 (nilR a0 h70).bindN fun v71 h72 =>
 (fieldAddrR Prog 156 v71 0 h72).bindN fun v73 h74 =>
 (indexAddrR Prog 154 v73 v69 h74).bindN fun v75 h76 =>
 (storeR Prog 3 v75 a1 h76).bindN fun _v77 h78 =>
 (nilR a0 h78).bind fun v79 h80 =>
 (fieldAddrR Prog 156 v79 1 h80).bind fun v81 h82 =>
 (loadR Prog 3 v81 h82).bind fun v83 h84 =>
 (binR Prog .add 3 v83 (.int .i64 1) h84).bind fun v85 h86 =>
 (nilR a0 h86).bind fun v87 h88 =>
 (fieldAddrR Prog 156 v87 1 h88).bind fun v89 h90 =>
 (storeR Prog 3 v89 v85 h90).bind fun _v91 h92 =>
 .ok (.tuple #[]) h92:=by kernel_rfl
def ζ5u (k:Nat) (call:Caller):Env → Heap → Res (AExit × Env):=loopB (C k) call F.ζ16 [0,0]
def ζ57 (k:Nat) (call:Caller):Kont Value:=kBlock 0 (kDone Prog (resOf Prog F.ζ16))
def ζ48 (k:Nat) (call:Caller) (a0 a1 a2 a3 a4 a12:Value) (h:Heap):Res (AExit × Env) :=
 kSeq (pieceK (C k) call F.ζ16 [0,0,0,0,1,1,1,1]) (kBlock 1 (kSeq (pieceK (C k) call F.ζ16 [0,0,1]) (kRound (ownOf (C k) F.ζ16 [0,0])))) .normal [(0,a0),(1,a1),(2,a2),(3,a3),(4,a4),(12,a12)] h
def ζ16 (k:Nat) (call:Caller) (a0 a1 a2 a3 a4:Value) (h:Heap):Res Value :=
 (loopN (ζ5u k call) loopFuel [(0,a0),(1,a1),(2,a2),(3,a3),(4,a4)] h).bind fun r1 h2 =>
 ζ57 k call r1.1 r1.2 h2
theorem ζf5 (k:Nat) (a0 a1 a2 a3 a4:Value) (h:Heap):R (T k) F.ζ16 [a0,a1,a2,a3,a4] h = nrm .no h (ζ16 k (R (T k)) a0 a1 a2 a3 a4 h) :=
 (R_body (t:=T k) (T_scott k) (by kernel_rfl) (by kernel_rfl) _ _).trans (by kernel_rfl)
theorem ζ4k (k:Nat) (call:Caller) (a0 a1 a2 a3 a4:Value) (h:Heap):ζ5u k call [(0,a0),(1,a1),(2,a2),(3,a3),(4,a4)] h =
 (call F.ζ3x [a1] h).bind fun v3 h4 =>
 (extractR v3 0 h4).bind fun v5 h6 =>
 (extractR v3 1 h6).bind fun v7 h8 =>
 (unR .not v7 h8).bind fun v9 h10 =>
 condV (some v9) (
 .ok (.ret,[(0,a0),(1,a1),(2,a2),(3,a3),(4,a4),(10,v5),(22,v9)]) h10)
 (
 (nilR a0 h10).bind fun v11 h12 =>
 (fieldAddrR Prog 161 v11 1 h12).bind fun v13 h14 =>
 (loadR Prog 113 v13 h14).bind fun v15 h16 =>
 (binR Prog .mul 3 (.int .i64 2) a3 h16).bind fun v17 h18 =>
 (call F.ζ3w [v15,v17] h18).bind fun v19 h20 =>
 (binR Prog .andNot 3 v19 (.int .i64 1) h20).bind fun v21 h22 =>
 (unR .not a4 h22).bind fun v23 h24 =>
 condV (some v23) (
 (call F.ζ1w [a2,v5,v21] h24).bind fun v25 h26 =>
 ζ48 k call a0 a1 a2 a3 a4 v19 h26)
 (
 (binR Prog .eql 3 v21 (.int .i64 (-32768)) h24).bind fun v27 h28 =>
 condV (some v27) (
 (call F.ζ1o [a2,v5] h28).bind fun v29 h30 =>
 ζ48 k call a0 a1 a2 a3 a4 v19 h30)
 (
 (call F.ζ1e [a2,v5,v21] h28).bind fun v31 h32 =>
 ζ48 k call a0 a1 a2 a3 a4 v19 h32))) :=
 (loopB_eq _ _).trans (by kernel_rfl)
theorem ζ1x (k:Nat) (call:Caller) (a0 a1 a2 a3 a4 a12:Value) (h:Heap):ζ48 k call a0 a1 a2 a3 a4 a12 h =
 (binR Prog .and 3 a12 (.int .i64 1) h).bind fun v33 h34 =>
 (binR Prog .eql 3 v33 (.int .i64 1) h34).bind fun v35 h36 =>
 condV (some v35) (
 .ok (.ret,[(0,a0),(1,a1),(2,a2),(3,a3),(4,a4),(51,v35)]) h36)
 (
 (binR Prog .add 3 a3 (.int .i64 1) h36).bind fun v37 h38 =>
 .ok (.normal,[(0,a0),(1,a1),(2,a2),(3,v37),(4,a4)]) h38):=by kernel_rfl
theorem ζbd (k:Nat) (call:Caller) (a0 a1 a2 a3 a4 a10 a22:Value) (h:Heap):ζ57 k call .ret [(0,a0),(1,a1),(2,a2),(3,a3),(4,a4),(10,a10),(22,a22)] h =
 .ok (.tuple #[]) h:=by kernel_rfl
theorem ζal (k:Nat) (call:Caller) (a0 a1 a2 a3 a4 a51:Value) (h:Heap):ζ57 k call .ret [(0,a0),(1,a1),(2,a2),(3,a3),(4,a4),(51,a51)] h =
 .ok (.tuple #[]) h:=by kernel_rfl
def ζ3x (k:Nat) (call:Caller) (a0:Value) (h:Heap):Res Value :=
 (nilR a0 h).bind fun v1 h2 =>
 (fieldAddrR Prog 156 v1 1 h2).bind fun v3 h4 =>
 (loadR Prog 3 v3 h4).bind fun v5 h6 =>
 (binR Prog .eql 3 v5 (.int .i64 0) h6).bind fun v7 h8 =>
 condV (some v7) (
 .ok (.tuple #[(.int .i64 0),(.bool false)]) h8)
 (
 (nilR a0 h8).bind fun v9 h10 =>
 (fieldAddrR Prog 156 v9 1 h10).bind fun v11 h12 =>
 (loadR Prog 3 v11 h12).bind fun v13 h14 =>
 (binR Prog .sub 3 v13 (.int .i64 1) h14).bind fun v15 h16 =>
 (nilR a0 h16).bind fun v17 h18 =>
 (fieldAddrR Prog 156 v17 1 h18).bind fun v19 h20 =>
 (storeR Prog 3 v19 v15 h20).bind fun _v21 h22 =>
 (nilR a0 h22).bindN fun v23 h24 =>
 (fieldAddrR Prog 156 v23 1 h24).bindN fun v25 h26 =>
 (loadR Prog 3 v25 h26).bindN fun v27 h28 =>
 (nilR a0 h28).bindN fun v29 h30 =>
 (fieldAddrR Prog 156 v29 0 h30).bindN fun v31 h32 =>
 (indexAddrR Prog 154 v31 v27 h32).bindN fun v33 h34 =>
 (loadR Prog 3 v33 h34).bindN fun v35 h36 =>
 .ok (.tuple #[v35,(.bool true)]) h36)
theorem ζkb (k:Nat) (a0:Value) (h:Heap):R (T k) F.ζ3x [a0] h = nrm .no h (ζ3x k (R (T k)) a0 h) :=
 (R_body (t:=T k) (T_scott k) (by kernel_rfl) (by kernel_rfl) _ _).trans (by kernel_rfl)
end
end Go.Sw
end
section
namespace Go.Sw
open Go.RowKit
theorem Star.same {H0 H:Heap} {L:List It} (h:Star H0 H L) (i:Nat) {x:It} (hi:L[i]? = some x) (y:It) (hy:y.P H) (ho:∀ b,b ∈ y.o → b ∈ x.o):Star H0 H (L.set i y) :=
 h.step i hi (Nat.le_refl _) (fun _ _ _ => rfl) y hy fun b hb => .inl (ho b hb)
abbrev keptC (xs:List Int) (n:Nat):List Value:=xs.map (fun x => Value.int .i64 x) ++ [.int .i64 n]
def itKept (c:Nat) (ks:List Int):It :=
 ⟨[c],fun H => ∃ xs:List Int,xs.length = 8 ∧ ks.length ≤ 8 ∧ xs.take ks.length = ks.reverse ∧ H.get c = some ⟨keptC xs ks.length,1,false⟩,fun _ _ h hk => by
  obtain ⟨xs,h1,h2,h3,h4⟩:=h;exact ⟨xs,h1,h2,h3,by rw [hk c (List.mem_singleton.2 rfl)]; exact h4⟩⟩
theorem ldCell {H:Heap} {c i:Nat} {cells:List Value} {v:Value} (hg:H.get c = some ⟨cells,1,false⟩) (h:cells[i]? = some v):ld1 (.pointer (some ⟨c,i,none⟩)) H = .ok v H:=by
 simp [hg,h]
theorem keptC_at {xs:List Int} (h:xs.length = 8) (n:Nat):(keptC xs n)[8]? = some (.int .i64 n):=by
 unfold keptC;rw [List.getElem?_append_right (by simp; omega)];simp [h]
theorem ζt2 {xs:List Int} {n i:Nat} {x:Int} (h:xs[i]? = some x):(keptC xs n)[i]? = some (.int .i64 x):=by
 have hi:=(List.getElem?_eq_some_iff.1 h).1;unfold keptC;rw [List.getElem?_append_left (by simpa using hi),List.getElem?_map,h];rfl
theorem keptC_n {xs:List Int} (h:xs.length = 8) (n m:Nat):(keptC xs n).set 8 (.int .i64 m) = keptC xs m:=by
 unfold keptC;rw [List.set_append_right _ _ (by simp; omega)];simp [h]
theorem ζt3 {xs:List Int} (n i:Nat) (x:Int) (h:i < xs.length):(keptC xs n).set i (.int .i64 x) = keptC (xs.set i x) n:=by
 unfold keptC;rw [List.set_append_left _ _ (by simpa using h),List.map_set]
theorem ζjp (k:Nat) {H0 H:Heap} {L:List It} (g:Star H0 H L) (i:Nat) {c:Nat} {ks:List Int} (hi:L[i]? = some (itKept c ks)) :
  ∃ H',R (T k) F.ζ3x [ptrV c] H = .ok (.tuple #[.int .i64 (ks.head?.getD 0),.bool (!ks.isEmpty)]) H' ∧ Star H0 H' (L.set i (itKept c ks.tail)):=by
 have hlt:=(List.getElem?_eq_some_iff.1 hi).1;obtain ⟨xs,h1,h2,h3,h4⟩:=g.at i hi;rw [ζkb];have l8:=ldCell h4 (keptC_at h1 ks.length);cases ks with
 | nil =>
  refine ⟨H,nrm_of ?_,?_⟩
  ·simp only [List.length_nil] at l8;simp -implicitDefEqProofs (disch:=omega) [-ld1_ptr,ζ3x,l8]
  ·exact g.same i hi _ ⟨xs,h1,h2,h3,h4⟩ fun b hb => hb
 | cons j r =>
  have g1:=g.same i hi (itBlk c ⟨keptC xs (j :: r).length,1,false⟩) h4 fun b hb => hb;have hi1:(L.set i (itBlk c ⟨keptC xs (j :: r).length,1,false⟩))[i]? = some (itBlk c ⟨keptC xs (j :: r).length,1,false⟩):=List.getElem?_set_self hlt;obtain ⟨H',e1,g2,_⟩:=g1.stCell i hi1 8 (v:=.int .i64 (r.length:Nat)) rfl rfl (by simp; omega);rw [List.set_set,keptC_n h1] at g2;have hi2:(L.set i (itBlk c ⟨keptC xs r.length,1,false⟩))[i]? = some (itBlk c ⟨keptC xs r.length,1,false⟩):=List.getElem?_set_self hlt;have b2:=g2.get i hi2;have m8:=ldCell b2 (keptC_at h1 r.length);have hx:xs[r.length]? = some j:=by
   have:=congrArg (fun l => l[r.length]?) h3;simp only [List.length_cons] at this;rw [List.getElem?_take,if_pos (by omega)] at this;rw [this];simp
  have mj:=ldCell b2 (ζt2 (n:=r.length) hx);have g3:=g2.same i hi2 (itKept c r) ⟨xs,h1,by simp at h2; omega,by
   have:=congrArg (List.take r.length) h3;simp only [List.length_cons] at this;rw [List.take_take,Nat.min_eq_left (by omega)] at this;rw [this];simp,b2⟩ fun b hb => hb
  rw [List.set_set] at g3;refine ⟨H',nrm_of ?_,g3⟩;simp only [List.length_cons] at l8;have hr8:r.length < 8:=by simp at h2; omega
  have hix:∀ H',ixA 8 1 (.pointer (some ⟨c,0,none⟩)) (.int .i64 (r.length:Nat)) H' = .ok (.pointer (some ⟨c,r.length,none⟩)) H':=fun H' => by
   unfold ixA;dsimp only;rw [if_pos ⟨by omega,by omega⟩];simp
  have hne:((r.length:Int) + 1 == 0) = false:=by rw [beq_eq_false_iff_ne]; omega
  have hsub:(r.length:Int) + 1 - 1 = ((r.length:Nat):Int):=by omega
  simp -implicitDefEqProofs (disch:=omega) [-ld1_ptr,-stR_ptr,ζ3x,l8,hne,hsub,e1,m8,hix,mj]
theorem ζmy (k:Nat) {H0 H:Heap} {L:List It} (g:Star H0 H L) (i:Nat) {c:Nat} {ks:List Int} (hi:L[i]? = some (itKept c ks)) (x:Int) :
  ∃ H',R (T k) F.ζ1k [ptrV c,.int .i64 x] H = .ok (.tuple #[]) H' ∧ Star H0 H' (L.set i (itKept c ((x :: ks).take 8))):=by
 have hlt:=(List.getElem?_eq_some_iff.1 hi).1;obtain ⟨xs,h1,h2,h3,h4⟩:=g.at i hi;rw [ζic];have l8:=ldCell h4 (keptC_at h1 ks.length);have g1:=g.same i hi (itBlk c ⟨keptC xs ks.length,1,false⟩) h4 fun b hb => hb;have self:∀ kk:Blk,(L.set i (itBlk c kk))[i]? = some (itBlk c kk):=fun kk => List.getElem?_set_self hlt;have hix:∀ (n:Nat) H',n < 8 → ixA 8 1 (.pointer (some ⟨c,0,none⟩)) (.int .i64 n) H' = .ok (.pointer (some ⟨c,n,none⟩)) H':=fun n H' hn => by
  unfold ixA;dsimp only;rw [if_pos ⟨by omega,by omega⟩];simp
 by_cases c8:ks.length = 8
 ·have h8:((ks.length:Int) == 8) = true:=by rw [beq_iff_eq]; omega
  have hrev:xs = ks.reverse:=by rw [← h3,List.take_of_length_le (by omega)]
  obtain ⟨x0,x1,x2,x3,x4,x5,x6,x7,hxs⟩:∃ x0 x1 x2 x3 x4 x5 x6 x7:Int,xs = [x0,x1,x2,x3,x4,x5,x6,x7]:=by
   match xs,h1 with
   | [x0,x1,x2,x3,x4,x5,x6,x7],_ => exact ⟨x0,x1,x2,x3,x4,x5,x6,x7,rfl⟩
  have hs1:∀ H',slA 8 1 (.pointer (some ⟨c,0,none⟩)) none none none H' = .ok (.slice (some ⟨c,0,none⟩) 8 8) H':=fun H' => by simp [slA,boundOf]
  have hs2:∀ H',slA 8 1 (.pointer (some ⟨c,0,none⟩)) (some (.int .i64 1)) none none H' = .ok (.slice (some ⟨c,1,none⟩) 7 7) H':=fun H' => by simp [slA,boundOf]
  rw [c8] at h4 l8 g1;have hcp:cpR 1 (.slice (some ⟨c,0,none⟩) 8 8) (.slice (some ⟨c,1,none⟩) 7 7) H = .ok (.int .i64 7) (H.set c (some ⟨keptC [x1,x2,x3,x4,x5,x6,x7,x7] 8,1,false⟩)):=by
   rw [hxs] at h4;unfold cpR;simp [lenV,firstV,cellsAt,h4,keptC,putCells,splice] <;> rfl
  have g2:=g1.setBlk i (self _) ⟨keptC [x1,x2,x3,x4,x5,x6,x7,x7] 8,1,false⟩;rw [List.set_set] at g2;generalize H.set c (some ⟨keptC [x1,x2,x3,x4,x5,x6,x7,x7] 8,1,false⟩) = H1 at hcp g2;have b2:=g2.get i (self _);have m8:=ldCell b2 (keptC_at rfl 8);obtain ⟨H2,e2,g3,_⟩:=g2.stCell i (self _) 8 (v:=.int .i64 7) rfl rfl (by simp);rw [List.set_set,show (keptC [x1,x2,x3,x4,x5,x6,x7,x7] 8).set 8 (.int .i64 7) = keptC [x1,x2,x3,x4,x5,x6,x7,x7] 7 from rfl] at g3;have b3:=g3.get i (self _);have n8:=ldCell b3 (keptC_at rfl 7);obtain ⟨H3,e3,g4,_⟩:=g3.stCell i (self _) 7 (v:=.int .i64 x) rfl rfl (by simp);rw [List.set_set,show (keptC [x1,x2,x3,x4,x5,x6,x7,x7] 7).set 7 (.int .i64 x) = keptC [x1,x2,x3,x4,x5,x6,x7,x] 7 from rfl] at g4;have b4:=g4.get i (self _);have o8:=ldCell b4 (keptC_at rfl 7);obtain ⟨H4,e4,g5,_⟩:=g4.stCell i (self _) 8 (v:=.int .i64 8) rfl rfl (by simp);rw [List.set_set,show (keptC [x1,x2,x3,x4,x5,x6,x7,x] 7).set 8 (.int .i64 8) = keptC [x1,x2,x3,x4,x5,x6,x7,x] 8 from rfl] at g5;have b5:=g5.get i (self _);have hks:ks = [x7,x6,x5,x4,x3,x2,x1,x0]:=by
   have:=congrArg List.reverse hrev;rw [List.reverse_reverse,hxs] at this;rw [← this];rfl
  have g6:=g5.same i (self _) (itKept c ((x :: ks).take 8)) ⟨[x1,x2,x3,x4,x5,x6,x7,x],rfl,by simp; omega,by rw [hks]; rfl,by rw [hks]; exact b5⟩ fun b hb => hb;rw [List.set_set] at g6;refine ⟨H4,nrm_of ?_,g6⟩;have hx7:=fun H' => hix 7 H' (by omega);have hx7:∀ H',ixA 8 1 (.pointer (some ⟨c,0,none⟩)) (.int .i64 7) H' = .ok (.pointer (some ⟨c,7,none⟩)) H':=hx7;have l8:ld1 (.pointer (some ⟨c,8,none⟩)) H = .ok (.int .i64 8) H:=l8;have m8:ld1 (.pointer (some ⟨c,8,none⟩)) H1 = .ok (.int .i64 8) H1:=m8;have n8:ld1 (.pointer (some ⟨c,8,none⟩)) H2 = .ok (.int .i64 7) H2:=n8;have o8:ld1 (.pointer (some ⟨c,8,none⟩)) H3 = .ok (.int .i64 7) H3:=o8;simp -implicitDefEqProofs (disch:=omega) [-ld1_ptr,-stR_ptr,ζ1k,l8,hs1,hs2,hcp,m8,e2,ζcb,n8,hx7,e3,o8,e4]
 ·have hne:((ks.length:Int) == 8) = false:=by rw [beq_eq_false_iff_ne]; omega
  have hx:=hix ks.length;obtain ⟨H1,e1,g2,_⟩:=g1.stCell i (self _) ks.length (v:=.int .i64 x) rfl rfl (by simp; omega);rw [List.set_set,ζt3 _ _ _ (by omega)] at g2;have b2:=g2.get i (self _);have m8:=ldCell b2 (keptC_at (by simpa using h1) ks.length);obtain ⟨H2,e2,g3,_⟩:=g2.stCell i (self _) 8 (v:=.int .i64 ((ks.length + 1:Nat):Int)) rfl rfl (by simp; omega);rw [List.set_set,keptC_n (by simpa using h1)] at g3;have b3:=g3.get i (self _);have htk:(x :: ks).take 8 = x :: ks:=List.take_of_length_le (by simp; omega);have g4:=g3.same i (self _) (itKept c ((x :: ks).take 8)) ⟨xs.set ks.length x,by simpa using h1,by simp; omega,by
   rw [htk,List.length_cons,List.take_add_one,List.getElem?_set_self (by omega),List.take_set_of_le (Nat.le_refl _),h3];simp,by rw [htk]; exact b3⟩ fun b hb => hb
  rw [List.set_set] at g4;refine ⟨H2,nrm_of ?_,g4⟩;rw [show ((ks.length + 1:Nat):Int) = (ks.length:Int) + 1 by omega] at e2;simp -implicitDefEqProofs (disch:=omega) [-ld1_ptr,-stR_ptr,ζ1k,l8,hne,ζcc,hx,e1,m8,e2]
end Go.Sw
end
section
namespace Go.Sw
open Go.RowKit
theorem ofInt64 (v:Int):((BitVec.ofInt 64 v).toNat:Int) = v % 18446744073709551616:=by
 rw [BitVec.toNat_ofInt];omega
theorem bin_and1 (P:Program) (t:TypeId) (H:Heap) (v:Int):binR P .and t (.int .i64 v) (.int .i64 1) H = .ok (.int .i64 (v % 2)) H:=by
 have e1:binV P .and t (.int .i64 v) (.int .i64 1) = some (.int .i64 (IntKind.i64.wrap (BitVec.ofInt 64 v &&& BitVec.ofInt 64 1).toNat)):=rfl;have e:((BitVec.ofInt 64 v &&& BitVec.ofInt 64 1).toNat:Int) = v % 2:=by
  rw [BitVec.toNat_and,show (BitVec.ofInt 64 1).toNat = 1 from rfl,Nat.and_one_is_mod];have:=ofInt64 v;omega
 unfold binR;rw [e1,e,wrap_i64 (by omega) (by omega)];rfl
theorem and_not1 (n:Nat) (h:n < 18446744073709551616):n &&& 18446744073709551614 = n - n % 2:=by
 have e:n - n % 2 = 2 * (n / 2):=by omega
 rw [e];apply Nat.eq_of_testBit_eq;intro i;rw [Nat.testBit_and];cases i with
 | zero =>
  have h0:(18446744073709551614:Nat).testBit 0 = false:=by decide
  rw [h0,Bool.and_false,Nat.testBit_zero];have:¬ 2 * (n / 2) % 2 = 1:=by omega
  rw [decide_eq_false this]
 | succ i =>
  have h1:(18446744073709551614:Nat) = 2 * (2 ^ 63 - 1):=by decide
  rw [h1];rw [Nat.testBit_succ,Nat.testBit_succ,Nat.testBit_succ,Nat.mul_div_cancel_left _ (by decide:0 < 2),Nat.mul_div_cancel_left _ (by decide:0 < 2),Nat.testBit_two_pow_sub_one];by_cases hi:i < 63
  ·rw [decide_eq_true hi,Bool.and_true]
  ·rw [decide_eq_false hi,Bool.and_false];symm;refine Nat.testBit_lt_two_pow ?_;have:2 ^ 63 ≤ 2 ^ i:=Nat.pow_le_pow_right (by decide) (by omega);omega
theorem ζpn (P:Program) (t:TypeId) (H:Heap) (v:Int) (h0:-2 ^ 62 < v) (h1:v < 2 ^ 62):binR P .andNot t (.int .i64 v) (.int .i64 1) H = .ok (.int .i64 (v - v % 2)) H:=by
 have e1:binV P .andNot t (.int .i64 v) (.int .i64 1) = some (.int .i64 (IntKind.i64.wrap (BitVec.ofInt 64 v &&& ~~~(BitVec.ofInt 64 1)).toNat)):=rfl;have e:(BitVec.ofInt 64 v &&& ~~~(BitVec.ofInt 64 1)).toNat = (BitVec.ofInt 64 v).toNat - (BitVec.ofInt 64 v).toNat % 2:=by
  rw [BitVec.toNat_and,show (~~~(BitVec.ofInt 64 1):BitVec 64).toNat = 18446744073709551614 from rfl];exact and_not1 _ (BitVec.ofInt 64 v).isLt
 have hv:=ofInt64 v;have hw:IntKind.i64.wrap ((BitVec.ofInt 64 v &&& ~~~(BitVec.ofInt 64 1)).toNat:Int) = v - v % 2:=by
  rw [e];generalize (BitVec.ofInt 64 v).toNat = N at hv;unfold IntKind.wrap;simp [IntKind.signed,IntKind.bits];split <;> omega
 unfold binR;rw [e1,hw];rfl
abbrev stackC (t:STab):List Value:=[machV t.m,lv encB t.vals]
abbrev stackV (t:STab):Value:=boxV (stackC t).toArray
theorem Flat.stack (t:STab):Flat (stackV t):=.boxV (.cons (Flat.mach t.m) (.cons (Flat.B _) .nil))
theorem odd_next {vs:List Int} {a:Int} (hb:Byt vs) (ha:0 ≤ a) (h:oddB vs a = true):2 * a + 2 ≤ vs.length ∧ uS vs (2 * a) 2 = some (gU vs (2 * a) 2) ∧ (-32768 ≤ s16 (gU vs (2 * a) 2) ∧ s16 (gU vs (2 * a) 2) < 32768) ∧ (lastS vs a = false → oddB vs (a + 1) = true):=by
 obtain ⟨i,h1,h2,h3⟩:=oddB_iff.1 h;have hl:2 * a + 2 ≤ vs.length:=by omega
 obtain ⟨x,hx⟩:∃ x,uS vs (2 * a) 2 = some x:=by
  cases hu:uS vs (2 * a) 2 with
  | some x => exact ⟨x,rfl⟩
  | none =>
   exfalso;unfold uS pieceS at hu;rw [if_pos ⟨by omega,by omega,by omega,by omega⟩] at hu;simp at hu
 have hg:=gU_some hx;rw [hg];have hxb:=uS_two hb hx;refine ⟨hl,hx,?_,fun hlast => ?_⟩
 ·unfold s16;split <;> omega
 ·refine oddB_iff.2 ⟨i,?_,h2,h3⟩;unfold lastS at hlast;have hlast:=of_decide_eq_false hlast;rw [hg] at hlast;by_cases hia:(i:Int) = a
  ·exfalso;rw [hia,hg] at h3;apply hlast;unfold s16;split <;> omega
  ·omega
set_option maxHeartbeats 1000000 in
theorem ζme (k:Nat) (t:STab) (hbt:Byt t.vals) (hlt:t.vals.length < 2 ^ 31) {H0 H:Heap} {L:List It} (g:Star H0 H L) (ik ip:Nat) (hne:ik ≠ ip) {ck p:Nat} {op:Option Nat} {down:Bool} {ks:List Int} {l:List Pl} (hik:L[ik]? = some (itKept ck ks)) (hip:L[ip]? = some (itPl p op down l)) (hok:∀ q,q ∈ l → q.ok)
  (cross:Bool) (a:Int) (ha:0 ≤ a) (hodd:oddB t.vals a = true) :
  ∃ H',R (T k) F.ζ16 [stackV t,ptrV ck,ptrV p,.int .i64 a,.bool cross] H = .ok (.tuple #[]) H' ∧ Star H0 H' ((L.set ip (itPl p op down (moveS t.vals down cross ks a l).1)).set ik (itKept ck (moveS t.vals down cross ks a l).2)):=by
 have hkl:=(List.getElem?_eq_some_iff.1 hik).1;have hpl:=(List.getElem?_eq_some_iff.1 hip).1;have hks8:ks.length ≤ 8:=by
  obtain ⟨_,_,h,_⟩:=g.at ik hik;exact h
 have set0:(L.set ip (itPl p op down l)).set ik (itKept ck ks) = L:=by
  have e1:L.set ip (itPl p op down l) = L:=by
   obtain ⟨hlt,hx⟩:=List.getElem?_eq_some_iff.1 hip;rw [← hx,List.set_getElem_self]
  rw [e1];obtain ⟨hlt,hx⟩:=List.getElem?_eq_some_iff.1 hik;rw [← hx,List.set_getElem_self]
 have atK:∀ l' ks',((L.set ip (itPl p op down l')).set ik (itKept ck ks'))[ik]? = some (itKept ck ks'):=fun l' ks' => List.getElem?_set_self (by simpa using hkl);have atP:∀ l' ks',((L.set ip (itPl p op down l')).set ik (itKept ck ks'))[ip]? = some (itPl p op down l'):=fun l' ks' => by
  rw [List.getElem?_set_ne hne];exact List.getElem?_set_self hpl
 have setK:∀ l' ks' ks'',((L.set ip (itPl p op down l')).set ik (itKept ck ks')).set ik (itKept ck ks'') = (L.set ip (itPl p op down l')).set ik (itKept ck ks''):=fun l' ks' ks'' => List.set_set _;have setP:∀ l' l'' ks',((L.set ip (itPl p op down l')).set ik (itKept ck ks')).set ip (itPl p op down l'') = (L.set ip (itPl p op down l'')).set ik (itKept ck ks'):=fun l' l'' ks' => by
  rw [List.set_comm _ _ hne,List.set_set]
 have one:∀ {H':Heap} {l':List Pl} {ks':List Int} (j v:Int),(∀ q,q ∈ l' → q.ok) → Star H0 H' ((L.set ip (itPl p op down l')).set ik (itKept ck ks')) →
   ∃ H2,(if cross = false then R (T k) F.ζ1w [ptrV p,.int .i64 j,.int .i64 v] H' else if v = -32768 then R (T k) F.ζ1o [ptrV p,.int .i64 j] H' else R (T k) F.ζ1e [ptrV p,.int .i64 j,.int .i64 v] H') = .ok (.tuple #[]) H2 ∧
    Star H0 H2 ((L.set ip (itPl p op down (onePl down cross l' j v))).set ik (itKept ck ks')):=fun {H' l' ks'} j v hq st => by
  unfold onePl;by_cases c:cross = false
  ·rw [if_pos c,if_pos c];obtain ⟨H2,e,st2⟩:=ζqm k st ip (atP _ _) hq j v;rw [setP] at st2;exact ⟨H2,e,st2⟩
  ·rw [if_neg c,if_neg c];by_cases c2:v = -32768
   ·rw [if_pos c2,if_pos c2];obtain ⟨H2,e,st2⟩:=ζr7 k st ip (atP _ _) hq j;rw [setP] at st2;exact ⟨H2,e,st2⟩
   ·rw [if_neg c2,if_neg c2];obtain ⟨H2,e,st2⟩:=ζpl k st ip (atP _ _) hq j v;rw [setP] at st2;exact ⟨H2,e,st2⟩
 rw [ζf5]
 obtain ⟨xx,e',H1,hr1,rfl,hE,st⟩:=loop_up (body:=ζ5u k (R (T k))) ks.length
  (fun j e H' => e = [(0,stackV t),(1,ptrV ck),(2,ptrV p),(3,.int .i64 (a + j)),(4,.bool cross)] ∧ ∃ l':List Pl,(∀ q,q ∈ l' → q.ok) ∧ oddB t.vals (a + j) = true ∧ moveS t.vals down cross (ks.drop j) (a + j) l' = moveS t.vals down cross ks a l ∧ Star H0 H' ((L.set ip (itPl p op down l')).set ik (itKept ck (ks.drop j))))
  (fun xx e H' => xx = .ret ∧ ((∃ z v,e = [(0,stackV t),(1,ptrV ck),(2,ptrV p),(3,z),(4,.bool cross),(10,v),(22,.bool true)]) ∨ (∃ z,e = [(0,stackV t),(1,ptrV ck),(2,ptrV p),(3,z),(4,.bool cross),(51,.bool true)])) ∧ Star H0 H' ((L.set ip (itPl p op down (moveS t.vals down cross ks a l).1)).set ik (itKept ck (moveS t.vals down cross ks a l).2)))
  (e0:=[(0,stackV t),(1,ptrV ck),(2,ptrV p),(3,.int .i64 a),(4,.bool cross)]) (H0:=H) ⟨by simp,l,hok,by simpa using hodd,by simp,by rw [List.drop_zero,set0]; exact g⟩ (by omega)
  (fun j e H' hj ⟨he,l',hq,ho,hm,st⟩ => by
   subst he;obtain ⟨x,hx⟩:∃ x,ks[j]? = some x:=⟨_,List.getElem?_eq_getElem hj⟩
   have hd:ks.drop j = x :: ks.drop (j + 1):=by rw [List.drop_eq_getElem_cons hj,(List.getElem?_eq_some_iff.1 hx).2]
   rw [hd] at st hm;obtain ⟨H2,e2,st2⟩:=ζjp k st ik (atK _ _);rw [setK] at st2;simp only [List.head?_cons,Option.getD_some,List.isEmpty_cons,Bool.not_false,List.tail_cons] at e2 st2;obtain ⟨o1,o2,o3,o4⟩:=odd_next hbt (by omega) ho;have hi16:=fun H' => I16_run k (Sl.lv H' 1 t.vals) hbt (2 * (a + j)) (by omega);rw [o2] at hi16;have hi16:∀ H',R (T k) F.ζ3w [.agg #[lv encB t.vals],.int .i64 (2 * (a + j))] H' = .ok (.int .i64 (s16 (gU t.vals (2 * (a + j)) 2))) H':=hi16;have hv:valV t.vals (a + j) = s16 (gU t.vals (2 * (a + j)) 2) - s16 (gU t.vals (2 * (a + j)) 2) % 2:=rfl;have hlv:lastS t.vals (a + j) = decide (s16 (gU t.vals (2 * (a + j)) 2) % 2 = 1):=rfl;have an1:=fun H => bin_and1 Prog 3 H (s16 (gU t.vals (2 * (a + j)) 2));have an2:=fun H => ζpn Prog 3 H (s16 (gU t.vals (2 * (a + j)) 2)) (by omega) (by omega);rw [← hv] at an2;have hm:(if lastS t.vals (a + j) then (onePl down cross l' x (valV t.vals (a + j)),ks.drop (j + 1)) else moveS t.vals down cross (ks.drop (j + 1)) (a + j + 1) (onePl down cross l' x (valV t.vals (a + j)))) = moveS t.vals down cross ks a l:=hm;obtain ⟨H3,e3,st3⟩:=one x (valV t.vals (a + j)) hq st2;have hq3:=onePl_ok hq down cross x (valV t.vals (a + j));have hvb:-32770 ≤ valV t.vals (a + j) ∧ valV t.vals (a + j) < 32768:=by rw [hv]; omega
   generalize valV t.vals (a + j) = vv at an2 hm e3 st3 hq3 hvb hv;generalize s16 (gU t.vals (2 * (a + j)) 2) = sv at hi16 hlv an1 an2 o3 hv;by_cases d:sv % 2 = 1
   ·rw [hlv,decide_eq_true d,if_pos rfl] at hm;refine .inr ⟨.ret,_,H3,?_,by simp,rfl,.inr ⟨.int .i64 (a + j),rfl⟩,by rw [← hm]; exact st3⟩;rw [ζ4k];cases cross with
    | false =>
     rw [if_pos rfl] at e3;simp -implicitDefEqProofs (disch:=omega) [e2,hi16,an2,e3,ζ1x,an1,d]
    | true =>
     rw [if_neg (by decide)] at e3;by_cases d2:vv = -32768
     ·rw [if_pos d2] at e3;have d2':(vv == -32768) = true:=by rw [beq_iff_eq]; exact d2
      simp -implicitDefEqProofs (disch:=omega) [e2,hi16,an2,d2',e3,ζ1x,an1,d]
     ·rw [if_neg d2] at e3;have d2':(vv == -32768) = false:=by rw [beq_eq_false_iff_ne]; exact d2
      simp -implicitDefEqProofs (disch:=omega) [e2,hi16,an2,d2',e3,ζ1x,an1,d]
   ·rw [hlv,decide_eq_false d,if_neg (by simp)] at hm;have d':(sv % 2 == 1) = false:=by rw [beq_eq_false_iff_ne]; exact d
    have hj1:a + ((j + 1:Nat):Int) = a + j + 1:=by omega
    refine .inl ⟨_,H3,?_,rfl,onePl down cross l' x vv,hq3,by rw [hj1]; exact o4 (by rw [hlv,decide_eq_false d]),by rw [hj1]; exact hm,st3⟩;rw [ζ4k,hj1];cases cross with
    | false =>
     rw [if_pos rfl] at e3;simp -implicitDefEqProofs (disch:=omega) [e2,hi16,an2,e3,ζ1x,an1,d']
    | true =>
     rw [if_neg (by decide)] at e3;by_cases d2:vv = -32768
     ·rw [if_pos d2] at e3;have d2':(vv == -32768) = true:=by rw [beq_iff_eq]; exact d2
      simp -implicitDefEqProofs (disch:=omega) [e2,hi16,an2,d2',e3,ζ1x,an1,d']
     ·rw [if_neg d2] at e3;have d2':(vv == -32768) = false:=by rw [beq_eq_false_iff_ne]; exact d2
      simp -implicitDefEqProofs (disch:=omega) [e2,hi16,an2,d2',e3,ζ1x,an1,d'])
  (fun e H' ⟨he,l',hq,ho,hm,st⟩ => by
   subst he;rw [List.drop_length] at st hm;obtain ⟨H2,e2,st2⟩:=ζjp k st ik (atK _ _);rw [setK] at st2;have hm:(l',([]:List Int)) = moveS t.vals down cross ks a l:=hm;refine ⟨.ret,_,H2,?_,by simp,rfl,.inl ⟨.int .i64 (a + ks.length),.int .i64 0,rfl⟩,by rw [← hm]; exact st2⟩;rw [ζ4k];simp -implicitDefEqProofs (disch:=omega) [e2])
 refine ⟨H1,nrm_of ?_,st⟩;rcases hE with ⟨z,v,rfl⟩ | ⟨z,rfl⟩
 ·simp -implicitDefEqProofs [ζ16,hr1,ζbd]
 ·simp -implicitDefEqProofs [ζ16,hr1,ζal]
end Go.Sw
end
section
namespace Go.Sw
open Go.RowKit
theorem ζsf (n:Nat):n &&& 2 ^ 15 = if n.testBit 15 then 2 ^ 15 else 0:=by
 apply Nat.eq_of_testBit_eq;intro i;rw [Nat.testBit_and,Nat.testBit_two_pow];by_cases h:15 = i
 ·subst h;cases hb:n.testBit 15 <;> simp <;> decide
 ·cases hb:n.testBit 15
  ·simp [h]
  ·simp only [h,decide_false,Bool.and_false,if_true,Nat.testBit_two_pow]
theorem and15 (P:Program) (t:TypeId) (H:Heap) {a:Int} (h0:0 ≤ a) (h1:a < 65536):binR P .and t (.int .i64 a) (.int .i64 32768) H = .ok (.int .i64 (if a ≥ 32768 then 32768 else 0)) H:=by
 have e:(BitVec.ofInt 64 a &&& BitVec.ofInt 64 32768).toNat = (if a ≥ 32768 then 32768 else 0):=by
  rw [BitVec.toNat_and,BitVec.toNat_ofInt,BitVec.toNat_ofInt];rw [show ((32768:Int) % ((2 ^ 64:Nat):Int)).toNat = 2 ^ 15 from by decide,ζsf,Nat.testBit_eq_decide_div_mod_eq];obtain ⟨n,rfl⟩:=Int.eq_ofNat_of_zero_le h0;rw [show (((n:Int)) % ((2 ^ 64:Nat):Int)).toNat = n by omega];by_cases h:(n:Int) ≥ 32768
  ·rw [if_pos h,decide_eq_true (show n / 2 ^ 15 % 2 = 1 by omega)]; rfl
  ·rw [if_neg h,decide_eq_false (show ¬ n / 2 ^ 15 % 2 = 1 by omega)]; rfl
 have e1:binV P .and t (.int .i64 a) (.int .i64 32768) = some (.int .i64 (IntKind.i64.wrap (BitVec.ofInt 64 a &&& BitVec.ofInt 64 32768).toNat)):=rfl;unfold binR;rw [e1,e];by_cases h:a ≥ 32768
 ·simp [h]
 ·simp [h]
end Go.Sw
end
section
namespace Go.Sw
open Go.RowKit
theorem plainNew (k:Nat) (f:Fn) (a b:Array Value) (H:Heap):R (T k) F.ζ6g [.func f a b] H = .ok (.func (.func F.ζ2b) #[] #[ptrV H.n]) (H.push ⟨[.func f a b],1,false⟩):=by
 rw [ζmq];have e:ζ6g k (R (T k)) (.func f a b) H = .ok (.func (.func F.ζ2b) #[] #[ptrV H.n]) (H.push ⟨[.func f a b],1,false⟩):=by
  simp -implicitDefEqProofs [ζ6g]
 rw [e];have dead:¬ Alive H (.func (.func F.ζ2b) #[] #[ptrV H.n]):=fun h => by
  cases h with
  | func fn xs ys h1 h2 =>
   have:=h2 0 (ptrV H.n) rfl;cases this with
   | ptr b off k hg => have:=Heap.get_lt hg; omega
 unfold nrm;exact if_neg fun hc => dead hc.2
end Go.Sw
end
section
namespace Go.Sw
open Go.RowKit
theorem veq_Ens (l:List En):veq (lv encEn l) (lv encEn l) = true:=veq_lv fun p _ v hv => by
 simp [encEn] at hv;rcases hv with rfl | rfl | rfl | rfl <;> simp
theorem veq_Is (l:List Int):veq (lv encI l) (lv encI l) = true:=veq_lv fun p _ v hv => by
 simp [encI] at hv;subst hv; simp
theorem veq_Rows (l:List (List Int)):veq (lv encRow l) (lv encRow l) = true:=veq_lv fun p _ v hv => by
 simp [encRow] at hv;subst hv; exact veq_Is p
theorem veq_mach (m:Mach):veq (machV m) (machV m) = true:=veq_boxV (l:=[.int .i64 m.classes,tabV m.tab,lv encRow m.rows,lv encEn m.ents]) fun v hv => by
 simp at hv;rcases hv with rfl | rfl | rfl | rfl
 ·simp
 ·exact veq_tab _
 ·exact veq_Rows _
 ·exact veq_Ens _
end Go.Sw
end
section
namespace Go.Sw
open Go.RowKit
theorem ζu2 (t:STab):veq (stackV t) (stackV t) = true:=veq_boxV (l:=stackC t) fun v hv => by
 simp [stackC] at hv;rcases hv with rfl | rfl
 ·exact veq_mach _
 ·exact veq_B _
def stackW (t:STab) (L:List It) (ip p:Nat) (op:Option Nat) (down:Bool) (c ck p3 p4 p5 p6:Nat) (cross:Bool) (s:List Pl × List Int):List It :=
 L.set ip (itPl p op down s.1) ++ [itKept ck s.2,itBlk p3 ⟨[ptrV c],1,false⟩,itBlk p4 ⟨[stackV t],1,false⟩,itBlk p5 ⟨[ptrV p],1,false⟩,itBlk p6 ⟨[.bool cross],1,false⟩]
set_option maxHeartbeats 1000000 in
theorem ζru (k:Nat) (t:STab) (ht:t.ok) {H0 H:Heap} {Q:List It} (ik ip:Nat) (hne:ik ≠ ip) {ck p p4 p5 p6 q:Nat} {op:Option Nat} {down cross:Bool} {ks:List Int} {l:List Pl} {e:En} (he:e ∈ t.m.ents)
  (st:Star H0 H Q) (hik:Q[ik]? = some (itKept ck ks)) (hip:Q[ip]? = some (itPl p op down l)) (hok:∀ q,q ∈ l → q.ok)
  (h4:H.get p4 = some ⟨[stackV t],1,false⟩) (h5:H.get p5 = some ⟨[ptrV p],1,false⟩) (h6:H.get p6 = some ⟨[.bool cross],1,false⟩) (hq:H.get q = some ⟨encEn e,1,false⟩) :
  ∃ H',ζ2h k (R (T k)) (ptrV ck) (ptrV p4) (ptrV p5) (ptrV p6) (ptrV q) H = .ok (.tuple #[]) H' ∧ (∀ a0 a23,ζ2i k (R (T k)) a0 (ptrV ck) (ptrV p4) (ptrV p5) (ptrV p6) (ptrV q) a23 H = .ok (.tuple #[]) H') ∧
   Star H0 H' ((Q.set ip (itPl p op down (if e.a = 65535 then (l,ks) else moveS t.vals down cross ks e.a l).1)).set ik (itKept ck (if e.a = 65535 then (l,ks) else moveS t.vals down cross ks e.a l).2)):=by
 have hent:=ht.m.ent e he;by_cases ha:e.a = 65535
 ·have ha':(e.a != 65535) = false:=by rw [ha]; rfl
  rw [if_pos ha];refine ⟨H,?_,fun a0 a23 => ?_,?_⟩
  ·rw [ζ5h];simp -implicitDefEqProofs (disch:=omega) [hq,ha']
  ·rw [ζ5i];simp -implicitDefEqProofs (disch:=omega) [hq,ha']
  ·have e1:Q.set ip (itPl p op down l) = Q:=by
    obtain ⟨hlt,hx⟩:=List.getElem?_eq_some_iff.1 hip;rw [← hx,List.set_getElem_self]
   dsimp only;rw [e1];obtain ⟨hlt,hx⟩:=List.getElem?_eq_some_iff.1 hik;rw [← hx,List.set_getElem_self];exact st
 ·have ha':(e.a != 65535) = true:=by rw [bne_iff_ne]; exact ha
  rw [if_neg ha];obtain ⟨H',e1,st2⟩:=ζme k t ht.byt ht.len st ik ip hne hik hip hok cross e.a (by omega) ((ht.has e he).resolve_left ha);refine ⟨H',?_,fun a0 a23 => ?_,st2⟩
  ·rw [ζ5h];simp -implicitDefEqProofs (disch:=omega) [hq,ha',h4,h5,h6,e1]
  ·rw [ζ5i];simp -implicitDefEqProofs (disch:=omega) [hq,ha',h4,h5,h6,e1]
abbrev zeroK:Value:=.agg #[.int .i64 0,.int .i64 0,.int .i64 0,.int .i64 0,.int .i64 0,.int .i64 0,.int .i64 0,.int .i64 0,.int .i64 0]
theorem ζm2 {H0 H:Heap} {L:List It} (g:Star H0 H L) (i:Nat) {c:Nat} {ks:List Int} (hi:L[i]? = some (itKept c ks)) :
  ∃ H',stR 9 (ptrV c) zeroK H = .ok undef H' ∧ Star H0 H' (L.set i (itKept c [])):=by
 have hlt:=(List.getElem?_eq_some_iff.1 hi).1;obtain ⟨xs,h1,h2,h3,h4⟩:=g.at i hi;have g1:=g.same i hi (itBlk c ⟨keptC xs ks.length,1,false⟩) h4 fun b hb => hb;have self:∀ kk:Blk,(L.set i (itBlk c kk))[i]? = some (itBlk c kk):=fun kk => List.getElem?_set_self hlt;have g2:=g1.setBlk i (self _) ⟨keptC [0,0,0,0,0,0,0,0] 0,1,false⟩;rw [List.set_set] at g2;have g3:=g2.same i (self _) (itKept c []) ⟨[0,0,0,0,0,0,0,0],rfl,by simp,rfl,g2.get i (self _)⟩ fun b hb => hb;rw [List.set_set] at g3;refine ⟨_,?_,g3⟩;have hl:(keptC xs ks.length).length = 9:=by simp [h1]
 obtain ⟨x0,x1,x2,x3,x4,x5,x6,x7,hxs⟩:∃ x0 x1 x2 x3 x4 x5 x6 x7:Int,xs = [x0,x1,x2,x3,x4,x5,x6,x7]:=by
  match xs,h1 with
  | [x0,x1,x2,x3,x4,x5,x6,x7],_ => exact ⟨x0,x1,x2,x3,x4,x5,x6,x7,rfl⟩
 rw [hxs] at h4;rw [stR_ptr,if_pos ⟨rfl,rfl⟩];unfold putCells;rw [h4];rfl
set_option maxHeartbeats 1000000 in
theorem stack_do (k:Nat) (t:STab) (ht:t.ok) (L:List It) (il ip c p ck p3 p4 p5 p6:Nat) (o op:Option Nat) (down cross:Bool) (hip:ip < L.length) (gl:List Gl) (hil:L[il]? = some (itLine c o gl)) (hne:il ≠ ip) {H0:Heap} :
  DoOk k t.m H0 (stackW t L ip p op down c ck p3 p4 p5 p6 cross) (fun s => ∀ q,q ∈ s.1 → q.ok) (.func (.func F.ζa) #[] #[ptrV ck,ptrV p3,ptrV p4,ptrV p5,ptrV p6]) (doSt t (gl.length:Int) down cross):=by
 intro s j e H X hI st h0 h1 he;have hok':=doSt_ok t (gl.length:Int) down cross hI j e;obtain ⟨l,ks⟩:=s;dsimp only at hI;have heb:=ht.m.ent e he;have hill:=(List.getElem?_eq_some_iff.1 hil).1;unfold stackW at st;dsimp only at st;obtain ⟨B,hB⟩:∃ B:List It,B = [itBlk p3 ⟨[ptrV c],1,false⟩,itBlk p4 ⟨[stackV t],1,false⟩,itBlk p5 ⟨[ptrV p],1,false⟩,itBlk p6 ⟨[.bool cross],1,false⟩] ++ (X ++ [itBlk H.n ⟨encEn e,1,false⟩]):=⟨_,rfl⟩
 obtain ⟨S,hS⟩:∃ S:List Pl → List Int → List It,S = fun l' k' => L.set ip (itPl p op down l') ++ itKept ck k' :: B:=⟨_,rfl⟩
 have hSv:∀ l' k',S l' k' = L.set ip (itPl p op down l') ++ itKept ck k' :: B:=fun _ _ => by rw [hS]
 have hkx:∀ l' k',(S l' k')[L.length]? = some (itKept ck k'):=fun l' k' => by
  rw [hSv,List.getElem?_append_right (by simp)];simp
 have hpx:∀ l' k',(S l' k')[ip]? = some (itPl p op down l'):=fun l' k' => by
  rw [hSv,List.getElem?_append_left (by simpa using hip),List.getElem?_set_self hip]
 have hlx:∀ l' k',(S l' k')[il]? = some (itLine c o gl):=fun l' k' => by
  rw [hSv,List.getElem?_append_left (by simpa using hill),List.getElem?_set_ne (fun h => hne h.symm)];exact hil
 have setK:∀ l' k' k'',(S l' k').set L.length (itKept ck k'') = S l' k'':=fun l' k' k'' => by
  rw [hSv,hSv,List.set_append_right _ _ (by simp)];simp
 have setP:∀ l' l'' k',(S l' k').set ip (itPl p op down l'') = S l'' k':=fun l' l'' k' => by
  rw [hSv,hSv,List.set_append_left _ _ (by simpa using hip),List.set_set]
 have look:∀ {H':Heap} {l' k'},Star H0 H' (S l' k') → H'.get p3 = some ⟨[ptrV c],1,false⟩ ∧ H'.get p4 = some ⟨[stackV t],1,false⟩ ∧ H'.get p5 = some ⟨[ptrV p],1,false⟩ ∧ H'.get p6 = some ⟨[.bool cross],1,false⟩ ∧ H'.get H.n = some ⟨encEn e,1,false⟩ ∧ R (T k) F.ζ39 [ptrV c] H' = .ok (.int .i64 gl.length) H':=fun {H' l' k'} h => by
  have hl:=ζle k h il (hlx _ _);rw [hSv,hB] at h;exact ⟨h.memBlk (by simp),h.memBlk (by simp),h.memBlk (by simp),h.memBlk (by simp),h.memBlk (by simp),hl⟩
 have st2:Star H0 (H.push ⟨encEn e,1,false⟩) (S l ks):=by
  have:=st.push ⟨encEn e,1,false⟩;rw [hSv,hB];simpa using this
 have fin:∀ {H':Heap} {l' k'},Star H0 H' (S l' k') → Star H0 H' (stackW t L ip p op down c ck p3 p4 p5 p6 cross (l',k') ++ X):=fun {H' l' k'} h => by
  rw [hSv,hB] at h;have e1:L.set ip (itPl p op down l') ++ itKept ck k' :: ([itBlk p3 ⟨[ptrV c],1,false⟩,itBlk p4 ⟨[stackV t],1,false⟩,itBlk p5 ⟨[ptrV p],1,false⟩,itBlk p6 ⟨[.bool cross],1,false⟩] ++ (X ++ [itBlk H.n ⟨encEn e,1,false⟩])) = (stackW t L ip p op down c ck p3 p4 p5 p6 cross (l',k') ++ X) ++ [itBlk H.n ⟨encEn e,1,false⟩]:=by
   unfold stackW;simp
  rw [e1] at h;exact h.ζly
 have ha15:=fun H => and15 Prog 3 H heb.2.2.1 heb.2.2.2.1;have ha13:=fun H => and13 Prog 3 H heb.2.2.1 heb.2.2.2.1;obtain ⟨v3,v4,v5,v6,v7,v8⟩:=look st2;clear st
 -- all is forgotten
 obtain ⟨k1,hk1⟩:∃ k1,k1 = if e.flags / 8192 % 2 = 1 then [] else ks:=⟨_,rfl⟩
 obtain ⟨k2,hk2⟩:∃ k2,k2 = if e.flags ≥ 32768 ∧ j < (gl.length:Int) then (j :: k1).take 8 else k1:=⟨_,rfl⟩
 have hdo:doSt t (gl.length:Int) down cross (l,ks) j e = if e.a = 65535 then (l,k2) else moveS t.vals down cross k2 e.a l:=by
  unfold doSt;rw [hk2,hk1]
 -- the last part
 have tail:∀ {H':Heap},Star H0 H' (S l k2) → ∃ H'',ζ2h k (R (T k)) (ptrV ck) (ptrV p4) (ptrV p5) (ptrV p6) (ptrV H.n) H' = .ok (.tuple #[]) H'' ∧ (∀ a0 a23,ζ2i k (R (T k)) a0 (ptrV ck) (ptrV p4) (ptrV p5) (ptrV p6) (ptrV H.n) a23 H' = .ok (.tuple #[]) H'') ∧ Star H0 H'' (stackW t L ip p op down c ck p3 p4 p5 p6 cross (doSt t (gl.length:Int) down cross (l,ks) j e) ++ X):=fun {H'} h => by
  obtain ⟨_,w4,w5,w6,w7,_⟩:=look h;obtain ⟨H'',t1,t2,t3⟩:=ζru k t ht L.length ip (by omega) he h (hkx _ _) (hpx _ _) hI w4 w5 w6 w7;rw [setP,setK,← hdo] at t3;exact ⟨H'',t1,t2,fin t3⟩
 -- a place is kept
 have mid:∀ {H':Heap},Star H0 H' (S l k1) → ∃ H'',ζ4i k (R (T k)) (.int .i64 j) (ptrV ck) (ptrV p3) (ptrV p4) (ptrV p5) (ptrV p6) (ptrV H.n) H' = .ok (.tuple #[]) H'' ∧ (∀ a12,ζ4j k (R (T k)) (.int .i64 j) (ptrV ck) (ptrV p3) (ptrV p4) (ptrV p5) (ptrV p6) (ptrV H.n) a12 H' = .ok (.tuple #[]) H'') ∧ Star H0 H'' (stackW t L ip p op down c ck p3 p4 p5 p6 cross (doSt t (gl.length:Int) down cross (l,ks) j e) ++ X):=fun {H'} h => by
  obtain ⟨w3,w4,w5,w6,w7,w8⟩:=look h;by_cases d2:e.flags ≥ 32768
  ·rw [if_pos d2] at ha15;by_cases d3:j < (gl.length:Int)
   ·rw [if_pos ⟨d2,d3⟩] at hk2;obtain ⟨H2,e2,h2⟩:=ζmy k h L.length (hkx _ _) j;rw [setK,← hk2] at h2;obtain ⟨H3,t1,_,t3⟩:=tail h2;refine ⟨H3,?_,fun a12 => ?_,t3⟩
    ·rw [ζ3s];simp -implicitDefEqProofs (disch:=omega) [w7,ha15,bne,w3,w8,d3,e2,t1]
    ·rw [ζ3t];simp -implicitDefEqProofs (disch:=omega) [w7,ha15,bne,w3,w8,d3,e2,t1]
   ·rw [if_neg fun h => d3 h.2] at hk2;rw [← hk2] at h;obtain ⟨H3,_,t1,t3⟩:=tail h;refine ⟨H3,?_,fun a12 => ?_,t3⟩
    ·rw [ζ3s];simp -implicitDefEqProofs (disch:=omega) [w7,ha15,bne,w3,w8,d3,t1]
    ·rw [ζ3t];simp -implicitDefEqProofs (disch:=omega) [w7,ha15,bne,w3,w8,d3,t1]
  ·rw [if_neg d2] at ha15;rw [if_neg fun h => d2 h.1] at hk2;rw [← hk2] at h;obtain ⟨H3,_,t1,t3⟩:=tail h;refine ⟨H3,?_,fun a12 => ?_,t3⟩
   ·rw [ζ3s];simp -implicitDefEqProofs (disch:=omega) [w7,ha15,bne,t1]
   ·rw [ζ3t];simp -implicitDefEqProofs (disch:=omega) [w7,ha15,bne,t1]
 by_cases d1:e.flags / 8192 % 2 = 1
 ·rw [if_pos d1] at hk1 ha13;obtain ⟨H1,e1,h1⟩:=ζm2 st2 L.length (hkx _ _);rw [setK,← hk1] at h1;obtain ⟨H2,m1,_,m3⟩:=mid h1;refine ⟨.tuple #[],H2,?_,m3,hok'⟩;simp only [callV,List.nil_append,List.cons_append];rw [ζ7l,nrm_of];simp -implicitDefEqProofs (disch:=omega) [-stR_ptr,ζa,v7,ha13,bne,e1,m1]
 ·rw [if_neg d1] at hk1 ha13;rw [← hk1] at st2;obtain ⟨H2,_,m1,m3⟩:=mid st2;refine ⟨.tuple #[],H2,?_,m3,hok'⟩;simp only [callV,List.nil_append,List.cons_append];rw [ζ7l,nrm_of];simp -implicitDefEqProofs (disch:=omega) [-stR_ptr,ζa,v7,ha13,bne,m1]
theorem Star.perm {H0 H:Heap} {L L':List It} (h:Star H0 H L) (hp:L.Perm L'):Star H0 H L':=by
 have hpw:L.Pairwise fun x y => ∀ b,b ∈ x.o → b ∉ y.o:=List.pairwise_iff_getElem.2 fun i j hi hj hij b hb => h.2.2 i j _ _ (by omega) (List.getElem?_eq_getElem hi) (List.getElem?_eq_getElem hj) b hb;have hpw':=(hp.pairwise_iff (fun {x y} hxy b hb hb2 => hxy b hb2 hb)).1 hpw;refine ⟨h.1,fun i x hx => ?_,fun i j x y hij hx hy b hb => ?_⟩
 ·obtain ⟨j,hj⟩:=List.getElem?_of_mem (hp.mem_iff.2 (List.mem_of_getElem? hx));exact h.2.1 j x hj
 ·obtain ⟨hi,rfl⟩:=List.getElem?_eq_some_iff.1 hx;obtain ⟨hj,rfl⟩:=List.getElem?_eq_some_iff.1 hy;rcases Nat.lt_or_gt_of_ne hij with hlt | hgt
  ·exact List.pairwise_iff_getElem.1 hpw' i j hi hj hlt b hb
  ·exact fun hb2 => List.pairwise_iff_getElem.1 hpw' j i hj hi hgt b hb2 hb
def runStr (t:STab) (gl:List Gl) (down cross:Bool) (l:List Pl):Int × Int × (List Pl × List Int) :=
 runD t.m (fun _:List Pl × List Int => gl) (fun s i e => (doSt t (gl.length:Int) down cross s i e,i,i + 1)) (2 * (gl.length:Int) + 128) (2 * gl.length + 128) ((l,[]),⟨0,0,0,0⟩)
def runSt (t:STab) (gl:List Gl) (down cross:Bool) (l:List Pl):List Pl × Int:=((runStr t gl down cross l).2.2.1,(runStr t gl down cross l).2.1)
set_option maxHeartbeats 1000000 in
theorem ζnp (k:Nat) (t:STab) (ht:t.ok) {H0 H:Heap} {L:List It} (h:Star H0 H L) (il ip:Nat) (hne:il ≠ ip) {c p:Nat} {o op:Option Nat} {down:Bool} (cross:Bool) {gl:List Gl} {l:List Pl} (hil:L[il]? = some (itLine c o gl)) (hip:L[ip]? = some (itPl p op down l)) (hl:gl.length < 2 ^ 40) (hok:∀ q,q ∈ l → q.ok) :
  ∃ H',R (T k) F.ζ45 [stackV t,ptrV c,ptrV p,.bool cross] H = .ok (.int .i64 (runSt t gl down cross l).2) H' ∧ Star H0 H' (L.set ip (itPl p op down (runSt t gl down cross l).1)):=by
 have hlt:=(List.getElem?_eq_some_iff.1 hip).1;have hll:=(List.getElem?_eq_some_iff.1 hil).1;have same:L.set ip (itPl p op down l) = L:=by
  obtain ⟨hlt,hx⟩:=List.getElem?_eq_some_iff.1 hip;rw [← hx,List.set_getElem_self]
 have st:=(((h.push ⟨[stackV t],1,false⟩).push ⟨[ptrV c],1,false⟩).push ⟨[ptrV p],1,false⟩).push ⟨[.bool cross],1,false⟩;have st:=st.push ⟨keptC [0,0,0,0,0,0,0,0] 0,1,false⟩;simp only [hn_push] at st;obtain ⟨H5,hH5⟩:∃ H5,H5 = ((((H.push ⟨[stackV t],1,false⟩).push ⟨[ptrV c],1,false⟩).push ⟨[ptrV p],1,false⟩).push ⟨[.bool cross],1,false⟩).push ⟨keptC [0,0,0,0,0,0,0,0] 0,1,false⟩:=⟨_,rfl⟩
 rw [← hH5] at st;have hn5:H5.n = H.n + 5:=by rw [hH5]; simp
 have ik:(L ++ [itBlk H.n ⟨[stackV t],1,false⟩] ++ [itBlk (H.n + 1) ⟨[ptrV c],1,false⟩] ++ [itBlk (H.n + 2) ⟨[ptrV p],1,false⟩] ++ [itBlk (H.n + 3) ⟨[.bool cross],1,false⟩] ++ [itBlk (H.n + 4) ⟨keptC [0,0,0,0,0,0,0,0] 0,1,false⟩])[L.length + 4]? = some (itBlk (H.n + 4) ⟨keptC [0,0,0,0,0,0,0,0] 0,1,false⟩):=by
  rw [List.getElem?_append_right (by simp)];simp
 have st:=st.same (L.length + 4) ik (itKept (H.n + 4) []) ⟨[0,0,0,0,0,0,0,0],rfl,by simp,rfl,st.get _ ik⟩ fun b hb => hb;have eset:∀ (x1 x2 x3 x4 x5 y:It),(L ++ [x1] ++ [x2] ++ [x3] ++ [x4] ++ [x5]).set (L.length + 4) y = L ++ ([x1,x2,x3,x4] ++ [y]):=fun x1 x2 x3 x4 x5 y => by
  rw [List.set_append_right _ _ (by simp)];simp
 rw [eset] at st;have st:Star H0 H5 (stackW t L ip p op down c (H.n + 4) (H.n + 1) H.n (H.n + 2) (H.n + 3) cross (l,[])):=by
  refine st.perm ?_;unfold stackW;dsimp only;rw [same];refine List.Perm.append_left L ?_;exact List.perm_append_comm.trans (List.Perm.cons _ (List.Perm.swap _ _ _))
 have ePl:=plainNew k (.func F.ζa) #[] #[ptrV (H.n + 4),ptrV (H.n + 1),ptrV H.n,ptrV (H.n + 2),ptrV (H.n + 3)] H5;have st4:=st.push ⟨[.func (.func F.ζa) #[] #[ptrV (H.n + 4),ptrV (H.n + 1),ptrV H.n,ptrV (H.n + 2),ptrV (H.n + 3)]],1,false⟩;have hact:=plain_ok k (stack_do k t ht L il ip c p (H.n + 4) (H.n + 1) H.n (H.n + 2) (H.n + 3) o op down cross hlt gl hil hne (H0:=H0)) H5.n
 obtain ⟨H7,eR,st5,_⟩:=ζmp k t.m ht.m (fun s:List Pl × List Int => stackW t L ip p op down c (H.n + 4) (H.n + 1) H.n (H.n + 2) (H.n + 3) cross s ++ [itBlk H5.n ⟨[.func (.func F.ζa) #[] #[ptrV (H.n + 4),ptrV (H.n + 1),ptrV H.n,ptrV (H.n + 2),ptrV (H.n + 3)]],1,false⟩]) (fun s => ∀ q,q ∈ s.1 → q.ok) (fun _ => gl) c
  (fun s => ⟨il,o,by
   unfold stackW;rw [List.append_assoc,List.getElem?_append_left (by simpa using hll),List.getElem?_set_ne (fun h => hne h.symm)];exact hil⟩) _ _ hact [] (l,[]) hok (by simpa [List.append_assoc] using st4) hl
 have hr:runD t.m (fun _:List Pl × List Int => gl) (fun s i e => (doSt t (gl.length:Int) down cross s i e,i,i + 1)) (2 * (gl.length:Int) + 128) (2 * gl.length + 128) ((l,[]),⟨0,0,0,0⟩) = runStr t gl down cross l:=by unfold runStr; rfl
 rw [hr] at eR st5;have b0:=st4.memBlk (c:=H.n) (k:=⟨[stackV t],1,false⟩) (by unfold stackW; simp);have b1:=st4.memBlk (c:=H.n + 1) (k:=⟨[ptrV c],1,false⟩) (by unfold stackW; simp);refine ⟨H7,?_,?_⟩
 ·rw [ζi9,nrm_of];have v1:=ζu2 t;have v2:=veq_mach t.m;unfold runSt;generalize runStr t gl down cross l = r at eR ⊢;rw [hH5] at ePl eR b0 b1;have hz:keptC [0,0,0,0,0,0,0,0] 0 = [.int .i64 0,.int .i64 0,.int .i64 0,.int .i64 0,.int .i64 0,.int .i64 0,.int .i64 0,.int .i64 0,.int .i64 0]:=rfl;rw [hz] at ePl eR b0 b1;simp only [hn_push] at ePl eR;have n2:H.n + 1 + 1 = H.n + 2:=rfl;have n3:H.n + 2 + 1 = H.n + 3:=rfl;have n4:H.n + 3 + 1 = H.n + 4:=rfl;simp -implicitDefEqProofs (disch:=omega) [ζ45,n2,n3,n4,ePl,eR,v1,v2]
 ·unfold runSt;generalize runStr t gl down cross l = r at st5 ⊢;unfold stackW at st5;have:=st5.take L.length;rw [List.append_assoc,List.append_assoc,List.take_append_of_le_length (by simp),List.take_of_length_le (by simp)] at this;exact this
end Go.Sw
end
section
namespace Go.Sw
open Go.RowKit
theorem uS_fits {b:List Int} {i n x:Int} (h:uS b i n = some x):0 ≤ i ∧ i + n ≤ b.length:=by
 unfold uS pieceS at h;split at h
 ·omega
 ·simp at h
theorem ζoa (k:Nat) {vs:List Int} (hb:Byt vs) (hl:vs.length < 2 ^ 31) {p q:Nat} {e:En} (he:0 ≤ e.a ∧ e.a < 65536) {m:Value} (a22 a23 a24:Value) {H:Heap} (hp:H.get p = some ⟨[m,lv encB vs],1,false⟩) (hq:H.get q = some ⟨encEn e,1,false⟩) :
  (∃ z,loopN (ζ5j k (R (T k))) loopFuel [(5,ptrV p),(7,ptrV q),(8,.int .i64 e.a),(22,a22),(23,a23),(24,a24)] H = .ok (.exit 2,[(5,ptrV p),(7,ptrV q),(8,z),(22,a22),(23,a23),(24,a24),(43,.bool false)]) H ∧ entOdd vs e = true) ∨
  (loopN (ζ5j k (R (T k))) loopFuel [(5,ptrV p),(7,ptrV q),(8,.int .i64 e.a),(22,a22),(23,a23),(24,a24)] H = .panic failV H ∧ entOdd vs e = false):=by
 by_cases c:e.a = 65535
 ·left;have hE:entOdd vs e = true:=by unfold entOdd; rw [decide_eq_true c]; rfl
  have c':(e.a != 65535) = false:=by rw [c]; rfl
  obtain ⟨xx,e',H1,hr1,rfl,rfl,rfl⟩:=loop_up (body:=ζ5j k (R (T k))) 0
   (fun j e' H' => e' = [(5,ptrV p),(7,ptrV q),(8,.int .i64 e.a),(22,a22),(23,a23),(24,a24)] ∧ H' = H)
   (fun xx e' H' => xx = .exit 2 ∧ e' = [(5,ptrV p),(7,ptrV q),(8,.int .i64 e.a),(22,a22),(23,a23),(24,a24),(43,.bool false)] ∧ H' = H)
   (e0:=[(5,ptrV p),(7,ptrV q),(8,.int .i64 e.a),(22,a22),(23,a23),(24,a24)]) (H0:=H) ⟨rfl,rfl⟩ (by omega) (fun j e' H' hj _ => by omega)
   (fun e' H' ⟨he',hH⟩ => by
    subst he' hH;refine ⟨.exit 2,_,_,?_,by simp,rfl,rfl,rfl⟩;rw [ζ4l];simp -implicitDefEqProofs (disch:=omega) [hq,c'])
  exact ⟨_,hr1,hE⟩
 ·have c':(e.a != 65535) = true:=by rw [bne_iff_ne]; exact c
  have hU:=fun i H' => U16_run k (H:=H') (Sl.lv H' 1 vs) hb i (by omega);have hEv:entOdd vs e = oddB vs e.a:=by unfold entOdd; rw [decide_eq_false c]; rfl
  have and1:=fun H x => bin_and1 Prog 3 H x
  rcases loop_upP (body:=ζ5j k (R (T k))) vs.length
   (fun j e' H' => e' = [(5,ptrV p),(7,ptrV q),(8,.int .i64 (e.a + j)),(22,a22),(23,a23),(24,a24)] ∧ H' = H ∧ ∀ i:Nat,e.a ≤ i → (i:Int) < e.a + j → ¬ gU vs (2 * (i:Int)) 2 % 2 = 1)
   (fun xx e' H' => xx = .exit 2 ∧ (∃ z,e' = [(5,ptrV p),(7,ptrV q),(8,z),(22,a22),(23,a23),(24,a24),(43,.bool false)]) ∧ H' = H ∧ entOdd vs e = true)
   (fun v H' => v = failV ∧ H' = H ∧ entOdd vs e = false)
   (fun j e' H' hj ⟨he',hH,hno⟩ => by
    subst he' hH;cases hu:uS vs (2 * (e.a + j)) 2 with
    | none =>
     have h16:=hU (2 * (e.a + j)) H';rw [hu] at h16;refine .inr (.inr ⟨failV,H',?_,rfl,rfl,?_⟩)
     ·rw [ζ4l];simp -implicitDefEqProofs (disch:=omega) [hq,c',hp,h16,orF]
     ·rw [hEv,Bool.eq_false_iff];intro ho;obtain ⟨i,i1,i2,i3⟩:=oddB_iff.1 ho;by_cases hij:(i:Int) < e.a + j
      ·exact hno i i1 hij i3
      ·unfold uS pieceS at hu;rw [if_pos ⟨by omega,by omega,by omega,by omega⟩] at hu;simp at hu
    | some x =>
     have h16:=hU (2 * (e.a + j)) H';rw [hu] at h16;have hg:=gU_some hu;have hxb:=uS_two hb hu;by_cases d:x % 2 = 1
     ·have d':(x % 2 == 0) = false:=by rw [beq_eq_false_iff_ne]; omega
      refine .inr (.inl ⟨.exit 2,_,H',?_,by simp,rfl,⟨.int .i64 (e.a + j),rfl⟩,rfl,?_⟩)
      ·rw [ζ4l];simp -implicitDefEqProofs (disch:=omega) [hq,c',hp,h16,orF,and1,d']
      ·rw [hEv];refine oddB_iff.2 ⟨(e.a + j).toNat,by omega,?_,?_⟩
       ·have:=uS_fits hu;omega
       ·rw [show (((e.a + j).toNat:Nat):Int) = e.a + j by omega,hg];exact d
     ·have d':(x % 2 == 0) = true:=by rw [beq_iff_eq]; omega
      have hj1:e.a + ((j + 1:Nat):Int) = e.a + j + 1:=by omega
      refine .inl ⟨_,H',?_,rfl,rfl,fun i i1 i2 => ?_⟩
      ·rw [ζ4l,hj1];simp -implicitDefEqProofs (disch:=omega) [hq,c',hp,h16,orF,and1,d']
      ·by_cases hij:(i:Int) < e.a + j
       ·exact hno i i1 hij
       ·rw [show (i:Int) = e.a + j by omega,hg];omega)
   (fun e' H' ⟨he',hH,hno⟩ => by
    subst he' hH;have hu:uS vs (2 * (e.a + vs.length)) 2 = none:=by
     cases h:uS vs (2 * (e.a + vs.length)) 2 with
     | none => rfl
     | some x =>
      have:=uS_fits h;omega
    have h16:=hU (2 * (e.a + vs.length)) H';rw [hu] at h16;refine .inr ⟨failV,H',?_,rfl,rfl,?_⟩
    ·rw [ζ4l];simp -implicitDefEqProofs (disch:=omega) [hq,c',hp,h16,orF]
    ·rw [hEv,Bool.eq_false_iff];intro ho;obtain ⟨i,i1,i2,i3⟩:=oddB_iff.1 ho;exact hno i i1 (by omega) i3) loopFuel 0 [(5,ptrV p),(7,ptrV q),(8,.int .i64 e.a),(22,a22),(23,a23),(24,a24)] H (Nat.zero_le _) (by unfold loopFuel; omega) ⟨by simp,rfl,fun i i1 i2 => by omega⟩ with ⟨xx,e',H1,hr,rfl,⟨z,rfl⟩,rfl,hE⟩ | ⟨v,H1,hr,rfl,rfl,hE⟩
  ·exact .inl ⟨z,hr,hE⟩
  ·exact .inr ⟨hr,hE⟩
theorem ζo9 (k:Nat) {vs:List Int} (hb:Byt vs) (hl:vs.length < 2 ^ 31) {p:Nat} {es:List En} (hes:∀ e,e ∈ es → 0 ≤ e.a ∧ e.a < 65536) (hel:es.length < 2 ^ 40) {m:Value} {H:Heap} (hp:H.get p = some ⟨[m,lv encB vs],1,false⟩) :
  (∃ z H',loopN (ζ6w k (R (T k))) loopFuel [(5,ptrV p),(22,lv encEn es),(23,.int .i64 es.length),(24,.int .i64 0)] H = .ok (.exit 0,[(5,ptrV p),(22,lv encEn es),(23,.int .i64 es.length),(24,z),(25,.bool false)]) H' ∧ Ext H H' ∧ es.all (entOdd vs) = true) ∨
  (∃ H',loopN (ζ6w k (R (T k))) loopFuel [(5,ptrV p),(22,lv encEn es),(23,.int .i64 es.length),(24,.int .i64 0)] H = .panic failV H' ∧ Ext H H' ∧ es.all (entOdd vs) = false):=by
 rcases loop_upP (body:=ζ6w k (R (T k))) es.length
  (fun j e' H' => e' = [(5,ptrV p),(22,lv encEn es),(23,.int .i64 es.length),(24,.int .i64 j)] ∧ Ext H H' ∧ (es.take j).all (entOdd vs) = true)
  (fun xx e' H' => xx = .exit 0 ∧ (∃ z,e' = [(5,ptrV p),(22,lv encEn es),(23,.int .i64 es.length),(24,z),(25,.bool false)]) ∧ Ext H H' ∧ es.all (entOdd vs) = true)
  (fun v H' => v = failV ∧ Ext H H' ∧ es.all (entOdd vs) = false)
  (fun j e' H' hj ⟨he',hx,hall⟩ => by
   subst he';have hjl:(j:Int) < es.length:=by omega
   obtain ⟨en,hen⟩:∃ en,es[j]? = some en:=⟨_,List.getElem?_eq_getElem hj⟩
   have hmem:=List.mem_of_getElem? hen;have i1:=fun H' => ixS_lvN ζ8z es .i64 j en hen H';have hx2:Ext H (H'.push ⟨encEn en,1,false⟩):=hx.push _;rcases ζoa k hb hl (hes en hmem) (p:=p) (q:=H'.n) (m:=m) (lv encEn es) (.int .i64 es.length) (.int .i64 j) (hx2.get hp) (ζk _ _ _ rfl) with ⟨z,e2,hE⟩ | ⟨e2,hE⟩
   ·refine .inl ⟨_,_,?_,rfl,hx2,?_⟩
    ·rw [ζ8b];simp -implicitDefEqProofs (disch:=omega) [hjl,i1,e2,ζib]
    ·rw [ζ37 hen,List.all_append,hall];simp [hE]
   ·refine .inr (.inr ⟨failV,_,?_,rfl,hx2,?_⟩)
    ·rw [ζ8b];simp -implicitDefEqProofs (disch:=omega) [hjl,i1,e2]
    ·rw [Bool.eq_false_iff];intro h;have:=List.all_eq_true.1 h en hmem;rw [hE] at this;cases this)
  (fun e' H' ⟨he',hx,hall⟩ => by
   subst he';rw [List.take_length] at hall;refine .inl ⟨.exit 0,_,H',?_,by simp,rfl,⟨.int .i64 es.length,rfl⟩,hx,hall⟩;rw [ζ8b];simp -implicitDefEqProofs) loopFuel 0 [(5,ptrV p),(22,lv encEn es),(23,.int .i64 es.length),(24,.int .i64 0)] H (Nat.zero_le _) (by unfold loopFuel; omega) ⟨rfl,Ext.refl _,rfl⟩ with ⟨xx,e',H1,hr,rfl,⟨z,rfl⟩,hx,hE⟩ | ⟨v,H1,hr,rfl,hx,hE⟩
 ·exact .inl ⟨z,H1,hr,hx,hE⟩
 ·exact .inr ⟨H1,hr,hx,hE⟩
theorem ζnq (k:Nat) (hk:k < 1000000) (b:List Int) (hb:Byt b) (g:Int) (hg:1 ≤ g ∧ g ≤ 65535) (hl:b.length < 2 ^ 31) (H:Heap):R (T k) F.ζ3a [vwB b,.int .i64 g] H = orF (stackS b g) stackV H:=by
 rw [ζoc];have hx:Ext H (H.push ⟨[lv encB b],1,false⟩):=(Ext.refl H).push _;have hvb:veq (vwB b) (vwB b) = true:=veq_agg (l:=[lv encB b]) fun u hu => by simp at hu; subst hu; exact veq_B b
 refine fz_orF ?_ fun _ _ => (Flat.stack _).alive;unfold stackS;simp -implicitDefEqProofs (disch:=omega) [ζ3a];refine Cp.callT (ζns k (Sl.lv _ 1 b) hb g 1 hg.1 hg.2 (.inr (.inl rfl)) hl) (fun _ => ⟨_,by simp -implicitDefEqProofs (disch:=omega) [hvb],hx⟩) fun m hm => ?_;have hok:=machS_ok hb hg.1 hg.2 (by omega) hm;simp -implicitDefEqProofs (disch:=omega) [hvb];refine Cp.callT (U32_run k (Sl.lv _ 1 b) hb 16 (by omega)) (fun _ => ⟨_,by simp -implicitDefEqProofs (disch:=omega) [hvb],hx⟩) fun p hp => ?_;have hp:=uS_four hb hp;simp -implicitDefEqProofs (disch:=omega) [hvb];refine Cp.callT (Rest_lv k b p (by omega) (by omega) _) (fun _ => ⟨_,by simp -implicitDefEqProofs (disch:=omega) [hvb],hx⟩) fun sb hsb => ?_;have lsb:=ζai hsb;have hent:=fun H' => ζph k hk m hok.elen H';have hes:∀ e,e ∈ m.ents → 0 ≤ e.a ∧ e.a < 65536:=fun e he => by have:=hok.ent e he; omega
 have hx2:Ext H ((H.push ⟨[lv encB b],1,false⟩).push ⟨[machV m,lv encB sb],1,false⟩):=hx.push _;have hpg:((H.push ⟨[lv encB b],1,false⟩).push ⟨[machV m,lv encB sb],1,false⟩).get (H.n + 1) = some ⟨[machV m,lv encB sb],1,false⟩:=ζk _ _ _ (by simp);simp -implicitDefEqProofs (disch:=omega) [hvb,hent];rcases ζo9 k (hb.rest hsb) (by omega) hes (by have:=hok.elen; omega) hpg with ⟨z,H2,e2,hx3,hall⟩ | ⟨H2,e2,hx3,hall⟩
 ·rw [if_pos (List.all_eq_true.1 hall)];simp -implicitDefEqProofs (disch:=omega) [e2,ζia];refine .ok (hx2.trans hx3) ?_;exact ⟨_,fz_box (by omega) (hx3.get hpg) (ζ2l (v:=machV m) (u:=machV m) (L1:=[]) rfl (mapF_one (v:=lv encB sb) (u:=lv encB sb) (L:=[]) rfl))⟩
 ·rw [if_neg (fun hc => by rw [List.all_eq_true.2 hc] at hall; cases hall)];simp -implicitDefEqProofs (disch:=omega) [e2];exact ⟨H2,rfl,hx2.trans hx3⟩
end Go.Sw
end
