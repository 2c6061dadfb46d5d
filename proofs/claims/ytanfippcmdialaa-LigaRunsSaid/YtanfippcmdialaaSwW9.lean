/-
  Functions' forms, and what is proved of them, part 9.
-/
import Derived.Test.YtanfippcmdialaaSwCfg
import Derived.Test.YtanfippcmdialaaSwW2
import Derived.Test.YtanfippcmdialaaSwW8
set_option linter.unusedSimpArgs false
set_option linter.unusedVariables false
set_option linter.unusedSectionVars false
section
set_option maxRecDepth 100000
set_option linter.unusedVariables false
namespace Go.Sw
noncomputable section
def ζ2v (k:Nat) (call:Caller):Env → Heap → Res (AExit × Env):=loopB (C k) call F.ζr [1,1,1,1,1,1,1,1,0,1,0,0]
def ζ5u (k:Nat) (call:Caller):Kont Value:=kBlock 0 (kSeq (pieceK (C k) call F.ζr [1,1,1,1,1,1,1,1,1]) (kDone Prog (resOf Prog F.ζr)))
def ζr (k:Nat) (call:Caller) (a0 a1:Value) (h:Heap):Res Value :=
 (boxR a0 h).bind fun v1 h2 =>
 (call F.ζ2g [] h2).bind fun v3 h4 =>
 (unR .not v3 h4).bind fun v5 h6 =>
 condV (some v5) (
 .ok (.bool false) h6)
 (
 (loadR Prog 108 v1 h6).bind fun v7 h8 =>
 (call F.ζv [v7,a1] h8).bind fun v9 h10 =>
 (unR .not v9 h10).bind fun v11 h12 =>
 condV (some v11) (
 .ok (.bool true) h12)
 (
 (loadR Prog 108 v1 h12).bind fun v13 h14 =>
 (call F.ζc [v13] h14).bind fun v15 h16 =>
 (call F.ζ7m [v15,(.int .i64 40)] h16).bind fun v17 h18 =>
 (extractR v17 0 h18).bind fun v19 h20 =>
 (extractR v17 1 h20).bind fun v21 h22 =>
 (call F.ζ9 [v15,(.int .i64 40)] h22).bind fun v23 h24 =>
 (extractR v23 0 h24).bind fun v25 h26 =>
 (extractR v23 1 h26).bind fun v27 h28 =>
 (allocR Prog 117 h28).bind fun v29 h30 =>
 (storeR Prog 117 v29 v25 h30).bind fun _v31 h32 =>
 (unR .not v27 h32).bind fun v33 h34 =>
 condV (some v33) (
 (binR Prog .eql 33 v21 (.int .i64 2) h34).bind fun v35 h36 =>
 ((bif wantVal v35 true then Res.ok v19 h36 else Res.ok undef h36)).bind fun v37 h38 =>
 ((bif wantVal v35 true then binR Prog .eql 111 v37 (.pointer none) h38 else Res.ok undef h38)).bind fun v39 h40 =>
 (condV (some v35) (Res.ok v39 h40) (Res.ok (.bool false) h40)).bind fun v41 h42 =>
 .ok v41 h42)
 (
 (binR Prog .neq 33 v21 (.int .i64 0) h34).bind fun v43 h44 =>
 ((bif wantVal v43 false then Res.ok v19 h44 else Res.ok undef h44)).bind fun v45 h46 =>
 ((bif wantVal v43 false then binR Prog .eql 111 v45 (.pointer none) h46 else Res.ok undef h46)).bind fun v47 h48 =>
 (condV (some v43) (Res.ok (.bool true) h48) (Res.ok v47 h48)).bind fun v49 h50 =>
 condV (some v49) (
 .ok (.bool false) h50)
 (
 (builtinV Prog .len [31] [v15] h50).bind fun v51 h52 =>
 (loopN (ζ2v k call) loopFuel [(1,a1),(2,v1),(5,v15),(6,v19),(8,v29),(48,v51),(49,(.int .i64 0))] h52).bind fun r53 h54 =>
 ζ5u k call r53.1 r53.2 h54))))
theorem ζey (k:Nat) (a0 a1:Value) (h:Heap):R (T k) F.ζr [a0,a1] h = nrm .gc h (ζr k (R (T k)) a0 a1 h) :=
 (R_body (t:=T k) (T_scott k) (by kernel_rfl) (by kernel_rfl) _ _).trans (by kernel_rfl)
theorem ζ4y (k:Nat) (call:Caller) (a1 a2 a5 a6 a8 a48 a49:Value) (h:Heap):ζ2v k call [(1,a1),(2,a2),(5,a5),(6,a6),(8,a8),(48,a48),(49,a49)] h =
 (binR Prog .lss 3 a49 a48 h).bind fun v55 h56 =>
 condV (some v55) (
 (indexAddrR Prog 31 a5 a49 h56).bind fun v57 h58 =>
 (storeR Prog 5 v57 (.int .u8 170) h58).bind fun _v59 h60 =>
 (binR Prog .add 3 a49 (.int .i64 1) h60).bind fun v61 h62 =>
 .ok (.normal,[(1,a1),(2,a2),(5,a5),(6,a6),(8,a8),(48,a48),(49,v61)]) h62)
 (
 .ok ((.exit 0),[(1,a1),(2,a2),(5,a5),(6,a6),(8,a8),(48,a48),(49,a49),(50,v55)]) h56) :=
 (loopB_eq _ _).trans (by kernel_rfl)
theorem ζ9b (k:Nat) (call:Caller) (a1 a2 a5 a6 a8 a48 a49 a50:Value) (h:Heap):ζ5u k call (.exit 0) [(1,a1),(2,a2),(5,a5),(6,a6),(8,a8),(48,a48),(49,a49),(50,a50)] h =
 (call F.line_New [a1] h).bind fun v63 h64 =>
 (call F.ζ46 [a6,v63] h64).bind fun v65 h66 =>
 (loadR Prog 108 a2 h66).bind fun v67 h68 =>
 (call F.ζc [v67] h68).bind fun v69 h70 =>
 (call F.ζ9 [v69,(.int .i64 40)] h70).bind fun v71 h72 =>
 (extractR v71 0 h72).bind fun v73 h74 =>
 (extractR v71 1 h74).bind fun v75 h76 =>
 (storeR Prog 117 a8 v73 h76).bind fun _v77 h78 =>
 (loadR Prog 117 a8 h78).bindN fun v79 h80 =>
 (call F.ζ2i [a1] h80).bindT (fun p83 h84 => .panic p83 h84) fun v81 h82 =>
 (call F.ζs [v79,v81] h82).bindT (fun p87 h88 => chkR ((okVal (loadR Prog 117 a8 h82) v79 && true) && true) (.panic p87 h88)) fun v85 h86 =>
 (extractR v85 0 h86).bindN fun v89 h90 =>
 (extractR v85 1 h90).bindN fun v91 h92 =>
 chkR ((okVal (loadR Prog 117 a8 h82) v79 && true) && true) (
 (binR Prog .eql 3 v65 v91 h92).bind fun v93 h94 =>
 ((bif wantVal v93 true then Res.ok v63 h94 else Res.ok undef h94)).bind fun v95 h96 =>
 ((bif wantVal v93 true then call F.ζ38 [v95] h96 else Res.ok undef h96)).bind fun v97 h98 =>
 ((bif wantVal v93 true then Res.ok v89 h98 else Res.ok undef h98)).bind fun v99 h100 =>
 ((bif wantVal v93 true then call F.ζ1t [v97,v99] h100 else Res.ok undef h100)).bind fun v101 h102 =>
 (condV (some v93) (Res.ok v101 h102) (Res.ok (.bool false) h102)).bind fun v103 h104 =>
 .ok v103 h104):=by kernel_rfl
def ζv (k:Nat) (call:Caller) (a0 a1:Value) (h:Heap):Res Value :=
 (boxR a0 h).bind fun v1 h2 =>
 (fieldAddrR Prog 108 v1 0 h2).bind fun v3 h4 =>
 (fieldAddrR Prog 104 v3 0 h4).bind fun v5 h6 =>
 (loadR Prog 31 v5 h6).bind fun v7 h8 =>
 (builtinV Prog .len [31] [v7] h8).bind fun v9 h10 =>
 (binR Prog .leq 3 v9 (.int .i64 40) h10).bind fun v11 h12 =>
 ((bif wantVal v11 true then fieldAddrR Prog 108 v1 0 h12 else Res.ok undef h12)).bind fun v13 h14 =>
 ((bif wantVal v11 true then fieldAddrR Prog 104 v13 1 h14 else Res.ok undef h14)).bind fun v15 h16 =>
 ((bif wantVal v11 true then loadR Prog 101 v15 h16 else Res.ok undef h16)).bind fun v17 h18 =>
 ((bif wantVal v11 true then builtinV Prog .len [101] [v17] h18 else Res.ok undef h18)).bind fun v19 h20 =>
 ((bif wantVal v11 true then binR Prog .leq 3 v19 (.int .i64 20) h20 else Res.ok undef h20)).bind fun v21 h22 =>
 (condV (some v11) (Res.ok v21 h22) (Res.ok (.bool false) h22)).bind fun v23 h24 =>
 ((bif wantVal v23 true then fieldAddrR Prog 108 v1 0 h24 else Res.ok undef h24)).bind fun v25 h26 =>
 ((bif wantVal v23 true then fieldAddrR Prog 104 v25 2 h26 else Res.ok undef h26)).bind fun v27 h28 =>
 ((bif wantVal v23 true then loadR Prog 102 v27 h28 else Res.ok undef h28)).bind fun v29 h30 =>
 ((bif wantVal v23 true then builtinV Prog .len [102] [v29] h30 else Res.ok undef h30)).bind fun v31 h32 =>
 ((bif wantVal v23 true then binR Prog .leq 3 v31 (.int .i64 40) h32 else Res.ok undef h32)).bind fun v33 h34 =>
 (condV (some v23) (Res.ok v33 h34) (Res.ok (.bool false) h34)).bind fun v35 h36 =>
 ((bif wantVal v35 true then fieldAddrR Prog 108 v1 1 h36 else Res.ok undef h36)).bind fun v37 h38 =>
 ((bif wantVal v35 true then loadR Prog 105 v37 h38 else Res.ok undef h38)).bind fun v39 h40 =>
 ((bif wantVal v35 true then builtinV Prog .len [105] [v39] h40 else Res.ok undef h40)).bind fun v41 h42 =>
 ((bif wantVal v35 true then binR Prog .leq 3 v41 (.int .i64 60) h42 else Res.ok undef h42)).bind fun v43 h44 =>
 (condV (some v35) (Res.ok v43 h44) (Res.ok (.bool false) h44)).bind fun v45 h46 =>
 ((bif wantVal v45 true then fieldAddrR Prog 108 v1 2 h46 else Res.ok undef h46)).bind fun v47 h48 =>
 ((bif wantVal v45 true then loadR Prog 106 v47 h48 else Res.ok undef h48)).bind fun v49 h50 =>
 ((bif wantVal v45 true then builtinV Prog .len [106] [v49] h50 else Res.ok undef h50)).bind fun v51 h52 =>
 ((bif wantVal v45 true then binR Prog .leq 3 v51 (.int .i64 100) h52 else Res.ok undef h52)).bind fun v53 h54 =>
 (condV (some v45) (Res.ok v53 h54) (Res.ok (.bool false) h54)).bind fun v55 h56 =>
 ((bif wantVal v55 true then fieldAddrR Prog 108 v1 3 h56 else Res.ok undef h56)).bind fun v57 h58 =>
 ((bif wantVal v55 true then loadR Prog 106 v57 h58 else Res.ok undef h58)).bind fun v59 h60 =>
 ((bif wantVal v55 true then builtinV Prog .len [106] [v59] h60 else Res.ok undef h60)).bind fun v61 h62 =>
 ((bif wantVal v55 true then binR Prog .leq 3 v61 (.int .i64 100) h62 else Res.ok undef h62)).bind fun v63 h64 =>
 (condV (some v55) (Res.ok v63 h64) (Res.ok (.bool false) h64)).bind fun v65 h66 =>
 ((bif wantVal v65 true then Res.ok a1 h66 else Res.ok undef h66)).bind fun v67 h68 =>
 ((bif wantVal v65 true then builtinV Prog .len [23] [v67] h68 else Res.ok undef h68)).bind fun v69 h70 =>
 ((bif wantVal v65 true then binR Prog .leq 3 v69 (.int .i64 100) h70 else Res.ok undef h70)).bind fun v71 h72 =>
 (condV (some v65) (Res.ok v71 h72) (Res.ok (.bool false) h72)).bind fun v73 h74 =>
 .ok v73 h74
theorem ζho (k:Nat) (a0 a1:Value) (h:Heap):R (T k) F.ζv [a0,a1] h = nrm .gc h (ζv k (R (T k)) a0 a1 h) :=
 (R_body (t:=T k) (T_scott k) (by kernel_rfl) (by kernel_rfl) _ _).trans (by kernel_rfl)
def ζ3s (k:Nat) (call:Caller):Env → Heap → Res (AExit × Env):=loopB (C k) call F.ζc [1,1,1,0,1,0,0]
def ζ8b (k:Nat) (call:Caller):Kont Value:=kBlock 0 (kSeq (pieceK (C k) call F.ζc [1,1,1,1]) (kDone Prog (resOf Prog F.ζc)))
def ζ3t (k:Nat) (call:Caller):Env → Heap → Res (AExit × Env):=loopB (C k) call F.ζc [1,1,1,1,0,1,0,0]
def ζ8c (k:Nat) (call:Caller):Kont Value:=kBlock 2 (kSeq (pieceK (C k) call F.ζc [1,1,1,1,1]) (kDone Prog (resOf Prog F.ζc)))
def ζ3u (k:Nat) (call:Caller):Env → Heap → Res (AExit × Env):=loopB (C k) call F.ζc [1,1,1,1,1,0,1,0,0]
def ζ8d (k:Nat) (call:Caller):Kont Value:=kBlock 4 (kSeq (pieceK (C k) call F.ζc [1,1,1,1,1,1]) (kDone Prog (resOf Prog F.ζc)))
def ζ3v (k:Nat) (call:Caller):Env → Heap → Res (AExit × Env):=loopB (C k) call F.ζc [1,1,1,1,1,1,0,1,0,0]
def ζ8e (k:Nat) (call:Caller):Kont Value:=kBlock 6 (kSeq (pieceK (C k) call F.ζc [1,1,1,1,1,1,1]) (kDone Prog (resOf Prog F.ζc)))
def ζc (k:Nat) (call:Caller) (a0:Value) (h:Heap):Res Value :=
 (boxR a0 h).bind fun v1 h2 =>
 (fieldAddrR Prog 108 v1 0 h2).bind fun v3 h4 =>
 (loadR Prog 104 v3 h4).bind fun v5 h6 =>
 (call F.ζ1 [v5,(.int .i64 1),(.int .i64 12)] h6).bind fun v7 h8 =>
 (builtinV Prog .len [31] [v7] h8).bind fun v9 h10 =>
 (builtinV Prog .len [31] [v7] h10).bind fun v11 h12 =>
 (fieldAddrR Prog 108 v1 1 h12).bind fun v13 h14 =>
 (loadR Prog 105 v13 h14).bind fun v15 h16 =>
 (builtinV Prog .len [105] [v15] h16).bind fun v17 h18 =>
 (binR Prog .mul 3 (.int .i64 4) v17 h18).bind fun v19 h20 =>
 (binR Prog .add 3 v11 v19 h20).bind fun v21 h22 =>
 (builtinV Prog .len [31] [v7] h22).bind fun v23 h24 =>
 (fieldAddrR Prog 108 v1 1 h24).bind fun v25 h26 =>
 (loadR Prog 105 v25 h26).bind fun v27 h28 =>
 (builtinV Prog .len [105] [v27] h28).bind fun v29 h30 =>
 (binR Prog .mul 3 (.int .i64 4) v29 h30).bind fun v31 h32 =>
 (binR Prog .add 3 v23 v31 h32).bind fun v33 h34 =>
 (fieldAddrR Prog 108 v1 2 h34).bind fun v35 h36 =>
 (loadR Prog 106 v35 h36).bind fun v37 h38 =>
 (builtinV Prog .len [106] [v37] h38).bind fun v39 h40 =>
 (binR Prog .mul 3 (.int .i64 2) v39 h40).bind fun v41 h42 =>
 (binR Prog .add 3 v33 v41 h42).bind fun v43 h44 =>
 (buildR Prog 217 [(0,v9),(1,v21),(2,v43)] h44).bind fun v45 h46 =>
 (allocR Prog 217 h46).bind fun v47 h48 =>
 (storeR Prog 217 v47 v45 h48).bind fun _v49 h50 =>
 (loadR Prog 217 v47 h50).bind fun v51 h52 =>
 (loopN (ζ3s k call) loopFuel [(1,v1),(3,v7),(38,v51),(39,(.int .i64 0))] h52).bind fun r53 h54 =>
 ζ8b k call r53.1 r53.2 h54
theorem ζ9m (k:Nat) (a0:Value) (h:Heap):R (T k) F.ζc [a0] h = nrm (ownP sP17 k h.n) h (ζc k (R (T k)) a0 h) :=
 (R_body (t:=T k) (T_scott k) (by kernel_rfl) (by kernel_rfl) _ _).trans (by kernel_rfl)
theorem ζ6m (k:Nat) (call:Caller) (a1 a3 a38 a39:Value) (h:Heap):ζ3s k call [(1,a1),(3,a3),(38,a38),(39,a39)] h =
 (binR Prog .lss 3 a39 (.int .i64 3) h).bind fun v55 h56 =>
 condV (some v55) (
 (indexR Prog 217 a38 a39 h56).bind fun v57 h58 =>
 (binR Prog .mul 3 (.int .i64 4) a39 h58).bindN fun v59 h60 =>
 (binR Prog .add 3 (.int .i64 16) v59 h60).bindN fun v61 h62 =>
 (binR Prog .mul 3 (.int .i64 4) a39 h62).bindN fun v63 h64 =>
 (binR Prog .add 3 (.int .i64 20) v63 h64).bindN fun v65 h66 =>
 (sliceR Prog 31 a3 (some v61) (some v65) none h66).bindN fun v67 h68 =>
 (call F.ζ7 [(.slice none 0 0),v57,(.int .i64 4)] h68).bindT (fun p71 h72 => .panic p71 h72) fun v69 h70 =>
 (builtinV Prog .copy [31,31] [v67,v69] h70).bindN fun v73 h74 =>
 chkR ((okVal (sliceR Prog 31 a3 (some v61) (some v65) none h70) v67 && true) && true) (
 (binR Prog .add 3 a39 (.int .i64 1) h74).bind fun v75 h76 =>
 .ok (.normal,[(1,a1),(3,a3),(38,a38),(39,v75)]) h76))
 (
 .ok ((.exit 0),[(1,a1),(3,a3),(38,a38),(39,a39),(40,v55)]) h56) :=
 (loopB_eq _ _).trans (by kernel_rfl)
theorem ζb7 (k:Nat) (call:Caller) (a1 a3 a38 a39 a40:Value) (h:Heap):ζ8b k call (.exit 0) [(1,a1),(3,a3),(38,a38),(39,a39),(40,a40)] h =
 (fieldAddrR Prog 108 a1 1 h).bind fun v77 h78 =>
 (loadR Prog 105 v77 h78).bind fun v79 h80 =>
 (builtinV Prog .len [105] [v79] h80).bind fun v81 h82 =>
 (loopN (ζ3t k call) loopFuel [(1,a1),(3,a3),(56,v79),(57,v81),(58,(.int .i64 0))] h82).bind fun r83 h84 =>
 ζ8c k call r83.1 r83.2 h84:=by kernel_rfl
theorem ζ6n (k:Nat) (call:Caller) (a1 a3 a56 a57 a58:Value) (h:Heap):ζ3t k call [(1,a1),(3,a3),(56,a56),(57,a57),(58,a58)] h =
 (binR Prog .lss 3 a58 a57 h).bind fun v85 h86 =>
 condV (some v85) (
 (indexAddrR Prog 105 a56 a58 h86).bind fun v87 h88 =>
 (loadR Prog 159 v87 h88).bind fun v89 h90 =>
 (convR Prog 159 3 v89 h90).bind fun v91 h92 =>
 (call F.ζ7 [a3,v91,(.int .i64 4)] h92).bind fun v93 h94 =>
 (binR Prog .add 3 a58 (.int .i64 1) h94).bind fun v95 h96 =>
 .ok (.normal,[(1,a1),(3,v93),(56,a56),(57,a57),(58,v95)]) h96)
 (
 .ok ((.exit 2),[(1,a1),(3,a3),(56,a56),(57,a57),(58,a58),(59,v85)]) h86) :=
 (loopB_eq _ _).trans (by kernel_rfl)
theorem ζb8 (k:Nat) (call:Caller) (a1 a3 a56 a57 a58 a59:Value) (h:Heap):ζ8c k call (.exit 2) [(1,a1),(3,a3),(56,a56),(57,a57),(58,a58),(59,a59)] h =
 (fieldAddrR Prog 108 a1 2 h).bind fun v97 h98 =>
 (loadR Prog 106 v97 h98).bind fun v99 h100 =>
 (builtinV Prog .len [106] [v99] h100).bind fun v101 h102 =>
 (loopN (ζ3u k call) loopFuel [(1,a1),(3,a3),(68,v99),(69,v101),(70,(.int .i64 0))] h102).bind fun r103 h104 =>
 ζ8d k call r103.1 r103.2 h104:=by kernel_rfl
theorem ζ6o (k:Nat) (call:Caller) (a1 a3 a68 a69 a70:Value) (h:Heap):ζ3u k call [(1,a1),(3,a3),(68,a68),(69,a69),(70,a70)] h =
 (binR Prog .lss 3 a70 a69 h).bind fun v105 h106 =>
 condV (some v105) (
 (indexAddrR Prog 106 a68 a70 h106).bind fun v107 h108 =>
 (loadR Prog 80 v107 h108).bind fun v109 h110 =>
 (convR Prog 80 3 v109 h110).bind fun v111 h112 =>
 (call F.ζ7 [a3,v111,(.int .i64 2)] h112).bind fun v113 h114 =>
 (binR Prog .add 3 a70 (.int .i64 1) h114).bind fun v115 h116 =>
 .ok (.normal,[(1,a1),(3,v113),(68,a68),(69,a69),(70,v115)]) h116)
 (
 .ok ((.exit 4),[(1,a1),(3,a3),(68,a68),(69,a69),(70,a70),(71,v105)]) h106) :=
 (loopB_eq _ _).trans (by kernel_rfl)
theorem ζb9 (k:Nat) (call:Caller) (a1 a3 a68 a69 a70 a71:Value) (h:Heap):ζ8d k call (.exit 4) [(1,a1),(3,a3),(68,a68),(69,a69),(70,a70),(71,a71)] h =
 (fieldAddrR Prog 108 a1 3 h).bind fun v117 h118 =>
 (loadR Prog 106 v117 h118).bind fun v119 h120 =>
 (builtinV Prog .len [106] [v119] h120).bind fun v121 h122 =>
 (loopN (ζ3v k call) loopFuel [(3,a3),(80,v119),(81,v121),(82,(.int .i64 0))] h122).bind fun r123 h124 =>
 ζ8e k call r123.1 r123.2 h124:=by kernel_rfl
theorem ζ6p (k:Nat) (call:Caller) (a3 a80 a81 a82:Value) (h:Heap):ζ3v k call [(3,a3),(80,a80),(81,a81),(82,a82)] h =
 (binR Prog .lss 3 a82 a81 h).bind fun v125 h126 =>
 condV (some v125) (
 (indexAddrR Prog 106 a80 a82 h126).bind fun v127 h128 =>
 (loadR Prog 80 v127 h128).bind fun v129 h130 =>
 (convR Prog 80 3 v129 h130).bind fun v131 h132 =>
 (call F.ζ7 [a3,v131,(.int .i64 2)] h132).bind fun v133 h134 =>
 (binR Prog .add 3 a82 (.int .i64 1) h134).bind fun v135 h136 =>
 .ok (.normal,[(3,v133),(80,a80),(81,a81),(82,v135)]) h136)
 (
 .ok ((.exit 6),[(3,a3),(80,a80),(81,a81),(82,a82),(83,v125)]) h126) :=
 (loopB_eq _ _).trans (by kernel_rfl)
theorem ζba (k:Nat) (call:Caller) (a3 a80 a81 a82 a83:Value) (h:Heap):ζ8e k call (.exit 6) [(3,a3),(80,a80),(81,a81),(82,a82),(83,a83)] h =
 .ok a3 h:=by kernel_rfl
end
end Go.Sw
end
section
namespace Go.Sw
open Go.RowKit
abbrev encF (n:Int):List Value:=[.int .u32 n]
theorem encF_len (n:Int):(encF n).length = 1:=rfl
abbrev encH (n:Int):List Value:=[.int .u16 n]
theorem encH_len (n:Int):(encH n).length = 1:=rfl
theorem room_put (p:Plan) (w:Int) (a x r y:List Int) (h:x.length = r.length):(planRoom p w (a ++ (x ++ y))).take (16 + a.length) ++ (r ++ (planRoom p w (a ++ (x ++ y))).drop (16 + a.length + r.length)) = planRoom p w (a ++ (r ++ y)):=by
 obtain ⟨hd,tl,h16,hs⟩:=ζrf p w (a ++ (x ++ y)).length;rw [hs _ rfl,hs (a ++ (r ++ y)) (by simp [h])];rw [← h16,show hd ++ (a ++ (x ++ y) ++ tl) = (hd ++ a) ++ (x ++ (y ++ tl)) by simp,show hd.length + a.length = (hd ++ a).length by simp,List.take_left,← h];rw [show (hd ++ a) ++ (x ++ (y ++ tl)) = (hd ++ a ++ x) ++ (y ++ tl) by simp,show (hd ++ a).length + x.length = (hd ++ a ++ x).length by simp [Nat.add_assoc],List.drop_left];simp
theorem ζns (s:List Int) {j:Nat} {x:Int} (h:s[j]? = some x):twos (s.take (j + 1)) = twos (s.take j) ++ bytesOf x 2:=by rw [ζ1v h,ζmh]
theorem ζlc (s:List Int) {j:Nat} {x:Int} (h:s[j]? = some x):fours (s.take (j + 1)) = fours (s.take j) ++ bytesOf x 4:=by rw [ζ1v h,ζqw]
def ligNs (N a c:Nat):List Int:=[(N:Int),((N + 4 * a:Nat):Int),((N + 4 * a + 2 * c:Nat):Int)]
theorem ζps (N a c:Nat):ligRm N a c = fours (ligNs N a c):=by simp [ligRm,ligNs,fours]
set_option maxHeartbeats 1000000 in
theorem w17_l1 (k:Nat) {H0 H:Heap} (p:Plan) (N na nc:Nat) (hN:(planRoom p 1 (List.replicate 12 0)).length = N) (hNb:N ≤ 100000) (hna:na ≤ 1000) (hnc:nc ≤ 1000) {o:Option Nat} {s:Value} (a1:Value) (g:Star H0 H [itRow o 1 s encB (planRoom p 1 (List.replicate 12 0))]) :
  ∃ H',loopN (ζ3s k (R (T k))) loopFuel [(1,a1),(3,s),(38,.agg #[.int .i64 N,.int .i64 ((N:Int) + 4 * (na:Int)),.int .i64 ((N:Int) + 4 * (na:Int) + 2 * (nc:Int))]),(39,.int .i64 0)] H =
   .ok (.exit 0,[(1,a1),(3,s),(38,.agg #[.int .i64 N,.int .i64 ((N:Int) + 4 * (na:Int)),.int .i64 ((N:Int) + 4 * (na:Int) + 2 * (nc:Int))]),(39,.int .i64 3),(40,.bool false)]) H' ∧ Star H0 H' [itRow o 1 s encB (planRoom p 1 (ligRm N na nc))]:=by
 have hN28:28 ≤ N:=by rw [← hN]; unfold planRoom; simp; omega
 obtain ⟨xx,e',H1,hr1,rfl,rfl,g1⟩:=loop_up (body:=ζ3s k (R (T k))) 3
  (fun j e H' => e = [(1,a1),(3,s),(38,.agg #[.int .i64 N,.int .i64 ((N:Int) + 4 * (na:Int)),.int .i64 ((N:Int) + 4 * (na:Int) + 2 * (nc:Int))]),(39,.int .i64 j)] ∧ Star H0 H' [itRow o 1 s encB (planRoom p 1 (fours ((ligNs N na nc).take j) ++ List.replicate (12 - 4 * j) 0))])
  (fun xx e H' => xx = .exit 0 ∧ e = [(1,a1),(3,s),(38,.agg #[.int .i64 N,.int .i64 ((N:Int) + 4 * (na:Int)),.int .i64 ((N:Int) + 4 * (na:Int) + 2 * (nc:Int))]),(39,.int .i64 3),(40,.bool false)] ∧ Star H0 H' [itRow o 1 s encB (planRoom p 1 (ligRm N na nc))])
  (e0:=[(1,a1),(3,s),(38,.agg #[.int .i64 N,.int .i64 ((N:Int) + 4 * (na:Int)),.int .i64 ((N:Int) + 4 * (na:Int) + 2 * (nc:Int))]),(39,.int .i64 0)]) (H0:=H) ⟨rfl,by simpa [fours] using g⟩ (by omega)
  (fun j e H' hj ⟨he,g⟩ => by
   subst he;have hjl:(j:Int) < 3:=by omega
   obtain ⟨x,hx⟩:∃ x,(ligNs N na nc)[j]? = some x:=⟨_,List.getElem?_eq_getElem (by simpa [ligNs] using hj)⟩
   have hxb:0 ≤ x ∧ x < 4294967296:=by
    have:=List.mem_of_getElem? hx;have:x = (N:Int) ∨ x = ((N + 4 * na:Nat):Int) ∨ x = ((N + 4 * na + 2 * nc:Nat):Int):=by simpa [ligNs] using this
    omega
   have hal:(fours ((ligNs N na nc).take j)).length = 4 * j:=by
    rw [ζgl,List.length_take];simp only [ligNs,List.length_cons,List.length_nil];omega
   have hlen:(planRoom p 1 (fours ((ligNs N na nc).take j) ++ List.replicate (12 - 4 * j) 0)).length = N:=by
    have:=ζ8u p 1 (fours ((ligNs N na nc).take j) ++ List.replicate (12 - 4 * j) 0) (List.replicate 12 0) (by rw [List.length_append,hal]; simp; omega);rw [this,hN]
   obtain ⟨c5,rfl,hs5,cut1⟩:=g.cut1 0 rfl (16 + 4 * j) 4 (by omega) (by omega) .i64 .i64;have g:=g.more_row (Ext.refl _) (OwnO.nil encB _ 1) (fun b hb => by cases hb);simp only [List.cons_append,List.nil_append] at g;obtain ⟨t6,u6,J6,f6,g⟩:=Put_star k g 1 rfl x 4 4 rfl hxb.1 (by omega) (by omega) (by simp);simp only [List.set_cons_zero,List.set_cons_succ,List.nil_append] at g;obtain ⟨c6,h6,_,cut2⟩:=g.cut1 0 rfl (16 + 4 * j) 4 (by omega) (by omega) .i64 .i64;have h6:=Option.some.inj h6;subst h6;obtain ⟨J7,f7,g⟩:=g.copy1 0 1 rfl rfl (16 + 4 * j) 4 ((planRoom p 1 (fours ((ligNs N na nc).take j) ++ List.replicate (12 - 4 * j) 0)).length - (16 + 4 * j)) (by simp) (by omega) (by omega);simp only [List.set_cons_zero] at g;have hrep:List.replicate (12 - 4 * j) (0:Int) = List.replicate 4 0 ++ List.replicate (12 - 4 * (j + 1)) 0:=by
    rw [List.replicate_append_replicate];congr 1;omega
   have hput:=room_put p 1 (fours ((ligNs N na nc).take j)) (List.replicate 4 0) (bytesOf x 4) (List.replicate (12 - 4 * (j + 1)) 0) (by simp);rw [hal,ζel,← hrep] at hput;rw [hput,← List.append_assoc,← ζlc _ hx] at g;have g0:=g.take 1;simp only [List.take_succ_cons,List.take_zero] at g0;have hv5:veq (.slice (some ⟨c5,16 + 4 * j,none⟩) 4 ((planRoom p 1 (fours ((ligNs N na nc).take j) ++ List.replicate (12 - 4 * j) 0)).length - (16 + 4 * j))) (.slice (some ⟨c5,16 + 4 * j,none⟩) 4 ((planRoom p 1 (fours ((ligNs N na nc).take j) ++ List.replicate (12 - 4 * j) 0)).length - (16 + 4 * j))) = true:=by simp
   generalize (planRoom p 1 (fours ((ligNs N na nc).take j) ++ List.replicate (12 - 4 * j) 0)).length - (16 + 4 * j) = cap at cut1 cut2 f7 hv5;have e16:((16 + 4 * j:Nat):Int) = 16 + 4 * (j:Int):=by omega
   have e20:((16 + 4 * j + 4:Nat):Int) = 20 + 4 * (j:Int):=by omega
   rw [e16,e20] at cut1 cut2;refine .inl ⟨_,J7,?_,rfl,g0⟩;rw [ζ6m];have hget:#[Value.int .i64 N,Value.int .i64 ((N:Int) + 4 * (na:Int)),Value.int .i64 ((N:Int) + 4 * (na:Int) + 2 * (nc:Int))][j]? = some (.int .i64 x):=by
    have h3:j = 0 ∨ j = 1 ∨ j = 2:=by omega
    rcases h3 with rfl | rfl | rfl
    ·have:(N:Int) = x:=by simpa [ligNs] using hx
     rw [← this]; rfl
    ·have:(N:Int) + 4 * (na:Int) = x:=by simpa [ligNs] using hx
     rw [← this]; rfl
    ·have:(N:Int) + 4 * (na:Int) + 2 * (nc:Int) = x:=by simpa [ligNs] using hx
     rw [← this]; rfl
   have i0:=fun H' => iv1_get (k:=.i64) (len:=3) hj hget H';have hj1:((j + 1:Nat):Int) = (j:Int) + 1:=rfl;obtain ⟨V,hV⟩:∃ V,V = Value.agg #[.int .i64 N,.int .i64 ((N:Int) + 4 * (na:Int)),.int .i64 ((N:Int) + 4 * (na:Int) + 2 * (nc:Int))]:=⟨_,rfl⟩
   rw [← hV] at i0 ⊢;rw [hj1];simp -implicitDefEqProofs (disch:=omega) [hjl,i0,cut1,f6,cut2,f7,hv5])
  (fun e H' ⟨he,g⟩ => by
   subst he;refine ⟨.exit 0,_,H',?_,by simp,rfl,rfl,?_⟩
   ·rw [ζ6m];simp -implicitDefEqProofs
   ·rw [ζps];simpa [ligNs] using g)
 exact ⟨H1,hr1,g1⟩
theorem w17_l2 (k:Nat) {H0 H:Heap} {o:Option Nat} {s7:Value} {lk:List Int} (a1:Value) (g:Star H0 H [itRow o 1 s7 encB lk]) {v:Value} {s:List Int} (hv:Sl H0 1 v encF s) (hb:∀ x,x ∈ s → 0 ≤ x ∧ x < 4294967296) (hl:lk.length + 4 * s.length < 2 ^ 29) :
  ∃ s' o' zz H',loopN (ζ3t k (R (T k))) loopFuel [(1,a1),(3,s7),(56,v),(57,.int .i64 s.length),(58,.int .i64 0)] H =
   .ok (.exit 2,[(1,a1),(3,s'),(56,v),(57,.int .i64 s.length),(58,zz),(59,.bool false)]) H' ∧ Star H0 H' [itRow o' 1 s' encB (lk ++ fours s)]:=by
 obtain ⟨xx,e',H1,hr1,rfl,s',o',rfl,g1⟩:=loop_up (body:=ζ3t k (R (T k))) s.length
  (fun j e H' => ∃ s' o',e = [(1,a1),(3,s'),(56,v),(57,.int .i64 s.length),(58,.int .i64 j)] ∧ Star H0 H' [itRow o' 1 s' encB (lk ++ fours (s.take j))])
  (fun xx e H' => xx = .exit 2 ∧ ∃ s' o',e = [(1,a1),(3,s'),(56,v),(57,.int .i64 s.length),(58,.int .i64 s.length),(59,.bool false)] ∧ Star H0 H' [itRow o' 1 s' encB (lk ++ fours s)])
  (e0:=[(1,a1),(3,s7),(56,v),(57,.int .i64 s.length),(58,.int .i64 0)]) (H0:=H) ⟨s7,o,rfl,by simpa [fours] using g⟩ (by omega)
  (fun j e H' hj ⟨s',o',he,g⟩ => by
   subst he;have hjl:(j:Int) < s.length:=by omega
   obtain ⟨x,hx⟩:∃ x,s[j]? = some x:=⟨_,List.getElem?_eq_getElem hj⟩
   have hxb:=hb x (List.mem_of_getElem? hx);obtain ⟨p,i1,i2⟩:=hv.ix1 encF_len j x hx _ rfl;have i2:=i2 H' g.ext;obtain ⟨s2,o2,H2,e2,g2⟩:=Put_star k g 0 rfl x 4 4 rfl hxb.1 (by omega) (by omega) (by rw [List.length_append,ζgl,List.length_take]; omega);simp only [List.set_cons_zero] at g2;rw [List.append_assoc,← ζlc _ hx] at g2;have hw64:IntKind.i64.wrap x = x:=wrap_i64 (by omega) (by omega);refine .inl ⟨_,H2,?_,s2,o2,rfl,g2⟩;rw [ζ6n];simp -implicitDefEqProofs (disch:=omega) [hjl,i1,i2,hw64,e2])
  (fun e H' ⟨s',o',he,g⟩ => by
   subst he;rw [List.take_length] at g;refine ⟨.exit 2,_,H',?_,by simp,rfl,s',o',rfl,g⟩;rw [ζ6n];simp -implicitDefEqProofs)
 exact ⟨s',o',_,H1,hr1,g1⟩
theorem w17_l3 (k:Nat) {H0 H:Heap} {o:Option Nat} {s7:Value} {lk:List Int} (a1:Value) (g:Star H0 H [itRow o 1 s7 encB lk]) {v:Value} {s:List Int} (hv:Sl H0 1 v encH s) (hb:∀ x,x ∈ s → 0 ≤ x ∧ x < 65536) (hl:lk.length + 2 * s.length < 2 ^ 29) :
  ∃ s' o' zz H',loopN (ζ3u k (R (T k))) loopFuel [(1,a1),(3,s7),(68,v),(69,.int .i64 s.length),(70,.int .i64 0)] H =
   .ok (.exit 4,[(1,a1),(3,s'),(68,v),(69,.int .i64 s.length),(70,zz),(71,.bool false)]) H' ∧ Star H0 H' [itRow o' 1 s' encB (lk ++ twos s)]:=by
 obtain ⟨xx,e',H1,hr1,rfl,s',o',rfl,g1⟩:=loop_up (body:=ζ3u k (R (T k))) s.length
  (fun j e H' => ∃ s' o',e = [(1,a1),(3,s'),(68,v),(69,.int .i64 s.length),(70,.int .i64 j)] ∧ Star H0 H' [itRow o' 1 s' encB (lk ++ twos (s.take j))])
  (fun xx e H' => xx = .exit 4 ∧ ∃ s' o',e = [(1,a1),(3,s'),(68,v),(69,.int .i64 s.length),(70,.int .i64 s.length),(71,.bool false)] ∧ Star H0 H' [itRow o' 1 s' encB (lk ++ twos s)])
  (e0:=[(1,a1),(3,s7),(68,v),(69,.int .i64 s.length),(70,.int .i64 0)]) (H0:=H) ⟨s7,o,rfl,by simpa [twos] using g⟩ (by omega)
  (fun j e H' hj ⟨s',o',he,g⟩ => by
   subst he;have hjl:(j:Int) < s.length:=by omega
   obtain ⟨x,hx⟩:∃ x,s[j]? = some x:=⟨_,List.getElem?_eq_getElem hj⟩
   have hxb:=hb x (List.mem_of_getElem? hx);obtain ⟨p,i1,i2⟩:=hv.ix1 encH_len j x hx _ rfl;have i2:=i2 H' g.ext;obtain ⟨s2,o2,H2,e2,g2⟩:=Put_star k g 0 rfl x 2 2 rfl hxb.1 (by omega) (by omega) (by rw [List.length_append,twos_len,List.length_take]; omega);simp only [List.set_cons_zero] at g2;rw [List.append_assoc,← ζns _ hx] at g2;have hw64:IntKind.i64.wrap x = x:=wrap_i64 (by omega) (by omega);refine .inl ⟨_,H2,?_,s2,o2,rfl,g2⟩;rw [ζ6o];simp -implicitDefEqProofs (disch:=omega) [hjl,i1,i2,hw64,e2])
  (fun e H' ⟨s',o',he,g⟩ => by
   subst he;rw [List.take_length] at g;refine ⟨.exit 4,_,H',?_,by simp,rfl,s',o',rfl,g⟩;rw [ζ6o];simp -implicitDefEqProofs)
 exact ⟨s',o',_,H1,hr1,g1⟩
theorem w17_l4 (k:Nat) {H0 H:Heap} {o:Option Nat} {s7:Value} {lk:List Int} (g:Star H0 H [itRow o 1 s7 encB lk]) {v:Value} {s:List Int} (hv:Sl H0 1 v encH s) (hb:∀ x,x ∈ s → 0 ≤ x ∧ x < 65536) (hl:lk.length + 2 * s.length < 2 ^ 29) :
  ∃ s' o' zz H',loopN (ζ3v k (R (T k))) loopFuel [(3,s7),(80,v),(81,.int .i64 s.length),(82,.int .i64 0)] H =
   .ok (.exit 6,[(3,s'),(80,v),(81,.int .i64 s.length),(82,zz),(83,.bool false)]) H' ∧ Star H0 H' [itRow o' 1 s' encB (lk ++ twos s)]:=by
 obtain ⟨xx,e',H1,hr1,rfl,s',o',rfl,g1⟩:=loop_up (body:=ζ3v k (R (T k))) s.length
  (fun j e H' => ∃ s' o',e = [(3,s'),(80,v),(81,.int .i64 s.length),(82,.int .i64 j)] ∧ Star H0 H' [itRow o' 1 s' encB (lk ++ twos (s.take j))])
  (fun xx e H' => xx = .exit 6 ∧ ∃ s' o',e = [(3,s'),(80,v),(81,.int .i64 s.length),(82,.int .i64 s.length),(83,.bool false)] ∧ Star H0 H' [itRow o' 1 s' encB (lk ++ twos s)])
  (e0:=[(3,s7),(80,v),(81,.int .i64 s.length),(82,.int .i64 0)]) (H0:=H) ⟨s7,o,rfl,by simpa [twos] using g⟩ (by omega)
  (fun j e H' hj ⟨s',o',he,g⟩ => by
   subst he;have hjl:(j:Int) < s.length:=by omega
   obtain ⟨x,hx⟩:∃ x,s[j]? = some x:=⟨_,List.getElem?_eq_getElem hj⟩
   have hxb:=hb x (List.mem_of_getElem? hx);obtain ⟨p,i1,i2⟩:=hv.ix1 encH_len j x hx _ rfl;have i2:=i2 H' g.ext;obtain ⟨s2,o2,H2,e2,g2⟩:=Put_star k g 0 rfl x 2 2 rfl hxb.1 (by omega) (by omega) (by rw [List.length_append,twos_len,List.length_take]; omega);simp only [List.set_cons_zero] at g2;rw [List.append_assoc,← ζns _ hx] at g2;have hw64:IntKind.i64.wrap x = x:=wrap_i64 (by omega) (by omega);refine .inl ⟨_,H2,?_,s2,o2,rfl,g2⟩;rw [ζ6p];simp -implicitDefEqProofs (disch:=omega) [hjl,i1,i2,hw64,e2])
  (fun e H' ⟨s',o',he,g⟩ => by
   subst he;rw [List.take_length] at g;refine ⟨.exit 6,_,H',?_,by simp,rfl,s',o',rfl,g⟩;rw [ζ6p];simp -implicitDefEqProofs)
 exact ⟨s',o',_,H1,hr1,g1⟩
structure LPlan where
 p:Plan
 acts:List Int
 comps:List Int
 ligs:List Int
structure LPlan.ok (x:LPlan):Prop where
 p:x.p.ok
 acts:∀ n,n ∈ x.acts → 0 ≤ n ∧ n < 4294967296
 comps:∀ n,n ∈ x.comps → 0 ≤ n ∧ n < 65536
 ligs:∀ n,n ∈ x.ligs → 0 ≤ n ∧ n < 65536
set_option maxRecDepth 20000 in
set_option maxHeartbeats 2000000 in
theorem ζkl (k:Nat) (hW:ownW k = .no) (x:LPlan) (hx:x.ok) (h1:x.p.cls.length ≤ 1000) (h2:x.p.rows.length ≤ 1000) (h3:x.p.ents.length ≤ 1000) (h4:x.acts.length ≤ 1000) (h5:x.comps.length ≤ 1000) (h6:x.ligs.length ≤ 1000) {H:Heap} {vC vR sE:Value} {rv:List (List Int × Value)} (hP:PlanSl H x.p vC vR sE rv)
  {vA vB vL:Value} (hA:Sl H 1 vA encF x.acts) (hB:Sl H 1 vB encH x.comps) (hL:Sl H 1 vL encH x.ligs) :
  ∃ s o H',ζc k (R (T k)) (.agg #[vC,vR,sE,.int .u8 x.p.wide,vA,vB,vL]) H = .ok s H' ∧ Star H H' [itRow o 1 s encB (ligB x.p x.acts x.comps x.ligs)]:=by
 obtain ⟨H1,hH1⟩:∃ H1,H1 = H.push ⟨[vC,vR,sE,.int .u8 x.p.wide,vA,vB,vL],1,false⟩:=⟨_,rfl⟩
 have hx1:Ext H H1:=by rw [hH1]; exact (Ext.refl H).push _
 have hg1:H1.get H.n = some ⟨[vC,vR,sE,.int .u8 x.p.wide,vA,vB,vL],1,false⟩:=by rw [hH1]; exact ζe _ _ _ rfl
 obtain ⟨N,hN⟩:∃ N,(planRoom x.p 1 (List.replicate 12 0)).length = N:=⟨_,rfl⟩
 have hNb:N ≤ 100000:=by rw [← hN]; exact ζjw hx.p 1 (by simp) h1 h2 h3
 obtain ⟨s0,o0,J0,e0,g,gx0⟩:=ζpg k hW x.p hx.p 1 (by omega) 12 (by omega) h1 h2 h3 (Star.nil H1) (hP.up hx1);rw [ζmd] at g;simp only [List.nil_append] at g;have hln0:∀ H',lnS s0 H' = .ok (.int .i64 N) H':=by rw [← hN]; exact (g.row 0 rfl).len
 have hlnA:∀ H',lnS vA H' = .ok (.int .i64 x.acts.length) H':=fun H' => hA.len H';have hlnB:∀ H',lnS vB H' = .ok (.int .i64 x.comps.length) H':=fun H' => hB.len H';have hlnL:∀ H',lnS vL H' = .ok (.int .i64 x.ligs.length) H':=fun H' => hL.len H';have gk:=gx0.get hg1;have hnk:¬ H.n = J0.n:=by have:=Heap.get_lt gk; omega
 have gR:=g.rest ((Ext.refl J0).push ⟨[.int .i64 N,.int .i64 ((N:Int) + 4 * (x.acts.length:Int)),.int .i64 ((N:Int) + 4 * (x.acts.length:Int) + 2 * (x.comps.length:Int))],1,false⟩);obtain ⟨K1,f1,gK⟩:=w17_l1 k x.p N x.acts.length x.comps.length hN hNb h4 h5 (ptrV H.n) gR;have hrl:(planRoom x.p 1 (ligRm N x.acts.length x.comps.length)).length = N:=by rw [← hN]; exact ζ8u x.p 1 _ _ (by rw [ζm2]; simp)
 have gk1:=gK.ext.get hg1;obtain ⟨s2,o2,z2,K2,f2,gK2⟩:=w17_l2 k (ptrV H.n) gK (hA.up hx1) hx.acts (by rw [hrl]; omega);have gk2:=gK2.ext.get hg1;obtain ⟨s3,o3,z3,K3,f3,gK3⟩:=w17_l3 k (ptrV H.n) gK2 (hB.up hx1) hx.comps (by rw [List.length_append,hrl,ζgl]; omega);have gk3:=gK3.ext.get hg1;obtain ⟨s4,o4,z4,K4,f4,gK4⟩:=w17_l4 k gK3 (hL.up hx1) hx.ligs (by rw [List.length_append,List.length_append,hrl,ζgl,twos_len]; omega);have hfin:planRoom x.p 1 (ligRm N x.acts.length x.comps.length) ++ fours x.acts ++ twos x.comps ++ twos x.ligs = ligB x.p x.acts x.comps x.ligs:=by
  unfold ligB ligN;rw [hN];simp only [List.append_assoc]
 rw [hfin] at gK4;have hpos:0 < (ligB x.p x.acts x.comps x.ligs).length:=by
  rw [← hfin,List.length_append,List.length_append,List.length_append,hrl];have:28 ≤ N:=by rw [← hN]; unfold planRoom; simp; omega
  omega
 refine ⟨s4,o4,K4,?_,?_⟩;rotate_left
 ·have ho:=(gK4.own 0 rfl).base hx1.n;obtain ⟨o5,ho5,hlt⟩:=ho.toO;have hst:Star H K4 ([] ++ [itRow o5 1 s4 encB (ligB x.p x.acts x.comps x.ligs)]):=(Star.nil H).more_row (hx1.trans gK4.ext) ho5 fun b hb => ⟨hlt b hb,ho5.lt b hb⟩
  have h7:o5 = o4:=by
   have hr:=gK4.row 0 rfl;rcases hr with ⟨r1,r2,r3⟩ | ⟨b,r1,r2,r3⟩
   ·exfalso;rw [r2] at hpos;simp at hpos
   ·rcases ho5 with ⟨q1,q2,q3⟩ | ⟨b2,q1,q2,q3⟩
    ·exfalso;rw [q2] at hpos;simp at hpos
    ·rw [r1,q1];rw [r2] at q2;injection q2 with q2;injection q2 with q2;injection q2 with q2;rw [q2]
  subst h7;simpa using hst
 rw [hH1] at e0;have e0:R (T k) F.ζ1 [.agg #[vC,vR,sE,.int .u8 x.p.wide],.int .i64 1,.int .i64 12] (H.push ⟨[vC,vR,sE,.int .u8 x.p.wide,vA,vB,vL],1,false⟩) = .ok s0 J0:=e0;simp -implicitDefEqProofs (disch:=omega) [ζc,e0,hln0,gk,hnk,hlnA,hlnB,hlnL,f1,ζb7,gk1,f2,ζb8,gk2,f3,ζb9,gk3,f4,ζba]
theorem ζrs (k:Nat) {H:Heap} (hP0:ownP sP17 k H.n = .fz) (hW:ownW k = .no) (x:LPlan) (hx:x.ok) (h1:x.p.cls.length ≤ 1000) (h2:x.p.rows.length ≤ 1000) (h3:x.p.ents.length ≤ 1000) (h4:x.acts.length ≤ 1000) (h5:x.comps.length ≤ 1000) (h6:x.ligs.length ≤ 1000) {vC vR sE:Value} {rv:List (List Int × Value)} (hP:PlanSl H x.p vC vR sE rv)
  {vA vB vL:Value} (hA:Sl H 1 vA encF x.acts) (hB:Sl H 1 vB encH x.comps) (hL:Sl H 1 vL encH x.ligs) :
  R (T k) F.ζc [.agg #[vC,vR,sE,.int .u8 x.p.wide,vA,vB,vL]] H = .ok (lv encB (ligB x.p x.acts x.comps x.ligs)) H:=by
 obtain ⟨s,o,H',e,g⟩:=ζkl k hW x hx h1 h2 h3 h4 h5 h6 hP hA hB hL;rw [ζ9m];rw [hP0];obtain ⟨L,hf⟩:=(g.own 0 rfl).freeze encB_len (fun n _ v hv => by simp at hv; subst hv; trivial) 6;exact nrm_fz (v:=s) (H':=H') e hf g.ext (Flat.B _).alive
theorem ζqh (k:Nat) {H0 H:Heap} (hP0:ownP sP17 k H.n = .no) (hW:ownW k = .no) (x:LPlan) (hx:x.ok) (h1:x.p.cls.length ≤ 1000) (h2:x.p.rows.length ≤ 1000) (h3:x.p.ents.length ≤ 1000) (h4:x.acts.length ≤ 1000) (h5:x.comps.length ≤ 1000) (h6:x.ligs.length ≤ 1000) {L:List It} (st:Star H0 H L) {vC vR sE:Value} {rv:List (List Int × Value)} (hP:PlanSl H x.p vC vR sE rv)
  {vA vB vL:Value} (hA:Sl H 1 vA encF x.acts) (hB:Sl H 1 vB encH x.comps) (hL:Sl H 1 vL encH x.ligs) :
  ∃ s o H',R (T k) F.ζc [.agg #[vC,vR,sE,.int .u8 x.p.wide,vA,vB,vL]] H = .ok s H' ∧ Star H0 H' (L ++ [itRow o 1 s encB (ligB x.p x.acts x.comps x.ligs)]):=by
 obtain ⟨s,o,H',e,g⟩:=ζkl k hW x hx h1 h2 h3 h4 h5 h6 hP hA hB hL;rw [ζ9m,hP0];obtain ⟨o',g'⟩:=st.more_own (g.own 0 rfl) g.ext;exact ⟨s,o',H',nrm_of e,g'⟩
abbrev lplC (x:LPlan):List Value:=[lv encB x.p.cls,lv encBR x.p.rows,lv encEn x.p.ents,.int .u8 x.p.wide,lv encF x.acts,lv encH x.comps,lv encH x.ligs]
abbrev lplV (x:LPlan):Value:=.agg (lplC x).toArray
def LSmall (x:LPlan) (n:Nat):Prop:=x.p.cls.length ≤ 40 ∧ x.p.rows.length ≤ 20 ∧ x.p.ents.length ≤ 40 ∧ x.acts.length ≤ 60 ∧ x.comps.length ≤ 100 ∧ x.ligs.length ≤ 100 ∧ n ≤ 100
instance (x:LPlan) (n:Nat):Decidable (LSmall x n):=by unfold LSmall; exact inferInstance
theorem ζo8 (k:Nat) (hk:k % 1000000 = F.ζ2g) (H:Heap):R (T k) F.ζ2g [] H = .ok (.bool true) H :=
 (R_sp (t:=T k) (T_scott k) (s:=constSp (.bool true)) (by unfold T C; dsimp only; rw [hk]; kernel_rfl) [] H).trans (nrm_gc (Pure.of rfl) (.bool _))
theorem ζqb (k:Nat) (x:LPlan) (ids:List Int) (H:Heap):R (T k) F.ζv [lplV x,lv encI ids] H = .ok (.bool (decide (LSmall x ids.length))) H:=by
 rw [ζho];refine nrm_gc ⟨_,?_,(Ext.refl H).push ⟨lplC x,1,false⟩⟩ (.bool _);unfold LSmall;by_cases h1:x.p.cls.length ≤ 40
 ·have h1':(x.p.cls.length:Int) ≤ 40:=by omega
  by_cases h2:x.p.rows.length ≤ 20
  ·have h2':(x.p.rows.length:Int) ≤ 20:=by omega
   by_cases h3:x.p.ents.length ≤ 40
   ·have h3':(x.p.ents.length:Int) ≤ 40:=by omega
    by_cases h4:x.acts.length ≤ 60
    ·have h4':(x.acts.length:Int) ≤ 60:=by omega
     by_cases h5:x.comps.length ≤ 100
     ·have h5':(x.comps.length:Int) ≤ 100:=by omega
      by_cases h6:x.ligs.length ≤ 100
      ·have h6':(x.ligs.length:Int) ≤ 100:=by omega
       by_cases h7:ids.length ≤ 100
       ·have h7':(ids.length:Int) ≤ 100:=by omega
        simp -implicitDefEqProofs [ζv,h1,h2,h3,h4,h5,h6,h7,h1',h2',h3',h4',h5',h6',h7']
       ·have h7':¬ (ids.length:Int) ≤ 100:=by omega
        simp -implicitDefEqProofs [ζv,h1,h2,h3,h4,h5,h6,h7,h1',h2',h3',h4',h5',h6',h7']
      ·have h6':¬ (x.ligs.length:Int) ≤ 100:=by omega
       simp -implicitDefEqProofs [ζv,h1,h2,h3,h4,h5,h6,h1',h2',h3',h4',h5',h6']
     ·have h5':¬ (x.comps.length:Int) ≤ 100:=by omega
      simp -implicitDefEqProofs [ζv,h1,h2,h3,h4,h5,h1',h2',h3',h4',h5']
    ·have h4':¬ (x.acts.length:Int) ≤ 60:=by omega
     simp -implicitDefEqProofs [ζv,h1,h2,h3,h4,h1',h2',h3',h4']
   ·have h3':¬ (x.p.ents.length:Int) ≤ 40:=by omega
    simp -implicitDefEqProofs [ζv,h1,h2,h3,h1',h2',h3']
  ·have h2':¬ (x.p.rows.length:Int) ≤ 20:=by omega
   simp -implicitDefEqProofs [ζv,h1,h2,h1',h2']
 ·have h1':¬ (x.p.cls.length:Int) ≤ 40:=by omega
  simp -implicitDefEqProofs [ζv,h1,h1']
end Go.Sw
end
section
namespace Go.Sw
open Go.RowKit
theorem uS_fits {b:List Int} {i n x:Int} (h:uS b i n = some x):0 ≤ i ∧ i + n ≤ b.length:=by
 unfold uS pieceS at h;split at h
 ·omega
 ·simp at h
end Go.Sw
end
section
set_option maxRecDepth 100000
set_option linter.unusedVariables false
namespace Go.Sw
noncomputable section
def ζ7m (k:Nat) (call:Caller) (a0 a1:Value) (h:Heap):Res Value :=
 (boxR a1 h).bind fun v1 h2 =>
 (allocR Prog 111 h2).bind fun v3 h4 =>
 (loadR Prog 3 v1 h4).bind fun v5 h6 =>
 (binR Prog .lss 3 v5 (.int .i64 1) h6).bind fun v7 h8 =>
 ((bif wantVal v7 false then loadR Prog 3 v1 h8 else Res.ok undef h8)).bind fun v9 h10 =>
 ((bif wantVal v7 false then binR Prog .gtr 3 v9 (.int .i64 65535) h10 else Res.ok undef h10)).bind fun v11 h12 =>
 (condV (some v7) (Res.ok (.bool true) h12) (Res.ok v11 h12)).bind fun v13 h14 =>
 condV (some v13) (
 (storeR Prog 111 v3 (.pointer none) h14).bind fun _v15 h16 =>
 (loadR Prog 111 v3 h16).bind fun v17 h18 =>
 .ok (.tuple #[v17,(.int .i64 1)]) h18)
 (
 (call F.view_Of [a0] h14).bind fun v19 h20 =>
 (call F.ζ3o [v19] h20).bind fun v21 h22 =>
 (call F.view_Of [v21] h22).bind fun v23 h24 =>
 (allocR Prog 75 h24).bind fun v25 h26 =>
 (storeR Prog 75 v25 v23 h26).bind fun _v27 h28 =>
 (call F.view_Try [(.func (.func F.ζ2s) #[] #[v25,v1,v3])] h28).bind fun v29 h30 =>
 (unR .not v29 h30).bind fun v31 h32 =>
 condV (some v31) (
 (storeR Prog 111 v3 (.pointer none) h32).bind fun _v33 h34 =>
 (loadR Prog 111 v3 h34).bind fun v35 h36 =>
 .ok (.tuple #[v35,(.int .i64 2)]) h36)
 (
 (loadR Prog 111 v3 h32).bind fun v37 h38 =>
 (storeR Prog 111 v3 v37 h38).bind fun _v39 h40 =>
 (loadR Prog 111 v3 h40).bind fun v41 h42 =>
 .ok (.tuple #[v41,(.int .i64 0)]) h42))
theorem ζpw (k:Nat) (a0 a1:Value) (h:Heap):R (T k) F.ζ7m [a0,a1] h = nrm .fz h (ζ7m k (R (T k)) a0 a1 h) :=
 (R_body (t:=T k) (T_scott k) (by kernel_rfl) (by kernel_rfl) _ _).trans (by kernel_rfl)
def ζ46 (k:Nat) (call:Caller) (a0 a1:Value) (h:Heap):Res Value :=
 (boxR a0 h).bind fun v1 h2 =>
 (boxR a1 h2).bind fun v3 h4 =>
 (allocR Prog 225 h4).bind fun v5 h6 =>
 (loadR Prog 111 v1 h6).bindN fun v7 h8 =>
 (nilR v7 h8).bindN fun v9 h10 =>
 (fieldAddrR Prog 227 v9 0 h10).bindN fun v11 h12 =>
 (loadR Prog 196 v11 h12).bindN fun v13 h14 =>
 (loadR Prog 25 v3 h14).bindN fun v15 h16 =>
 (call F.ζ5v [(.func (.func F.ζj) #[] #[v3,v5,v1])] h16).bindT (fun p19 h20 => .panic p19 h20) fun v17 h18 =>
 (call F.ζ51 [v13,v15,v17] h18).bindT (fun p23 h24 => chkR ((okVal (loadR Prog 111 v1 h18) v7 && true) && ((okVal (loadR Prog 196 v11 h18) v13 && true) && ((okVal (loadR Prog 25 v3 h18) v15 && true) && true))) (.panic p23 h24)) fun v21 h22 =>
 (extractR v21 0 h22).bindN fun v25 h26 =>
 (extractR v21 1 h26).bindN fun v27 h28 =>
 chkR ((okVal (loadR Prog 111 v1 h18) v7 && true) && ((okVal (loadR Prog 196 v11 h18) v13 && true) && ((okVal (loadR Prog 25 v3 h18) v15 && true) && true))) (
 .ok v27 h28)
theorem ζje (k:Nat) (a0 a1:Value) (h:Heap):R (T k) F.ζ46 [a0,a1] h = nrm .no h (ζ46 k (R (T k)) a0 a1 h) :=
 (R_body (t:=T k) (T_scott k) (by kernel_rfl) (by kernel_rfl) _ _).trans (by kernel_rfl)
def ζ2s (k:Nat) (call:Caller) (a0 a1 a2:Value) (h:Heap):Res Value :=
 (loadR Prog 75 a0 h).bind fun v1 h2 =>
 (loadR Prog 3 a1 h2).bind fun v3 h4 =>
 (call F.ζ2p [v1,v3] h4).bind fun v5 h6 =>
 (storeR Prog 111 a2 v5 h6).bind fun _v7 h8 =>
 .ok (.tuple #[]) h8
theorem ζkp (k:Nat) (a0 a1 a2:Value) (h:Heap):R (T k) F.ζ2s [a0,a1,a2] h = nrm .no h (ζ2s k (R (T k)) a0 a1 a2 h) :=
 (R_body (t:=T k) (T_scott k) (by kernel_rfl) (by kernel_rfl) _ _).trans (by kernel_rfl)
def ζ7u (k:Nat) (call:Caller):Env → Heap → Res (AExit × Env):=loopB (C k) call F.ζ2p [1,1,0,1,0,0]
def ζhw (k:Nat) (call:Caller):Kont Value:=kBlock 0 (kSeq (pieceK (C k) call F.ζ2p [1,1,1]) (kDone Prog (resOf Prog F.ζ2p)))
def ζjf (k:Nat) (call:Caller) (a5 a7 a30 a31 a32 a39:Value) (h:Heap):Res (AExit × Env) :=
 kSeq (pieceK (C k) call F.ζ2p [1,1,0,1,0,0,1,1,1]) (kRound (ownOf (C k) F.ζ2p [1,1,0,1,0,0])) .normal [(5,a5),(7,a7),(30,a30),(31,a31),(32,a32),(39,a39)] h
def ζ7v (k:Nat) (call:Caller):Env → Heap → Res (AExit × Env):=loopB (C k) call F.ζ2p [1,1,0,1,0,0,1,1,0,0,1,1,0,1,0,0]
def ζhx (k:Nat) (call:Caller):Kont (AExit × Env):=kBlock 2 (kBlock 1 (kSeq (pieceK (C k) call F.ζ2p [1,1,0,1,0,0,1,1,1]) (kRound (ownOf (C k) F.ζ2p [1,1,0,1,0,0]))))
def ζjg (k:Nat) (call:Caller) (a5 a8 a30 a31 a32 a50:Value) (h:Heap):Res (AExit × Env) :=
 kSeq (pieceK (C k) call F.ζ2p [1,1,0,1,0,0,1,1,1]) (kRound (ownOf (C k) F.ζ2p [1,1,0,1,0,0])) .normal [(5,a5),(8,a8),(30,a30),(31,a31),(32,a32),(50,a50)] h
def ζ2p (k:Nat) (call:Caller) (a0 a1:Value) (h:Heap):Res Value :=
 (boxR a0 h).bind fun v1 h2 =>
 (loadR Prog 75 v1 h2).bindN fun v3 h4 =>
 (call F.ζ2t [v3,a1,(.int .i64 1)] h4).bindT (fun p7 h8 => (loadR Prog 75 v1 h4).bindN fun v9 h10 => (loadR Prog 75 v1 h10).bindN fun v11 h12 => (loadR Prog 75 v1 h12).bindN fun v13 h14 => (loadR Prog 75 v1 h14).bindN fun v15 h16 => (loadR Prog 75 v1 h16).bindN fun v17 h18 => (loadR Prog 75 v1 h18).bindN fun v19 h20 => chkR ((okVal (loadR Prog 75 v1 h2) v9 && true) && ((okVal (loadR Prog 75 v1 h2) v11 && true) && ((okVal (loadR Prog 75 v1 h2) v13 && true) && ((okVal (loadR Prog 75 v1 h2) v15 && true) && ((okVal (loadR Prog 75 v1 h2) v17 && true) && ((okVal (loadR Prog 75 v1 h2) v19 && true) && true)))))) (.panic p7 h8)) fun v5 h6 =>
 (loadR Prog 75 v1 h6).bindN fun v21 h22 =>
 (loadR Prog 75 v1 h22).bindN fun v23 h24 =>
 (call F.ζ1a [v23,(.int .i64 16)] h24).bindT (fun p27 h28 => (loadR Prog 75 v1 h24).bindN fun v29 h30 => (loadR Prog 75 v1 h30).bindN fun v31 h32 => (loadR Prog 75 v1 h32).bindN fun v33 h34 => (loadR Prog 75 v1 h34).bindN fun v35 h36 => chkR ((okVal (loadR Prog 75 v1 h2) v21 && true) && ((okVal (loadR Prog 75 v1 h2) v23 && true) && ((okVal (loadR Prog 75 v1 h2) v29 && (okVal (loadR Prog 75 v1 h6) v29 && true)) && ((okVal (loadR Prog 75 v1 h2) v31 && (okVal (loadR Prog 75 v1 h6) v31 && true)) && ((okVal (loadR Prog 75 v1 h2) v33 && (okVal (loadR Prog 75 v1 h6) v33 && true)) && ((okVal (loadR Prog 75 v1 h2) v35 && (okVal (loadR Prog 75 v1 h6) v35 && true)) && true)))))) (.panic p27 h28)) fun v25 h26 =>
 (call F.ζ1k [v21,v25] h26).bindT (fun p39 h40 => (loadR Prog 75 v1 h26).bindN fun v41 h42 => (loadR Prog 75 v1 h42).bindN fun v43 h44 => (loadR Prog 75 v1 h44).bindN fun v45 h46 => (loadR Prog 75 v1 h46).bindN fun v47 h48 => chkR ((okVal (loadR Prog 75 v1 h2) v21 && (okVal (loadR Prog 75 v1 h26) v21 && true)) && ((okVal (loadR Prog 75 v1 h2) v23 && true) && ((okVal (loadR Prog 75 v1 h2) v41 && (okVal (loadR Prog 75 v1 h6) v41 && (okVal (loadR Prog 75 v1 h26) v41 && true))) && ((okVal (loadR Prog 75 v1 h2) v43 && (okVal (loadR Prog 75 v1 h6) v43 && (okVal (loadR Prog 75 v1 h26) v43 && true))) && ((okVal (loadR Prog 75 v1 h2) v45 && (okVal (loadR Prog 75 v1 h6) v45 && (okVal (loadR Prog 75 v1 h26) v45 && true))) && ((okVal (loadR Prog 75 v1 h2) v47 && (okVal (loadR Prog 75 v1 h6) v47 && (okVal (loadR Prog 75 v1 h26) v47 && true))) && true)))))) (.panic p39 h40)) fun v37 h38 =>
 (loadR Prog 75 v1 h38).bindN fun v49 h50 =>
 (loadR Prog 75 v1 h50).bindN fun v51 h52 =>
 (call F.ζ1a [v51,(.int .i64 20)] h52).bindT (fun p55 h56 => (loadR Prog 75 v1 h52).bindN fun v57 h58 => (loadR Prog 75 v1 h58).bindN fun v59 h60 => chkR ((okVal (loadR Prog 75 v1 h2) v21 && (okVal (loadR Prog 75 v1 h26) v21 && true)) && ((okVal (loadR Prog 75 v1 h2) v23 && true) && ((okVal (loadR Prog 75 v1 h2) v49 && (okVal (loadR Prog 75 v1 h6) v49 && (okVal (loadR Prog 75 v1 h26) v49 && true))) && ((okVal (loadR Prog 75 v1 h2) v51 && (okVal (loadR Prog 75 v1 h6) v51 && (okVal (loadR Prog 75 v1 h26) v51 && true))) && ((okVal (loadR Prog 75 v1 h2) v57 && (okVal (loadR Prog 75 v1 h6) v57 && (okVal (loadR Prog 75 v1 h26) v57 && (okVal (loadR Prog 75 v1 h38) v57 && true)))) && ((okVal (loadR Prog 75 v1 h2) v59 && (okVal (loadR Prog 75 v1 h6) v59 && (okVal (loadR Prog 75 v1 h26) v59 && (okVal (loadR Prog 75 v1 h38) v59 && true)))) && true)))))) (.panic p55 h56)) fun v53 h54 =>
 (call F.ζ1k [v49,v53] h54).bindT (fun p63 h64 => (loadR Prog 75 v1 h54).bindN fun v65 h66 => (loadR Prog 75 v1 h66).bindN fun v67 h68 => chkR ((okVal (loadR Prog 75 v1 h2) v21 && (okVal (loadR Prog 75 v1 h26) v21 && true)) && ((okVal (loadR Prog 75 v1 h2) v23 && true) && ((okVal (loadR Prog 75 v1 h2) v49 && (okVal (loadR Prog 75 v1 h6) v49 && (okVal (loadR Prog 75 v1 h26) v49 && (okVal (loadR Prog 75 v1 h54) v49 && true)))) && ((okVal (loadR Prog 75 v1 h2) v51 && (okVal (loadR Prog 75 v1 h6) v51 && (okVal (loadR Prog 75 v1 h26) v51 && true))) && ((okVal (loadR Prog 75 v1 h2) v65 && (okVal (loadR Prog 75 v1 h6) v65 && (okVal (loadR Prog 75 v1 h26) v65 && (okVal (loadR Prog 75 v1 h38) v65 && (okVal (loadR Prog 75 v1 h54) v65 && true))))) && ((okVal (loadR Prog 75 v1 h2) v67 && (okVal (loadR Prog 75 v1 h6) v67 && (okVal (loadR Prog 75 v1 h26) v67 && (okVal (loadR Prog 75 v1 h38) v67 && (okVal (loadR Prog 75 v1 h54) v67 && true))))) && true)))))) (.panic p63 h64)) fun v61 h62 =>
 (loadR Prog 75 v1 h62).bindN fun v69 h70 =>
 (loadR Prog 75 v1 h70).bindN fun v71 h72 =>
 (call F.ζ1a [v71,(.int .i64 24)] h72).bindT (fun p75 h76 => chkR ((okVal (loadR Prog 75 v1 h2) v21 && (okVal (loadR Prog 75 v1 h26) v21 && true)) && ((okVal (loadR Prog 75 v1 h2) v23 && true) && ((okVal (loadR Prog 75 v1 h2) v49 && (okVal (loadR Prog 75 v1 h6) v49 && (okVal (loadR Prog 75 v1 h26) v49 && (okVal (loadR Prog 75 v1 h54) v49 && true)))) && ((okVal (loadR Prog 75 v1 h2) v51 && (okVal (loadR Prog 75 v1 h6) v51 && (okVal (loadR Prog 75 v1 h26) v51 && true))) && ((okVal (loadR Prog 75 v1 h2) v69 && (okVal (loadR Prog 75 v1 h6) v69 && (okVal (loadR Prog 75 v1 h26) v69 && (okVal (loadR Prog 75 v1 h38) v69 && (okVal (loadR Prog 75 v1 h54) v69 && true))))) && ((okVal (loadR Prog 75 v1 h2) v71 && (okVal (loadR Prog 75 v1 h6) v71 && (okVal (loadR Prog 75 v1 h26) v71 && (okVal (loadR Prog 75 v1 h38) v71 && (okVal (loadR Prog 75 v1 h54) v71 && true))))) && true)))))) (.panic p75 h76)) fun v73 h74 =>
 (call F.ζ1k [v69,v73] h74).bindT (fun p79 h80 => chkR ((okVal (loadR Prog 75 v1 h2) v21 && (okVal (loadR Prog 75 v1 h26) v21 && true)) && ((okVal (loadR Prog 75 v1 h2) v23 && true) && ((okVal (loadR Prog 75 v1 h2) v49 && (okVal (loadR Prog 75 v1 h6) v49 && (okVal (loadR Prog 75 v1 h26) v49 && (okVal (loadR Prog 75 v1 h54) v49 && true)))) && ((okVal (loadR Prog 75 v1 h2) v51 && (okVal (loadR Prog 75 v1 h6) v51 && (okVal (loadR Prog 75 v1 h26) v51 && true))) && ((okVal (loadR Prog 75 v1 h2) v69 && (okVal (loadR Prog 75 v1 h6) v69 && (okVal (loadR Prog 75 v1 h26) v69 && (okVal (loadR Prog 75 v1 h38) v69 && (okVal (loadR Prog 75 v1 h54) v69 && (okVal (loadR Prog 75 v1 h74) v69 && true)))))) && ((okVal (loadR Prog 75 v1 h2) v71 && (okVal (loadR Prog 75 v1 h6) v71 && (okVal (loadR Prog 75 v1 h26) v71 && (okVal (loadR Prog 75 v1 h38) v71 && (okVal (loadR Prog 75 v1 h54) v71 && true))))) && true)))))) (.panic p79 h80)) fun v77 h78 =>
 (buildR Prog 227 [(0,v5),(1,v37),(2,v61),(3,v77)] h78).bindN fun v81 h82 =>
 (boxR v81 h82).bindN fun v83 h84 =>
 chkR ((okVal (loadR Prog 75 v1 h2) v21 && (okVal (loadR Prog 75 v1 h26) v21 && true)) && ((okVal (loadR Prog 75 v1 h2) v23 && true) && ((okVal (loadR Prog 75 v1 h2) v49 && (okVal (loadR Prog 75 v1 h6) v49 && (okVal (loadR Prog 75 v1 h26) v49 && (okVal (loadR Prog 75 v1 h54) v49 && true)))) && ((okVal (loadR Prog 75 v1 h2) v51 && (okVal (loadR Prog 75 v1 h6) v51 && (okVal (loadR Prog 75 v1 h26) v51 && true))) && ((okVal (loadR Prog 75 v1 h2) v69 && (okVal (loadR Prog 75 v1 h6) v69 && (okVal (loadR Prog 75 v1 h26) v69 && (okVal (loadR Prog 75 v1 h38) v69 && (okVal (loadR Prog 75 v1 h54) v69 && (okVal (loadR Prog 75 v1 h74) v69 && true)))))) && ((okVal (loadR Prog 75 v1 h2) v71 && (okVal (loadR Prog 75 v1 h6) v71 && (okVal (loadR Prog 75 v1 h26) v71 && (okVal (loadR Prog 75 v1 h38) v71 && (okVal (loadR Prog 75 v1 h54) v71 && true))))) && true)))))) (
 (nilR v83 h84).bind fun v85 h86 =>
 (fieldAddrR Prog 227 v85 0 h86).bind fun v87 h88 =>
 (loadR Prog 196 v87 h88).bind fun v89 h90 =>
 (call F.ζ22 [v89] h90).bind fun v91 h92 =>
 (builtinV Prog .len [102] [v91] h92).bind fun v93 h94 =>
 (loopN (ζ7u k call) loopFuel [(5,v83),(30,v91),(31,v93),(32,(.int .i64 0))] h94).bind fun r95 h96 =>
 ζhw k call r95.1 r95.2 h96)
theorem ζpx (k:Nat) (a0 a1:Value) (h:Heap):R (T k) F.ζ2p [a0,a1] h = nrm .fz h (ζ2p k (R (T k)) a0 a1 h) :=
 (R_body (t:=T k) (T_scott k) (by kernel_rfl) (by kernel_rfl) _ _).trans (by kernel_rfl)
theorem ζ69 (k:Nat) (call:Caller) (a5 a30 a31 a32:Value) (h:Heap):ζ7u k call [(5,a5),(30,a30),(31,a31),(32,a32)] h =
 (binR Prog .lss 3 a32 a31 h).bind fun v97 h98 =>
 condV (some v97) (
 (indexAddrR Prog 102 a30 a32 h98).bind fun v99 h100 =>
 (loadR Prog 130 v99 h100).bind fun v101 h102 =>
 (allocR Prog 130 h102).bind fun v103 h104 =>
 (storeR Prog 130 v103 v101 h104).bind fun _v105 h106 =>
 (fieldAddrR Prog 130 v103 1 h106).bind fun v107 h108 =>
 (loadR Prog 3 v107 h108).bind fun v109 h110 =>
 (binR Prog .and 3 v109 (.int .i64 8192) h110).bind fun v111 h112 =>
 (binR Prog .neq 3 v111 (.int .i64 0) h112).bind fun v113 h114 =>
 condV (some v113) (
 (fieldAddrR Prog 130 v103 2 h114).bind fun v115 h116 =>
 (loadR Prog 3 v115 h116).bind fun v117 h118 =>
 (loopN (ζ7v k call) loopFuel [(5,a5),(8,v117),(30,a30),(31,a31),(32,a32)] h118).bind fun r119 h120 =>
 ζhx k call r119.1 r119.2 h120)
 (
 ζjf k call a5 v103 a30 a31 a32 v113 h114))
 (
 .ok ((.exit 0),[(5,a5),(30,a30),(31,a31),(32,a32),(33,v97)]) h98) :=
 (loopB_eq _ _).trans (by kernel_rfl)
theorem ζkq (k:Nat) (call:Caller) (a5 a7 a30 a31 a32 a39:Value) (h:Heap):ζjf k call a5 a7 a30 a31 a32 a39 h =
 (binR Prog .add 3 a32 (.int .i64 1) h).bind fun v121 h122 =>
 .ok (.normal,[(5,a5),(30,a30),(31,a31),(32,v121)]) h122:=by kernel_rfl
theorem ζ6a (k:Nat) (call:Caller) (a5 a8 a30 a31 a32:Value) (h:Heap):ζ7v k call [(5,a5),(8,a8),(30,a30),(31,a31),(32,a32)] h =
 (nilR a5 h).bind fun v123 h124 =>
 (fieldAddrR Prog 227 v123 1 h124).bind fun v125 h126 =>
 (loadR Prog 75 v125 h126).bind fun v127 h128 =>
 (binR Prog .mul 3 (.int .i64 4) a8 h128).bind fun v129 h130 =>
 (call F.ζ1a [v127,v129] h130).bind fun v131 h132 =>
 (binR Prog .and 3 v131 (.int .i64 2147483648) h132).bind fun v133 h134 =>
 (binR Prog .eql 3 v133 (.int .i64 0) h134).bind fun v135 h136 =>
 condV (some v135) (
 (binR Prog .add 3 a8 (.int .i64 1) h136).bind fun v137 h138 =>
 .ok (.normal,[(5,a5),(8,v137),(30,a30),(31,a31),(32,a32)]) h138)
 (
 .ok ((.exit 2),[(5,a5),(8,a8),(30,a30),(31,a31),(32,a32),(50,v135)]) h136) :=
 (loopB_eq _ _).trans (by kernel_rfl)
theorem ζjh (k:Nat) (call:Caller) (a5 a30 a31 a32 a33:Value) (h:Heap):ζhw k call (.exit 0) [(5,a5),(30,a30),(31,a31),(32,a32),(33,a33)] h =
 .ok a5 h:=by kernel_rfl
theorem ζji (k:Nat) (call:Caller) (a5 a8 a30 a31 a32 a50:Value) (h:Heap):ζhx k call (.exit 2) [(5,a5),(8,a8),(30,a30),(31,a31),(32,a32),(50,a50)] h =
 ζjg k call a5 a8 a30 a31 a32 a50 h:=by kernel_rfl
theorem ζkr (k:Nat) (call:Caller) (a5 a8 a30 a31 a32 a50:Value) (h:Heap):ζjg k call a5 a8 a30 a31 a32 a50 h =
 (binR Prog .add 3 a32 (.int .i64 1) h).bind fun v139 h140 =>
 .ok (.normal,[(5,a5),(30,a30),(31,a31),(32,v139)]) h140:=by kernel_rfl
def ζ4a (k:Nat) (call:Caller) (a2 a3 a4 a6:Value) (h:Heap):Res Value :=
 kSeq (pieceK (C k) call F.ζj [1,1]) (kDone Prog (resOf Prog F.ζj)) .normal [(2,a2),(3,a3),(4,a4),(6,a6)] h
def ζ4b (k:Nat) (call:Caller) (a0 a2 a3 a4 a6 a16:Value) (h:Heap):Res Value :=
 kSeq (pieceK (C k) call F.ζj [1,1]) (kDone Prog (resOf Prog F.ζj)) .normal [(0,a0),(2,a2),(3,a3),(4,a4),(6,a6),(16,a16)] h
def ζj (k:Nat) (call:Caller) (a0 a1 a2 a3 a4:Value) (h:Heap):Res Value :=
 (boxR a1 h).bind fun v1 h2 =>
 (fieldAddrR Prog 130 v1 1 h2).bind fun v3 h4 =>
 (loadR Prog 3 v3 h4).bind fun v5 h6 =>
 (binR Prog .and 3 v5 (.int .i64 32768) h6).bind fun v7 h8 =>
 (binR Prog .neq 3 v7 (.int .i64 0) h8).bind fun v9 h10 =>
 ((bif wantVal v9 true then Res.ok a0 h10 else Res.ok undef h10)).bind fun v11 h12 =>
 ((bif wantVal v9 true then loadR Prog 25 a2 h12 else Res.ok undef h12)).bind fun v13 h14 =>
 ((bif wantVal v9 true then call F.ζ3g [v13] h14 else Res.ok undef h14)).bind fun v15 h16 =>
 ((bif wantVal v9 true then binR Prog .lss 3 v11 v15 h16 else Res.ok undef h16)).bind fun v17 h18 =>
 (condV (some v9) (Res.ok v17 h18) (Res.ok (.bool false) h18)).bind fun v19 h20 =>
 condV (some v19) (
 (call F.ζ1e [a3,a0] h20).bind fun v21 h22 =>
 ζ4a k call a2 a3 a4 v1 h22)
 (
 ζ4b k call a0 a2 a3 a4 v1 v19 h20)
theorem ζ4o (k:Nat) (a0 a1 a2 a3 a4:Value) (h:Heap):R (T k) F.ζj [a0,a1,a2,a3,a4] h = nrm .no h (ζj k (R (T k)) a0 a1 a2 a3 a4 h) :=
 (R_body (t:=T k) (T_scott k) (by kernel_rfl) (by kernel_rfl) _ _).trans (by kernel_rfl)
theorem ζ54 (k:Nat) (call:Caller) (a2 a3 a4 a6:Value) (h:Heap):ζ4a k call a2 a3 a4 a6 h =
 (fieldAddrR Prog 130 a6 1 h).bind fun v23 h24 =>
 (loadR Prog 3 v23 h24).bind fun v25 h26 =>
 (binR Prog .and 3 v25 (.int .i64 8192) h26).bind fun v27 h28 =>
 (binR Prog .neq 3 v27 (.int .i64 0) h28).bind fun v29 h30 =>
 condV (some v29) (
 (loadR Prog 111 a4 h30).bind fun v31 h32 =>
 (loadR Prog 25 a2 h32).bind fun v33 h34 =>
 (fieldAddrR Prog 130 a6 2 h34).bind fun v35 h36 =>
 (loadR Prog 3 v35 h36).bind fun v37 h38 =>
 (call F.ζa [v31,v33,a3,v37] h38).bind fun v39 h40 =>
 .ok (.tuple #[]) h40)
 (
 .ok (.tuple #[]) h30):=by kernel_rfl
theorem ζ55 (k:Nat) (call:Caller) (a0 a2 a3 a4 a6 a16:Value) (h:Heap):ζ4b k call a0 a2 a3 a4 a6 a16 h =
 (fieldAddrR Prog 130 a6 1 h).bind fun v41 h42 =>
 (loadR Prog 3 v41 h42).bind fun v43 h44 =>
 (binR Prog .and 3 v43 (.int .i64 8192) h44).bind fun v45 h46 =>
 (binR Prog .neq 3 v45 (.int .i64 0) h46).bind fun v47 h48 =>
 condV (some v47) (
 (loadR Prog 111 a4 h48).bind fun v49 h50 =>
 (loadR Prog 25 a2 h50).bind fun v51 h52 =>
 (fieldAddrR Prog 130 a6 2 h52).bind fun v53 h54 =>
 (loadR Prog 3 v53 h54).bind fun v55 h56 =>
 (call F.ζa [v49,v51,a3,v55] h56).bind fun v57 h58 =>
 .ok (.tuple #[]) h58)
 (
 .ok (.tuple #[]) h48):=by kernel_rfl
def ζ1e (k:Nat) (call:Caller) (a0 a1:Value) (h:Heap):Res Value :=
 (nilR a0 h).bind fun v1 h2 =>
 (loadR Prog 225 v1 h2).bind fun v3 h4 =>
 (builtinV Prog .len [225] [v3] h4).bind fun v5 h6 =>
 (binR Prog .gtr 3 v5 (.int .i64 0) h6).bind fun v7 h8 =>
 ((bif wantVal v7 true then Res.ok a0 h8 else Res.ok undef h8)).bind fun v9 h10 =>
 ((bif wantVal v7 true then nilR v9 h10 else Res.ok undef h10)).bind fun v11 h12 =>
 ((bif wantVal v7 true then loadR Prog 225 v11 h12 else Res.ok undef h12)).bind fun v13 h14 =>
 ((bif wantVal v7 true then Res.ok v5 h14 else Res.ok undef h14)).bind fun v15 h16 =>
 ((bif wantVal v7 true then binR Prog .sub 3 v15 (.int .i64 1) h16 else Res.ok undef h16)).bind fun v17 h18 =>
 ((bif wantVal v7 true then indexAddrR Prog 225 v13 v17 h18 else Res.ok undef h18)).bind fun v19 h20 =>
 ((bif wantVal v7 true then loadR Prog 3 v19 h20 else Res.ok undef h20)).bind fun v21 h22 =>
 ((bif wantVal v7 true then Res.ok a1 h22 else Res.ok undef h22)).bind fun v23 h24 =>
 ((bif wantVal v7 true then binR Prog .eql 3 v21 v23 h24 else Res.ok undef h24)).bind fun v25 h26 =>
 (condV (some v7) (Res.ok v25 h26) (Res.ok (.bool false) h26)).bind fun v27 h28 =>
 condV (some v27) (
 .ok (.tuple #[]) h28)
 (
 (nilR a0 h28).bind fun v29 h30 =>
 (loadR Prog 225 v29 h30).bind fun v31 h32 =>
 (buildSliceR Prog 225 1 [(0,a1)] h32).bind fun v33 h34 =>
 (builtinV Prog .append [225,225] [v31,v33] h34).bind fun v35 h36 =>
 (nilR a0 h36).bind fun v37 h38 =>
 (storeR Prog 225 v37 v35 h38).bind fun _v39 h40 =>
 (nilR a0 h40).bind fun v41 h42 =>
 (loadR Prog 225 v41 h42).bind fun v43 h44 =>
 (builtinV Prog .len [225] [v43] h44).bind fun v45 h46 =>
 (binR Prog .gtr 3 v45 (.int .i64 64) h46).bind fun v47 h48 =>
 condV (some v47) (
 (nilR a0 h48).bind fun v49 h50 =>
 (loadR Prog 225 v49 h50).bind fun v51 h52 =>
 (sliceR Prog 225 v51 (some (.int .i64 1)) none none h52).bind fun v53 h54 =>
 (nilR a0 h54).bind fun v55 h56 =>
 (storeR Prog 225 v55 v53 h56).bind fun _v57 h58 =>
 .ok (.tuple #[]) h58)
 (
 .ok (.tuple #[]) h48))
theorem ζhb (k:Nat) (a0 a1:Value) (h:Heap):R (T k) F.ζ1e [a0,a1] h = nrm .no h (ζ1e k (R (T k)) a0 a1 h) :=
 (R_body (t:=T k) (T_scott k) (by kernel_rfl) (by kernel_rfl) _ _).trans (by kernel_rfl)
def ζ4c (k:Nat) (call:Caller):Env → Heap → Res (AExit × Env):=loopB (C k) call F.ζa [1,1,0,0]
def ζ2a (k:Nat) (call:Caller):Kont Value:=kBlock 0 (kDone Prog (resOf Prog F.ζa))
def ζ7b (k:Nat) (call:Caller) (a0 a1 a2 a3 a8 a9 a10 a12:Value) (h:Heap):Res (AExit × Env) :=
 kSeq (pieceK (C k) call F.ζa [1,1,0,0,0,0,1,1,1,1,1,1,1,1]) (kBlock 1 (kSeq (pieceK (C k) call F.ζa [1,1,0,0,1]) (kRound (ownOf (C k) F.ζa [1,1,0,0])))) .normal [(0,a0),(1,a1),(2,a2),(3,a3),(8,a8),(9,a9),(10,a10),(12,a12)] h
def ζ7c (k:Nat) (call:Caller) (a0 a1 a2 a3 a8 a9 a10 a12 a58:Value) (h:Heap):Res (AExit × Env) :=
 kSeq (pieceK (C k) call F.ζa [1,1,0,0,0,0,1,1,1,1,1,1,1,1]) (kBlock 1 (kSeq (pieceK (C k) call F.ζa [1,1,0,0,1]) (kRound (ownOf (C k) F.ζa [1,1,0,0])))) .normal [(0,a0),(1,a1),(2,a2),(3,a3),(8,a8),(9,a9),(10,a10),(12,a12),(58,a58)] h
def ζa (k:Nat) (call:Caller) (a0 a1 a2 a3:Value) (h:Heap):Res Value :=
 (loopN (ζ4c k call) loopFuel [(0,a0),(1,a1),(2,a2),(3,a3),(8,(.int .i64 0)),(9,(.slice none 0 0))] h).bind fun r1 h2 =>
 ζ2a k call r1.1 r1.2 h2
theorem ζg5 (k:Nat) (a0 a1 a2 a3:Value) (h:Heap):R (T k) F.ζa [a0,a1,a2,a3] h = nrm .no h (ζa k (R (T k)) a0 a1 a2 a3 h) :=
 (R_body (t:=T k) (T_scott k) (by kernel_rfl) (by kernel_rfl) _ _).trans (by kernel_rfl)
theorem ζ1i (k:Nat) (call:Caller) (a0 a1 a2 a3 a8 a9:Value) (h:Heap):ζ4c k call [(0,a0),(1,a1),(2,a2),(3,a3),(8,a8),(9,a9)] h =
 (call F.ζ2y [a2] h).bind fun v3 h4 =>
 (extractR v3 0 h4).bind fun v5 h6 =>
 (extractR v3 1 h6).bind fun v7 h8 =>
 (unR .not v7 h8).bind fun v9 h10 =>
 condV (some v9) (
 .ok (.ret,[(0,a0),(1,a1),(2,a2),(3,a3),(8,a8),(9,a9),(10,v5),(24,v9)]) h10)
 (
 (nilR a0 h10).bind fun v11 h12 =>
 (fieldAddrR Prog 227 v11 1 h12).bind fun v13 h14 =>
 (loadR Prog 75 v13 h14).bind fun v15 h16 =>
 (binR Prog .mul 3 (.int .i64 4) a3 h16).bind fun v17 h18 =>
 (call F.ζ1a [v15,v17] h18).bind fun v19 h20 =>
 (call F.ζ3i [a1,v5] h20).bind fun v21 h22 =>
 (extractR v21 0 h22).bind fun v23 h24 =>
 (extractR v21 1 h24).bind fun v25 h26 =>
 (allocR Prog 57 h26).bind fun v27 h28 =>
 (storeR Prog 57 v27 v23 h28).bind fun _v29 h30 =>
 (nilR a0 h30).bindN fun v31 h32 =>
 (fieldAddrR Prog 227 v31 2 h32).bindN fun v33 h34 =>
 (loadR Prog 75 v33 h34).bindN fun v35 h36 =>
 (fieldAddrR Prog 57 v27 0 h36).bindN fun v37 h38 =>
 (loadR Prog 3 v37 h38).bindN fun v39 h40 =>
 (call F.ζ7q [v19] h40).bindT (fun p43 h44 => .panic p43 h44) fun v41 h42 =>
 (binR Prog .add 3 v39 v41 h42).bindN fun v45 h46 =>
 (call F.ζ58 [v35,v45] h46).bindT (fun p49 h50 => chkR ((okVal (loadR Prog 75 v33 h42) v35 && true) && ((okVal (loadR Prog 3 v37 h42) v39 && true) && true)) (.panic p49 h50)) fun v47 h48 =>
 (extractR v47 0 h48).bindN fun v51 h52 =>
 (extractR v47 1 h52).bindN fun v53 h54 =>
 chkR ((okVal (loadR Prog 75 v33 h42) v35 && true) && ((okVal (loadR Prog 3 v37 h42) v39 && true) && true)) (
 (unR .not v53 h54).bind fun v55 h56 =>
 condV (some v55) (
 .ok (.ret,[(0,a0),(1,a1),(2,a2),(3,a3),(8,a8),(9,a9),(10,v5),(12,v19),(15,v51),(52,v55)]) h56)
 (
 (binR Prog .add 3 a8 v51 h56).bind fun v57 h58 =>
 (binR Prog .and 3 v19 (.int .i64 3221225472) h58).bind fun v59 h60 =>
 (binR Prog .neq 3 v59 (.int .i64 0) h60).bind fun v61 h62 =>
 condV (some v61) (
 (call F.ζ1r [a0,a1,v5,v57,a9] h62).bind fun v63 h64 =>
 (unR .not v63 h64).bind fun v65 h66 =>
 condV (some v65) (
 .ok (.ret,[(0,a0),(1,a1),(2,a2),(3,a3),(8,v57),(10,v5),(12,v19),(65,v65)]) h66)
 (
 ζ7b k call a0 a1 a2 a3 v57 (.slice none 0 0) v5 v19 h66))
 (
 ζ7c k call a0 a1 a2 a3 v57 a9 v5 v19 v61 h62)))) :=
 (loopB_eq _ _).trans (by kernel_rfl)
theorem ζ56 (k:Nat) (call:Caller) (a0 a1 a2 a3 a8 a9 a10 a12:Value) (h:Heap):ζ7b k call a0 a1 a2 a3 a8 a9 a10 a12 h =
 (binR Prog .and 3 a12 (.int .i64 2147483648) h).bind fun v67 h68 =>
 (binR Prog .neq 3 v67 (.int .i64 0) h68).bind fun v69 h70 =>
 condV (some v69) (
 (call F.ζ1e [a2,a10] h70).bind fun v71 h72 =>
 .ok (.ret,[]) h72)
 (
 (buildSliceR Prog 23 1 [(0,a10)] h70).bind fun v73 h74 =>
 (builtinV Prog .append [23,23] [a9,v73] h74).bind fun v75 h76 =>
 (binR Prog .add 3 a3 (.int .i64 1) h76).bind fun v77 h78 =>
 .ok (.normal,[(0,a0),(1,a1),(2,a2),(3,v77),(8,a8),(9,v75)]) h78):=by kernel_rfl
theorem ζad (k:Nat) (call:Caller) (a0 a1 a2 a3 a8 a9 a10 a12 a58:Value) (h:Heap):ζ7c k call a0 a1 a2 a3 a8 a9 a10 a12 a58 h =
 (binR Prog .and 3 a12 (.int .i64 2147483648) h).bind fun v79 h80 =>
 (binR Prog .neq 3 v79 (.int .i64 0) h80).bind fun v81 h82 =>
 condV (some v81) (
 (call F.ζ1e [a2,a10] h82).bind fun v83 h84 =>
 .ok (.ret,[]) h84)
 (
 (buildSliceR Prog 23 1 [(0,a10)] h82).bind fun v85 h86 =>
 (builtinV Prog .append [23,23] [a9,v85] h86).bind fun v87 h88 =>
 (binR Prog .add 3 a3 (.int .i64 1) h88).bind fun v89 h90 =>
 .ok (.normal,[(0,a0),(1,a1),(2,a2),(3,v89),(8,a8),(9,v87)]) h90):=by kernel_rfl
theorem ζae (k:Nat) (call:Caller) (a0 a1 a2 a3 a8 a9 a10 a24:Value) (h:Heap):ζ2a k call .ret [(0,a0),(1,a1),(2,a2),(3,a3),(8,a8),(9,a9),(10,a10),(24,a24)] h =
 .ok (.tuple #[]) h:=by kernel_rfl
theorem ζ97 (k:Nat) (call:Caller) (a0 a1 a2 a3 a8 a9 a10 a12 a15 a52:Value) (h:Heap):ζ2a k call .ret [(0,a0),(1,a1),(2,a2),(3,a3),(8,a8),(9,a9),(10,a10),(12,a12),(15,a15),(52,a52)] h =
 .ok (.tuple #[]) h:=by kernel_rfl
theorem ζ98 (k:Nat) (call:Caller) (a0 a1 a2 a3 a8 a10 a12 a65:Value) (h:Heap):ζ2a k call .ret [(0,a0),(1,a1),(2,a2),(3,a3),(8,a8),(10,a10),(12,a12),(65,a65)] h =
 .ok (.tuple #[]) h:=by kernel_rfl
theorem ζ99 (k:Nat) (call:Caller) (h:Heap):ζ2a k call .ret [] h =
 .ok (.tuple #[]) h:=by kernel_rfl
def ζ2y (k:Nat) (call:Caller) (a0:Value) (h:Heap):Res Value :=
 (nilR a0 h).bind fun v1 h2 =>
 (loadR Prog 225 v1 h2).bind fun v3 h4 =>
 (builtinV Prog .len [225] [v3] h4).bind fun v5 h6 =>
 (binR Prog .eql 3 v5 (.int .i64 0) h6).bind fun v7 h8 =>
 condV (some v7) (
 .ok (.tuple #[(.int .i64 0),(.bool false)]) h8)
 (
 (nilR a0 h8).bind fun v9 h10 =>
 (loadR Prog 225 v9 h10).bind fun v11 h12 =>
 (binR Prog .sub 3 v5 (.int .i64 1) h12).bind fun v13 h14 =>
 (indexAddrR Prog 225 v11 v13 h14).bind fun v15 h16 =>
 (loadR Prog 3 v15 h16).bind fun v17 h18 =>
 (nilR a0 h18).bind fun v19 h20 =>
 (loadR Prog 225 v19 h20).bind fun v21 h22 =>
 (binR Prog .sub 3 v5 (.int .i64 1) h22).bind fun v23 h24 =>
 (sliceR Prog 225 v21 none (some v23) none h24).bind fun v25 h26 =>
 (nilR a0 h26).bind fun v27 h28 =>
 (storeR Prog 225 v27 v25 h28).bind fun _v29 h30 =>
 .ok (.tuple #[v17,(.bool true)]) h30)
theorem ζi4 (k:Nat) (a0:Value) (h:Heap):R (T k) F.ζ2y [a0] h = nrm .no h (ζ2y k (R (T k)) a0 h) :=
 (R_body (t:=T k) (T_scott k) (by kernel_rfl) (by kernel_rfl) _ _).trans (by kernel_rfl)
def ζ58 (k:Nat) (call:Caller) (a0 a1:Value) (h:Heap):Res Value :=
 (boxR a0 h).bind fun v1 h2 =>
 (binR Prog .lss 3 a1 (.int .i64 0) h2).bind fun v3 h4 =>
 ((bif wantVal v3 false then Res.ok a1 h4 else Res.ok undef h4)).bind fun v5 h6 =>
 ((bif wantVal v3 false then loadR Prog 75 v1 h6 else Res.ok undef h6)).bind fun v7 h8 =>
 ((bif wantVal v3 false then call F.ζ50 [v7] h8 else Res.ok undef h8)).bind fun v9 h10 =>
 ((bif wantVal v3 false then binR Prog .quo 3 v9 (.int .i64 2) h10 else Res.ok undef h10)).bind fun v11 h12 =>
 ((bif wantVal v3 false then binR Prog .geq 3 v5 v11 h12 else Res.ok undef h12)).bind fun v13 h14 =>
 (condV (some v3) (Res.ok (.bool true) h14) (Res.ok v13 h14)).bind fun v15 h16 =>
 condV (some v15) (
 .ok (.tuple #[(.int .i64 0),(.bool false)]) h16)
 (
 (loadR Prog 75 v1 h16).bind fun v17 h18 =>
 (binR Prog .mul 3 (.int .i64 2) a1 h18).bind fun v19 h20 =>
 (call F.ζf [v17,v19] h20).bind fun v21 h22 =>
 .ok (.tuple #[v21,(.bool true)]) h22)
theorem ζo0 (k:Nat) (a0 a1:Value) (h:Heap):R (T k) F.ζ58 [a0,a1] h = nrm .gc h (ζ58 k (R (T k)) a0 a1 h) :=
 (R_body (t:=T k) (T_scott k) (by kernel_rfl) (by kernel_rfl) _ _).trans (by kernel_rfl)
def ζ7q (k:Nat) (call:Caller) (a0:Value) (h:Heap):Res Value :=
 (convR Prog 3 159 a0 h).bind fun v1 h2 =>
 (binR Prog .shl 159 v1 (.int .u64 2) h2).bind fun v3 h4 =>
 (convR Prog 159 21 v3 h4).bind fun v5 h6 =>
 (convR Prog 21 3 v5 h6).bind fun v7 h8 =>
 (binR Prog .shr 3 v7 (.int .u64 2) h8).bind fun v9 h10 =>
 .ok v9 h10
theorem ζmz (k:Nat) (a0:Value) (h:Heap):R (T k) F.ζ7q [a0] h = nrm .gc h (ζ7q k (R (T k)) a0 h) :=
 (R_body (t:=T k) (T_scott k) (by kernel_rfl) (by kernel_rfl) _ _).trans (by kernel_rfl)
def ζ57 (k:Nat) (call:Caller):Env → Heap → Res (AExit × Env):=loopB (C k) call F.ζ1r [1,1,1,1,1,0,1,0,0]
def ζ7t (k:Nat) (call:Caller):Kont Value:=kBlock 0 (kSeq (pieceK (C k) call F.ζ1r [1,1,1,1,1,1]) (kDone Prog (resOf Prog F.ζ1r)))
def ζ1r (k:Nat) (call:Caller) (a0 a1 a2 a3 a4:Value) (h:Heap):Res Value :=
 (nilR a0 h).bind fun v1 h2 =>
 (fieldAddrR Prog 227 v1 3 h2).bind fun v3 h4 =>
 (loadR Prog 75 v3 h4).bind fun v5 h6 =>
 (call F.ζ58 [v5,a3] h6).bind fun v7 h8 =>
 (extractR v7 0 h8).bind fun v9 h10 =>
 (extractR v7 1 h10).bind fun v11 h12 =>
 (unR .not v11 h12).bind fun v13 h14 =>
 condV (some v13) (
 .ok (.bool false) h14)
 (
 (call F.ζ3h [a1,a2,v9] h14).bind fun v15 h16 =>
 (call F.ζ1b [a1,a2,a4] h16).bind fun v17 h18 =>
 (builtinV Prog .len [23] [a4] h18).bind fun v19 h20 =>
 (loopN (ζ57 k call) loopFuel [(1,a1),(34,a4),(35,v19),(36,(.int .i64 0))] h20).bind fun r21 h22 =>
 ζ7t k call r21.1 r21.2 h22)
theorem ζha (k:Nat) (a0 a1 a2 a3 a4:Value) (h:Heap):R (T k) F.ζ1r [a0,a1,a2,a3,a4] h = nrm .no h (ζ1r k (R (T k)) a0 a1 a2 a3 a4 h) :=
 (R_body (t:=T k) (T_scott k) (by kernel_rfl) (by kernel_rfl) _ _).trans (by kernel_rfl)
theorem ζ6e (k:Nat) (call:Caller) (a1 a34 a35 a36:Value) (h:Heap):ζ57 k call [(1,a1),(34,a34),(35,a35),(36,a36)] h =
 (binR Prog .lss 3 a36 a35 h).bind fun v23 h24 =>
 condV (some v23) (
 (indexAddrR Prog 23 a34 a36 h24).bind fun v25 h26 =>
 (loadR Prog 3 v25 h26).bind fun v27 h28 =>
 (call F.ζ3h [a1,v27,(.int .i64 65535)] h28).bind fun v29 h30 =>
 (binR Prog .add 3 a36 (.int .i64 1) h30).bind fun v31 h32 =>
 .ok (.normal,[(1,a1),(34,a34),(35,a35),(36,v31)]) h32)
 (
 .ok ((.exit 0),[(1,a1),(34,a34),(35,a35),(36,a36),(37,v23)]) h24) :=
 (loopB_eq _ _).trans (by kernel_rfl)
theorem ζaz (k:Nat) (call:Caller) (a1 a34 a35 a36 a37:Value) (h:Heap):ζ7t k call (.exit 0) [(1,a1),(34,a34),(35,a35),(36,a36),(37,a37)] h =
 .ok (.bool true) h:=by kernel_rfl
end
end Go.Sw
end
