/-
  Functions' forms, and what is proved of them, part 6.
-/
import Derived.Test.YtanfippcmdialaaSwCfg
import Derived.Test.YtanfippcmdialaaSwW5
import Derived.Test.YtanfippcmdialaaSwW2
import Derived.Test.YtanfippcmdialaaSwW3
set_option linter.unusedSimpArgs false
set_option linter.unusedVariables false
set_option linter.unusedSectionVars false
section
set_option maxRecDepth 100000
set_option linter.unusedVariables false
namespace Go.Sw
noncomputable section
def ζ46 (k:Nat) (call:Caller):Env → Heap → Res (AExit × Env):=loopB (C k) call F.ζ1 [1,1,1,1,0,1,0,0]
def ζ6g (k:Nat) (call:Caller):Kont Value:=kBlock 0 (kSeq (pieceK (C k) call F.ζ1 [1,1,1,1,1]) (kDone Prog (resOf Prog F.ζ1)))
def ζ47 (k:Nat) (call:Caller):Env → Heap → Res (AExit × Env):=loopB (C k) call F.ζ1 [1,1,1,1,1,1,0,1,0,0]
def ζ6h (k:Nat) (call:Caller):Kont Value:=kBlock 2 (kSeq (pieceK (C k) call F.ζ1 [1,1,1,1,1,1,1]) (kDone Prog (resOf Prog F.ζ1)))
def ζ2t (k:Nat) (call:Caller):Env → Heap → Res (AExit × Env):=loopB (C k) call F.ζ1 [1,1,1,1,1,1,0,1,0,0,1,1,0,0,1,1,0,0]
def ζ6i (k:Nat) (call:Caller):Kont (AExit × Env):=kBlock 4 (kBlock 3 (kSeq (pieceK (C k) call F.ζ1 [1,1,1,1,1,1,0,1,0,0,1,1,1]) (kRound (ownOf (C k) F.ζ1 [1,1,1,1,1,1,0,1,0,0]))))
def ζ6y (k:Nat) (call:Caller) (a1 a2 a3 a7 a8 a9 a12 a13 a15 a17 a47 a48 a49 a53 a54:Value) (h:Heap):Res (AExit × Env) :=
 kSeq (pieceK (C k) call F.ζ1 [1,1,1,1,1,1,0,1,0,0,1,1,0,0,1,1,0,0,1,1,0,0,1,1,1]) (kBlock 5 (kSeq (pieceK (C k) call F.ζ1 [1,1,1,1,1,1,0,1,0,0,1,1,0,0,1,1,0,0,1,1,1]) (kRound (ownOf (C k) F.ζ1 [1,1,1,1,1,1,0,1,0,0,1,1,0,0,1,1,0,0])))) .normal [(1,a1),(2,a2),(3,a3),(7,a7),(8,a8),(9,a9),(12,a12),(13,a13),(15,a15),(17,a17),(47,a47),(48,a48),(49,a49),(53,a53),(54,a54)] h
def ζ6z (k:Nat) (call:Caller) (a1 a2 a3 a7 a8 a9 a12 a13 a15 a16 a17 a47 a48 a49 a53 a54 a60:Value) (h:Heap):Res (AExit × Env) :=
 kSeq (pieceK (C k) call F.ζ1 [1,1,1,1,1,1,0,1,0,0,1,1,0,0,1,1,0,0,1,1,0,0,1,1,1]) (kBlock 5 (kSeq (pieceK (C k) call F.ζ1 [1,1,1,1,1,1,0,1,0,0,1,1,0,0,1,1,0,0,1,1,1]) (kRound (ownOf (C k) F.ζ1 [1,1,1,1,1,1,0,1,0,0,1,1,0,0,1,1,0,0])))) .normal [(1,a1),(2,a2),(3,a3),(7,a7),(8,a8),(9,a9),(12,a12),(13,a13),(15,a15),(16,a16),(17,a17),(47,a47),(48,a48),(49,a49),(53,a53),(54,a54),(60,a60)] h
def ζ2u (k:Nat) (call:Caller):Env → Heap → Res (AExit × Env):=loopB (C k) call F.ζ1 [1,1,1,1,1,1,1,0,1,0,0]
def ζ6j (k:Nat) (call:Caller):Kont Value:=kBlock 6 (kSeq (pieceK (C k) call F.ζ1 [1,1,1,1,1,1,1,1]) (kDone Prog (resOf Prog F.ζ1)))
def ζ70 (k:Nat) (call:Caller) (a1 a2 a7 a8 a9 a12 a13 a19 a72 a73 a74:Value) (h:Heap):Res (AExit × Env) :=
 kSeq (pieceK (C k) call F.ζ1 [1,1,1,1,1,1,1,0,1,0,0,1,1,0,0,1,1,1]) (kBlock 7 (kSeq (pieceK (C k) call F.ζ1 [1,1,1,1,1,1,1,0,1,0,0,1,1,1]) (kRound (ownOf (C k) F.ζ1 [1,1,1,1,1,1,1,0,1,0,0])))) .normal [(1,a1),(2,a2),(7,a7),(8,a8),(9,a9),(12,a12),(13,a13),(19,a19),(72,a72),(73,a73),(74,a74)] h
def ζ71 (k:Nat) (call:Caller) (a1 a2 a7 a8 a9 a12 a13 a19 a72 a73 a74 a88:Value) (h:Heap):Res (AExit × Env) :=
 kSeq (pieceK (C k) call F.ζ1 [1,1,1,1,1,1,1,0,1,0,0,1,1,0,0,1,1,1]) (kBlock 7 (kSeq (pieceK (C k) call F.ζ1 [1,1,1,1,1,1,1,0,1,0,0,1,1,1]) (kRound (ownOf (C k) F.ζ1 [1,1,1,1,1,1,1,0,1,0,0])))) .normal [(1,a1),(2,a2),(7,a7),(8,a8),(9,a9),(12,a12),(13,a13),(19,a19),(72,a72),(73,a73),(74,a74),(88,a88)] h
def ζ44 (k:Nat) (call:Caller) (a1 a2 a7 a8 a9 a12 a13 a72 a73 a74:Value) (h:Heap):Res (AExit × Env) :=
 kSeq (pieceK (C k) call F.ζ1 [1,1,1,1,1,1,1,0,1,0,0,1,1,1]) (kRound (ownOf (C k) F.ζ1 [1,1,1,1,1,1,1,0,1,0,0])) .normal [(1,a1),(2,a2),(7,a7),(8,a8),(9,a9),(12,a12),(13,a13),(72,a72),(73,a73),(74,a74)] h
def ζ45 (k:Nat) (call:Caller) (a1 a2 a7 a8 a9 a12 a13 a19 a72 a73 a74 a95:Value) (h:Heap):Res (AExit × Env) :=
 kSeq (pieceK (C k) call F.ζ1 [1,1,1,1,1,1,1,0,1,0,0,1,1,1]) (kRound (ownOf (C k) F.ζ1 [1,1,1,1,1,1,1,0,1,0,0])) .normal [(1,a1),(2,a2),(7,a7),(8,a8),(9,a9),(12,a12),(13,a13),(19,a19),(72,a72),(73,a73),(74,a74),(95,a95)] h
def ζ1 (k:Nat) (call:Caller) (a0 a1 a2:Value) (h:Heap):Res Value :=
 (boxR a0 h).bind fun v1 h2 =>
 (fieldAddrR Prog 104 v1 3 h2).bind fun v3 h4 =>
 (loadR Prog 5 v3 h4).bind fun v5 h6 =>
 (convR Prog 5 3 v5 h6).bind fun v7 h8 =>
 (binR Prog .rem 3 v7 (.int .i64 8) h8).bind fun v9 h10 =>
 (binR Prog .add 3 (.int .i64 4) v9 h10).bind fun v11 h12 =>
 (binR Prog .add 3 (.int .i64 16) a2 h12).bind fun v13 h14 =>
 (call F.ζ2 [(.slice none 0 0),(.int .i64 8),(.int .i64 2)] h14).bindT (fun p17 h18 => (fieldAddrR Prog 104 v1 0 h14).bindN fun v19 h20 => (loadR Prog 31 v19 h20).bindN fun v21 h22 => (builtinV Prog .len [31] [v21] h22).bindN fun v23 h24 => chkR ((okVal (loadR Prog 31 v19 h14) v21 && true) && true) (.panic p17 h18)) fun v15 h16 =>
 (call F.ζ2 [v15,(.int .i64 0),(.int .i64 2)] h16).bindT (fun p27 h28 => (fieldAddrR Prog 104 v1 0 h16).bindN fun v29 h30 => (loadR Prog 31 v29 h30).bindN fun v31 h32 => (builtinV Prog .len [31] [v31] h32).bindN fun v33 h34 => chkR ((okVal (loadR Prog 31 v29 h14) v31 && (okVal (loadR Prog 31 v29 h16) v31 && true)) && true) (.panic p27 h28)) fun v25 h26 =>
 (fieldAddrR Prog 104 v1 0 h26).bindN fun v35 h36 =>
 (loadR Prog 31 v35 h36).bindN fun v37 h38 =>
 (builtinV Prog .len [31] [v37] h38).bindN fun v39 h40 =>
 (call F.ζ2 [v25,v39,(.int .i64 2)] h40).bindT (fun p43 h44 => chkR ((okVal (loadR Prog 31 v35 h14) v37 && (okVal (loadR Prog 31 v35 h16) v37 && true)) && true) (.panic p43 h44)) fun v41 h42 =>
 chkR ((okVal (loadR Prog 31 v35 h14) v37 && (okVal (loadR Prog 31 v35 h16) v37 && true)) && true) (
 (fieldAddrR Prog 104 v1 0 h42).bind fun v45 h46 =>
 (loadR Prog 31 v45 h46).bind fun v47 h48 =>
 (builtinV Prog .len [31] [v47] h48).bind fun v49 h50 =>
 (loopN (ζ46 k call) loopFuel [(1,a1),(2,a2),(3,v1),(7,v11),(8,v13),(9,v41),(35,v47),(36,v49),(37,(.int .i64 0))] h50).bind fun r51 h52 =>
 ζ6g k call r51.1 r51.2 h52)
theorem ζbl (k:Nat) (a0 a1 a2:Value) (h:Heap):R (T k) F.ζ1 [a0,a1,a2] h = nrm (ownW k) h (ζ1 k (R (T k)) a0 a1 a2 h) :=
 (R_body (t:=T k) (T_scott k) (by kernel_rfl) (by kernel_rfl) _ _).trans (by kernel_rfl)
theorem ζ52 (k:Nat) (call:Caller) (a1 a2 a3 a7 a8 a9 a35 a36 a37:Value) (h:Heap):ζ46 k call [(1,a1),(2,a2),(3,a3),(7,a7),(8,a8),(9,a9),(35,a35),(36,a36),(37,a37)] h =
 (binR Prog .lss 3 a37 a36 h).bind fun v53 h54 =>
 condV (some v53) (
 (indexAddrR Prog 31 a35 a37 h54).bind fun v55 h56 =>
 (loadR Prog 5 v55 h56).bind fun v57 h58 =>
 (convR Prog 5 3 v57 h58).bind fun v59 h60 =>
 (call F.ζ2 [a9,v59,(.int .i64 2)] h60).bind fun v61 h62 =>
 (binR Prog .add 3 a37 (.int .i64 1) h62).bind fun v63 h64 =>
 .ok (.normal,[(1,a1),(2,a2),(3,a3),(7,a7),(8,a8),(9,v61),(35,a35),(36,a36),(37,v63)]) h64)
 (
 .ok ((.exit 0),[(1,a1),(2,a2),(3,a3),(7,a7),(8,a8),(9,a9),(35,a35),(36,a36),(37,a37),(38,v53)]) h54) :=
 (loopB_eq _ _).trans (by kernel_rfl)
theorem ζ8q (k:Nat) (call:Caller) (a1 a2 a3 a7 a8 a9 a35 a36 a37 a38:Value) (h:Heap):ζ6g k call (.exit 0) [(1,a1),(2,a2),(3,a3),(7,a7),(8,a8),(9,a9),(35,a35),(36,a36),(37,a37),(38,a38)] h =
 (fieldAddrR Prog 104 a3 1 h).bind fun v65 h66 =>
 (loadR Prog 101 v65 h66).bind fun v67 h68 =>
 (builtinV Prog .len [101] [v67] h68).bind fun v69 h70 =>
 (loopN (ζ47 k call) loopFuel [(1,a1),(2,a2),(3,a3),(7,a7),(8,a8),(9,a9),(12,(.slice none 0 0)),(13,(.slice none 0 0)),(47,v67),(48,v69),(49,(.int .i64 0))] h70).bind fun r71 h72 =>
 ζ6h k call r71.1 r71.2 h72:=by kernel_rfl
theorem ζ53 (k:Nat) (call:Caller) (a1 a2 a3 a7 a8 a9 a12 a13 a47 a48 a49:Value) (h:Heap):ζ47 k call [(1,a1),(2,a2),(3,a3),(7,a7),(8,a8),(9,a9),(12,a12),(13,a13),(47,a47),(48,a48),(49,a49)] h =
 (binR Prog .lss 3 a49 a48 h).bind fun v73 h74 =>
 condV (some v73) (
 (indexAddrR Prog 101 a47 a49 h74).bind fun v75 h76 =>
 (loadR Prog 31 v75 h76).bind fun v77 h78 =>
 (loopN (ζ2t k call) loopFuel [(1,a1),(2,a2),(3,a3),(7,a7),(8,a8),(9,a9),(12,a12),(13,a13),(15,v77),(47,a47),(48,a48),(49,a49),(53,a7),(54,(.int .i64 0))] h78).bind fun r79 h80 =>
 ζ6i k call r79.1 r79.2 h80)
 (
 .ok ((.exit 2),[(1,a1),(2,a2),(3,a3),(7,a7),(8,a8),(9,a9),(12,a12),(13,a13),(47,a47),(48,a48),(49,a49),(50,v73)]) h74) :=
 (loopB_eq _ _).trans (by kernel_rfl)
theorem ζ54 (k:Nat) (call:Caller) (a1 a2 a3 a7 a8 a9 a12 a13 a15 a47 a48 a49 a53 a54:Value) (h:Heap):ζ2t k call [(1,a1),(2,a2),(3,a3),(7,a7),(8,a8),(9,a9),(12,a12),(13,a13),(15,a15),(47,a47),(48,a48),(49,a49),(53,a53),(54,a54)] h =
 (binR Prog .lss 3 a54 a53 h).bind fun v81 h82 =>
 condV (some v81) (
 (builtinV Prog .len [31] [a15] h82).bind fun v83 h84 =>
 (binR Prog .lss 3 a54 v83 h84).bind fun v85 h86 =>
 condV (some v85) (
 (indexAddrR Prog 31 a15 a54 h86).bind fun v87 h88 =>
 (loadR Prog 5 v87 h88).bind fun v89 h90 =>
 (convR Prog 5 3 v89 h90).bind fun v91 h92 =>
 ζ6y k call a1 a2 a3 a7 a8 a9 a12 a13 a15 v91 a47 a48 a49 a53 a54 h92)
 (
 ζ6z k call a1 a2 a3 a7 a8 a9 a12 a13 a15 a54 (.int .i64 0) a47 a48 a49 a53 a54 v85 h86))
 (
 .ok ((.exit 4),[(1,a1),(2,a2),(3,a3),(7,a7),(8,a8),(9,a9),(12,a12),(13,a13),(15,a15),(47,a47),(48,a48),(49,a49),(53,a53),(54,a54),(55,v81)]) h82) :=
 (loopB_eq _ _).trans (by kernel_rfl)
theorem ζ98 (k:Nat) (call:Caller) (a1 a2 a3 a7 a8 a9 a12 a13 a15 a17 a47 a48 a49 a53 a54:Value) (h:Heap):ζ6y k call a1 a2 a3 a7 a8 a9 a12 a13 a15 a17 a47 a48 a49 a53 a54 h =
 (call F.ζ2 [a12,a17,(.int .i64 2)] h).bind fun v93 h94 =>
 (binR Prog .add 3 a54 (.int .i64 1) h94).bind fun v95 h96 =>
 .ok (.normal,[(1,a1),(2,a2),(3,a3),(7,a7),(8,a8),(9,a9),(12,v93),(13,a13),(15,a15),(47,a47),(48,a48),(49,a49),(53,a53),(54,v95)]) h96:=by kernel_rfl
theorem ζ99 (k:Nat) (call:Caller) (a1 a2 a3 a7 a8 a9 a12 a13 a15 a16 a17 a47 a48 a49 a53 a54 a60:Value) (h:Heap):ζ6z k call a1 a2 a3 a7 a8 a9 a12 a13 a15 a16 a17 a47 a48 a49 a53 a54 a60 h =
 (call F.ζ2 [a12,a17,(.int .i64 2)] h).bind fun v97 h98 =>
 (binR Prog .add 3 a54 (.int .i64 1) h98).bind fun v99 h100 =>
 .ok (.normal,[(1,a1),(2,a2),(3,a3),(7,a7),(8,a8),(9,a9),(12,v97),(13,a13),(15,a15),(47,a47),(48,a48),(49,a49),(53,a53),(54,v99)]) h100:=by kernel_rfl
theorem ζ8r (k:Nat) (call:Caller) (a1 a2 a3 a7 a8 a9 a12 a13 a47 a48 a49 a50:Value) (h:Heap):ζ6h k call (.exit 2) [(1,a1),(2,a2),(3,a3),(7,a7),(8,a8),(9,a9),(12,a12),(13,a13),(47,a47),(48,a48),(49,a49),(50,a50)] h =
 (fieldAddrR Prog 104 a3 2 h).bind fun v101 h102 =>
 (loadR Prog 102 v101 h102).bind fun v103 h104 =>
 (builtinV Prog .len [102] [v103] h104).bind fun v105 h106 =>
 (loopN (ζ2u k call) loopFuel [(1,a1),(2,a2),(7,a7),(8,a8),(9,a9),(12,a12),(13,a13),(72,v103),(73,v105),(74,(.int .i64 0))] h106).bind fun r107 h108 =>
 ζ6j k call r107.1 r107.2 h108:=by kernel_rfl
theorem ζ26 (k:Nat) (call:Caller) (a1 a2 a7 a8 a9 a12 a13 a72 a73 a74:Value) (h:Heap):ζ2u k call [(1,a1),(2,a2),(7,a7),(8,a8),(9,a9),(12,a12),(13,a13),(72,a72),(73,a73),(74,a74)] h =
 (binR Prog .lss 3 a74 a73 h).bind fun v109 h110 =>
 condV (some v109) (
 (indexAddrR Prog 102 a72 a74 h110).bind fun v111 h112 =>
 (loadR Prog 130 v111 h112).bind fun v113 h114 =>
 (allocR Prog 130 h114).bind fun v115 h116 =>
 (storeR Prog 130 v115 v113 h116).bind fun _v117 h118 =>
 (fieldAddrR Prog 130 v115 0 h118).bindN fun v119 h120 =>
 (loadR Prog 3 v119 h120).bindN fun v121 h122 =>
 (binR Prog .and 3 v121 (.int .i64 65535) h122).bindN fun v123 h124 =>
 (call F.ζ2 [a13,v123,(.int .i64 2)] h124).bindT (fun p127 h128 => (fieldAddrR Prog 130 v115 1 h124).bindN fun v129 h130 => (loadR Prog 3 v129 h130).bindN fun v131 h132 => (binR Prog .and 3 v131 (.int .i64 65535) h132).bindN fun v133 h134 => chkR ((okVal (loadR Prog 3 v129 h118) v131 && true) && true) (.panic p127 h128)) fun v125 h126 =>
 (fieldAddrR Prog 130 v115 1 h126).bindN fun v135 h136 =>
 (loadR Prog 3 v135 h136).bindN fun v137 h138 =>
 (binR Prog .and 3 v137 (.int .i64 65535) h138).bindN fun v139 h140 =>
 (call F.ζ2 [v125,v139,(.int .i64 2)] h140).bindT (fun p143 h144 => chkR ((okVal (loadR Prog 3 v135 h118) v137 && true) && true) (.panic p143 h144)) fun v141 h142 =>
 chkR ((okVal (loadR Prog 3 v135 h118) v137 && true) && true) (
 (binR Prog .gtr 3 a1 (.int .i64 0) h142).bind fun v145 h146 =>
 condV (some v145) (
 (fieldAddrR Prog 130 v115 2 h146).bind fun v147 h148 =>
 (loadR Prog 3 v147 h148).bind fun v149 h150 =>
 (binR Prog .and 3 v149 (.int .i64 65535) h150).bind fun v151 h152 =>
 (call F.ζ2 [v141,v151,(.int .i64 2)] h152).bind fun v153 h154 =>
 ζ70 k call a1 a2 a7 a8 a9 a12 v153 v115 a72 a73 a74 h154)
 (
 ζ71 k call a1 a2 a7 a8 a9 a12 v141 v115 a72 a73 a74 v145 h146)))
 (
 .ok ((.exit 6),[(1,a1),(2,a2),(7,a7),(8,a8),(9,a9),(12,a12),(13,a13),(72,a72),(73,a73),(74,a74),(75,v109)]) h110) :=
 (loopB_eq _ _).trans (by kernel_rfl)
theorem ζ50 (k:Nat) (call:Caller) (a1 a2 a7 a8 a9 a12 a13 a19 a72 a73 a74:Value) (h:Heap):ζ70 k call a1 a2 a7 a8 a9 a12 a13 a19 a72 a73 a74 h =
 (binR Prog .gtr 3 a1 (.int .i64 1) h).bind fun v155 h156 =>
 condV (some v155) (
 (fieldAddrR Prog 130 a19 3 h156).bind fun v157 h158 =>
 (loadR Prog 3 v157 h158).bind fun v159 h160 =>
 (binR Prog .and 3 v159 (.int .i64 65535) h160).bind fun v161 h162 =>
 (call F.ζ2 [a13,v161,(.int .i64 2)] h162).bind fun v163 h164 =>
 ζ44 k call a1 a2 a7 a8 a9 a12 v163 a72 a73 a74 h164)
 (
 ζ45 k call a1 a2 a7 a8 a9 a12 a13 a19 a72 a73 a74 v155 h156):=by kernel_rfl
theorem ζ9a (k:Nat) (call:Caller) (a1 a2 a7 a8 a9 a12 a13 a19 a72 a73 a74 a88:Value) (h:Heap):ζ71 k call a1 a2 a7 a8 a9 a12 a13 a19 a72 a73 a74 a88 h =
 (binR Prog .gtr 3 a1 (.int .i64 1) h).bind fun v165 h166 =>
 condV (some v165) (
 (fieldAddrR Prog 130 a19 3 h166).bind fun v167 h168 =>
 (loadR Prog 3 v167 h168).bind fun v169 h170 =>
 (binR Prog .and 3 v169 (.int .i64 65535) h170).bind fun v171 h172 =>
 (call F.ζ2 [a13,v171,(.int .i64 2)] h172).bind fun v173 h174 =>
 ζ44 k call a1 a2 a7 a8 a9 a12 v173 a72 a73 a74 h174)
 (
 ζ45 k call a1 a2 a7 a8 a9 a12 a13 a19 a72 a73 a74 v165 h166):=by kernel_rfl
theorem ζ9b (k:Nat) (call:Caller) (a1 a2 a7 a8 a9 a12 a13 a72 a73 a74:Value) (h:Heap):ζ44 k call a1 a2 a7 a8 a9 a12 a13 a72 a73 a74 h =
 (binR Prog .add 3 a74 (.int .i64 1) h).bind fun v175 h176 =>
 .ok (.normal,[(1,a1),(2,a2),(7,a7),(8,a8),(9,a9),(12,a12),(13,a13),(72,a72),(73,a73),(74,v175)]) h176:=by kernel_rfl
theorem ζ51 (k:Nat) (call:Caller) (a1 a2 a7 a8 a9 a12 a13 a19 a72 a73 a74 a95:Value) (h:Heap):ζ45 k call a1 a2 a7 a8 a9 a12 a13 a19 a72 a73 a74 a95 h =
 (binR Prog .add 3 a74 (.int .i64 1) h).bind fun v177 h178 =>
 .ok (.normal,[(1,a1),(2,a2),(7,a7),(8,a8),(9,a9),(12,a12),(13,a13),(72,a72),(73,a73),(74,v177)]) h178:=by kernel_rfl
theorem ζ8s (k:Nat) (call:Caller) (a1 a2 a3 a7 a8 a9 a12 a13 a15 a47 a48 a49 a53 a54 a55:Value) (h:Heap):ζ6i k call (.exit 4) [(1,a1),(2,a2),(3,a3),(7,a7),(8,a8),(9,a9),(12,a12),(13,a13),(15,a15),(47,a47),(48,a48),(49,a49),(53,a53),(54,a54),(55,a55)] h =
 (binR Prog .add 3 a49 (.int .i64 1) h).bind fun v179 h180 =>
 .ok (.normal,[(1,a1),(2,a2),(3,a3),(7,a7),(8,a8),(9,a9),(12,a12),(13,a13),(47,a47),(48,a48),(49,v179)]) h180:=by kernel_rfl
theorem ζ8t (k:Nat) (call:Caller) (a1 a2 a7 a8 a9 a12 a13 a72 a73 a74 a75:Value) (h:Heap):ζ6j k call (.exit 6) [(1,a1),(2,a2),(7,a7),(8,a8),(9,a9),(12,a12),(13,a13),(72,a72),(73,a73),(74,a74),(75,a75)] h =
 (call F.ζ2 [(.slice none 0 0),a7,(.int .i64 4)] h).bind fun v181 h182 =>
 (call F.ζ2 [v181,a8,(.int .i64 4)] h182).bind fun v183 h184 =>
 (builtinV Prog .len [31] [a9] h184).bind fun v185 h186 =>
 (binR Prog .add 3 a8 v185 h186).bind fun v187 h188 =>
 (call F.ζ2 [v183,v187,(.int .i64 4)] h188).bind fun v189 h190 =>
 (builtinV Prog .len [31] [a9] h190).bind fun v191 h192 =>
 (binR Prog .add 3 a8 v191 h192).bind fun v193 h194 =>
 (builtinV Prog .len [31] [a12] h194).bind fun v195 h196 =>
 (binR Prog .add 3 v193 v195 h196).bind fun v197 h198 =>
 (call F.ζ2 [v189,v197,(.int .i64 4)] h198).bind fun v199 h200 =>
 (builtinV Prog .append [31,3] [v199,a2] h200).bind fun v201 h202 =>
 (builtinV Prog .append [31,31] [v201,a9] h202).bind fun v203 h204 =>
 (builtinV Prog .append [31,31] [v203,a12] h204).bind fun v205 h206 =>
 (builtinV Prog .append [31,31] [v205,a13] h206).bind fun v207 h208 =>
 .ok v207 h208:=by kernel_rfl
end
end Go.Sw
end
section
namespace Go.Sw
open Go.RowKit
structure Plan where
 cls:List Int
 rows:List (List Int)
 ents:List En
 wide:Int
abbrev encBR (r:List Int):List Value:=[lv encB r]
def planN (p:Plan):Nat:=4 + (p.wide % 8).toNat
def twos (l:List Int):List Int:=(l.map fun c => bytesOf c 2).flatten
def ofS (cls:List Int):List Int:=(bytesOf 8 2 ++ bytesOf 0 2 ++ bytesOf cls.length 2) ++ twos cls
def rowL (n:Nat) (r:List Int):List Int:=(List.range n).map fun i => r[i]?.getD 0
def rowsL (n:Nat) (rs:List (List Int)):List Int:=(rs.map fun r => twos (rowL n r)).flatten
def m16 (x:Int):Int:=x % 65536
def entB (w:Int) (e:En):List Int:=bytesOf (m16 e.next) 2 ++ bytesOf (m16 e.flags) 2 ++ (if 0 < w then bytesOf (m16 e.a) 2 else []) ++ (if 1 < w then bytesOf (m16 e.b) 2 else [])
def entsB (w:Int) (es:List En):List Int:=(es.map (entB w)).flatten
def planBytes (p:Plan) (w:Int) (room:Nat):List Int :=
 (((bytesOf (planN p:Int) 4 ++ bytesOf (16 + room:Int) 4 ++ bytesOf (16 + room + (ofS p.cls).length:Int) 4 ++ bytesOf (16 + room + (ofS p.cls).length + (rowsL (planN p) p.rows).length:Int) 4 ++ List.replicate room 0) ++ ofS p.cls) ++ rowsL (planN p) p.rows) ++ entsB w p.ents
theorem ζg5 (l:List Int) (x:Int):twos (l ++ [x]) = twos l ++ bytesOf x 2:=by simp [twos]
theorem twos_len (l:List Int):(twos l).length = l.length * 2:=flat_len (z:=2) (fun r hr => by obtain ⟨p,_,rfl⟩:=List.mem_map.1 hr; simp) |>.trans (by simp)
theorem rowL_len (n:Nat) (r:List Int):(rowL n r).length = n:=by simp [rowL]
theorem ζm3 (n:Nat) (rs:List (List Int)) (r:List Int):rowsL n (rs ++ [r]) = rowsL n rs ++ twos (rowL n r):=by simp [rowsL]
theorem ζcq (n:Nat) (rs:List (List Int)):(rowsL n rs).length = rs.length * (n * 2):=flat_len (z:=n * 2) (fun r hr => by obtain ⟨p,_,rfl⟩:=List.mem_map.1 hr; rw [twos_len,rowL_len]) |>.trans (by simp)
theorem entB_len (w:Int) (e:En):(entB w e).length ≤ 8:=by
 unfold entB;simp only [List.length_append,ζ2o];split <;> split <;> simp
theorem ζd3 (w:Int) (es:List En) (e:En):entsB w (es ++ [e]) = entsB w es ++ entB w e:=by simp [entsB]
theorem ζck (w:Int):∀ es:List En,(entsB w es).length ≤ es.length * 8
 | [] => by simp [entsB]
 | e :: es => by
  have h1:=ζck w es;have h2:=entB_len w e;unfold entsB at h1 ⊢;simp only [List.map_cons,List.flatten_cons,List.length_append,List.length_cons];omega
theorem and16 (P:Program) (t:TypeId) (H:Heap) (a:Int):binR P .and t (.int .i64 a) (.int .i64 65535) H = .ok (.int .i64 (m16 a)) H:=by
 have e:(BitVec.ofInt 64 a &&& BitVec.ofInt 64 65535).toNat = (a % 65536).toNat:=by
  rw [BitVec.toNat_and,BitVec.toNat_ofInt,BitVec.toNat_ofInt];rw [show ((65535:Int) % ((2 ^ 64:Nat):Int)).toNat = 2 ^ 16 - 1 from by decide,Nat.and_two_pow_sub_one_eq_mod];omega
 have e1:binV P .and t (.int .i64 a) (.int .i64 65535) = some (.int .i64 (IntKind.i64.wrap (BitVec.ofInt 64 a &&& BitVec.ofInt 64 65535).toNat)):=rfl;unfold binR;rw [e1,e];unfold m16;rw [show (((a % 65536).toNat:Nat):Int) = a % 65536 by omega,wrap_i64 (by omega) (by omega)];rfl
theorem ζ6w (a:Int):0 ≤ m16 a ∧ m16 a < 65536:=by unfold m16; omega
theorem write_l3 (k:Nat) {H0 H:Heap} {o9 o12:Option Nat} {a9 a12:Value} {l9 l12:List Int} {B:It} (w room:Value) (n:Nat) (hn:n ≤ 11) (a3 a8:Value) {vr:Value} (r:List Int) (hr:Byt r) (hv:Sl H0 1 vr encB r) (x47 x48 x49:Value) (hl:l12.length < 2 ^ 29)
  (g:Star H0 H [itRow o9 1 a9 encB l9,itRow o12 1 a12 encB l12,B]) :
  ∃ s o H' z,loopN (ζ2t k (R (T k))) loopFuel [(1,w),(2,room),(3,a3),(7,.int .i64 n),(8,a8),(9,a9),(12,a12),(13,.slice none 0 0),(15,vr),(47,x47),(48,x48),(49,x49),(53,.int .i64 n),(54,.int .i64 0)] H =
   .ok (.exit 4,[(1,w),(2,room),(3,a3),(7,.int .i64 n),(8,a8),(9,a9),(12,s),(13,.slice none 0 0),(15,vr),(47,x47),(48,x48),(49,x49),(53,.int .i64 n),(54,z),(55,.bool false)]) H' ∧
   Star H0 H' [itRow o9 1 a9 encB l9,itRow o 1 s encB (l12 ++ twos (rowL n r)),B]:=by
 have hvl:=fun H' => hv.len H'
 obtain ⟨x,e',H1,hr1,rfl,z,s,o,rfl,g⟩:=loop_up (body:=ζ2t k (R (T k))) n
  (fun j e H' => ∃ s o,e = [(1,w),(2,room),(3,a3),(7,.int .i64 n),(8,a8),(9,a9),(12,s),(13,.slice none 0 0),(15,vr),(47,x47),(48,x48),(49,x49),(53,.int .i64 n),(54,.int .i64 j)] ∧ Star H0 H' [itRow o9 1 a9 encB l9,itRow o 1 s encB (l12 ++ twos ((rowL n r).take j)),B])
  (fun x e H' => x = .exit 4 ∧ ∃ z s o,e = [(1,w),(2,room),(3,a3),(7,.int .i64 n),(8,a8),(9,a9),(12,s),(13,.slice none 0 0),(15,vr),(47,x47),(48,x48),(49,x49),(53,.int .i64 n),(54,z),(55,.bool false)] ∧ Star H0 H' [itRow o9 1 a9 encB l9,itRow o 1 s encB (l12 ++ twos (rowL n r)),B])
  (e0:=[(1,w),(2,room),(3,a3),(7,.int .i64 n),(8,a8),(9,a9),(12,a12),(13,.slice none 0 0),(15,vr),(47,x47),(48,x48),(49,x49),(53,.int .i64 n),(54,.int .i64 0)]) (H0:=H) ⟨a12,o12,rfl,by simpa [twos] using g⟩ (by omega)
  (fun j e H' hj ⟨s,o,he,g⟩ => by
   subst he;have hlt:(j:Int) < n:=by omega
   have hq:(rowL n r)[j]? = some (r[j]?.getD 0):=by unfold rowL; rw [List.getElem?_map,List.getElem?_range hj]; rfl
   have hlen:(l12 ++ twos ((rowL n r).take j)).length < 2 ^ 30:=by
    rw [List.length_append,twos_len,List.length_take,rowL_len];omega
   have hb:0 ≤ r[j]?.getD 0 ∧ r[j]?.getD 0 < 256:=by
    cases h:r[j]? with
    | none => simp
    | some y => exact hr y (List.mem_of_getElem? h)
   obtain ⟨s',o',H2,e2,g2⟩:=Put_star k g 1 rfl (r[j]?.getD 0) 2 2 rfl hb.1 (by omega) (by omega) hlen;simp only [List.set_cons_zero,List.set_cons_succ] at g2;refine .inl ⟨_,H2,?_,s',o',rfl,by rw [ζ1o hq,ζg5,← List.append_assoc]; exact g2⟩;rw [ζ54];cases h:r[j]? with
   | some y =>
    have hjr:(j:Int) < r.length:=by have:=(List.getElem?_eq_some_iff.1 h).1; omega
    obtain ⟨pp,i1,i2⟩:=hv.ix1 encB_len j y h _ rfl;have i2:=i2 H' g.ext;rw [h] at e2 hb;simp at e2 hb;simp -implicitDefEqProofs (disch:=omega) [hlt,hjr,hvl,i1,i2,ζ98,e2]
   | none =>
    have hjr:¬ (j:Int) < r.length:=by have:=List.getElem?_eq_none_iff.1 h; omega
    rw [h] at e2;simp at e2;simp -implicitDefEqProofs (disch:=omega) [hlt,hjr,hvl,ζ99,e2])
  (fun e H' ⟨s,o,he,g⟩ => by
   subst he;rw [List.take_of_length_le (by rw [rowL_len]; exact Nat.le_refl _)] at g;refine ⟨.exit 4,_,H',?_,by simp,rfl,.int .i64 n,s,o,rfl,g⟩;rw [ζ54];simp -implicitDefEqProofs)
 exact ⟨s,o,H1,z,hr1,g⟩
def Plan.ok (p:Plan):Prop:=Byt p.cls ∧ (∀ r,r ∈ p.rows → Byt r) ∧ 0 ≤ p.wide ∧ p.wide < 256
set_option maxHeartbeats 1000000 in
theorem write_l4 (k:Nat) {H0 H:Heap} {o9 o12:Option Nat} {a9 a12:Value} {l9 l12:List Int} {B:It} (w:Int) (hw:w = 0 ∨ w = 1 ∨ w = 2) (room:Value) (a7 a8:Value) (es:List En) (hl:es.length < 2 ^ 20) {sE:Value} (hsE:Sl H0 4 sE encEn es)
  (g:Star H0 H [itRow o9 1 a9 encB l9,itRow o12 1 a12 encB l12,B]) :
  ∃ s o H' z,loopN (ζ2u k (R (T k))) loopFuel [(1,.int .i64 w),(2,room),(7,a7),(8,a8),(9,a9),(12,a12),(13,.slice none 0 0),(72,sE),(73,.int .i64 es.length),(74,.int .i64 0)] H =
   .ok (.exit 6,[(1,.int .i64 w),(2,room),(7,a7),(8,a8),(9,a9),(12,a12),(13,s),(72,sE),(73,.int .i64 es.length),(74,z),(75,.bool false)]) H' ∧
   Star H0 H' [itRow o9 1 a9 encB l9,itRow o12 1 a12 encB l12,B,itRow o 1 s encB (entsB w es)]:=by
 have g:=g.more_row (Ext.refl _) (OwnO.nil encB _ 1) (fun b hb => by cases hb)
 obtain ⟨x,e',H1,hr1,rfl,z,s,o,rfl,g⟩:=loop_up (body:=ζ2u k (R (T k))) es.length
  (fun j e H' => ∃ s o,e = [(1,.int .i64 w),(2,room),(7,a7),(8,a8),(9,a9),(12,a12),(13,s),(72,sE),(73,.int .i64 es.length),(74,.int .i64 j)] ∧ Star H0 H' [itRow o9 1 a9 encB l9,itRow o12 1 a12 encB l12,B,itRow o 1 s encB (entsB w (es.take j))])
  (fun x e H' => x = .exit 6 ∧ ∃ z s o,e = [(1,.int .i64 w),(2,room),(7,a7),(8,a8),(9,a9),(12,a12),(13,s),(72,sE),(73,.int .i64 es.length),(74,z),(75,.bool false)] ∧ Star H0 H' [itRow o9 1 a9 encB l9,itRow o12 1 a12 encB l12,B,itRow o 1 s encB (entsB w es)])
  (e0:=[(1,.int .i64 w),(2,room),(7,a7),(8,a8),(9,a9),(12,a12),(13,.slice none 0 0),(72,sE),(73,.int .i64 es.length),(74,.int .i64 0)]) (H0:=H) ⟨.slice none 0 0,none,rfl,by simpa [entsB] using g⟩ (by omega)
  (fun j e H' hj ⟨s,o,he,g⟩ => by
   subst he;have hlt:(j:Int) < es.length:=by omega
   obtain ⟨en,hen⟩:∃ en,es[j]? = some en:=⟨_,List.getElem?_eq_getElem hj⟩
   obtain ⟨q,i1,i2⟩:=((hsE.up g.ext).rd (by decide) ζ37).2 j en hen;have hlen:=ζck w (es.take j);rw [List.length_take] at hlen;have g:=g.push ⟨encEn en,1,false⟩;simp only [List.cons_append,List.nil_append] at g;have b1:=ζ6w en.next;have b2:=ζ6w en.flags;have b3:=ζ6w en.a;have b4:=ζ6w en.b;have an:=fun H a => and16 Prog 3 H a;obtain ⟨s1,o1,H1,e1,g1⟩:=Put_star k g 3 rfl (m16 en.next) 2 2 rfl b1.1 (by omega) (by omega) (by omega);simp only [List.set_cons_zero,List.set_cons_succ] at g1;have h1:=g1.get 4 rfl;obtain ⟨s2,o2,H2,e2,g2⟩:=Put_star k g1 3 rfl (m16 en.flags) 2 2 rfl b2.1 (by omega) (by omega) (by simp; omega);simp only [List.set_cons_zero,List.set_cons_succ] at g2;have h2:=g2.get 4 rfl;rcases hw with rfl | rfl | rfl
   ·refine .inl ⟨_,H2,?_,s2,o2,rfl,by rw [ζ1o hen,ζd3]; simpa [entB] using g2.take 4⟩;rw [ζ26];simp -implicitDefEqProofs (disch:=omega) [hlt,i1,i2,an,e1,h1,e2,h2,ζ9a,ζ51]
   ·obtain ⟨s3,o3,H3,e3,g3⟩:=Put_star k g2 3 rfl (m16 en.a) 2 2 rfl b3.1 (by omega) (by omega) (by simp; omega);simp only [List.set_cons_zero,List.set_cons_succ] at g3;have h3:=g3.get 4 rfl;refine .inl ⟨_,H3,?_,s3,o3,rfl,by rw [ζ1o hen,ζd3]; simpa [entB] using g3.take 4⟩;rw [ζ26];simp -implicitDefEqProofs (disch:=omega) [hlt,i1,i2,an,e1,h1,e2,h2,e3,h3,ζ50,ζ51]
   ·obtain ⟨s3,o3,H3,e3,g3⟩:=Put_star k g2 3 rfl (m16 en.a) 2 2 rfl b3.1 (by omega) (by omega) (by simp; omega);simp only [List.set_cons_zero,List.set_cons_succ] at g3;have h3:=g3.get 4 rfl;obtain ⟨s4,o4,H4,e4,g4⟩:=Put_star k g3 3 rfl (m16 en.b) 2 2 rfl b4.1 (by omega) (by omega) (by simp; omega);simp only [List.set_cons_zero,List.set_cons_succ] at g4;refine .inl ⟨_,H4,?_,s4,o4,rfl,by rw [ζ1o hen,ζd3]; simpa [entB] using g4.take 4⟩;rw [ζ26];simp -implicitDefEqProofs (disch:=omega) [hlt,i1,i2,an,e1,h1,e2,h2,e3,h3,e4,ζ50,ζ9b])
  (fun e H' ⟨s,o,he,g⟩ => by
   subst he;rw [List.take_length] at g;refine ⟨.exit 6,_,H',?_,by simp,rfl,.int .i64 es.length,s,o,rfl,g⟩;rw [ζ26];simp -implicitDefEqProofs)
 exact ⟨s,o,H1,z,hr1,g⟩
theorem planN_eq (p:Plan) (h:0 ≤ p.wide ∧ p.wide < 256):4 + p.wide.tmod 8 = (planN p:Int) ∧ planN p ≤ 11:=by
 unfold planN;rw [Int.tmod_eq_emod_of_nonneg h.1];omega
set_option maxHeartbeats 2000000 in
theorem ζjp (k:Nat) (p:Plan) (hp:p.ok) (w:Int) (hw:w = 0 ∨ w = 1 ∨ w = 2) (room:Nat) (hroom:room ≤ 1000) (h1:p.cls.length ≤ 1000) (h2:p.rows.length ≤ 1000) (h3:p.ents.length ≤ 1000) {H:Heap} {vC vR sE:Value} (hC:Sl H 1 vC encB p.cls) {rv:List (List Int × Value)} (hrv:rv.map Prod.fst = p.rows) (hrs:∀ x,x ∈ rv → Sl H 1 x.2 encB x.1) (hR:Sl H 1 vR encU rv) (hsE:Sl H 4 sE encEn p.ents) :
  ∃ s H',ζ1 k (R (T k)) (.agg #[vC,vR,sE,.int .u8 p.wide]) (.int .i64 w) (.int .i64 room) H = .ok s H' ∧ Own H H' 1 s encB (planBytes p w room) ∧ Ext H H':=by
 have hrvl:rv.length = p.rows.length:=by rw [← hrv]; simp
 have hN:=planN_eq p hp.2.2;obtain ⟨n,hn⟩:∃ n,n = planN p:=⟨_,rfl⟩
 rw [← hn] at hN;have hwd:0 ≤ p.wide ∧ p.wide < 256:=hp.2.2;have hrem:=fun H => bin_rem Prog 3 H .i64 p.wide 8 (by decide);rw [Int.tmod_eq_emod_of_nonneg hwd.1] at hrem hN;obtain ⟨B,hB⟩:∃ B:Blk,B = ⟨[vC,vR,sE,.int .u8 p.wide],1,false⟩:=⟨_,rfl⟩
 have g:=(Star.nil H).more_row (Ext.refl _) (OwnO.nil encB _ 1) (fun b hb => by cases hb);have g:=g.more_row (Ext.refl _) (OwnO.nil encB _ 1) (fun b hb => by cases hb);have g:=g.push B;simp only [List.cons_append,List.nil_append] at g
 -- the head of the classes
 obtain ⟨s1,o1,H1,e1,g⟩:=Put_star k g 0 rfl 8 2 2 rfl (by omega) (by omega) (by omega) (by simp);simp only [List.set_cons_zero,List.set_cons_succ] at g;have b1:=g.get 2 rfl;obtain ⟨s2,o2,H2,e2,g⟩:=Put_star k g 0 rfl 0 2 2 rfl (by omega) (by omega) (by omega) (by simp);simp only [List.set_cons_zero,List.set_cons_succ] at g;have b2:=g.get 2 rfl;obtain ⟨s3,o3,H3,e3,g⟩:=Put_star k g 0 rfl p.cls.length 2 2 rfl (by omega) (by omega) (by omega) (by simp);simp only [List.set_cons_zero,List.set_cons_succ,List.nil_append] at g;have b3:=g.get 2 rfl
 -- the classes
 obtain ⟨x,e',H4,hr4,rfl,z4,s4,o4,rfl,g⟩:=loop_up (body:=ζ46 k (R (T k))) p.cls.length
  (fun j e H' => ∃ s o,e = [(1,.int .i64 w),(2,.int .i64 room),(3,ptrV H.n),(7,.int .i64 n),(8,.int .i64 (16 + room)),(9,s),(35,vC),(36,.int .i64 p.cls.length),(37,.int .i64 j)] ∧ Star H H' [itRow o 1 s encB ((bytesOf 8 2 ++ bytesOf 0 2 ++ bytesOf p.cls.length 2) ++ twos (p.cls.take j)),itRow none 1 (.slice none 0 0) encB [],itBlk H.n B])
  (fun x e H' => x = .exit 0 ∧ ∃ z s o,e = [(1,.int .i64 w),(2,.int .i64 room),(3,ptrV H.n),(7,.int .i64 n),(8,.int .i64 (16 + room)),(9,s),(35,vC),(36,.int .i64 p.cls.length),(37,z),(38,.bool false)] ∧ Star H H' [itRow o 1 s encB (ofS p.cls),itRow none 1 (.slice none 0 0) encB [],itBlk H.n B])
  (e0:=[(1,.int .i64 w),(2,.int .i64 room),(3,ptrV H.n),(7,.int .i64 n),(8,.int .i64 (16 + room)),(9,s3),(35,vC),(36,.int .i64 p.cls.length),(37,.int .i64 0)]) (H0:=H3) ⟨s3,o3,rfl,by simpa [twos] using g⟩ (by omega)
  (fun j e H' hj ⟨s,o,he,g⟩ => by
   subst he;have hlt:(j:Int) < p.cls.length:=by omega
   obtain ⟨c,hc⟩:∃ c,p.cls[j]? = some c:=⟨_,List.getElem?_eq_getElem hj⟩
   obtain ⟨pp,i1,i2⟩:=hC.ix1 encB_len j c hc _ rfl;have i2:=i2 H' g.ext;have hcb:=hp.1 c (List.mem_of_getElem? hc);obtain ⟨s',o',H2,e2,g2⟩:=Put_star k g 0 rfl c 2 2 rfl hcb.1 (by omega) (by omega) (by simp [twos_len]; omega);simp only [List.set_cons_zero,List.set_cons_succ] at g2;refine .inl ⟨_,H2,?_,s',o',rfl,by rw [ζ1o hc,ζg5,← List.append_assoc]; exact g2⟩;rw [ζ52];simp -implicitDefEqProofs (disch:=omega) [hlt,i1,i2,e2])
  (fun e H' ⟨s,o,he,g⟩ => by
   subst he;rw [List.take_length] at g;refine ⟨.exit 0,_,H',?_,by simp,rfl,.int .i64 p.cls.length,s,o,rfl,g⟩;rw [ζ52];simp -implicitDefEqProofs)
 have b4:=g.get 2 rfl;have hofl:(ofS p.cls).length = 6 + p.cls.length * 2:=by unfold ofS; simp [twos_len]; omega
 -- the rows
 obtain ⟨x,e',H5,hr5,rfl,z5,s5,o5,rfl,g⟩:=loop_up (body:=ζ47 k (R (T k))) p.rows.length
  (fun j e H' => ∃ s o,e = [(1,.int .i64 w),(2,.int .i64 room),(3,ptrV H.n),(7,.int .i64 n),(8,.int .i64 (16 + room)),(9,s4),(12,s),(13,.slice none 0 0),(47,vR),(48,.int .i64 p.rows.length),(49,.int .i64 j)] ∧ Star H H' [itRow o4 1 s4 encB (ofS p.cls),itRow o 1 s encB (rowsL n (p.rows.take j)),itBlk H.n B])
  (fun x e H' => x = .exit 2 ∧ ∃ z s o,e = [(1,.int .i64 w),(2,.int .i64 room),(3,ptrV H.n),(7,.int .i64 n),(8,.int .i64 (16 + room)),(9,s4),(12,s),(13,.slice none 0 0),(47,vR),(48,.int .i64 p.rows.length),(49,z),(50,.bool false)] ∧ Star H H' [itRow o4 1 s4 encB (ofS p.cls),itRow o 1 s encB (rowsL n p.rows),itBlk H.n B])
  (e0:=[(1,.int .i64 w),(2,.int .i64 room),(3,ptrV H.n),(7,.int .i64 n),(8,.int .i64 (16 + room)),(9,s4),(12,.slice none 0 0),(13,.slice none 0 0),(47,vR),(48,.int .i64 p.rows.length),(49,.int .i64 0)]) (H0:=H4) ⟨.slice none 0 0,none,rfl,by simpa [rowsL] using g⟩ (by omega)
  (fun j e H' hj ⟨s,o,he,g⟩ => by
   subst he;have hlt:(j:Int) < p.rows.length:=by omega
   obtain ⟨r,hr⟩:∃ r,p.rows[j]? = some r:=⟨_,List.getElem?_eq_getElem hj⟩
   obtain ⟨x,hx⟩:∃ x,rv[j]? = some x:=⟨_,List.getElem?_eq_getElem (by omega)⟩
   have hxr:x.1 = r:=by
    have h0:(rv.map Prod.fst)[j]? = some x.1:=by rw [List.getElem?_map,hx]; rfl
    rw [hrv,hr] at h0;exact (Option.some.inj h0).symm
   obtain ⟨pp,i1,i2⟩:=hR.ix1 encU_len j x hx _ rfl;have i2:=i2 H' g.ext;have hxs:=hrs x (List.mem_of_getElem? hx);rw [hxr] at hxs;have hll:(rowsL n (p.rows.take j)).length < 2 ^ 29:=by
    rw [ζcq,List.length_take];have:min j p.rows.length * (n * 2) ≤ 1000 * 22:=Nat.mul_le_mul (by omega) (by omega);omega
   obtain ⟨s',o',H2,z',e2,g2⟩:=write_l3 k (.int .i64 w) (.int .i64 room) n (by omega) (ptrV H.n) (.int .i64 (16 + room)) r (hp.2.1 r (List.mem_of_getElem? hr)) hxs (vR) (.int .i64 p.rows.length) (.int .i64 j) hll g;refine .inl ⟨_,H2,?_,s',o',rfl,by rw [ζ1o hr,ζm3]; exact g2⟩;rw [ζ53];simp -implicitDefEqProofs (disch:=omega) [hlt,i1,i2,e2,ζ8s])
  (fun e H' ⟨s,o,he,g⟩ => by
   subst he;rw [List.take_length] at g;refine ⟨.exit 2,_,H',?_,by simp,rfl,.int .i64 p.rows.length,s,o,rfl,g⟩;rw [ζ53];simp -implicitDefEqProofs)
 have b5:=g.get 2 rfl;have hrl:(rowsL n p.rows).length ≤ 1000 * 22:=by rw [ζcq]; exact Nat.mul_le_mul h2 (by omega)
 -- the entries
 obtain ⟨s6,o6,H6,z6,hr6,g⟩:=write_l4 k w hw (.int .i64 room) (.int .i64 n) (.int .i64 (16 + room)) p.ents (by omega) hsE g;have hel:=ζck w p.ents;have q9:∀ H',lnS s4 H' = .ok (.int .i64 (ofS p.cls).length) H':=(g.row 0 rfl).len;have q12:∀ H',lnS s5 H' = .ok (.int .i64 (rowsL n p.rows).length) H':=(g.row 1 rfl).len
 -- all together
 have g:=g.more_row (Ext.refl _) (OwnO.nil encB _ 1) (fun b hb => by cases hb);simp only [List.cons_append,List.nil_append] at g;obtain ⟨t1,u1,J1,f1,g⟩:=Put_star k g 4 rfl n 4 4 rfl (by omega) (by omega) (by omega) (by simp);simp only [List.set_cons_zero,List.set_cons_succ,List.nil_append] at g;obtain ⟨t2,u2,J2,f2,g⟩:=Put_star k g 4 rfl (16 + room) 4 4 rfl (by omega) (by omega) (by omega) (by simp);simp only [List.set_cons_zero,List.set_cons_succ] at g;obtain ⟨t3,u3,J3,f3,g⟩:=Put_star k g 4 rfl (16 + room + (ofS p.cls).length) 4 4 rfl (by omega) (by omega) (by omega) (by simp);simp only [List.set_cons_zero,List.set_cons_succ] at g;obtain ⟨t4,u4,J4,f4,g⟩:=Put_star k g 4 rfl (16 + room + (ofS p.cls).length + (rowsL n p.rows).length) 4 4 rfl (by omega) (by omega) (by omega) (by simp);simp only [List.set_cons_zero,List.set_cons_succ] at g;obtain ⟨a4,l4,c4,ht4⟩:=(g.row 4 rfl).shape;obtain ⟨t5,u5,J5,f5,g⟩:=g.append (bytes:=1) 4 encB_len rfl (b:=lv encB (List.replicate room 0)) (l2:=List.replicate room 0) (by rw [lv,List.length_replicate]; rfl) (by have:=lv_first encB_len (List.replicate room 0) J4; exact this) (by simp; omega) (by decide);simp only [List.set_cons_zero,List.set_cons_succ] at g;have f5':azR 1 1 [.int .u8 0] t4 (.int .i64 room) J4 = .ok t5 J5:=by
  rw [ht4] at f5 ⊢;rw [azR_eq encB_len a4 l4 c4 (0:Int) _ rfl .i64 room (by omega)];exact f5
 obtain ⟨t6,u6,J6,f6,g⟩:=g.appendRow (bytes:=1) 4 0 encB_len rfl rfl (by simp; omega) (by decide);simp only [List.set_cons_zero,List.set_cons_succ] at g;obtain ⟨t7,u7,J7,f7,g⟩:=g.appendRow (bytes:=1) 4 1 encB_len rfl rfl (by simp; omega) (by decide);simp only [List.set_cons_zero,List.set_cons_succ] at g;obtain ⟨t8,u8,J8,f8,g⟩:=g.appendRow (bytes:=1) 4 3 encB_len rfl rfl (by simp; omega) (by decide);simp only [List.set_cons_zero,List.set_cons_succ] at g;have hbytes:planBytes p w room = bytesOf (n:Int) 4 ++ bytesOf (16 + room:Int) 4 ++ bytesOf (16 + room + (ofS p.cls).length:Int) 4 ++ bytesOf (16 + room + (ofS p.cls).length + (rowsL n p.rows).length:Int) 4 ++ List.replicate room 0 ++ ofS p.cls ++ rowsL n p.rows ++ entsB w p.ents:=by
  unfold planBytes;rw [← hn]
 rw [hbytes];refine ⟨t8,J8,?_,g.own 4 rfl,g.ext⟩;rw [hB] at e1 b1 b2 b3 b4 b5;have hlnE:=fun H' => hsE.len H';have hlnC:=fun H' => hC.len H';have hlnR:=fun H' => hR.len H';rw [hrvl] at hlnR;have hvqC:veq vC vC = true:=hC.veq fun x _ u hu => by simp at hu; subst hu; simp
 simp -implicitDefEqProofs (disch:=omega) [ζ1,hrem,hN.1,e1,b1,e2,b2,e3,b3,hr4,ζ8q,b4,hr5,ζ8r,b5,hr6,ζ8t,f1,q9,q12,f2,f3,f4,f5',f6,f7,f8,hlnE,hlnC,hlnR,hvqC]
theorem lvU_rows (l:List (List Int)):lv encBR l = lv encU (l.map fun s => (s,lv encB s)):=by
 unfold lv;rw [List.length_map];congr 2;unfold rows;rw [List.flatMap_map];rfl
theorem rv_fst (l:List (List Int)):(l.map fun s => (s,lv encB s)).map Prod.fst = l:=by rw [List.map_map]; simp [Function.comp_def]
structure PlanSl (H:Heap) (p:Plan) (vC vR sE:Value) (rv:List (List Int × Value)):Prop where
 cls:Sl H 1 vC encB p.cls
 fst:rv.map Prod.fst = p.rows
 each:∀ x,x ∈ rv → Sl H 1 x.2 encB x.1
 rows:Sl H 1 vR encU rv
 ents:Sl H 4 sE encEn p.ents
theorem PlanSl.up {H H':Heap} {p:Plan} {vC vR sE:Value} {rv:List (List Int × Value)} (h:PlanSl H p vC vR sE rv) (he:Ext H H'):PlanSl H' p vC vR sE rv:=⟨h.cls.up he,h.fst,fun x hx => (h.each x hx).up he,h.rows.up he,h.ents.up he⟩
theorem PlanSl.lv (H:Heap) (p:Plan) {sE:Value} (h:Sl H 4 sE encEn p.ents):PlanSl H p (Go.Sw.lv encB p.cls) (Go.Sw.lv encBR p.rows) sE (p.rows.map fun s => (s,Go.Sw.lv encB s)) :=
 ⟨Sl.lv _ 1 _,rv_fst p.rows,fun x hx => by obtain ⟨s,_,rfl⟩:=List.mem_map.1 hx; exact Sl.lv _ 1 _,by rw [lvU_rows]; exact Sl.lv _ 1 _,h⟩
theorem ζjq (k:Nat) (hW:ownW k = .no) (p:Plan) (hp:p.ok) (w:Int) (hw:w = 0 ∨ w = 1 ∨ w = 2) (room:Nat) (hroom:room ≤ 1000) (h1:p.cls.length ≤ 1000) (h2:p.rows.length ≤ 1000) (h3:p.ents.length ≤ 1000) {H0 H:Heap} {L:List It} (g:Star H0 H L) {vC vR sE:Value} {rv:List (List Int × Value)} (hP:PlanSl H p vC vR sE rv) :
  ∃ s o H',R (T k) F.ζ1 [.agg #[vC,vR,sE,.int .u8 p.wide],.int .i64 w,.int .i64 room] H = .ok s H' ∧ Star H0 H' (L ++ [itRow o 1 s encB (planBytes p w room)]) ∧ Ext H H':=by
 obtain ⟨s,H',e,ho,hx⟩:=ζjp k p hp w hw room hroom h1 h2 h3 hP.cls hP.fst hP.each hP.rows hP.ents;obtain ⟨o,g⟩:=g.more_own ho hx;exact ⟨s,o,H',by rw [ζbl,hW]; exact nrm_of e,g,hx⟩
end Go.Sw
end
section
namespace Go.Sw
open Go.RowKit
theorem bin_andL (P:Program) (t:TypeId) (H:Heap) (k:Nat) (hk:k < 62) {a:Int} (h0:0 ≤ a) (h1:a < 2 ^ 62) (m:Int) (hm:m = ((2 ^ k:Nat):Int) - 1):binR P .and t (.int .i64 a) (.int .i64 m) H = .ok (.int .i64 (a % ((2 ^ k:Nat):Int))) H:=by
 obtain ⟨n,rfl⟩:=Int.eq_ofNat_of_zero_le h0;have hp:2 ^ k ≤ 2 ^ 61:=Nat.pow_le_pow_right (by decide) (by omega);have hp0:0 < 2 ^ k:=Nat.two_pow_pos k;have e:(BitVec.ofInt 64 (n:Int) &&& BitVec.ofInt 64 m).toNat = n % 2 ^ k:=by
  rw [BitVec.toNat_and,BitVec.toNat_ofInt,BitVec.toNat_ofInt,hm];rw [show (((n:Int)) % ((2 ^ 64:Nat):Int)).toNat = n by omega,show ((((2 ^ k:Nat):Int) - 1) % ((2 ^ 64:Nat):Int)).toNat = 2 ^ k - 1 by omega,Nat.and_two_pow_sub_one_eq_mod]
 have e1:binV P .and t (.int .i64 (n:Int)) (.int .i64 m) = some (.int .i64 (IntKind.i64.wrap (BitVec.ofInt 64 (n:Int) &&& BitVec.ofInt 64 m).toNat)):=rfl;have hlt:n % 2 ^ k < 2 ^ k:=Nat.mod_lt _ hp0;unfold binR;rw [e1,e,wrap_i64 (by omega) (by omega),Int.natCast_emod];rfl
theorem and24 (P:Program) (t:TypeId) (H:Heap) {a:Int} (h0:0 ≤ a) (h1:a < 4294967296):binR P .and t (.int .i64 a) (.int .i64 16777215) H = .ok (.int .i64 (a % 16777216)) H:=bin_andL P t H 24 (by decide) h0 (by omega) 16777215 rfl
end Go.Sw
end
section
namespace Go.Sw
open Go.RowKit
variable {σ:Type}
def runD (m:Mach) (ln:σ → List Gl) (f:σ → Int → En → σ × Int × Int) (most:Int):Nat → σ × Drv → Int × Int × σ
  | 0,x => (x.2.stp,4,x.1)
  | n + 1,x => if x.2.stp < most then
      (if (stepD m ln f x).2 then ((stepD m ln f x).1.2.stp,0,(stepD m ln f x).1.1)
       else if (stepD m ln f x).1.2.rest > 64 then ((stepD m ln f x).1.2.stp,4,(stepD m ln f x).1.1)
       else runD m ln f most n (stepD m ln f x).1)
    else (x.2.stp,4,x.1)
theorem ζo9 (m:Mach) (ln:σ → List Gl) (f:σ → Int → En → σ × Int × Int) (x:σ × Drv):(stepD m ln f x).1.2.stp = x.2.stp + 1:=by unfold stepD; split <;> rfl
theorem stepD_pl (m:Mach) (ln:σ → List Gl) (f:σ → Int → En → σ × Int × Int) (x:σ × Drv):0 ≤ (stepD m ln f x).1.2.pl:=by unfold stepD; split <;> (dsimp only; omega)
theorem ζmb (m:Mach) (ln:σ → List Gl) (f:σ → Int → En → σ × Int × Int) (x:σ × Drv) (h:0 ≤ x.2.rest):0 ≤ (stepD m ln f x).1.2.rest ∧ (stepD m ln f x).1.2.rest ≤ x.2.rest + 1:=by unfold stepD; split <;> (dsimp only; omega)
set_option maxHeartbeats 1000000 in
theorem ζgt (k:Nat) (m:Mach) (hm:m.ok) {H0 H:Heap} (W:σ → List It) (Inv:σ → Prop) (ln:σ → List Gl) (c:Nat) (hW:∀ s,∃ (i:Nat) (o:Option Nat),(W s)[i]? = some (itLine c o (ln s))) (a:Value) (f:σ → Int → En → σ × Int × Int) (ha:ActOk k m H0 W Inv a f)
  (X:List It) (s:σ) (hI:Inv s) (h:Star H0 H (W s ++ X)) (hl:(ln s).length < 2 ^ 40) :
  ∃ H',R (T k) F.ζ3x [machV m,ptrV c,a] H = .ok (.tuple #[.int .i64 (runD m ln f (2 * (ln s).length + 128) (2 * (ln s).length + 128) (s,⟨0,0,0,0⟩)).1,.int .i64 (runD m ln f (2 * (ln s).length + 128) (2 * (ln s).length + 128) (s,⟨0,0,0,0⟩)).2.1]) H' ∧
   Star H0 H' (W (runD m ln f (2 * (ln s).length + 128) (2 * (ln s).length + 128) (s,⟨0,0,0,0⟩)).2.2 ++ X) ∧ Inv (runD m ln f (2 * (ln s).length + 128) (2 * (ln s).length + 128) (s,⟨0,0,0,0⟩)).2.2:=by
 rw [ζk0];obtain ⟨N,hN⟩:∃ N,N = 2 * (ln s).length + 128:=⟨_,rfl⟩
 have hNi:(2 * ((ln s).length:Int) + 128) = (N:Int):=by omega
 obtain ⟨x0,hx0⟩:∃ x0:σ × Drv,x0 = (s,⟨0,0,0,0⟩):=⟨_,rfl⟩
 rw [← hN,hNi,← hx0];generalize hR0:runD m ln f (N:Int) N x0 = R0;have g:=h.push ⟨drvC m c ⟨0,0,0,0⟩,1,false⟩;obtain ⟨i,o,ho⟩:=hW s;have hline:(W s ++ X ++ [itBlk H.n ⟨drvC m c ⟨0,0,0,0⟩,1,false⟩])[i]? = some (itLine c o (ln s)):=by
  have h0:i < (W s).length:=(List.getElem?_eq_some_iff.1 ho).1;rw [List.append_assoc,List.getElem?_append_left h0];exact ho
 have hlen:=ζkb k g i hline
 obtain ⟨e,eE,H1,hr1,hQ⟩:=loop_up (body:=ζab k (R (T k))) N
  (fun j e H' => e = [(2,a),(8,ptrV H.n),(9,.int .i64 N)] ∧ ∃ x:σ × Drv,Star H0 H' (W x.1 ++ X ++ [itBlk H.n ⟨drvC m c x.2,1,false⟩]) ∧ Inv x.1 ∧ x.2.stp = j ∧ 0 ≤ x.2.pl ∧ x.2.pl ≤ 128 * j ∧ 0 ≤ x.2.rest ∧ x.2.rest ≤ j ∧ (0 ≤ x.2.st ∧ x.2.st < m.rows.length) ∧ runD m ln f N (N - j) x = R0)
  (fun x' e H' => ∃ r:Int × Int × σ,r = R0 ∧ ∃ d:Drv,Star H0 H' (W r.2.2 ++ X ++ [itBlk H.n ⟨drvC m c d,1,false⟩]) ∧ Inv r.2.2 ∧
   ((x' = .ret ∧ e = [(6,.int .i64 r.1),(7,.int .i64 0)] ∧ r.2.1 = 0) ∨ (x' = .exit 0 ∧ d.stp = r.1 ∧ r.2.1 = 4 ∧ (e = [(2,a),(8,ptrV H.n),(9,.int .i64 N),(35,.bool true)] ∨ e = [(2,a),(8,ptrV H.n),(9,.int .i64 N),(23,.bool false)]))))
  (e0:=[(2,a),(8,ptrV H.n),(9,.int .i64 N)]) (H0:=H.push ⟨drvC m c ⟨0,0,0,0⟩,1,false⟩)
  ⟨rfl,x0,by rw [hx0]; exact g,by rw [hx0]; exact hI,by rw [hx0]; rfl,by rw [hx0]; exact Int.le_refl _,by rw [hx0]; exact Int.le_refl _,by rw [hx0]; exact Int.le_refl _,by rw [hx0]; exact Int.le_refl _,by rw [hx0]; have:=hm.two; dsimp only; omega,by rw [Nat.sub_zero]; exact hR0⟩ (by omega)
  (fun j e H' hj ⟨he,x,g,hI,h1,h2,h3,h4,h5,hse,hrun⟩ => by
   subst he;obtain ⟨H2,e2,g2,hI2,h6,h7⟩:=ζfl k m hm W Inv ln c hW a f ha X H.n x.1 x.2 hI g (by omega) (by omega) (by omega) hse;have hq:=g.memBlk (c:=H.n) (k:=⟨drvC m c x.2,1,false⟩) (by simp);have p1:=ζo9 m ln f x;have p2:=stepD_pl m ln f x;have p3:=ζmb m ln f x h4;have hlt:x.2.stp < (N:Int):=by omega
   have hNj:N - j = (N - (j + 1)) + 1:=by omega
   rw [hNj] at hrun;unfold runD at hrun;rw [if_pos hlt] at hrun;have hxx:(x.1,x.2) = x:=rfl;rw [hxx] at e2 g2 hI2 h6 h7;generalize stepD m ln f x = y at *;have hq2:=g2.memBlk (c:=H.n) (k:=⟨drvC m c y.1.2,1,false⟩) (by simp);cases hy:y.2 with
   | true =>
    rw [hy] at hrun e2;simp only [if_true] at hrun;refine .inr ⟨.ret,_,H2,?_,by simp,_,hrun,y.1.2,g2,hI2,.inl ⟨rfl,rfl,rfl⟩⟩;rw [ζ4u];simp -implicitDefEqProofs (disch:=omega) [hq,hlt,e2,hq2]
   | false =>
    rw [hy] at hrun e2;simp only [Bool.false_eq_true,if_false] at hrun;by_cases hr:y.1.2.rest > 64
    ·rw [if_pos hr] at hrun;refine .inr ⟨.exit 0,_,H2,?_,by simp,_,hrun,y.1.2,g2,hI2,.inr ⟨rfl,rfl,rfl,.inl rfl⟩⟩;rw [ζ4u];simp -implicitDefEqProofs (disch:=omega) [hq,hlt,e2,hq2,hr]
    ·rw [if_neg hr] at hrun;refine .inl ⟨_,H2,?_,rfl,y.1,g2,hI2,by omega,p2,by omega,p3.1,by omega,h7,hrun⟩;rw [ζ4u];simp -implicitDefEqProofs (disch:=omega) [hq,hlt,e2,hq2,hr])
  (fun e H' ⟨he,x,g,hI,h1,h2,h3,h4,h5,hse,hrun⟩ => by
   subst he;rw [Nat.sub_self] at hrun;have hq:=g.memBlk (c:=H.n) (k:=⟨drvC m c x.2,1,false⟩) (by simp);refine ⟨.exit 0,_,H',?_,by simp,_,hrun,x.2,g,hI,.inr ⟨rfl,rfl,rfl,.inr rfl⟩⟩;have hnl:¬ x.2.stp < (N:Int):=by omega
   rw [ζ4u];simp -implicitDefEqProofs (disch:=omega) [hq,hnl])
 obtain ⟨r,hr,d,g,hIr,hcase⟩:=hQ;subst hr;have hq:=g.memBlk (c:=H.n) (k:=⟨drvC m c d,1,false⟩) (by simp);have gX:Star H0 H1 (W r.2.2 ++ X):=g.ζfm;refine ⟨H1,?_,gX,hIr⟩;rcases hcase with ⟨rfl,rfl,hc⟩ | ⟨rfl,hd,hc,rfl | rfl⟩
 ·rw [hc];simp -implicitDefEqProofs (disch:=omega) [ζ3x,hlen,hNi,hr1,ζe9]
 ·rw [hc];simp -implicitDefEqProofs (disch:=omega) [ζ3x,hlen,hNi,hr1,ζd2,hq,hd]
 ·rw [hc];simp -implicitDefEqProofs (disch:=omega) [ζ3x,hlen,hNi,hr1,ζb9,hq,hd]
end Go.Sw
end
section
set_option maxRecDepth 100000
set_option linter.unusedVariables false
namespace Go.Sw
noncomputable section
def ζ4n (k:Nat) (call:Caller):Env → Heap → Res (AExit × Env):=loopB (C k) call F.ζ6 [1,1,1,1,0,1,0,0]
def ζ72 (k:Nat) (call:Caller):Kont Value:=kBlock 0 (kSeq (pieceK (C k) call F.ζ6 [1,1,1,1,1]) (kDone Prog (resOf Prog F.ζ6)))
def ζ7q (k:Nat) (call:Caller) (a0 a3 a11 a12 a13 a60:Value) (h:Heap):Res Value :=
 kSeq (pieceK (C k) call F.ζ6 [1,1,1,1,1,1]) (kDone Prog (resOf Prog F.ζ6)) .normal [(0,a0),(3,a3),(11,a11),(12,a12),(13,a13),(60,a60)] h
def ζ4o (k:Nat) (call:Caller):Env → Heap → Res (AExit × Env):=loopB (C k) call F.ζ6 [1,1,1,1,1,0,1,0,1,0,1,0,0]
def ζ73 (k:Nat) (call:Caller):Kont Value:=kBlock 2 (kSeq (pieceK (C k) call F.ζ6 [1,1,1,1,1,0,1,0,1,1]) (kSeq (pieceK (C k) call F.ζ6 [1,1,1,1,1,1]) (kDone Prog (resOf Prog F.ζ6))))
def ζ7r (k:Nat) (call:Caller) (a11 a13:Value) (h:Heap):Res Value :=
 kSeq (pieceK (C k) call F.ζ6 [1,1,1,1,1,1]) (kDone Prog (resOf Prog F.ζ6)) .normal [(11,a11),(13,a13)] h
def ζ7s (k:Nat) (call:Caller) (a11 a12 a13 a80:Value) (h:Heap):Res Value :=
 kSeq (pieceK (C k) call F.ζ6 [1,1,1,1,1,1]) (kDone Prog (resOf Prog F.ζ6)) .normal [(11,a11),(12,a12),(13,a13),(80,a80)] h
def ζ6 (k:Nat) (call:Caller) (a0 a1 a2 a3:Value) (h:Heap):Res Value :=
 (call F.ζ3 [a0,a1,(.int .i64 2)] h).bind fun v1 h2 =>
 (binR Prog .add 3 a1 (.int .i64 2) h2).bind fun v3 h4 =>
 (call F.ζ3 [a0,v3,(.int .i64 2)] h4).bind fun v5 h6 =>
 (builtinV Prog .len [31] [a0] h6).bind fun v7 h8 =>
 (call F.ζ1m [v7,a1,(.int .i64 10)] h8).bind fun v9 h10 =>
 (unR .not v9 h10).bind fun v11 h12 =>
 ((bif wantVal v11 false then Res.ok v1 h12 else Res.ok undef h12)).bind fun v13 h14 =>
 ((bif wantVal v11 false then Res.ok a2 h14 else Res.ok undef h14)).bind fun v15 h16 =>
 ((bif wantVal v11 false then binR Prog .lss 3 v13 v15 h16 else Res.ok undef h16)).bind fun v17 h18 =>
 (condV (some v11) (Res.ok (.bool true) h18) (Res.ok v17 h18)).bind fun v19 h20 =>
 ((bif wantVal v19 false then Res.ok a0 h20 else Res.ok undef h20)).bind fun v21 h22 =>
 ((bif wantVal v19 false then builtinV Prog .len [31] [v21] h22 else Res.ok undef h22)).bind fun v23 h24 =>
 ((bif wantVal v19 false then Res.ok a1 h24 else Res.ok undef h24)).bind fun v25 h26 =>
 ((bif wantVal v19 false then binR Prog .add 3 v25 (.int .i64 10) h26 else Res.ok undef h26)).bind fun v27 h28 =>
 ((bif wantVal v19 false then Res.ok v5 h28 else Res.ok undef h28)).bind fun v29 h30 =>
 ((bif wantVal v19 false then Res.ok v1 h30 else Res.ok undef h30)).bind fun v31 h32 =>
 ((bif wantVal v19 false then call F.ζj [v23,v27,v29,v31] h32 else Res.ok undef h32)).bind fun v33 h34 =>
 ((bif wantVal v19 false then unR .not v33 h34 else Res.ok undef h34)).bind fun v35 h36 =>
 (condV (some v19) (Res.ok (.bool true) h36) (Res.ok v35 h36)).bind fun v37 h38 =>
 condV (some v37) (
 .ok (.tuple #[(.slice none 0 0),(.int .i64 0),(.bool false)]) h38)
 (
 (buildSliceR Prog 23 0 [] h38).bind fun v39 h40 =>
 (loopN (ζ4n k call) loopFuel [(0,a0),(1,a1),(3,a3),(11,v1),(12,v5),(13,v39),(14,(.int .i64 0))] h40).bind fun r41 h42 =>
 ζ72 k call r41.1 r41.2 h42)
theorem ζcc (k:Nat) (a0 a1 a2 a3:Value) (h:Heap):R (T k) F.ζ6 [a0,a1,a2,a3] h = nrm .fz h (ζ6 k (R (T k)) a0 a1 a2 a3 h) :=
 (R_body (t:=T k) (T_scott k) (by kernel_rfl) (by kernel_rfl) _ _).trans (by kernel_rfl)
theorem ζ5n (k:Nat) (call:Caller) (a0 a1 a3 a11 a12 a13 a14:Value) (h:Heap):ζ4n k call [(0,a0),(1,a1),(3,a3),(11,a11),(12,a12),(13,a13),(14,a14)] h =
 (binR Prog .lss 3 a14 a12 h).bind fun v43 h44 =>
 condV (some v43) (
 (binR Prog .add 3 a1 (.int .i64 10) h44).bind fun v45 h46 =>
 (binR Prog .mul 3 a14 a11 h46).bind fun v47 h48 =>
 (binR Prog .add 3 v45 v47 h48).bind fun v49 h50 =>
 (buildSliceR Prog 23 1 [(0,v49)] h50).bind fun v51 h52 =>
 (builtinV Prog .append [23,23] [a13,v51] h52).bind fun v53 h54 =>
 (binR Prog .add 3 a14 (.int .i64 1) h54).bind fun v55 h56 =>
 .ok (.normal,[(0,a0),(1,a1),(3,a3),(11,a11),(12,a12),(13,v53),(14,v55)]) h56)
 (
 .ok ((.exit 0),[(0,a0),(1,a1),(3,a3),(11,a11),(12,a12),(13,a13),(14,a14),(47,v43)]) h44) :=
 (loopB_eq _ _).trans (by kernel_rfl)
theorem ζ34 (k:Nat) (call:Caller) (a0 a1 a3 a11 a12 a13 a14 a47:Value) (h:Heap):ζ72 k call (.exit 0) [(0,a0),(1,a1),(3,a3),(11,a11),(12,a12),(13,a13),(14,a14),(47,a47)] h =
 (binR Prog .gtr 3 a12 (.int .i64 0) h).bind fun v57 h58 =>
 condV (some v57) (
 (loopN (ζ4o k call) loopFuel [(0,a0),(3,a3),(11,a11),(12,a12),(13,a13),(15,(.bool true)),(16,(.int .i64 0))] h58).bind fun r59 h60 =>
 ζ73 k call r59.1 r59.2 h60)
 (
 ζ7q k call a0 a3 a11 a12 a13 v57 h58):=by kernel_rfl
theorem ζ9w (k:Nat) (call:Caller) (a0 a3 a11 a12 a13 a60:Value) (h:Heap):ζ7q k call a0 a3 a11 a12 a13 a60 h =
 .ok (.tuple #[a13,a11,(.bool true)]) h:=by kernel_rfl
theorem ζ5o (k:Nat) (call:Caller) (a0 a3 a11 a12 a13 a15 a16:Value) (h:Heap):ζ4o k call [(0,a0),(3,a3),(11,a11),(12,a12),(13,a13),(15,a15),(16,a16)] h =
 (binR Prog .lss 3 a16 a3 h).bind fun v61 h62 =>
 condV (some v61) (
 ((bif wantVal a15 true then Res.ok a0 h62 else Res.ok undef h62)).bind fun v63 h64 =>
 ((bif wantVal a15 true then Res.ok a13 h64 else Res.ok undef h64)).bind fun v65 h66 =>
 ((bif wantVal a15 true then Res.ok a12 h66 else Res.ok undef h66)).bind fun v67 h68 =>
 ((bif wantVal a15 true then binR Prog .sub 3 v67 (.int .i64 1) h68 else Res.ok undef h68)).bind fun v69 h70 =>
 ((bif wantVal a15 true then indexAddrR Prog 23 v65 v69 h70 else Res.ok undef h70)).bind fun v71 h72 =>
 ((bif wantVal a15 true then loadR Prog 3 v71 h72 else Res.ok undef h72)).bind fun v73 h74 =>
 ((bif wantVal a15 true then Res.ok a16 h74 else Res.ok undef h74)).bind fun v75 h76 =>
 ((bif wantVal a15 true then binR Prog .mul 3 (.int .i64 2) v75 h76 else Res.ok undef h76)).bind fun v77 h78 =>
 ((bif wantVal a15 true then binR Prog .add 3 v73 v77 h78 else Res.ok undef h78)).bind fun v79 h80 =>
 ((bif wantVal a15 true then call F.ζ3 [v63,v79,(.int .i64 2)] h80 else Res.ok undef h80)).bind fun v81 h82 =>
 ((bif wantVal a15 true then binR Prog .eql 3 v81 (.int .i64 65535) h82 else Res.ok undef h82)).bind fun v83 h84 =>
 (condV (some a15) (Res.ok v83 h84) (Res.ok (.bool false) h84)).bind fun v85 h86 =>
 (binR Prog .add 3 a16 (.int .i64 1) h86).bind fun v87 h88 =>
 .ok (.normal,[(0,a0),(3,a3),(11,a11),(12,a12),(13,a13),(15,v85),(16,v87)]) h88)
 (
 .ok ((.exit 2),[(0,a0),(3,a3),(11,a11),(12,a12),(13,a13),(15,a15),(16,a16),(63,v61)]) h62) :=
 (loopB_eq _ _).trans (by kernel_rfl)
theorem ζ58 (k:Nat) (call:Caller) (a0 a3 a11 a12 a13 a15 a16 a63:Value) (h:Heap):ζ73 k call (.exit 2) [(0,a0),(3,a3),(11,a11),(12,a12),(13,a13),(15,a15),(16,a16),(63,a63)] h =
 condV (some a15) (
 (binR Prog .sub 3 a12 (.int .i64 1) h).bind fun v89 h90 =>
 (sliceR Prog 23 a13 none (some v89) none h90).bind fun v91 h92 =>
 ζ7r k call a11 v91 h92)
 (
 ζ7s k call a11 a12 a13 a15 h):=by kernel_rfl
theorem ζ9x (k:Nat) (call:Caller) (a11 a13:Value) (h:Heap):ζ7r k call a11 a13 h =
 .ok (.tuple #[a13,a11,(.bool true)]) h:=by kernel_rfl
theorem ζ9y (k:Nat) (call:Caller) (a11 a12 a13 a80:Value) (h:Heap):ζ7s k call a11 a12 a13 a80 h =
 .ok (.tuple #[a13,a11,(.bool true)]) h:=by kernel_rfl
end
end Go.Sw
end
section
namespace Go.Sw
open Go.RowKit
def rowsO (b:List Int) (i need:Int) (keys:Nat):Value:=match takeS b i need keys with
 | some rows => .tuple #[lv encI (posS i (gU b i 2) rows.length),.int .i64 (gU b i 2),.bool true]
 | none => .tuple #[lv encI [],.int .i64 0,.bool false]
theorem ζhi (b:List Int) (i need:Int) (keys:Nat):Flat (rowsO b i need keys):=by
 unfold rowsO;split
 ·exact .tupleL (.cons (Flat.I _) (.cons (.int _ _) (.cons (.bool _) .nil)))
 ·exact .tupleL (.cons (Flat.I _) (.cons (.int _ _) (.cons (.bool _) .nil)))
theorem ζav {b:List Int} {i n:Int}:(pieceS b i n).isSome = inS b.length i n:=by
 unfold pieceS inS;split
 ·rename_i h; rw [decide_eq_true h]; rfl
 ·rename_i h; rw [decide_eq_false h]; rfl
theorem uS_of_in {b:List Int} {i n:Int} (h:inS b.length i n = true):∃ x,uS b i n = some x:=by
 rw [← ζav,Option.isSome_iff_exists] at h;obtain ⟨r,hr⟩:=h;exact ⟨num r,by unfold uS; rw [hr]; rfl⟩
theorem ζnu (i z:Int) (n j:Nat) (h:j ≤ n):(posS i z n).take j = posS i z j:=by
 unfold posS;rw [← List.map_take,List.take_range,Nat.min_eq_left h]
theorem ζnt (i z:Int) (n:Nat):posS i z (n + 1) = posS i z n ++ [i + 10 + z * (n:Nat)]:=by simp [posS,List.range_succ]
theorem ζhh (k:Nat) (b:List Int) (hb:Byt b) (i need:Int) (keys:Nat) (hl:b.length < 2 ^ 31) (hi0:0 ≤ i) (hi:i < 65536) (hneed:0 < need) (hk:2 * (keys:Int) ≤ need) (H:Heap) :
  R (T k) F.ζ6 [lv encB b,.int .i64 i,.int .i64 need,.int .i64 keys] H = .ok (rowsO b i need keys) H:=by
 rw [ζcc];have hU:=fun j H' => refU_run k (H:=H') (Sl.lv H' 1 b) hb j 2 (by omega) (by omega);have hIn:=fun H' => ζg3 k b.length i 10 (by omega) (by omega) H';have hnil:∃ L,fzV H.n H fzDepth (.tuple #[.slice none 0 0,.int .i64 0,.bool false]) = some (.tuple #[lv encI [],.int .i64 0,.bool false],L):=⟨_,rfl⟩
 obtain ⟨L0,hnil⟩:=hnil;have hno:takeS b i need keys = none → ζ6 k (R (T k)) (lv encB b) (.int .i64 i) (.int .i64 need) (.int .i64 keys) H = .ok (.tuple #[.slice none 0 0,.int .i64 0,.bool false]) H → nrm .fz H (ζ6 k (R (T k)) (lv encB b) (.int .i64 i) (.int .i64 need) (.int .i64 keys) H) = .ok (rowsO b i need keys) H:=fun h1 h2 => by
  have fl:=ζhi b i need keys;unfold rowsO at fl ⊢;rw [h1] at fl ⊢;exact nrm_fz h2 hnil (Ext.refl H) fl.alive
 cases hin:inS b.length i 10 with
 | false =>
  have hp:pieceS b i 10 = none:=by
   have:=ζav (b:=b) (i:=i) (n:=10);rw [hin] at this;simpa using this
  refine hno (by unfold takeS; rw [hp]; split <;> simp) ?_;rw [hin] at hIn;have hg1:-1 ≤ (uS b i 2).getD (-1) ∧ (uS b i 2).getD (-1) < 65536:=gU_two hb i;have hg2:-1 ≤ (uS b (i + 2) 2).getD (-1) ∧ (uS b (i + 2) 2).getD (-1) < 65536:=gU_two hb (i + 2);simp -implicitDefEqProofs (disch:=omega) [ζ6,hU,hIn]
 | true =>
  rw [hin] at hIn;have hin':0 ≤ i ∧ 0 ≤ (10:Int) ∧ i ≤ b.length ∧ 10 ≤ b.length - i:=of_decide_eq_true hin;obtain ⟨z,hz⟩:=uS_of_in (b:=b) (i:=i) (n:=2) (by unfold inS; exact decide_eq_true (by omega));obtain ⟨n,hn⟩:=uS_of_in (b:=b) (i:=i + 2) (n:=2) (by unfold inS; exact decide_eq_true (by omega));have hz2:=uS_two hb hz;have hn2:=uS_two hb hn;have hu1:=fun H' => hU i H';have hu2:=fun H' => hU (i + 2) H';rw [hz] at hu1;rw [hn] at hu2;simp only [Option.getD_some] at hu1 hu2;have hpc:(pieceS b i 10).isSome = true:=by rw [ζav]; exact hin
  by_cases hnz:need ≤ z;rotate_left
  ·refine hno (by unfold takeS; rw [hz,hn]; simp [hnz]) ?_;have:z < need:=by omega
   simp -implicitDefEqProofs (disch:=omega) [ζ6,hu1,hu2,hIn,this]
  have hnz':¬ z < need:=by omega
  have hRows:=fun H' => ζ7l k b.length (i + 10) n z (by omega) (by omega) H';cases hrb:rowsB b.length (i + 10) n z with
  | false =>
   have hrs:rowsS b (i + 10) n z = none:=by
    cases h:rowsS b (i + 10) n z with
    | none => rfl
    | some r =>
     have:=(ζ8a (by omega)).2 ((ζ8b (by omega)).1 h).1;rw [hrb] at this; cases this
   rw [hrb] at hRows;refine hno (by unfold takeS; rw [hz,hn]; simp [hrs]) ?_;simp -implicitDefEqProofs (disch:=omega) [ζ6,hu1,hu2,hIn,hnz',hRows]
  | true =>
   rw [hrb] at hRows;have hrs:=(ζ8b (r:=(b.drop (i + 10).toNat).take (n * z).toNat) (by omega)).2 ⟨(ζ8a (by omega)).1 hrb,rfl⟩;obtain ⟨r,hr⟩:∃ r,r = (b.drop (i + 10).toNat).take (n * z).toNat:=⟨_,rfl⟩
   rw [← hr] at hrs;have htake:takeS b i need keys = some (endRows r z.toNat n.toNat keys):=by unfold takeS; rw [hz,hn]; simp [hpc,hnz,hrs]
   obtain ⟨n,rfl⟩:=Int.eq_ofNat_of_zero_le hn2.1;have hzn:(z.toNat:Int) = z:=by omega
   -- the rows' places
   obtain ⟨x,e',H1,hr1,rfl,⟨a,s,rfl,ho⟩,hx⟩:=loop_up (body:=ζ4n k (R (T k))) n
    (fun j e H' => (∃ s,e = [(0,lv encB b),(1,.int .i64 i),(3,.int .i64 keys),(11,.int .i64 z),(12,.int .i64 n),(13,s),(14,.int .i64 j)] ∧ Own H H' 1 s encI (posS i z j)) ∧ Ext H H')
    (fun x e H' => x = .exit 0 ∧ (∃ a s,e = [(0,lv encB b),(1,.int .i64 i),(3,.int .i64 keys),(11,.int .i64 z),(12,.int .i64 n),(13,s),(14,.int .i64 n),(47,a)] ∧ Own H H' 1 s encI (posS i z n)) ∧ Ext H H')
    (e0:=[(0,lv encB b),(1,.int .i64 i),(3,.int .i64 keys),(11,.int .i64 z),(12,.int .i64 n),(13,bareV),(14,.int .i64 0)]) (H0:=H) ⟨⟨_,rfl,Own.bare _ _ _⟩,Ext.refl H⟩ (by omega)
    (fun j e H' hj ⟨⟨s,he,ho⟩,hx⟩ => by
     subst he;have hlt:(j:Int) < n:=by omega
     have hjz:(j:Int) * z ≤ 65536 * 65536:=Int.mul_le_mul (by omega) (by omega) (by omega) (by omega);have hjz0:0 ≤ (j:Int) * z:=Int.mul_nonneg (by omega) (by omega);obtain ⟨s2,H2,e2,o2,x2⟩:=ap1_own (bytes:=8) encI_len ho hx (i + 10 + z * (j:Nat)) (by simp; omega) (by decide);rw [← ζnt] at o2;rw [Int.mul_comm z] at e2;refine .inl ⟨_,H2,?_,⟨s2,rfl,o2⟩,x2⟩;rw [ζ5n];simp -implicitDefEqProofs (disch:=omega) [hlt,e2])
    (fun e H' ⟨⟨s,he,ho⟩,hx⟩ => by
     subst he;refine ⟨.exit 0,_,H',?_,by simp,rfl,⟨.bool false,s,rfl,ho⟩,hx⟩;rw [ζ5n];simp -implicitDefEqProofs)
   have hgu:gU b i 2 = z:=gU_some hz;have fl:=ζhi b i need keys;unfold rowsO at fl ⊢;rw [htake,hgu] at fl ⊢;dsimp only at fl ⊢;by_cases hn0:n = 0
   ·subst hn0;obtain ⟨L,hf⟩:=ho.freeze encI_len (ζ90 _) 5;have e2:(endRows r z.toNat (Int.toNat ((0:Nat):Int)) keys).length = 0:=by simp [endRows]
    rw [e2] at fl ⊢;refine nrm_fz (v:=.tuple #[s,.int .i64 z,.bool true]) (H':=H1) ?_ (fz_tuple (l:=[s,.int .i64 z,.bool true]) (ζ1b hf (ζ1b (L1:=[]) rfl (mapF_one (L:=[]) rfl)))) hx fl.alive;simp at hr1 hRows;simp -implicitDefEqProofs (disch:=omega) [ζ6,hu1,hu2,hIn,hnz',hRows,hr1,ζ34,ζ9w]
   ·have hgt:0 < n:=by omega
    obtain ⟨z,rfl⟩:=Int.eq_ofNat_of_zero_le hz2.1;simp only [Int.toNat_natCast] at *;have hrow:=ζo4 hrs (j:=n - 1) (by omega);obtain ⟨row,hrowd⟩:∃ row,row = (r.drop (z * (n - 1))).take z:=⟨_,rfl⟩
    rw [← hrowd] at hrow;have hlast:=posS_get i z n (n - 1) (by omega);obtain ⟨bk,hsk,hbk,hgk,_⟩:=ixS_own ho .i64 (n - 1) (by simp; omega) H1;rw [posS_len] at hsk;have hixk:∀ H'',ixS 1 s (.int .i64 ((n:Int) - 1)) H'' = .ok (.pointer (some ⟨bk,(n - 1) * 1,none⟩)) H'':=fun H'' => by
     rw [hsk,show ((n:Int) - 1) = ((n - 1:Nat):Int) by omega];have:=ζcl 1 bk 0 n n .i64 (n - 1) H'' (by omega);simpa using this
    have hld:=ld1_row encI_len hgk (c:=0) hlast (by decide) rfl;simp only [Nat.add_zero,Nat.mul_one] at hld hixk;have hp0:0 ≤ i + 10 + (z:Int) * ((n - 1:Nat):Int) ∧ i + 10 + (z:Int) * ((n - 1:Nat):Int) < 2 ^ 34:=by
     have:=Int.mul_nonneg (show (0:Int) ≤ z by omega) (show (0:Int) ≤ ((n - 1:Nat):Int) by omega);have:(z:Int) * ((n - 1:Nat):Int) ≤ 65536 * 65536:=Int.mul_le_mul (by omega) (by omega) (by omega) (by omega);omega
    generalize i + 10 + (z:Int) * ((n - 1:Nat):Int) = p at hrow hld hp0
    obtain ⟨x,e',H2,hr2,rfl,rfl,a2,rfl⟩:=loop_up (body:=ζ4o k (R (T k))) keys
     (fun j e H' => H' = H1 ∧ e = [(0,lv encB b),(3,.int .i64 keys),(11,.int .i64 z),(12,.int .i64 n),(13,s),(15,.bool ((List.range j).all fun q => uS row (2 * q) 2 == some 65535)),(16,.int .i64 j)])
     (fun x e H' => H' = H1 ∧ x = .exit 2 ∧ ∃ a,e = [(0,lv encB b),(3,.int .i64 keys),(11,.int .i64 z),(12,.int .i64 n),(13,s),(15,.bool (noneS row keys)),(16,.int .i64 keys),(63,a)])
     (e0:=[(0,lv encB b),(3,.int .i64 keys),(11,.int .i64 z),(12,.int .i64 n),(13,s),(15,.bool true),(16,.int .i64 0)]) (H0:=H1) ⟨rfl,rfl⟩ (by omega)
     (fun j e H' hj ⟨hH,he⟩ => by
      subst he hH;have hlt:(j:Int) < keys:=by omega
      refine .inl ⟨_,_,?_,rfl,rfl⟩;rw [ζ5o,List.range_succ,List.all_append];cases hall:(List.range j).all fun q => uS row (2 * q) 2 == some 65535 with
      | false => simp -implicitDefEqProofs (disch:=omega) [hlt]
      | true =>
       have hsub:=uS_sub hrow (x:=2 * j) (y:=2) (by omega) (by omega) (by omega);have hu:=hU (p + 2 * j);rw [← hsub] at hu;obtain ⟨y,hy⟩:∃ y,uS row (2 * j) 2 = some y:=by
        obtain ⟨y,hy⟩:=(row_two hrow (x:=2 * j) (y:=2) (by omega) (by omega) (by omega)).2;exact ⟨y,by rw [hsub,hy]⟩
       rw [hy] at hu;simp -implicitDefEqProofs (disch:=omega) [hlt];rw [hixk];simp -implicitDefEqProofs (disch:=omega) [hlt,hld,hu,hy])
     (fun e H' ⟨hH,he⟩ => by
      subst he hH;refine ⟨.exit 2,_,_,?_,by simp,rfl,rfl,.bool false,rfl⟩;rw [ζ5o];simp -implicitDefEqProofs [noneS])
    obtain ⟨bf,L,hsf,hf⟩:=ho.ζk4 encI_len (ζ90 _) 5 (endRows r z n keys).length (by unfold endRows; split <;> simp) (by simp; omega);rw [posS_len] at hsf;have hbf:bk = bf:=by rw [hsk] at hsf; simpa using hsf
    subst hbf;rw [ζnu _ _ _ _ (by unfold endRows; split <;> simp)] at hf;cases hno:noneS row keys with
    | false =>
     rw [hno] at hr2;have e2:(endRows r z n keys).length = n:=by unfold endRows; rw [← hrowd,hno]; simp
     rw [e2] at hf fl ⊢;refine nrm_fz (v:=.tuple #[s,.int .i64 z,.bool true]) (H':=H2) ?_ (fz_tuple (l:=[s,.int .i64 z,.bool true]) (ζ1b (by rw [hsk]; exact hf n) (ζ1b (L1:=[]) rfl (mapF_one (L:=[]) rfl)))) hx fl.alive;simp -implicitDefEqProofs (disch:=omega) [ζ6,hu1,hu2,hIn,hnz',hRows,hr1,ζ34,hgt,hr2,ζ58,ζ9y]
    | true =>
     rw [hno] at hr2;have e2:(endRows r z n keys).length = n - 1:=by unfold endRows; rw [← hrowd,hno,if_pos ⟨by omega,rfl⟩]; simp
     rw [e2] at hf fl ⊢;have hsl:=slS_own hgk .i64 (n - 1) (by simp);rw [posS_len,show (((n - 1:Nat)):Int) = (n:Int) - 1 by omega] at hsl;refine nrm_fz (v:=.tuple #[.slice (some ⟨bk,0,none⟩) (n - 1) n,.int .i64 z,.bool true]) (H':=H2) ?_ (fz_tuple (l:=[.slice (some ⟨bk,0,none⟩) (n - 1) n,.int .i64 z,.bool true]) (ζ1b (hf n) (ζ1b (L1:=[]) rfl (mapF_one (L:=[]) rfl)))) hx fl.alive;subst hsk;simp -implicitDefEqProofs (disch:=omega) [ζ6,hu1,hu2,hIn,hnz',hRows,hr1,ζ34,hgt,hr2,ζ58,hsl,ζ9x]
end Go.Sw
end
