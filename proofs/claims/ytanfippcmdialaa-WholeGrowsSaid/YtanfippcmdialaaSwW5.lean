/-
  Functions' forms, and what is proved of them, part 5.
-/
import Derived.Test.YtanfippcmdialaaSwCfg
import Derived.Test.YtanfippcmdialaaSwW4
import Derived.Test.YtanfippcmdialaaSwW1
import Derived.Test.YtanfippcmdialaaSwW3
import Derived.Test.YtanfippcmdialaaSwLib8
import Derived.Tactics
import Derived.Tactics2
import Derived.Defers
import Derived.Recover
import Derived.Laws.Pointers
set_option linter.unusedSimpArgs false
set_option linter.unusedVariables false
set_option linter.unusedSectionVars false
section
set_option maxRecDepth 100000
set_option linter.unusedVariables false
namespace Go.Sw
noncomputable section
def ζ5g (k:Nat) (call:Caller):Env → Heap → Res (AExit × Env):=loopB (C k) call F.ζ3 [1,1,1,1,0,1,0,0]
def ζ79 (k:Nat) (call:Caller):Kont Value:=kBlock 0 (kSeq (pieceK (C k) call F.ζ3 [1,1,1,1,1]) (kDone Prog (resOf Prog F.ζ3)))
def ζ5h (k:Nat) (call:Caller):Env → Heap → Res (AExit × Env):=loopB (C k) call F.ζ3 [1,1,1,1,1,1,0,1,0,0]
def ζ7a (k:Nat) (call:Caller):Kont Value:=kBlock 2 (kSeq (pieceK (C k) call F.ζ3 [1,1,1,1,1,1,1]) (kDone Prog (resOf Prog F.ζ3)))
def ζ3v (k:Nat) (call:Caller):Env → Heap → Res (AExit × Env):=loopB (C k) call F.ζ3 [1,1,1,1,1,1,0,1,0,0,1,1,0,0,1,1,0,0]
def ζ7b (k:Nat) (call:Caller):Kont (AExit × Env):=kBlock 4 (kBlock 3 (kSeq (pieceK (C k) call F.ζ3 [1,1,1,1,1,1,0,1,0,0,1,1,1]) (kRound (ownOf (C k) F.ζ3 [1,1,1,1,1,1,0,1,0,0]))))
def ζ7u (k:Nat) (call:Caller) (a1 a2 a3 a7 a8 a9 a12 a13 a15 a17 a47 a48 a49 a53 a54:Value) (h:Heap):Res (AExit × Env) :=
 kSeq (pieceK (C k) call F.ζ3 [1,1,1,1,1,1,0,1,0,0,1,1,0,0,1,1,0,0,1,1,0,0,1,1,1]) (kBlock 5 (kSeq (pieceK (C k) call F.ζ3 [1,1,1,1,1,1,0,1,0,0,1,1,0,0,1,1,0,0,1,1,1]) (kRound (ownOf (C k) F.ζ3 [1,1,1,1,1,1,0,1,0,0,1,1,0,0,1,1,0,0])))) .normal [(1,a1),(2,a2),(3,a3),(7,a7),(8,a8),(9,a9),(12,a12),(13,a13),(15,a15),(17,a17),(47,a47),(48,a48),(49,a49),(53,a53),(54,a54)] h
def ζ7v (k:Nat) (call:Caller) (a1 a2 a3 a7 a8 a9 a12 a13 a15 a16 a17 a47 a48 a49 a53 a54 a60:Value) (h:Heap):Res (AExit × Env) :=
 kSeq (pieceK (C k) call F.ζ3 [1,1,1,1,1,1,0,1,0,0,1,1,0,0,1,1,0,0,1,1,0,0,1,1,1]) (kBlock 5 (kSeq (pieceK (C k) call F.ζ3 [1,1,1,1,1,1,0,1,0,0,1,1,0,0,1,1,0,0,1,1,1]) (kRound (ownOf (C k) F.ζ3 [1,1,1,1,1,1,0,1,0,0,1,1,0,0,1,1,0,0])))) .normal [(1,a1),(2,a2),(3,a3),(7,a7),(8,a8),(9,a9),(12,a12),(13,a13),(15,a15),(16,a16),(17,a17),(47,a47),(48,a48),(49,a49),(53,a53),(54,a54),(60,a60)] h
def ζ3w (k:Nat) (call:Caller):Env → Heap → Res (AExit × Env):=loopB (C k) call F.ζ3 [1,1,1,1,1,1,1,0,1,0,0]
def ζ7c (k:Nat) (call:Caller):Kont Value:=kBlock 6 (kSeq (pieceK (C k) call F.ζ3 [1,1,1,1,1,1,1,1]) (kDone Prog (resOf Prog F.ζ3)))
def ζ7w (k:Nat) (call:Caller) (a1 a2 a7 a8 a9 a12 a13 a19 a72 a73 a74:Value) (h:Heap):Res (AExit × Env) :=
 kSeq (pieceK (C k) call F.ζ3 [1,1,1,1,1,1,1,0,1,0,0,1,1,0,0,1,1,1]) (kBlock 7 (kSeq (pieceK (C k) call F.ζ3 [1,1,1,1,1,1,1,0,1,0,0,1,1,1]) (kRound (ownOf (C k) F.ζ3 [1,1,1,1,1,1,1,0,1,0,0])))) .normal [(1,a1),(2,a2),(7,a7),(8,a8),(9,a9),(12,a12),(13,a13),(19,a19),(72,a72),(73,a73),(74,a74)] h
def ζ7x (k:Nat) (call:Caller) (a1 a2 a7 a8 a9 a12 a13 a19 a72 a73 a74 a88:Value) (h:Heap):Res (AExit × Env) :=
 kSeq (pieceK (C k) call F.ζ3 [1,1,1,1,1,1,1,0,1,0,0,1,1,0,0,1,1,1]) (kBlock 7 (kSeq (pieceK (C k) call F.ζ3 [1,1,1,1,1,1,1,0,1,0,0,1,1,1]) (kRound (ownOf (C k) F.ζ3 [1,1,1,1,1,1,1,0,1,0,0])))) .normal [(1,a1),(2,a2),(7,a7),(8,a8),(9,a9),(12,a12),(13,a13),(19,a19),(72,a72),(73,a73),(74,a74),(88,a88)] h
def ζ5e (k:Nat) (call:Caller) (a1 a2 a7 a8 a9 a12 a13 a72 a73 a74:Value) (h:Heap):Res (AExit × Env) :=
 kSeq (pieceK (C k) call F.ζ3 [1,1,1,1,1,1,1,0,1,0,0,1,1,1]) (kRound (ownOf (C k) F.ζ3 [1,1,1,1,1,1,1,0,1,0,0])) .normal [(1,a1),(2,a2),(7,a7),(8,a8),(9,a9),(12,a12),(13,a13),(72,a72),(73,a73),(74,a74)] h
def ζ5f (k:Nat) (call:Caller) (a1 a2 a7 a8 a9 a12 a13 a19 a72 a73 a74 a95:Value) (h:Heap):Res (AExit × Env) :=
 kSeq (pieceK (C k) call F.ζ3 [1,1,1,1,1,1,1,0,1,0,0,1,1,1]) (kRound (ownOf (C k) F.ζ3 [1,1,1,1,1,1,1,0,1,0,0])) .normal [(1,a1),(2,a2),(7,a7),(8,a8),(9,a9),(12,a12),(13,a13),(19,a19),(72,a72),(73,a73),(74,a74),(95,a95)] h
def ζ3 (k:Nat) (call:Caller) (a0 a1 a2:Value) (h:Heap):Res Value :=
 (boxR a0 h).bind fun v1 h2 =>
 (fieldAddrR Prog 104 v1 3 h2).bind fun v3 h4 =>
 (loadR Prog 5 v3 h4).bind fun v5 h6 =>
 (convR Prog 5 3 v5 h6).bind fun v7 h8 =>
 (binR Prog .rem 3 v7 (.int .i64 8) h8).bind fun v9 h10 =>
 (binR Prog .add 3 (.int .i64 4) v9 h10).bind fun v11 h12 =>
 (binR Prog .add 3 (.int .i64 16) a2 h12).bind fun v13 h14 =>
 (call F.ζ6 [(.slice none 0 0),(.int .i64 8),(.int .i64 2)] h14).bindT (fun p17 h18 => (fieldAddrR Prog 104 v1 0 h14).bindN fun v19 h20 => (loadR Prog 31 v19 h20).bindN fun v21 h22 => (builtinV Prog .len [31] [v21] h22).bindN fun v23 h24 => chkR ((okVal (loadR Prog 31 v19 h14) v21 && true) && true) (.panic p17 h18)) fun v15 h16 =>
 (call F.ζ6 [v15,(.int .i64 0),(.int .i64 2)] h16).bindT (fun p27 h28 => (fieldAddrR Prog 104 v1 0 h16).bindN fun v29 h30 => (loadR Prog 31 v29 h30).bindN fun v31 h32 => (builtinV Prog .len [31] [v31] h32).bindN fun v33 h34 => chkR ((okVal (loadR Prog 31 v29 h14) v31 && (okVal (loadR Prog 31 v29 h16) v31 && true)) && true) (.panic p27 h28)) fun v25 h26 =>
 (fieldAddrR Prog 104 v1 0 h26).bindN fun v35 h36 =>
 (loadR Prog 31 v35 h36).bindN fun v37 h38 =>
 (builtinV Prog .len [31] [v37] h38).bindN fun v39 h40 =>
 (call F.ζ6 [v25,v39,(.int .i64 2)] h40).bindT (fun p43 h44 => chkR ((okVal (loadR Prog 31 v35 h14) v37 && (okVal (loadR Prog 31 v35 h16) v37 && true)) && true) (.panic p43 h44)) fun v41 h42 =>
 chkR ((okVal (loadR Prog 31 v35 h14) v37 && (okVal (loadR Prog 31 v35 h16) v37 && true)) && true) (
 (fieldAddrR Prog 104 v1 0 h42).bind fun v45 h46 =>
 (loadR Prog 31 v45 h46).bind fun v47 h48 =>
 (builtinV Prog .len [31] [v47] h48).bind fun v49 h50 =>
 (loopN (ζ5g k call) loopFuel [(1,a1),(2,a2),(3,v1),(7,v11),(8,v13),(9,v41),(35,v47),(36,v49),(37,(.int .i64 0))] h50).bind fun r51 h52 =>
 ζ79 k call r51.1 r51.2 h52)
theorem ζfw (k:Nat) (a0 a1 a2:Value) (h:Heap):R (T k) F.ζ3 [a0,a1,a2] h = nrm (ownW k) h (ζ3 k (R (T k)) a0 a1 a2 h) :=
 (R_body (t:=T k) (T_scott k) (by kernel_rfl) (by kernel_rfl) _ _).trans (by kernel_rfl)
theorem ζ64 (k:Nat) (call:Caller) (a1 a2 a3 a7 a8 a9 a35 a36 a37:Value) (h:Heap):ζ5g k call [(1,a1),(2,a2),(3,a3),(7,a7),(8,a8),(9,a9),(35,a35),(36,a36),(37,a37)] h =
 (binR Prog .lss 3 a37 a36 h).bind fun v53 h54 =>
 condV (some v53) (
 (indexAddrR Prog 31 a35 a37 h54).bind fun v55 h56 =>
 (loadR Prog 5 v55 h56).bind fun v57 h58 =>
 (convR Prog 5 3 v57 h58).bind fun v59 h60 =>
 (call F.ζ6 [a9,v59,(.int .i64 2)] h60).bind fun v61 h62 =>
 (binR Prog .add 3 a37 (.int .i64 1) h62).bind fun v63 h64 =>
 .ok (.normal,[(1,a1),(2,a2),(3,a3),(7,a7),(8,a8),(9,v61),(35,a35),(36,a36),(37,v63)]) h64)
 (
 .ok ((.exit 0),[(1,a1),(2,a2),(3,a3),(7,a7),(8,a8),(9,a9),(35,a35),(36,a36),(37,a37),(38,v53)]) h54) :=
 (loopB_eq _ _).trans (by kernel_rfl)
theorem ζa2 (k:Nat) (call:Caller) (a1 a2 a3 a7 a8 a9 a35 a36 a37 a38:Value) (h:Heap):ζ79 k call (.exit 0) [(1,a1),(2,a2),(3,a3),(7,a7),(8,a8),(9,a9),(35,a35),(36,a36),(37,a37),(38,a38)] h =
 (fieldAddrR Prog 104 a3 1 h).bind fun v65 h66 =>
 (loadR Prog 101 v65 h66).bind fun v67 h68 =>
 (builtinV Prog .len [101] [v67] h68).bind fun v69 h70 =>
 (loopN (ζ5h k call) loopFuel [(1,a1),(2,a2),(3,a3),(7,a7),(8,a8),(9,a9),(12,(.slice none 0 0)),(13,(.slice none 0 0)),(47,v67),(48,v69),(49,(.int .i64 0))] h70).bind fun r71 h72 =>
 ζ7a k call r71.1 r71.2 h72:=by kernel_rfl
theorem ζ65 (k:Nat) (call:Caller) (a1 a2 a3 a7 a8 a9 a12 a13 a47 a48 a49:Value) (h:Heap):ζ5h k call [(1,a1),(2,a2),(3,a3),(7,a7),(8,a8),(9,a9),(12,a12),(13,a13),(47,a47),(48,a48),(49,a49)] h =
 (binR Prog .lss 3 a49 a48 h).bind fun v73 h74 =>
 condV (some v73) (
 (indexAddrR Prog 101 a47 a49 h74).bind fun v75 h76 =>
 (loadR Prog 31 v75 h76).bind fun v77 h78 =>
 (loopN (ζ3v k call) loopFuel [(1,a1),(2,a2),(3,a3),(7,a7),(8,a8),(9,a9),(12,a12),(13,a13),(15,v77),(47,a47),(48,a48),(49,a49),(53,a7),(54,(.int .i64 0))] h78).bind fun r79 h80 =>
 ζ7b k call r79.1 r79.2 h80)
 (
 .ok ((.exit 2),[(1,a1),(2,a2),(3,a3),(7,a7),(8,a8),(9,a9),(12,a12),(13,a13),(47,a47),(48,a48),(49,a49),(50,v73)]) h74) :=
 (loopB_eq _ _).trans (by kernel_rfl)
theorem ζ66 (k:Nat) (call:Caller) (a1 a2 a3 a7 a8 a9 a12 a13 a15 a47 a48 a49 a53 a54:Value) (h:Heap):ζ3v k call [(1,a1),(2,a2),(3,a3),(7,a7),(8,a8),(9,a9),(12,a12),(13,a13),(15,a15),(47,a47),(48,a48),(49,a49),(53,a53),(54,a54)] h =
 (binR Prog .lss 3 a54 a53 h).bind fun v81 h82 =>
 condV (some v81) (
 (builtinV Prog .len [31] [a15] h82).bind fun v83 h84 =>
 (binR Prog .lss 3 a54 v83 h84).bind fun v85 h86 =>
 condV (some v85) (
 (indexAddrR Prog 31 a15 a54 h86).bind fun v87 h88 =>
 (loadR Prog 5 v87 h88).bind fun v89 h90 =>
 (convR Prog 5 3 v89 h90).bind fun v91 h92 =>
 ζ7u k call a1 a2 a3 a7 a8 a9 a12 a13 a15 v91 a47 a48 a49 a53 a54 h92)
 (
 ζ7v k call a1 a2 a3 a7 a8 a9 a12 a13 a15 a54 (.int .i64 0) a47 a48 a49 a53 a54 v85 h86))
 (
 .ok ((.exit 4),[(1,a1),(2,a2),(3,a3),(7,a7),(8,a8),(9,a9),(12,a12),(13,a13),(15,a15),(47,a47),(48,a48),(49,a49),(53,a53),(54,a54),(55,v81)]) h82) :=
 (loopB_eq _ _).trans (by kernel_rfl)
theorem ζda (k:Nat) (call:Caller) (a1 a2 a3 a7 a8 a9 a12 a13 a15 a17 a47 a48 a49 a53 a54:Value) (h:Heap):ζ7u k call a1 a2 a3 a7 a8 a9 a12 a13 a15 a17 a47 a48 a49 a53 a54 h =
 (call F.ζ6 [a12,a17,(.int .i64 2)] h).bind fun v93 h94 =>
 (binR Prog .add 3 a54 (.int .i64 1) h94).bind fun v95 h96 =>
 .ok (.normal,[(1,a1),(2,a2),(3,a3),(7,a7),(8,a8),(9,a9),(12,v93),(13,a13),(15,a15),(47,a47),(48,a48),(49,a49),(53,a53),(54,v95)]) h96:=by kernel_rfl
theorem ζdb (k:Nat) (call:Caller) (a1 a2 a3 a7 a8 a9 a12 a13 a15 a16 a17 a47 a48 a49 a53 a54 a60:Value) (h:Heap):ζ7v k call a1 a2 a3 a7 a8 a9 a12 a13 a15 a16 a17 a47 a48 a49 a53 a54 a60 h =
 (call F.ζ6 [a12,a17,(.int .i64 2)] h).bind fun v97 h98 =>
 (binR Prog .add 3 a54 (.int .i64 1) h98).bind fun v99 h100 =>
 .ok (.normal,[(1,a1),(2,a2),(3,a3),(7,a7),(8,a8),(9,a9),(12,v97),(13,a13),(15,a15),(47,a47),(48,a48),(49,a49),(53,a53),(54,v99)]) h100:=by kernel_rfl
theorem ζa3 (k:Nat) (call:Caller) (a1 a2 a3 a7 a8 a9 a12 a13 a47 a48 a49 a50:Value) (h:Heap):ζ7a k call (.exit 2) [(1,a1),(2,a2),(3,a3),(7,a7),(8,a8),(9,a9),(12,a12),(13,a13),(47,a47),(48,a48),(49,a49),(50,a50)] h =
 (fieldAddrR Prog 104 a3 2 h).bind fun v101 h102 =>
 (loadR Prog 102 v101 h102).bind fun v103 h104 =>
 (builtinV Prog .len [102] [v103] h104).bind fun v105 h106 =>
 (loopN (ζ3w k call) loopFuel [(1,a1),(2,a2),(7,a7),(8,a8),(9,a9),(12,a12),(13,a13),(72,v103),(73,v105),(74,(.int .i64 0))] h106).bind fun r107 h108 =>
 ζ7c k call r107.1 r107.2 h108:=by kernel_rfl
theorem ζ34 (k:Nat) (call:Caller) (a1 a2 a7 a8 a9 a12 a13 a72 a73 a74:Value) (h:Heap):ζ3w k call [(1,a1),(2,a2),(7,a7),(8,a8),(9,a9),(12,a12),(13,a13),(72,a72),(73,a73),(74,a74)] h =
 (binR Prog .lss 3 a74 a73 h).bind fun v109 h110 =>
 condV (some v109) (
 (indexAddrR Prog 102 a72 a74 h110).bind fun v111 h112 =>
 (loadR Prog 130 v111 h112).bind fun v113 h114 =>
 (allocR Prog 130 h114).bind fun v115 h116 =>
 (storeR Prog 130 v115 v113 h116).bind fun _v117 h118 =>
 (fieldAddrR Prog 130 v115 0 h118).bindN fun v119 h120 =>
 (loadR Prog 3 v119 h120).bindN fun v121 h122 =>
 (binR Prog .and 3 v121 (.int .i64 65535) h122).bindN fun v123 h124 =>
 (call F.ζ6 [a13,v123,(.int .i64 2)] h124).bindT (fun p127 h128 => (fieldAddrR Prog 130 v115 1 h124).bindN fun v129 h130 => (loadR Prog 3 v129 h130).bindN fun v131 h132 => (binR Prog .and 3 v131 (.int .i64 65535) h132).bindN fun v133 h134 => chkR ((okVal (loadR Prog 3 v129 h118) v131 && true) && true) (.panic p127 h128)) fun v125 h126 =>
 (fieldAddrR Prog 130 v115 1 h126).bindN fun v135 h136 =>
 (loadR Prog 3 v135 h136).bindN fun v137 h138 =>
 (binR Prog .and 3 v137 (.int .i64 65535) h138).bindN fun v139 h140 =>
 (call F.ζ6 [v125,v139,(.int .i64 2)] h140).bindT (fun p143 h144 => chkR ((okVal (loadR Prog 3 v135 h118) v137 && true) && true) (.panic p143 h144)) fun v141 h142 =>
 chkR ((okVal (loadR Prog 3 v135 h118) v137 && true) && true) (
 (binR Prog .gtr 3 a1 (.int .i64 0) h142).bind fun v145 h146 =>
 condV (some v145) (
 (fieldAddrR Prog 130 v115 2 h146).bind fun v147 h148 =>
 (loadR Prog 3 v147 h148).bind fun v149 h150 =>
 (binR Prog .and 3 v149 (.int .i64 65535) h150).bind fun v151 h152 =>
 (call F.ζ6 [v141,v151,(.int .i64 2)] h152).bind fun v153 h154 =>
 ζ7w k call a1 a2 a7 a8 a9 a12 v153 v115 a72 a73 a74 h154)
 (
 ζ7x k call a1 a2 a7 a8 a9 a12 v141 v115 a72 a73 a74 v145 h146)))
 (
 .ok ((.exit 6),[(1,a1),(2,a2),(7,a7),(8,a8),(9,a9),(12,a12),(13,a13),(72,a72),(73,a73),(74,a74),(75,v109)]) h110) :=
 (loopB_eq _ _).trans (by kernel_rfl)
theorem ζ62 (k:Nat) (call:Caller) (a1 a2 a7 a8 a9 a12 a13 a19 a72 a73 a74:Value) (h:Heap):ζ7w k call a1 a2 a7 a8 a9 a12 a13 a19 a72 a73 a74 h =
 (binR Prog .gtr 3 a1 (.int .i64 1) h).bind fun v155 h156 =>
 condV (some v155) (
 (fieldAddrR Prog 130 a19 3 h156).bind fun v157 h158 =>
 (loadR Prog 3 v157 h158).bind fun v159 h160 =>
 (binR Prog .and 3 v159 (.int .i64 65535) h160).bind fun v161 h162 =>
 (call F.ζ6 [a13,v161,(.int .i64 2)] h162).bind fun v163 h164 =>
 ζ5e k call a1 a2 a7 a8 a9 a12 v163 a72 a73 a74 h164)
 (
 ζ5f k call a1 a2 a7 a8 a9 a12 a13 a19 a72 a73 a74 v155 h156):=by kernel_rfl
theorem ζdc (k:Nat) (call:Caller) (a1 a2 a7 a8 a9 a12 a13 a19 a72 a73 a74 a88:Value) (h:Heap):ζ7x k call a1 a2 a7 a8 a9 a12 a13 a19 a72 a73 a74 a88 h =
 (binR Prog .gtr 3 a1 (.int .i64 1) h).bind fun v165 h166 =>
 condV (some v165) (
 (fieldAddrR Prog 130 a19 3 h166).bind fun v167 h168 =>
 (loadR Prog 3 v167 h168).bind fun v169 h170 =>
 (binR Prog .and 3 v169 (.int .i64 65535) h170).bind fun v171 h172 =>
 (call F.ζ6 [a13,v171,(.int .i64 2)] h172).bind fun v173 h174 =>
 ζ5e k call a1 a2 a7 a8 a9 a12 v173 a72 a73 a74 h174)
 (
 ζ5f k call a1 a2 a7 a8 a9 a12 a13 a19 a72 a73 a74 v165 h166):=by kernel_rfl
theorem ζdd (k:Nat) (call:Caller) (a1 a2 a7 a8 a9 a12 a13 a72 a73 a74:Value) (h:Heap):ζ5e k call a1 a2 a7 a8 a9 a12 a13 a72 a73 a74 h =
 (binR Prog .add 3 a74 (.int .i64 1) h).bind fun v175 h176 =>
 .ok (.normal,[(1,a1),(2,a2),(7,a7),(8,a8),(9,a9),(12,a12),(13,a13),(72,a72),(73,a73),(74,v175)]) h176:=by kernel_rfl
theorem ζ63 (k:Nat) (call:Caller) (a1 a2 a7 a8 a9 a12 a13 a19 a72 a73 a74 a95:Value) (h:Heap):ζ5f k call a1 a2 a7 a8 a9 a12 a13 a19 a72 a73 a74 a95 h =
 (binR Prog .add 3 a74 (.int .i64 1) h).bind fun v177 h178 =>
 .ok (.normal,[(1,a1),(2,a2),(7,a7),(8,a8),(9,a9),(12,a12),(13,a13),(72,a72),(73,a73),(74,v177)]) h178:=by kernel_rfl
theorem ζa4 (k:Nat) (call:Caller) (a1 a2 a3 a7 a8 a9 a12 a13 a15 a47 a48 a49 a53 a54 a55:Value) (h:Heap):ζ7b k call (.exit 4) [(1,a1),(2,a2),(3,a3),(7,a7),(8,a8),(9,a9),(12,a12),(13,a13),(15,a15),(47,a47),(48,a48),(49,a49),(53,a53),(54,a54),(55,a55)] h =
 (binR Prog .add 3 a49 (.int .i64 1) h).bind fun v179 h180 =>
 .ok (.normal,[(1,a1),(2,a2),(3,a3),(7,a7),(8,a8),(9,a9),(12,a12),(13,a13),(47,a47),(48,a48),(49,v179)]) h180:=by kernel_rfl
theorem ζa5 (k:Nat) (call:Caller) (a1 a2 a7 a8 a9 a12 a13 a72 a73 a74 a75:Value) (h:Heap):ζ7c k call (.exit 6) [(1,a1),(2,a2),(7,a7),(8,a8),(9,a9),(12,a12),(13,a13),(72,a72),(73,a73),(74,a74),(75,a75)] h =
 (call F.ζ6 [(.slice none 0 0),a7,(.int .i64 4)] h).bind fun v181 h182 =>
 (call F.ζ6 [v181,a8,(.int .i64 4)] h182).bind fun v183 h184 =>
 (builtinV Prog .len [31] [a9] h184).bind fun v185 h186 =>
 (binR Prog .add 3 a8 v185 h186).bind fun v187 h188 =>
 (call F.ζ6 [v183,v187,(.int .i64 4)] h188).bind fun v189 h190 =>
 (builtinV Prog .len [31] [a9] h190).bind fun v191 h192 =>
 (binR Prog .add 3 a8 v191 h192).bind fun v193 h194 =>
 (builtinV Prog .len [31] [a12] h194).bind fun v195 h196 =>
 (binR Prog .add 3 v193 v195 h196).bind fun v197 h198 =>
 (call F.ζ6 [v189,v197,(.int .i64 4)] h198).bind fun v199 h200 =>
 (builtinV Prog .append [31,3] [v199,a2] h200).bind fun v201 h202 =>
 (builtinV Prog .append [31,31] [v201,a9] h202).bind fun v203 h204 =>
 (builtinV Prog .append [31,31] [v203,a12] h204).bind fun v205 h206 =>
 (builtinV Prog .append [31,31] [v205,a13] h206).bind fun v207 h208 =>
 .ok v207 h208:=by kernel_rfl
end
end Go.Sw
end
section
namespace Go.Sw
open Go.RowKit
structure Plan where
 cls:List Int
 rows:List (List Int)
 ents:List En
 wide:Int
abbrev encBR (r:List Int):List Value:=[lv encB r]
def planN (p:Plan):Nat:=4 + (p.wide % 8).toNat
def twos (l:List Int):List Int:=(l.map fun c => bytesOf c 2).flatten
def ofS (cls:List Int):List Int:=(bytesOf 8 2 ++ bytesOf 0 2 ++ bytesOf cls.length 2) ++ twos cls
def rowL (n:Nat) (r:List Int):List Int:=(List.range n).map fun i => r[i]?.getD 0
def rowsL (n:Nat) (rs:List (List Int)):List Int:=(rs.map fun r => twos (rowL n r)).flatten
def m16 (x:Int):Int:=x % 65536
def entB (w:Int) (e:En):List Int:=bytesOf (m16 e.next) 2 ++ bytesOf (m16 e.flags) 2 ++ (if 0 < w then bytesOf (m16 e.a) 2 else []) ++ (if 1 < w then bytesOf (m16 e.b) 2 else [])
def entsB (w:Int) (es:List En):List Int:=(es.map (entB w)).flatten
def planBytes (p:Plan) (w:Int) (room:Nat):List Int :=
 (((bytesOf (planN p:Int) 4 ++ bytesOf (16 + room:Int) 4 ++ bytesOf (16 + room + (ofS p.cls).length:Int) 4 ++ bytesOf (16 + room + (ofS p.cls).length + (rowsL (planN p) p.rows).length:Int) 4 ++ List.replicate room 0) ++ ofS p.cls) ++ rowsL (planN p) p.rows) ++ entsB w p.ents
theorem ζgu (l:List Int) (x:Int):twos (l ++ [x]) = twos l ++ bytesOf x 2:=by simp [twos]
theorem twos_len (l:List Int):(twos l).length = l.length * 2:=flat_len (z:=2) (fun r hr => by obtain ⟨p,_,rfl⟩:=List.mem_map.1 hr; simp) |>.trans (by simp)
theorem rowL_len (n:Nat) (r:List Int):(rowL n r).length = n:=by simp [rowL]
theorem ζtk (n:Nat) (rs:List (List Int)) (r:List Int):rowsL n (rs ++ [r]) = rowsL n rs ++ twos (rowL n r):=by simp [rowsL]
theorem ζoz (n:Nat) (rs:List (List Int)):(rowsL n rs).length = rs.length * (n * 2):=flat_len (z:=n * 2) (fun r hr => by obtain ⟨p,_,rfl⟩:=List.mem_map.1 hr; rw [twos_len,rowL_len]) |>.trans (by simp)
theorem entB_len (w:Int) (e:En):(entB w e).length ≤ 8:=by
 unfold entB;simp only [List.length_append,ζ84];split <;> split <;> simp
theorem ζh2 (w:Int) (es:List En) (e:En):entsB w (es ++ [e]) = entsB w es ++ entB w e:=by simp [entsB]
theorem ζgm (w:Int):∀ es:List En,(entsB w es).length ≤ es.length * 8
 | [] => by simp [entsB]
 | e :: es => by
  have h1:=ζgm w es;have h2:=entB_len w e;unfold entsB at h1 ⊢;simp only [List.map_cons,List.flatten_cons,List.length_append,List.length_cons];omega
theorem and16 (P:Program) (t:TypeId) (H:Heap) (a:Int):binR P .and t (.int .i64 a) (.int .i64 65535) H = .ok (.int .i64 (m16 a)) H:=by
 have e:(BitVec.ofInt 64 a &&& BitVec.ofInt 64 65535).toNat = (a % 65536).toNat:=by
  rw [BitVec.toNat_and,BitVec.toNat_ofInt,BitVec.toNat_ofInt];rw [show ((65535:Int) % ((2 ^ 64:Nat):Int)).toNat = 2 ^ 16 - 1 from by decide,Nat.and_two_pow_sub_one_eq_mod];omega
 have e1:binV P .and t (.int .i64 a) (.int .i64 65535) = some (.int .i64 (IntKind.i64.wrap (BitVec.ofInt 64 a &&& BitVec.ofInt 64 65535).toNat)):=rfl;unfold binR;rw [e1,e];unfold m16;rw [show (((a % 65536).toNat:Nat):Int) = a % 65536 by omega,wrap_i64 (by omega) (by omega)];rfl
theorem ζgr (a:Int):0 ≤ m16 a ∧ m16 a < 65536:=by unfold m16; omega
theorem write_l3 (k:Nat) {H0 H:Heap} {o9 o12:Option Nat} {a9 a12:Value} {l9 l12:List Int} {B:It} (w room:Value) (n:Nat) (hn:n ≤ 11) (a3 a8:Value) {vr:Value} (r:List Int) (hr:Byt r) (hv:Sl H0 1 vr encB r) (x47 x48 x49:Value) (hl:l12.length < 2 ^ 29)
  (g:Star H0 H [itRow o9 1 a9 encB l9,itRow o12 1 a12 encB l12,B]) :
  ∃ s o H' z,loopN (ζ3v k (R (T k))) loopFuel [(1,w),(2,room),(3,a3),(7,.int .i64 n),(8,a8),(9,a9),(12,a12),(13,.slice none 0 0),(15,vr),(47,x47),(48,x48),(49,x49),(53,.int .i64 n),(54,.int .i64 0)] H =
   .ok (.exit 4,[(1,w),(2,room),(3,a3),(7,.int .i64 n),(8,a8),(9,a9),(12,s),(13,.slice none 0 0),(15,vr),(47,x47),(48,x48),(49,x49),(53,.int .i64 n),(54,z),(55,.bool false)]) H' ∧
   Star H0 H' [itRow o9 1 a9 encB l9,itRow o 1 s encB (l12 ++ twos (rowL n r)),B]:=by
 have hvl:=fun H' => hv.len H'
 obtain ⟨x,e',H1,hr1,rfl,z,s,o,rfl,g⟩:=loop_up (body:=ζ3v k (R (T k))) n
  (fun j e H' => ∃ s o,e = [(1,w),(2,room),(3,a3),(7,.int .i64 n),(8,a8),(9,a9),(12,s),(13,.slice none 0 0),(15,vr),(47,x47),(48,x48),(49,x49),(53,.int .i64 n),(54,.int .i64 j)] ∧ Star H0 H' [itRow o9 1 a9 encB l9,itRow o 1 s encB (l12 ++ twos ((rowL n r).take j)),B])
  (fun x e H' => x = .exit 4 ∧ ∃ z s o,e = [(1,w),(2,room),(3,a3),(7,.int .i64 n),(8,a8),(9,a9),(12,s),(13,.slice none 0 0),(15,vr),(47,x47),(48,x48),(49,x49),(53,.int .i64 n),(54,z),(55,.bool false)] ∧ Star H0 H' [itRow o9 1 a9 encB l9,itRow o 1 s encB (l12 ++ twos (rowL n r)),B])
  (e0:=[(1,w),(2,room),(3,a3),(7,.int .i64 n),(8,a8),(9,a9),(12,a12),(13,.slice none 0 0),(15,vr),(47,x47),(48,x48),(49,x49),(53,.int .i64 n),(54,.int .i64 0)]) (H0:=H) ⟨a12,o12,rfl,by simpa [twos] using g⟩ (by omega)
  (fun j e H' hj ⟨s,o,he,g⟩ => by
   subst he;have hlt:(j:Int) < n:=by omega
   have hq:(rowL n r)[j]? = some (r[j]?.getD 0):=by unfold rowL; rw [List.getElem?_map,List.getElem?_range hj]; rfl
   have hlen:(l12 ++ twos ((rowL n r).take j)).length < 2 ^ 30:=by
    rw [List.length_append,twos_len,List.length_take,rowL_len];omega
   have hb:0 ≤ r[j]?.getD 0 ∧ r[j]?.getD 0 < 256:=by
    cases h:r[j]? with
    | none => simp
    | some y => exact hr y (List.mem_of_getElem? h)
   obtain ⟨s',o',H2,e2,g2⟩:=Put_star k g 1 rfl (r[j]?.getD 0) 2 2 rfl hb.1 (by omega) (by omega) hlen;simp only [List.set_cons_zero,List.set_cons_succ] at g2;refine .inl ⟨_,H2,?_,s',o',rfl,by rw [ζ1x hq,ζgu,← List.append_assoc]; exact g2⟩;rw [ζ66];cases h:r[j]? with
   | some y =>
    have hjr:(j:Int) < r.length:=by have:=(List.getElem?_eq_some_iff.1 h).1; omega
    obtain ⟨pp,i1,i2⟩:=hv.ix1 encB_len j y h _ rfl;have i2:=i2 H' g.ext;rw [h] at e2 hb;simp at e2 hb;simp -implicitDefEqProofs (disch:=omega) [hlt,hjr,hvl,i1,i2,ζda,e2]
   | none =>
    have hjr:¬ (j:Int) < r.length:=by have:=List.getElem?_eq_none_iff.1 h; omega
    rw [h] at e2;simp at e2;simp -implicitDefEqProofs (disch:=omega) [hlt,hjr,hvl,ζdb,e2])
  (fun e H' ⟨s,o,he,g⟩ => by
   subst he;rw [List.take_of_length_le (by rw [rowL_len]; exact Nat.le_refl _)] at g;refine ⟨.exit 4,_,H',?_,by simp,rfl,.int .i64 n,s,o,rfl,g⟩;rw [ζ66];simp -implicitDefEqProofs)
 exact ⟨s,o,H1,z,hr1,g⟩
def Plan.ok (p:Plan):Prop:=Byt p.cls ∧ (∀ r,r ∈ p.rows → Byt r) ∧ 0 ≤ p.wide ∧ p.wide < 256
set_option maxHeartbeats 1000000 in
theorem write_l4 (k:Nat) {H0 H:Heap} {o9 o12:Option Nat} {a9 a12:Value} {l9 l12:List Int} {B:It} (w:Int) (hw:w = 0 ∨ w = 1 ∨ w = 2) (room:Value) (a7 a8:Value) (es:List En) (hl:es.length < 2 ^ 20) {sE:Value} (hsE:Sl H0 4 sE encEn es)
  (g:Star H0 H [itRow o9 1 a9 encB l9,itRow o12 1 a12 encB l12,B]) :
  ∃ s o H' z,loopN (ζ3w k (R (T k))) loopFuel [(1,.int .i64 w),(2,room),(7,a7),(8,a8),(9,a9),(12,a12),(13,.slice none 0 0),(72,sE),(73,.int .i64 es.length),(74,.int .i64 0)] H =
   .ok (.exit 6,[(1,.int .i64 w),(2,room),(7,a7),(8,a8),(9,a9),(12,a12),(13,s),(72,sE),(73,.int .i64 es.length),(74,z),(75,.bool false)]) H' ∧
   Star H0 H' [itRow o9 1 a9 encB l9,itRow o12 1 a12 encB l12,B,itRow o 1 s encB (entsB w es)]:=by
 have g:=g.more_row (Ext.refl _) (OwnO.nil encB _ 1) (fun b hb => by cases hb)
 obtain ⟨x,e',H1,hr1,rfl,z,s,o,rfl,g⟩:=loop_up (body:=ζ3w k (R (T k))) es.length
  (fun j e H' => ∃ s o,e = [(1,.int .i64 w),(2,room),(7,a7),(8,a8),(9,a9),(12,a12),(13,s),(72,sE),(73,.int .i64 es.length),(74,.int .i64 j)] ∧ Star H0 H' [itRow o9 1 a9 encB l9,itRow o12 1 a12 encB l12,B,itRow o 1 s encB (entsB w (es.take j))])
  (fun x e H' => x = .exit 6 ∧ ∃ z s o,e = [(1,.int .i64 w),(2,room),(7,a7),(8,a8),(9,a9),(12,a12),(13,s),(72,sE),(73,.int .i64 es.length),(74,z),(75,.bool false)] ∧ Star H0 H' [itRow o9 1 a9 encB l9,itRow o12 1 a12 encB l12,B,itRow o 1 s encB (entsB w es)])
  (e0:=[(1,.int .i64 w),(2,room),(7,a7),(8,a8),(9,a9),(12,a12),(13,.slice none 0 0),(72,sE),(73,.int .i64 es.length),(74,.int .i64 0)]) (H0:=H) ⟨.slice none 0 0,none,rfl,by simpa [entsB] using g⟩ (by omega)
  (fun j e H' hj ⟨s,o,he,g⟩ => by
   subst he;have hlt:(j:Int) < es.length:=by omega
   obtain ⟨en,hen⟩:∃ en,es[j]? = some en:=⟨_,List.getElem?_eq_getElem hj⟩
   obtain ⟨q,i1,i2⟩:=((hsE.up g.ext).rd (by decide) ζ52).2 j en hen;have hlen:=ζgm w (es.take j);rw [List.length_take] at hlen;have g:=g.push ⟨encEn en,1,false⟩;simp only [List.cons_append,List.nil_append] at g;have b1:=ζgr en.next;have b2:=ζgr en.flags;have b3:=ζgr en.a;have b4:=ζgr en.b;have an:=fun H a => and16 Prog 3 H a;obtain ⟨s1,o1,H1,e1,g1⟩:=Put_star k g 3 rfl (m16 en.next) 2 2 rfl b1.1 (by omega) (by omega) (by omega);simp only [List.set_cons_zero,List.set_cons_succ] at g1;have h1:=g1.get 4 rfl;obtain ⟨s2,o2,H2,e2,g2⟩:=Put_star k g1 3 rfl (m16 en.flags) 2 2 rfl b2.1 (by omega) (by omega) (by simp; omega);simp only [List.set_cons_zero,List.set_cons_succ] at g2;have h2:=g2.get 4 rfl;rcases hw with rfl | rfl | rfl
   ·refine .inl ⟨_,H2,?_,s2,o2,rfl,by rw [ζ1x hen,ζh2]; simpa [entB] using g2.take 4⟩;rw [ζ34];simp -implicitDefEqProofs (disch:=omega) [hlt,i1,i2,an,e1,h1,e2,h2,ζdc,ζ63]
   ·obtain ⟨s3,o3,H3,e3,g3⟩:=Put_star k g2 3 rfl (m16 en.a) 2 2 rfl b3.1 (by omega) (by omega) (by simp; omega);simp only [List.set_cons_zero,List.set_cons_succ] at g3;have h3:=g3.get 4 rfl;refine .inl ⟨_,H3,?_,s3,o3,rfl,by rw [ζ1x hen,ζh2]; simpa [entB] using g3.take 4⟩;rw [ζ34];simp -implicitDefEqProofs (disch:=omega) [hlt,i1,i2,an,e1,h1,e2,h2,e3,h3,ζ62,ζ63]
   ·obtain ⟨s3,o3,H3,e3,g3⟩:=Put_star k g2 3 rfl (m16 en.a) 2 2 rfl b3.1 (by omega) (by omega) (by simp; omega);simp only [List.set_cons_zero,List.set_cons_succ] at g3;have h3:=g3.get 4 rfl;obtain ⟨s4,o4,H4,e4,g4⟩:=Put_star k g3 3 rfl (m16 en.b) 2 2 rfl b4.1 (by omega) (by omega) (by simp; omega);simp only [List.set_cons_zero,List.set_cons_succ] at g4;refine .inl ⟨_,H4,?_,s4,o4,rfl,by rw [ζ1x hen,ζh2]; simpa [entB] using g4.take 4⟩;rw [ζ34];simp -implicitDefEqProofs (disch:=omega) [hlt,i1,i2,an,e1,h1,e2,h2,e3,h3,e4,ζ62,ζdd])
  (fun e H' ⟨s,o,he,g⟩ => by
   subst he;rw [List.take_length] at g;refine ⟨.exit 6,_,H',?_,by simp,rfl,.int .i64 es.length,s,o,rfl,g⟩;rw [ζ34];simp -implicitDefEqProofs)
 exact ⟨s,o,H1,z,hr1,g⟩
theorem planN_eq (p:Plan) (h:0 ≤ p.wide ∧ p.wide < 256):4 + p.wide.tmod 8 = (planN p:Int) ∧ planN p ≤ 11:=by
 unfold planN;rw [Int.tmod_eq_emod_of_nonneg h.1];omega
set_option maxHeartbeats 2000000 in
theorem ζrl (k:Nat) (p:Plan) (hp:p.ok) (w:Int) (hw:w = 0 ∨ w = 1 ∨ w = 2) (room:Nat) (hroom:room ≤ 1000) (h1:p.cls.length ≤ 1000) (h2:p.rows.length ≤ 1000) (h3:p.ents.length ≤ 1000) {H:Heap} {vC vR sE:Value} (hC:Sl H 1 vC encB p.cls) {rv:List (List Int × Value)} (hrv:rv.map Prod.fst = p.rows) (hrs:∀ x,x ∈ rv → Sl H 1 x.2 encB x.1) (hR:Sl H 1 vR encU rv) (hsE:Sl H 4 sE encEn p.ents) :
  ∃ s H',ζ3 k (R (T k)) (.agg #[vC,vR,sE,.int .u8 p.wide]) (.int .i64 w) (.int .i64 room) H = .ok s H' ∧ Own H H' 1 s encB (planBytes p w room) ∧ Ext H H':=by
 have hrvl:rv.length = p.rows.length:=by rw [← hrv]; simp
 have hN:=planN_eq p hp.2.2;obtain ⟨n,hn⟩:∃ n,n = planN p:=⟨_,rfl⟩
 rw [← hn] at hN;have hwd:0 ≤ p.wide ∧ p.wide < 256:=hp.2.2;have hrem:=fun H => bin_rem Prog 3 H .i64 p.wide 8 (by decide);rw [Int.tmod_eq_emod_of_nonneg hwd.1] at hrem hN;obtain ⟨B,hB⟩:∃ B:Blk,B = ⟨[vC,vR,sE,.int .u8 p.wide],1,false⟩:=⟨_,rfl⟩
 have g:=(Star.nil H).more_row (Ext.refl _) (OwnO.nil encB _ 1) (fun b hb => by cases hb);have g:=g.more_row (Ext.refl _) (OwnO.nil encB _ 1) (fun b hb => by cases hb);have g:=g.push B;simp only [List.cons_append,List.nil_append] at g
 -- the head of the classes
 obtain ⟨s1,o1,H1,e1,g⟩:=Put_star k g 0 rfl 8 2 2 rfl (by omega) (by omega) (by omega) (by simp);simp only [List.set_cons_zero,List.set_cons_succ] at g;have b1:=g.get 2 rfl;obtain ⟨s2,o2,H2,e2,g⟩:=Put_star k g 0 rfl 0 2 2 rfl (by omega) (by omega) (by omega) (by simp);simp only [List.set_cons_zero,List.set_cons_succ] at g;have b2:=g.get 2 rfl;obtain ⟨s3,o3,H3,e3,g⟩:=Put_star k g 0 rfl p.cls.length 2 2 rfl (by omega) (by omega) (by omega) (by simp);simp only [List.set_cons_zero,List.set_cons_succ,List.nil_append] at g;have b3:=g.get 2 rfl
 -- the classes
 obtain ⟨x,e',H4,hr4,rfl,z4,s4,o4,rfl,g⟩:=loop_up (body:=ζ5g k (R (T k))) p.cls.length
  (fun j e H' => ∃ s o,e = [(1,.int .i64 w),(2,.int .i64 room),(3,ptrV H.n),(7,.int .i64 n),(8,.int .i64 (16 + room)),(9,s),(35,vC),(36,.int .i64 p.cls.length),(37,.int .i64 j)] ∧ Star H H' [itRow o 1 s encB ((bytesOf 8 2 ++ bytesOf 0 2 ++ bytesOf p.cls.length 2) ++ twos (p.cls.take j)),itRow none 1 (.slice none 0 0) encB [],itBlk H.n B])
  (fun x e H' => x = .exit 0 ∧ ∃ z s o,e = [(1,.int .i64 w),(2,.int .i64 room),(3,ptrV H.n),(7,.int .i64 n),(8,.int .i64 (16 + room)),(9,s),(35,vC),(36,.int .i64 p.cls.length),(37,z),(38,.bool false)] ∧ Star H H' [itRow o 1 s encB (ofS p.cls),itRow none 1 (.slice none 0 0) encB [],itBlk H.n B])
  (e0:=[(1,.int .i64 w),(2,.int .i64 room),(3,ptrV H.n),(7,.int .i64 n),(8,.int .i64 (16 + room)),(9,s3),(35,vC),(36,.int .i64 p.cls.length),(37,.int .i64 0)]) (H0:=H3) ⟨s3,o3,rfl,by simpa [twos] using g⟩ (by omega)
  (fun j e H' hj ⟨s,o,he,g⟩ => by
   subst he;have hlt:(j:Int) < p.cls.length:=by omega
   obtain ⟨c,hc⟩:∃ c,p.cls[j]? = some c:=⟨_,List.getElem?_eq_getElem hj⟩
   obtain ⟨pp,i1,i2⟩:=hC.ix1 encB_len j c hc _ rfl;have i2:=i2 H' g.ext;have hcb:=hp.1 c (List.mem_of_getElem? hc);obtain ⟨s',o',H2,e2,g2⟩:=Put_star k g 0 rfl c 2 2 rfl hcb.1 (by omega) (by omega) (by simp [twos_len]; omega);simp only [List.set_cons_zero,List.set_cons_succ] at g2;refine .inl ⟨_,H2,?_,s',o',rfl,by rw [ζ1x hc,ζgu,← List.append_assoc]; exact g2⟩;rw [ζ64];simp -implicitDefEqProofs (disch:=omega) [hlt,i1,i2,e2])
  (fun e H' ⟨s,o,he,g⟩ => by
   subst he;rw [List.take_length] at g;refine ⟨.exit 0,_,H',?_,by simp,rfl,.int .i64 p.cls.length,s,o,rfl,g⟩;rw [ζ64];simp -implicitDefEqProofs)
 have b4:=g.get 2 rfl;have hofl:(ofS p.cls).length = 6 + p.cls.length * 2:=by unfold ofS; simp [twos_len]; omega
 -- the rows
 obtain ⟨x,e',H5,hr5,rfl,z5,s5,o5,rfl,g⟩:=loop_up (body:=ζ5h k (R (T k))) p.rows.length
  (fun j e H' => ∃ s o,e = [(1,.int .i64 w),(2,.int .i64 room),(3,ptrV H.n),(7,.int .i64 n),(8,.int .i64 (16 + room)),(9,s4),(12,s),(13,.slice none 0 0),(47,vR),(48,.int .i64 p.rows.length),(49,.int .i64 j)] ∧ Star H H' [itRow o4 1 s4 encB (ofS p.cls),itRow o 1 s encB (rowsL n (p.rows.take j)),itBlk H.n B])
  (fun x e H' => x = .exit 2 ∧ ∃ z s o,e = [(1,.int .i64 w),(2,.int .i64 room),(3,ptrV H.n),(7,.int .i64 n),(8,.int .i64 (16 + room)),(9,s4),(12,s),(13,.slice none 0 0),(47,vR),(48,.int .i64 p.rows.length),(49,z),(50,.bool false)] ∧ Star H H' [itRow o4 1 s4 encB (ofS p.cls),itRow o 1 s encB (rowsL n p.rows),itBlk H.n B])
  (e0:=[(1,.int .i64 w),(2,.int .i64 room),(3,ptrV H.n),(7,.int .i64 n),(8,.int .i64 (16 + room)),(9,s4),(12,.slice none 0 0),(13,.slice none 0 0),(47,vR),(48,.int .i64 p.rows.length),(49,.int .i64 0)]) (H0:=H4) ⟨.slice none 0 0,none,rfl,by simpa [rowsL] using g⟩ (by omega)
  (fun j e H' hj ⟨s,o,he,g⟩ => by
   subst he;have hlt:(j:Int) < p.rows.length:=by omega
   obtain ⟨r,hr⟩:∃ r,p.rows[j]? = some r:=⟨_,List.getElem?_eq_getElem hj⟩
   obtain ⟨x,hx⟩:∃ x,rv[j]? = some x:=⟨_,List.getElem?_eq_getElem (by omega)⟩
   have hxr:x.1 = r:=by
    have h0:(rv.map Prod.fst)[j]? = some x.1:=by rw [List.getElem?_map,hx]; rfl
    rw [hrv,hr] at h0;exact (Option.some.inj h0).symm
   obtain ⟨pp,i1,i2⟩:=hR.ix1 encU_len j x hx _ rfl;have i2:=i2 H' g.ext;have hxs:=hrs x (List.mem_of_getElem? hx);rw [hxr] at hxs;have hll:(rowsL n (p.rows.take j)).length < 2 ^ 29:=by
    rw [ζoz,List.length_take];have:min j p.rows.length * (n * 2) ≤ 1000 * 22:=Nat.mul_le_mul (by omega) (by omega);omega
   obtain ⟨s',o',H2,z',e2,g2⟩:=write_l3 k (.int .i64 w) (.int .i64 room) n (by omega) (ptrV H.n) (.int .i64 (16 + room)) r (hp.2.1 r (List.mem_of_getElem? hr)) hxs (vR) (.int .i64 p.rows.length) (.int .i64 j) hll g;refine .inl ⟨_,H2,?_,s',o',rfl,by rw [ζ1x hr,ζtk]; exact g2⟩;rw [ζ65];simp -implicitDefEqProofs (disch:=omega) [hlt,i1,i2,e2,ζa4])
  (fun e H' ⟨s,o,he,g⟩ => by
   subst he;rw [List.take_length] at g;refine ⟨.exit 2,_,H',?_,by simp,rfl,.int .i64 p.rows.length,s,o,rfl,g⟩;rw [ζ65];simp -implicitDefEqProofs)
 have b5:=g.get 2 rfl;have hrl:(rowsL n p.rows).length ≤ 1000 * 22:=by rw [ζoz]; exact Nat.mul_le_mul h2 (by omega)
 -- the entries
 obtain ⟨s6,o6,H6,z6,hr6,g⟩:=write_l4 k w hw (.int .i64 room) (.int .i64 n) (.int .i64 (16 + room)) p.ents (by omega) hsE g;have hel:=ζgm w p.ents;have q9:∀ H',lnS s4 H' = .ok (.int .i64 (ofS p.cls).length) H':=(g.row 0 rfl).len;have q12:∀ H',lnS s5 H' = .ok (.int .i64 (rowsL n p.rows).length) H':=(g.row 1 rfl).len
 -- all together
 have g:=g.more_row (Ext.refl _) (OwnO.nil encB _ 1) (fun b hb => by cases hb);simp only [List.cons_append,List.nil_append] at g;obtain ⟨t1,u1,J1,f1,g⟩:=Put_star k g 4 rfl n 4 4 rfl (by omega) (by omega) (by omega) (by simp);simp only [List.set_cons_zero,List.set_cons_succ,List.nil_append] at g;obtain ⟨t2,u2,J2,f2,g⟩:=Put_star k g 4 rfl (16 + room) 4 4 rfl (by omega) (by omega) (by omega) (by simp);simp only [List.set_cons_zero,List.set_cons_succ] at g;obtain ⟨t3,u3,J3,f3,g⟩:=Put_star k g 4 rfl (16 + room + (ofS p.cls).length) 4 4 rfl (by omega) (by omega) (by omega) (by simp);simp only [List.set_cons_zero,List.set_cons_succ] at g;obtain ⟨t4,u4,J4,f4,g⟩:=Put_star k g 4 rfl (16 + room + (ofS p.cls).length + (rowsL n p.rows).length) 4 4 rfl (by omega) (by omega) (by omega) (by simp);simp only [List.set_cons_zero,List.set_cons_succ] at g;obtain ⟨a4,l4,c4,ht4⟩:=(g.row 4 rfl).shape;obtain ⟨t5,u5,J5,f5,g⟩:=g.append (bytes:=1) 4 encB_len rfl (b:=lv encB (List.replicate room 0)) (l2:=List.replicate room 0) (by rw [lv,List.length_replicate]; rfl) (by have:=lv_first encB_len (List.replicate room 0) J4; exact this) (by simp; omega) (by decide);simp only [List.set_cons_zero,List.set_cons_succ] at g;have f5':azR 1 1 [.int .u8 0] t4 (.int .i64 room) J4 = .ok t5 J5:=by
  rw [ht4] at f5 ⊢;rw [azR_eq encB_len a4 l4 c4 (0:Int) _ rfl .i64 room (by omega)];exact f5
 obtain ⟨t6,u6,J6,f6,g⟩:=g.appendRow (bytes:=1) 4 0 encB_len rfl rfl (by simp; omega) (by decide);simp only [List.set_cons_zero,List.set_cons_succ] at g;obtain ⟨t7,u7,J7,f7,g⟩:=g.appendRow (bytes:=1) 4 1 encB_len rfl rfl (by simp; omega) (by decide);simp only [List.set_cons_zero,List.set_cons_succ] at g;obtain ⟨t8,u8,J8,f8,g⟩:=g.appendRow (bytes:=1) 4 3 encB_len rfl rfl (by simp; omega) (by decide);simp only [List.set_cons_zero,List.set_cons_succ] at g;have hbytes:planBytes p w room = bytesOf (n:Int) 4 ++ bytesOf (16 + room:Int) 4 ++ bytesOf (16 + room + (ofS p.cls).length:Int) 4 ++ bytesOf (16 + room + (ofS p.cls).length + (rowsL n p.rows).length:Int) 4 ++ List.replicate room 0 ++ ofS p.cls ++ rowsL n p.rows ++ entsB w p.ents:=by
  unfold planBytes;rw [← hn]
 rw [hbytes];refine ⟨t8,J8,?_,g.own 4 rfl,g.ext⟩;rw [hB] at e1 b1 b2 b3 b4 b5;have hlnE:=fun H' => hsE.len H';have hlnC:=fun H' => hC.len H';have hlnR:=fun H' => hR.len H';rw [hrvl] at hlnR;have hvqC:veq vC vC = true:=hC.veq fun x _ u hu => by simp at hu; subst hu; simp
 simp -implicitDefEqProofs (disch:=omega) [ζ3,hrem,hN.1,e1,b1,e2,b2,e3,b3,hr4,ζa2,b4,hr5,ζa3,b5,hr6,ζa5,f1,q9,q12,f2,f3,f4,f5',f6,f7,f8,hlnE,hlnC,hlnR,hvqC]
theorem lvU_rows (l:List (List Int)):lv encBR l = lv encU (l.map fun s => (s,lv encB s)):=by
 unfold lv;rw [List.length_map];congr 2;unfold rows;rw [List.flatMap_map];rfl
theorem rv_fst (l:List (List Int)):(l.map fun s => (s,lv encB s)).map Prod.fst = l:=by rw [List.map_map]; simp [Function.comp_def]
structure PlanSl (H:Heap) (p:Plan) (vC vR sE:Value) (rv:List (List Int × Value)):Prop where
 cls:Sl H 1 vC encB p.cls
 fst:rv.map Prod.fst = p.rows
 each:∀ x,x ∈ rv → Sl H 1 x.2 encB x.1
 rows:Sl H 1 vR encU rv
 ents:Sl H 4 sE encEn p.ents
theorem PlanSl.up {H H':Heap} {p:Plan} {vC vR sE:Value} {rv:List (List Int × Value)} (h:PlanSl H p vC vR sE rv) (he:Ext H H'):PlanSl H' p vC vR sE rv:=⟨h.cls.up he,h.fst,fun x hx => (h.each x hx).up he,h.rows.up he,h.ents.up he⟩
theorem PlanSl.lv (H:Heap) (p:Plan) {sE:Value} (h:Sl H 4 sE encEn p.ents):PlanSl H p (Go.Sw.lv encB p.cls) (Go.Sw.lv encBR p.rows) sE (p.rows.map fun s => (s,Go.Sw.lv encB s)) :=
 ⟨Sl.lv _ 1 _,rv_fst p.rows,fun x hx => by obtain ⟨s,_,rfl⟩:=List.mem_map.1 hx; exact Sl.lv _ 1 _,by rw [lvU_rows]; exact Sl.lv _ 1 _,h⟩
theorem ζn8 (k:Nat) (hW:ownW k = .no) (p:Plan) (hp:p.ok) (w:Int) (hw:w = 0 ∨ w = 1 ∨ w = 2) (room:Nat) (hroom:room ≤ 1000) (h1:p.cls.length ≤ 1000) (h2:p.rows.length ≤ 1000) (h3:p.ents.length ≤ 1000) {H0 H:Heap} {L:List It} (g:Star H0 H L) {vC vR sE:Value} {rv:List (List Int × Value)} (hP:PlanSl H p vC vR sE rv) :
  ∃ s o H',R (T k) F.ζ3 [.agg #[vC,vR,sE,.int .u8 p.wide],.int .i64 w,.int .i64 room] H = .ok s H' ∧ Star H0 H' (L ++ [itRow o 1 s encB (planBytes p w room)]) ∧ Ext H H':=by
 obtain ⟨s,H',e,ho,hx⟩:=ζrl k p hp w hw room hroom h1 h2 h3 hP.cls hP.fst hP.each hP.rows hP.ents;obtain ⟨o,g⟩:=g.more_own ho hx;exact ⟨s,o,H',by rw [ζfw,hW]; exact nrm_of e,g,hx⟩
end Go.Sw
end
section
set_option maxRecDepth 100000
set_option linter.unusedVariables false
namespace Go.Sw
noncomputable section
end
end Go.Sw
end
section
namespace Go.Sw
open Go.RowKit
theorem ζup {b:List Int} {i n:Int}:(pieceS b i n).isSome = inS b.length i n:=by
 unfold pieceS inS;split
 ·rename_i h; rw [decide_eq_true h]; rfl
 ·rename_i h; rw [decide_eq_false h]; rfl
theorem uS_of_in {b:List Int} {i n:Int} (h:inS b.length i n = true):∃ x,uS b i n = some x:=by
 rw [← ζup,Option.isSome_iff_exists] at h;obtain ⟨r,hr⟩:=h;exact ⟨num r,by unfold uS; rw [hr]; rfl⟩
end Go.Sw
end
section
set_option maxRecDepth 100000
set_option linter.unusedVariables false
namespace Go.Sw
noncomputable section
end
end Go.Sw
end
section
namespace Go.Sw
open Go.RowKit
end Go.Sw
end
section
namespace Go.Sw
open Go.RowKit
end Go.Sw
end
section
namespace Go.Sw
open Go.RowKit
def RP.ok (r:RP):Prop:=-1 ≤ r.first ∧ r.first ≤ 65536 ∧ -1 ≤ r.last ∧ r.last ≤ 65536 ∧ -1 ≤ r.pos ∧ r.pos < 2 ^ 35 ∧ 0 ≤ r.step ∧ r.step ≤ 4 ∧ 0 ≤ r.size ∧ r.size ≤ 4
end Go.Sw
end
section
namespace Go.Sw
open Go.RowKit
end Go.Sw
end
section
namespace Go.Sw
open Go.RowKit
def planRoom (p:Plan) (w:Int) (rm:List Int):List Int :=
 bytesOf (planN p:Int) 4 ++ (bytesOf (16 + rm.length:Int) 4 ++ (bytesOf (16 + rm.length + (ofS p.cls).length:Int) 4 ++ (bytesOf (16 + rm.length + (ofS p.cls).length + (rowsL (planN p) p.rows).length:Int) 4 ++ (rm ++ (ofS p.cls ++ (rowsL (planN p) p.rows ++ entsB w p.ents))))))
theorem ζf7 (p:Plan) (w:Int) (room:Nat):planBytes p w room = planRoom p w (List.replicate room 0):=by
 unfold planBytes planRoom;simp [List.append_assoc]
end Go.Sw
end
section
set_option maxRecDepth 100000
set_option linter.unusedVariables false
namespace Go.Sw
noncomputable section
end
end Go.Sw
end
section
namespace Go.Sw
open Go.RowKit
end Go.Sw
end
section
namespace Go.Sw
open Go.RowKit
end Go.Sw
end
section
namespace Go.Sw
theorem wf_u8 {n:Int} (h:(Lit.int .u8 n).wf = true):0 ≤ n ∧ n < 256:=by
 simp [Lit.wf,IntKind.min,IntKind.max,IntKind.signed,IntKind.bits] at h;omega
theorem row_B {r:List Da} {cs:List Value} (h:LayRow [.int .u8] r cs):∃ n:Int,cs = encB n ∧ (0 ≤ n ∧ n < 256):=by
 obtain ⟨d,v,ds,vs,rfl,h1,h2⟩:=h.head;obtain rfl:=h2.done;obtain ⟨n,rfl,w⟩:=h1.intv;exact ⟨n,rfl,wf_u8 w⟩
theorem arg_B {v:Value} (h:ArgLay (.one (.slice [.int .u8])) v):∃ b,v = lv encB b ∧ Byt b:=by
 obtain ⟨d,h1⟩:=h.cell;obtain ⟨b,rfl,hb⟩:=Lay.list (enc:=encB) (ok:=fun n => 0 ≤ n ∧ n < 256) (fun r cs h => row_B h) h1;exact ⟨b,rfl,hb⟩
end Go.Sw
end
section
namespace Go.Sw
open Go.RowKit
end Go.Sw
end
section
namespace Go.Sw
open Go.RowKit
theorem ζjm {p:Plan} (hp:p.ok) (w:Int) {rm:List Int} (hrm:rm.length ≤ 1000) (h1:p.cls.length ≤ 1000) (h2:p.rows.length ≤ 1000) (h3:p.ents.length ≤ 1000):(planRoom p w rm).length ≤ 100000:=by
 have hN:=planN_eq p hp.2.2;have hofl:(ofS p.cls).length = 6 + p.cls.length * 2:=by unfold ofS; simp [twos_len]; omega
 have hrl:(rowsL (planN p) p.rows).length ≤ 1000 * 22:=by rw [ζoz]; exact Nat.mul_le_mul h2 (by omega)
 have hel:=ζgm w p.ents;unfold planRoom;simp;omega
end Go.Sw
end
section
namespace Go.Sw
open Go.RowKit
variable {σ:Type}
end Go.Sw
end
section
namespace Go.Sw
open Go.RowKit
end Go.Sw
end
section
namespace Go.Sw
open Go.RowKit
variable {σ:Type}
theorem ζqq (m:Mach) (l:List Gl) (j:Nat):(clsS m l j).2 = decide (l.length ≤ j):=by
 unfold clsS atG;by_cases h2:(j:Int) < l.length
 ·obtain ⟨g,hg⟩:∃ g,l[j]? = some g:=⟨_,List.getElem?_eq_getElem (by omega)⟩
  rw [if_pos ⟨by omega,h2⟩,Int.toNat_natCast,hg,decide_eq_false (by omega)]
 ·rw [if_neg (fun hc => h2 hc.2),decide_eq_true (by omega)]
theorem runD_go (m:Mach) (ln:σ → List Gl) (f:σ → Int → En → σ × Int × Int) (most:Int) (len:Nat) (hmost:(len:Int) < most) (P:Nat → σ → Int → Prop) (hlen:∀ j s st,P j s st → (ln s).length = len)
  (hgo:∀ (j:Nat) s st,j ≤ len → P j s st → ¬ (entS m (ln s) ⟨st,j,j,0⟩).flags / 16384 % 2 = 1 ∧ (f s j (entS m (ln s) ⟨st,j,j,0⟩)).2.2 = (j:Int) + 1 ∧ (j < len → P (j + 1) (f s j (entS m (ln s) ⟨st,j,j,0⟩)).1 (entS m (ln s) ⟨st,j,j,0⟩).next)) :
  ∀ (c j n:Nat) (z:Int) (s:σ) (st:Int),z = j → len = j + c → c < n → P j s st → ∃ s' st',P len s' st' ∧ runD m ln f most n (s,⟨st,z,z,0⟩) = ((len:Int) + 1,0,(f s' len (entS m (ln s') ⟨st',len,len,0⟩)).1)
 | c,j,0,z,s,st,_,_,h,_ => by omega
 | 0,j,n + 1,z,s,st,hz,hj,hn,hP => by
  subst hz;obtain ⟨g1,g2,_⟩:=hgo j s st (by omega) hP;have hl:=hlen j s st hP;have hjl:j = len:=by omega
  subst hjl;refine ⟨s,st,hP,?_⟩;unfold runD;rw [if_pos (by dsimp only; omega)];unfold stepD;dsimp only;rw [if_neg g1,ζqq,hl,decide_eq_true (Nat.le_refl _)];rfl
 | c + 1,j,n + 1,z,s,st,hz,hj,hn,hP => by
  subst hz;obtain ⟨g1,g2,g3⟩:=hgo j s st (by omega) hP;have hl:=hlen j s st hP;have ih:=runD_go m ln f most len hmost P hlen hgo c (j + 1) n _ _ _ rfl (by omega) (by omega) (g3 (by omega));unfold runD;rw [if_pos (by dsimp only; omega)];unfold stepD;dsimp only;rw [if_neg g1,ζqq,hl,decide_eq_false (by omega),g2];simp only [Bool.false_eq_true,if_false];rw [if_neg (by decide),show max ((j:Int) + 1) 0 = ((j + 1:Nat):Int) by omega,show (j:Int) + 1 = ((j + 1:Nat):Int) by omega];exact ih
end Go.Sw
end
section
namespace Go.Sw
open Go.RowKit
structure ITab where
 m:Mach
 list:List Int
def hereS (e:En):Int:=if e.a = 65535 then 0 else e.flags / 32 % 32
def markS (e:En):Int:=if e.b = 65535 then 0 else e.flags % 32
def entIn (list:List Int) (e:En):Bool:=(decide (hereS e ≤ 0) || (rowsS list (2 * e.a) (hereS e) 2).isSome) && (decide (markS e ≤ 0) || (rowsS list (2 * e.b) (markS e) 2).isSome)
def insS (b:List Int) (g:Int):Option ITab:=(machS b g 2).bind fun m => (uS b 16 4).bind fun p => (restS b p).bind fun ls => if m.ents.all (entIn ls) then some ⟨m,ls⟩ else none
structure ITab.ok (t:ITab):Prop where
 m:t.m.ok
 byt:Byt t.list
 len:t.list.length < 2 ^ 31
 has:∀ e,e ∈ t.m.ents → (0 < hereS e → 2 * e.a + hereS e * 2 ≤ t.list.length) ∧ (0 < markS e → 2 * e.b + markS e * 2 ≤ t.list.length)
theorem insS_ok {b:List Int} (hb:Byt b) {g:Int} (h1:1 ≤ g) (h2:g ≤ 65535) (hl:b.length < 2 ^ 31) {t:ITab} (h:insS b g = some t):t.ok:=by
 unfold insS at h;obtain ⟨m,hm,h⟩:=Option.bind_eq_some_iff.1 h;obtain ⟨p,hp,h⟩:=Option.bind_eq_some_iff.1 h;obtain ⟨ls,hv,h⟩:=Option.bind_eq_some_iff.1 h;split at h
 ·rename_i hc;injection h with h;subst h;have hlen:=ζ6o hv;refine ⟨machS_ok hb h1 h2 (by omega) hm,hb.rest hv,by dsimp only; omega,fun e he => ?_⟩;have:=List.all_eq_true.1 hc e he;unfold entIn at this;rw [Bool.and_eq_true,Bool.or_eq_true,Bool.or_eq_true,decide_eq_true_eq,decide_eq_true_eq] at this;refine ⟨fun h0 => ?_,fun h0 => ?_⟩
  ·rcases this.1 with h | h
   ·omega
   ·obtain ⟨r,hr⟩:=Option.isSome_iff_exists.1 h;have:=(ζra (by decide)).1 hr;dsimp only; omega
  ·rcases this.2 with h | h
   ·omega
   ·obtain ⟨r,hr⟩:=Option.isSome_iff_exists.1 h;have:=(ζra (by decide)).1 hr;dsimp only; omega
 ·cases h
def insCl (l:List Gl) (i:Int):Int:=match atG l i with | some g => g.cl | none => ((atG l (i - 1)).getD ⟨0,0⟩).cl
def insertG (l:List Gl) (i:Int) (ids:List Int):List Gl:=if 0 ≤ i ∧ i ≤ l.length then l.take i.toNat ++ (ids.map (fun x => (⟨x,insCl l i⟩:Gl)) ++ l.drop i.toNat) else l
theorem ζry (l:List Gl) (i:Int) (ids:List Int) (h:0 ≤ i ∧ i ≤ l.length):(insertG l i ids).length = l.length + ids.length:=by
 unfold insertG;rw [if_pos h];simp;omega
def listN (list:List Int) (at_ n:Int):List Int:=(List.range n.toNat).map fun (i:Nat) => gU list (2 * (at_ + (i:Int))) 2
theorem ζgq (list:List Int) (a n:Int):(listN list a n).length = n.toNat:=by simp [listN]
structure InsSt where
 l:List Gl
 mark:Int
 left:Int
 done:Int
 broke:Bool
def putS (list:List Int) (s:InsSt) (place a n:Int):InsSt × Bool :=
 if n > s.left then ({ s with broke:=true },false) else ({ s with left:=s.left - n,done:=s.done + n,l:=insertG s.l place (listN list a n) },decide (0 ≤ place ∧ place ≤ s.l.length))
def markPlace (s:InsSt) (e:En):Int:=if e.flags / 1024 % 2 = 1 then s.mark else s.mark + 1
def act1 (list:List Int) (s:InsSt) (i:Int) (e:En):InsSt × Int × Bool :=
 if markS e > 0 ∧ s.mark ≥ 0 then
  let r:=putS list s (markPlace s e) e.b (markS e)
  if r.2 = false then (r.1,i,false)
  else ({ r.1 with mark:=if markPlace s e ≤ r.1.mark then r.1.mark + markS e else r.1.mark },if markPlace s e ≤ i then i + markS e else i,true)
 else (s,i,true)
def act2 (list:List Int) (s:InsSt) (i:Int) (e:En):InsSt × Int × Int :=
 let over:Bool:=decide (i ≥ s.l.length)
 let own:Int:=if hereS e > 0 ∧ e.flags / 2048 % 2 = 1 then i + hereS e else i
 if hereS e > 0 then
  let place:Int:=if e.flags / 2048 % 2 = 1 then i else min (i + 1) s.l.length
  let r:=putS list s place e.a (hereS e)
  if r.2 = false then (r.1,i,i + 1)
  else
   let mk:Int:=if place ≤ r.1.mark then r.1.mark + hereS e else r.1.mark
   ({ r.1 with mark:=if e.flags ≥ 32768 ∧ over = false then own else mk },i,i + hereS e + 1)
 else ({ s with mark:=if e.flags ≥ 32768 ∧ over = false then own else s.mark },i,i + hereS e + 1)
def actI (list:List Int) (s:InsSt) (i:Int) (e:En):InsSt × Int × Int :=
 if s.broke then (s,i,i + 1)
 else
  let r:=act1 list s i e
  if r.2.2 = false then (r.1,i,i + 1) else act2 list r.1 r.2.1 e
end Go.Sw
end
section
namespace Go.Sw
open Go.RowKit
def runIr (t:ITab) (l:List Gl) (left:Int):Int × Int × InsSt :=
 runD t.m (fun s:InsSt => s.l) (fun s i e => actI t.list s i e) (2 * (l.length:Int) + 128) (2 * l.length + 128) (⟨l,-1,left,0,false⟩,⟨0,0,0,0⟩)
def codeI (r:Int × Int × InsSt):Int:=if r.2.2.broke then 4 else r.2.1
end Go.Sw
end
section
namespace Go.Sw
open Go.RowKit
theorem subV_lv (b:List Int) (a n:Nat) (h:a + n ≤ b.length):subV 1 (lv encB b) a n = lv encB ((b.drop a).take n):=by
 have h2:=((Sl.lv Heap.empty 1 b).sub encB_len .i64 .i64 .i64 a n h).1 Heap.empty (Ext.refl _);rw [slS_lv encB_len b _ _ _ a (a + n) (a + n) (by simp [boundOf]) (by unfold boundOf; dsimp only; rw [if_pos (by omega),Int.toNat_natCast]) (by unfold boundOf; dsimp only; rw [if_pos (by omega),Int.toNat_natCast]) (fun _ => rfl) (by omega) (Nat.le_refl _) h] at h2;injection h2 with h2;rw [← h2,List.drop_take,show a + n - a = n by omega]
theorem piece_lv {b r:List Int} {i n:Int} (h:pieceS b i n = some r):subV 1 (lv encB b) i.toNat n.toNat = lv encB r:=by
 obtain ⟨h1,rfl⟩:=ζ73.1 h;exact subV_lv b _ _ (by omega)
theorem ζr9 {α:Type} {o:Option α} {f g:α → Value} (h:∀ a,o = some a → f a = g a) (H:Heap):orF o f H = orF o g H:=by
 cases o with
 | none => rfl
 | some a => show Res.ok (f a) H = Res.ok (g a) H; rw [h a rfl]
abbrev vwB (b:List Int):Value:=.agg #[lv encB b]
theorem Rest_lv (k:Nat) (b:List Int) (i:Int) (hl:b.length < 2 ^ 62) (hi:i ≤ 9223372036854775807) (H:Heap):R (T k) F.ζ1s [vwB b,.int .i64 i] H = orF (restS b i) vwB H :=
 (Rest_run k (Sl.lv H 1 b) i hl hi).trans (ζr9 (fun r hr => by rw [piece_lv (by rw [ζe9 b i hl hi]; exact hr)]) H)
theorem Rows_lv (k:Nat) (b:List Int) (i n s:Int) (hl:b.length < 2 ^ 62) (H:Heap):R (T k) F.ζm [vwB b,.int .i64 i,.int .i64 n,.int .i64 s] H = orF (rowsS b i n s) vwB H :=
 (Rows_run k (Sl.lv H 1 b) i n s hl).trans (ζr9 (fun r hr => by rw [piece_lv (ζ2y hr)]) H)
theorem Of_lv (k:Nat) (b:List Int) (H:Heap):R (T k) F.view_Of [lv encB b] H = .ok (vwB b) H:=Of_run k (Sl.lv H 1 b)
theorem ζqm (k:Nat) {H:Heap} {v:Value} {b:List Int} (hv:Sl H 1 v encB b) (hl:b.length ≤ 2 ^ 30):R (T k) F.ζ39 [.agg #[v]] H = .ok (lv encB b) H:=by
 rw [ζgi];have g:=(Star.nil H).push ⟨[v],1,false⟩;have g:=g.more_row (Ext.refl _) (OwnO.bare encB _ 1) (fun b hb => by cases hb);obtain ⟨s,o,H1,e1,g⟩:=g.append (bytes:=1) 1 encB_len rfl (b:=v) (l2:=b) (ζf0 hv.lenL) ((hv.up g.ext).first encB_len) (by simp; omega) (by decide);simp only [List.nil_append,List.cons_append,List.set_cons_zero,List.set_cons_succ] at g;obtain ⟨L,hf⟩:=(g.own 1 rfl).freeze encB_len (fun n _ v hv => by simp at hv; subst hv; trivial) 6;refine nrm_fz (v:=s) (H':=H1) ?_ hf g.ext (Flat.B b).alive;simp -implicitDefEqProofs [ζ39,e1]
theorem veq_Pt (l:List Pt):veq (lv encPt l) (lv encPt l) = true:=veq_lv fun p _ v hv => by
 simp [encPt] at hv;rcases hv with rfl | rfl | rfl <;> simp
theorem veq_tab (x:Int × List Pt):veq (boxV #[.int .i64 x.1,lv encPt x.2]) (boxV #[.int .i64 x.1,lv encPt x.2]) = true:=veq_boxV (l:=[.int .i64 x.1,lv encPt x.2]) fun v hv => by
 simp at hv;rcases hv with rfl | rfl
 ·simp
 ·exact veq_Pt _
end Go.Sw
end
section
namespace Go.Sw
open Go.RowKit
structure CTab where
 m:Mach
 subs:List (Int × List Pt)
end Go.Sw
end
section
namespace Go.Sw
open Go.RowKit
end Go.Sw
end
section
namespace Go.Sw
open Go.RowKit
end Go.Sw
end
section
namespace Go.Sw
open Go.RowKit Go.Proofs
set_option maxRecDepth 20000 in
theorem ζro (p:Addr) (b:Bool) (w:World) (hc:(w.alloc (.cells #[] 190)).cell? p = some (.bool b)) (hz:(w.alloc (.cells #[] 190)).frozen? p = false) :
  CallsD Prog 100 #[.pointer (some p)] (.panicking [{ v:=.iface 190 (.agg #[]),recovered:=false }]) w fun e u' w' =>
   e = .returned (.tuple #[]) ∧ u' = .panicking [{ v:=.iface 190 (.agg #[]),recovered:=true }] ∧ w' = (w.alloc (.cells #[] 190)).setCell p (.bool false):=by
 refine callsD_of_wpS Try.func100 rfl fun c₀ cs hu => ?_;apply wpS_seq;apply wpS_region;simp [wpOpsS,go_sem,recoverD,hu,Try.ntmps100,Exit.thenS];have hta:∀ w,(Instr.typeAssert (.iface 190 (.agg #[])) 20 190 true).run Prog w = .ok (.tuple #[.agg #[],.bool true]) w:=fun w => by kernel_rfl
 refine wpS_of_wp ?_
 go_wp2
 cases c₀;simp_all [bodyPostS,results,Try.results100]
theorem ζsm (p:Addr) (w:World) :
  CallsD Prog 100 #[.pointer (some p)] .returning w fun e u' w' => e = .returned (.tuple #[]) ∧ u' = .returning ∧ w' = w:=by
 refine callsD_of_wpS Try.func100 rfl fun c₀ cs hu => ?_;apply wpS_seq;apply wpS_region;simp [wpOpsS,go_sem,recoverD,hu,Try.ntmps100,Exit.thenS];refine wpS_of_wp ?_
 go_wp2
 cases c₀;simp_all [bodyPostS,results,Try.results100]
set_option maxRecDepth 20000 in
theorem try_walk (g:FuncId) (first cap:Array Value) (w:World) (R:Ending → World → Prop)
  (hcf:(callFunc g (first ++ cap)).run Prog (w.alloc (.cells #[.bool false] 4)) = .ok (.enter g (first ++ cap)) (w.alloc (.cells #[.bool false] 4)))
  (hcall:Calls Prog g (first ++ cap) (w.alloc (.cells #[.bool false] 4)) fun e w' => match e with
   | .returned _ => w'.heap[w.heap.size]? = some (.cells #[.bool false] 4 (0,0)) ∧ R (.returned (.bool true)) (w'.setCell ⟨w.heap.size,0,none⟩ (.bool true))
   | .panicked chain => chain = [{ v:=.iface 190 (.agg #[]),recovered:=false }] ∧ w'.heap[w.heap.size]? = some (.cells #[.bool false] 4 (0,0)) ∧ R (.returned (.bool false)) ((w'.alloc (.cells #[] 190)).setCell ⟨w.heap.size,0,none⟩ (.bool false))
   | .outgrown => False) :
  Calls Prog 40 #[.func (.func g) first cap] w R:=by
 have hmf:∀ (fn:Fn) (first cap:Array Value) (w:World),(Instr.makeFunc fn first cap).run Prog w = .ok (.func fn first cap) w:=fun _ _ _ _ => rfl
 go_enter_defers Try.func40,Try.ntmps40
 go_wp2
 rename_i K2 hK2 K1 hK1;refine hcall.mono fun e w' he => ?_;cases e with
 | returned v =>
  obtain ⟨h1,h2⟩:=he;have hc:w'.cell? ⟨w.heap.size,0,none⟩ = some (.bool false):=by simp [World.cell?,h1]
  have hz:w'.frozen? ⟨w.heap.size,0,none⟩ = false:=by simp [World.frozen?,h1]
  apply hK1;apply hK2
  go_wp2
  have hc2:(w'.setCell ⟨w.heap.size,0,none⟩ (.bool true)).cell? ⟨w.heap.size,0,none⟩ = some (.bool true):=World.cell?_setCell_same _ _ _ hc;refine leaves_cons (f:=100) (args:=#[.pointer (some ⟨w.heap.size,0,none⟩)]) (by simp) (by simp [go_sem]) ?_;refine (ζsm ⟨w.heap.size,0,none⟩ _).mono ?_;rintro e u' w'' ⟨rfl,rfl,rfl⟩;simp [Leaves,settle,results,Try.results40,go_sem,hc2];exact h2
 | panicked chain =>
  obtain ⟨h0,h1,h2⟩:=he;subst h0;have hlt:w.heap.size < w'.heap.size:=by
   rcases Nat.lt_or_ge w.heap.size w'.heap.size with h | h
   ·exact h
   ·rw [Array.getElem?_eq_none h] at h1; cases h1
  have h3:(w'.alloc (.cells #[] 190)).heap[w.heap.size]? = some (.cells #[.bool false] 4 (0,0)):=by
   rw [ζ2z _ _ _ hlt]; exact h1
  have hc:(w'.alloc (.cells #[] 190)).cell? ⟨w.heap.size,0,none⟩ = some (.bool false):=by simp only [World.cell?,h3]; rfl
  have hz:(w'.alloc (.cells #[] 190)).frozen? ⟨w.heap.size,0,none⟩ = false:=by simp [World.frozen?,h3]
  have hc2:((w'.alloc (.cells #[] 190)).setCell ⟨w.heap.size,0,none⟩ (.bool false)).cell? ⟨w.heap.size,0,none⟩ = some (.bool false):=World.cell?_setCell_same _ _ _ hc;show Leaves _ _ _ _ _ _ _;refine leaves_cons (f:=100) (args:=#[.pointer (some ⟨w.heap.size,0,none⟩)]) (by simp) (by simp [go_sem]) ?_;refine (ζro ⟨w.heap.size,0,none⟩ false _ hc hz).mono ?_;rintro e u' w'' ⟨rfl,rfl,rfl⟩;simp [Leaves,settle,results,Try.results40,go_sem,hc2];exact h2
 | outgrown => exact he.elim
theorem try_is:SpIs Prog 40 (tryV 190):=try_of (bt:=4) Try.func40 rfl (by kernel_rfl) try_walk
end Go.Sw
end
section
namespace Go.Sw
open Go.RowKit
structure CTab.ok (t:CTab):Prop where
 m:t.m.ok
 subs:∀ x,x ∈ t.subs → (∀ p,p ∈ x.2 → p.ok) ∧ risesS x.2 = true ∧ x.2.length < 2 ^ 31
 has:∀ e,e ∈ t.m.ents → (e.a = 65535 ∨ e.a < t.subs.length) ∧ (e.b = 65535 ∨ e.b < t.subs.length)
end Go.Sw
end
section
namespace Go.Sw
open Go.RowKit
theorem ζ7s (p:Plan) (w:Int) (rm rm':List Int) (h:rm.length = rm'.length):(planRoom p w rm).length = (planRoom p w rm').length:=by
 unfold planRoom;simp [h]
end Go.Sw
end
section
namespace Go.Sw
open Go.RowKit
theorem ζpx (p:Plan) (w:Int) (n:Nat):∃ hd tl:List Int,hd.length = 16 ∧ ∀ rm:List Int,rm.length = n → planRoom p w rm = hd ++ (rm ++ tl):=by
 refine ⟨bytesOf (planN p:Int) 4 ++ (bytesOf (16 + n:Int) 4 ++ (bytesOf (16 + n + (ofS p.cls).length:Int) 4 ++ bytesOf (16 + n + (ofS p.cls).length + (rowsL (planN p) p.rows).length:Int) 4)),ofS p.cls ++ (rowsL (planN p) p.rows ++ entsB w p.ents),by simp,fun rm h => ?_⟩;unfold planRoom;rw [h];simp only [List.append_assoc]
def roomB (p:Plan) (w:Int) (hi:Int) (l:List Int):List Int:=planRoom p w (bytesOf (hi + (planRoom p w (List.replicate 4 0)).length:Int) 4) ++ twos l
theorem ζpw (p:Plan) (w n:Int):(planRoom p w (bytesOf n 4)).length = (planRoom p w (List.replicate 4 0)).length:=ζ7s p w _ _ (by simp)
end Go.Sw
end
section
namespace Go.Sw
open Go.RowKit
def pG:Plan:=⟨[],[[1,0],[1,0]],[⟨0,32,0,65535⟩,⟨0,0,65535,65535⟩],0⟩
def bG:List Int:=roomB pG 2 0 [9]
def tG:ITab:=⟨⟨4,(8,[]),[[1,0,0,0],[1,0,0,0]],[⟨0,32,0,65535⟩,⟨0,0,65535,65535⟩]⟩,[0,9]⟩
theorem insS_G:insS bG 20 = some tG:=by kernel_rfl
theorem bG_byt:Byt bG:=by
 have h:(bG.all fun x => decide (0 ≤ x ∧ x < 256)) = true:=by kernel_rfl
 intro x hx;simpa using List.all_eq_true.1 h x hx
theorem bG_len:bG.length ≤ 100:=Nat.le_of_ble_eq_true (by kernel_rfl)
theorem tG_ok:tG.ok:=insS_ok bG_byt (by omega) (by omega) (by have:=bG_len; omega) insS_G
def pairG (n:Nat) (x:Int × Nat):List Gl:=[⟨x.1,(x.2:Nat)⟩,⟨9,(min (x.2 + 1) (n - 1):Nat)⟩]
def growL (ids:List Int) (j:Nat):List Gl:=(ids.zipIdx.take j).flatMap (pairG ids.length) ++ (newG ids).drop j
theorem ζ8h (ids:List Int) (n:Nat):∀ j,j ≤ ids.length → ((ids.zipIdx.take j).flatMap (pairG n)).length = 2 * j
 | 0,_ => rfl
 | j + 1,h => by
  have hx:ids.zipIdx[j]? = some (ids[j],j):=by rw [List.getElem?_zipIdx,List.getElem?_eq_getElem (by omega)]; simp
  rw [ζ1x hx,List.flatMap_append,List.length_append,ζ8h ids n j (by omega)];simp [pairG];omega
theorem ζgo (ids:List Int) (j:Nat) (h:j ≤ ids.length):(growL ids j).length = ids.length + j:=by
 unfold growL;rw [List.length_append,ζ8h ids _ j h,List.length_drop,newG_len];omega
theorem growL_at (ids:List Int) (j i:Nat) (h:j ≤ ids.length) (hi:j ≤ i):(growL ids j)[j + i]? = (newG ids)[i]?:=by
 unfold growL;rw [List.getElem?_append_right (by rw [ζ8h ids _ j h]; omega),ζ8h ids _ j h,List.getElem?_drop];congr 1;omega
theorem ζf5 (ids:List Int) (j:Nat):(newG ids)[j]? = (ids[j]?).map fun x => ⟨x,(j:Nat)⟩:=by
 unfold newG;rw [List.getElem?_map,List.getElem?_zipIdx];cases ids[j]? <;> simp
theorem atG_nat (l:List Gl) (j:Nat):atG l j = l[j]?:=by
 unfold atG;by_cases h:j < l.length
 ·rw [if_pos ⟨by omega,by omega⟩,Int.toNat_natCast]
 ·rw [if_neg (by omega),List.getElem?_eq_none (by omega)]
theorem insCl_G (ids:List Int) (j:Nat) (h:j < ids.length):insCl (growL ids j) ((2 * j + 1:Nat):Int) = ((min (j + 1) (ids.length - 1):Nat):Int):=by
 unfold insCl;rw [atG_nat,show 2 * j + 1 = j + (j + 1) by omega,growL_at ids j (j + 1) (by omega) (by omega),ζf5];by_cases hj:j + 1 < ids.length
 ·rw [List.getElem?_eq_getElem hj];simp only [Option.map_some];congr 1;omega
 ·rw [List.getElem?_eq_none (by omega)];simp only [Option.map_none];rw [show ((j + (j + 1):Nat):Int) - 1 = ((j + j:Nat):Int) by omega,atG_nat,growL_at ids j j (by omega) (by omega),ζf5,List.getElem?_eq_getElem h];simp only [Option.map_some,Option.getD_some];congr 1;omega
theorem ζt0 (ids:List Int) (j:Nat) (h:j < ids.length):insertG (growL ids j) ((2 * j + 1:Nat):Int) [9] = growL ids (j + 1):=by
 unfold insertG;rw [if_pos ⟨by omega,by rw [ζgo ids j (by omega)]; omega⟩,insCl_G ids j h,Int.toNat_natCast];have hx:ids.zipIdx[j]? = some (ids[j],j):=by rw [List.getElem?_zipIdx,List.getElem?_eq_getElem h]; simp
 have hd:(newG ids).drop j = ⟨ids[j],(j:Nat)⟩ :: (newG ids).drop (j + 1):=by
  have hj:j < (newG ids).length:=by rw [newG_len]; exact h
  rw [List.drop_eq_getElem_cons hj];congr 1;have:=ζf5 ids j;rw [List.getElem?_eq_getElem hj,List.getElem?_eq_getElem h] at this;simpa using this
 have hp:=ζ8h ids ids.length j (by omega);have ht:(growL ids j).take (2 * j + 1) = (ids.zipIdx.take j).flatMap (pairG ids.length) ++ [⟨ids[j],(j:Nat)⟩]:=by
  unfold growL;rw [hd,List.take_append,hp,List.take_of_length_le (by omega)];simp
 have hdr:(growL ids j).drop (2 * j + 1) = (newG ids).drop (j + 1):=by
  unfold growL;rw [hd,List.drop_append,hp,List.drop_of_length_le (by omega)];simp
 rw [ht,hdr];unfold growL;rw [ζ1x hx,List.flatMap_append];simp [pairG]
theorem actI_G (l:List Gl) (left done i:Int) (h1:1 ≤ left) (h0:0 ≤ i) (hi:i + 1 ≤ l.length):actI tG.list ⟨l,-1,left,done,false⟩ i ⟨0,32,0,65535⟩ = (⟨insertG l (i + 1) [9],-1,left - 1,done + 1,false⟩,i,i + 2):=by
 have hm:markS ⟨0,32,0,65535⟩ = 0:=rfl;have hh:hereS ⟨0,32,0,65535⟩ = 1:=rfl;have hls:listN tG.list 0 1 = [9]:=by rfl
 have a1:act1 tG.list ⟨l,-1,left,done,false⟩ i ⟨0,32,0,65535⟩ = (⟨l,-1,left,done,false⟩,i,true):=by
  unfold act1;rw [hm,if_neg (by omega)]
 have hmin:min (i + 1) (l.length:Int) = i + 1:=by omega
 have a2:act2 tG.list ⟨l,-1,left,done,false⟩ i ⟨0,32,0,65535⟩ = (⟨insertG l (i + 1) [9],-1,left - 1,done + 1,false⟩,i,i + 2):=by
  unfold act2;rw [hh];have hp:putS tG.list ⟨l,-1,left,done,false⟩ (i + 1) 0 1 = (⟨insertG l (i + 1) [9],-1,left - 1,done + 1,false⟩,true):=by
   unfold putS;rw [if_neg (by dsimp only; omega),hls];dsimp only;rw [decide_eq_true (by omega)]
  have hne:¬ i + 1 ≤ -1:=by omega
  simp [hmin,hp,hne];omega
 unfold actI;rw [if_neg (by simp),a1];simp only [Bool.true_eq_false,if_false];exact a2
theorem grow_go (ids:List Int) (j:Nat) (h:j < ids.length) :
  stepD tG.m (fun s:InsSt => s.l) (fun s i e => actI tG.list s i e) (⟨growL ids j,-1,((ids.length - j:Nat):Int),(j:Nat),false⟩,⟨0,((2 * j:Nat):Int),(j:Nat),0⟩) =
   ((⟨growL ids (j + 1),-1,((ids.length - (j + 1):Nat):Int),((j + 1:Nat):Int),false⟩,⟨0,((2 * (j + 1):Nat):Int),((j + 1:Nat):Int),0⟩),false):=by
 have hat:atG (growL ids j) ((2 * j:Nat):Int) = some ⟨ids[j],(j:Nat)⟩:=by
  rw [atG_nat,show 2 * j = j + j by omega,growL_at ids j j (by omega) (by omega),ζf5,List.getElem?_eq_getElem h];rfl
 have hcl:clsS tG.m (growL ids j) ((2 * j:Nat):Int) = (classS tG.m ids[j],false):=by unfold clsS; rw [hat]
 have hc:classS tG.m ids[j] = 1 ∨ classS tG.m ids[j] = 2:=by
  unfold classS;split
  ·exact .inr rfl
  ·exact .inl rfl
 have hen:entS tG.m (growL ids j) ⟨0,((2 * j:Nat):Int),(j:Nat),0⟩ = ⟨0,32,0,65535⟩:=by
  unfold entS;rw [hcl];rcases hc with hc | hc <;> (dsimp only; rw [hc]; rfl)
 have hlen:=ζgo ids j (by omega);have hst:=ζt0 ids j h;have hact:=actI_G (growL ids j) ((ids.length - j:Nat):Int) ((j:Nat):Int) ((2 * j:Nat):Int) (by omega) (by omega) (by rw [hlen]; omega);rw [show ((2 * j:Nat):Int) + 1 = ((2 * j + 1:Nat):Int) by omega,hst] at hact;unfold stepD;dsimp only;rw [hen,hcl,hact,if_neg (by decide)];dsimp only;congr 2
 ·congr 1 <;> omega
theorem grow_end (ids:List Int) :
  stepD tG.m (fun s:InsSt => s.l) (fun s i e => actI tG.list s i e) (⟨growL ids ids.length,-1,0,(ids.length:Nat),false⟩,⟨0,((2 * ids.length:Nat):Int),(ids.length:Nat),0⟩) =
   ((⟨growL ids ids.length,-1,0,(ids.length:Nat),false⟩,⟨0,((2 * ids.length:Nat):Int) + 1,(ids.length:Int) + 1,0⟩),true):=by
 have hlen:=ζgo ids ids.length (Nat.le_refl _);have hat:atG (growL ids ids.length) ((2 * ids.length:Nat):Int) = none:=by
  rw [atG_nat,List.getElem?_eq_none (by omega)]
 have hcl:clsS tG.m (growL ids ids.length) ((2 * ids.length:Nat):Int) = (0,true):=by unfold clsS; rw [hat]
 have hen:entS tG.m (growL ids ids.length) ⟨0,((2 * ids.length:Nat):Int),(ids.length:Nat),0⟩ = ⟨0,0,65535,65535⟩:=by
  unfold entS;rw [hcl];rfl
 have hm:markS ⟨0,0,65535,65535⟩ = 0:=rfl;have hh:hereS ⟨0,0,65535,65535⟩ = 0:=rfl;have hact:∀ (s:InsSt) (i:Int),s.broke = false → actI tG.list s i ⟨0,0,65535,65535⟩ = (s,i,i + 0 + 1):=fun s i hb => by
  unfold actI;rw [if_neg (by rw [hb]; simp)];have a1:act1 tG.list s i ⟨0,0,65535,65535⟩ = (s,i,true):=by
   unfold act1;rw [hm,if_neg (by omega)]
  rw [a1];simp only [Bool.true_eq_false,if_false];unfold act2;rw [hh];simp
 unfold stepD;dsimp only;rw [hen,hcl,hact _ _ rfl,if_neg (by decide)];dsimp only;congr 3
theorem ζni (ids:List Int) (most:Int) (hmost:(ids.length:Int) < most):∀ (c j N:Nat),ids.length = j + c → c < N →
  runD tG.m (fun s:InsSt => s.l) (fun s i e => actI tG.list s i e) most N (⟨growL ids j,-1,((ids.length - j:Nat):Int),(j:Nat),false⟩,⟨0,((2 * j:Nat):Int),(j:Nat),0⟩) = ((ids.length:Int) + 1,0,⟨growL ids ids.length,-1,0,(ids.length:Nat),false⟩)
 | c,j,0,_,h => by omega
 | 0,j,N + 1,hj,_ => by
  have:j = ids.length:=by omega
  subst this;rw [Nat.sub_self];unfold runD;rw [if_pos (by dsimp only; omega),show ((0:Nat):Int) = 0 from rfl,grow_end];rfl
 | c + 1,j,N + 1,hj,hN => by
  unfold runD;rw [if_pos (by dsimp only; omega),grow_go ids j (by omega)];simp only [Bool.false_eq_true,if_false];rw [if_neg (by omega)];exact ζni ids most hmost c (j + 1) N (by omega) (by omega)
theorem grow_run (ids:List Int):runIr tG (newG ids) (ids.length:Nat) = ((ids.length:Int) + 1,0,⟨growL ids ids.length,-1,0,(ids.length:Nat),false⟩):=by
 unfold runIr;have h:=ζni ids (2 * ((newG ids).length:Int) + 128) (by rw [newG_len]; omega) ids.length 0 (2 * (newG ids).length + 128) (by omega) (by rw [newG_len]; omega);have h0:growL ids 0 = newG ids:=by simp [growL]
 rw [h0] at h;exact h
end Go.Sw
end
section
namespace Go.Sw
open Go.RowKit
theorem Star.cut1 {H0 H:Heap} {L:List It} (h:Star H0 H L) (i:Nat) {o:Option Nat} {s:Value} {b:List Int} (hi:L[i]? = some (itRow o 1 s encB b)) (a n:Nat) (hn:0 < n) (hfit:a + n ≤ b.length) (k1 k2:IntKind) :
  ∃ c,o = some c ∧ s = .slice (some ⟨c,0,none⟩) b.length b.length ∧ slS 1 s (some (.int k1 (a:Nat))) (some (.int k2 ((a + n:Nat):Int))) none H = .ok (.slice (some ⟨c,a,none⟩) n (b.length - a)) H:=by
 obtain ⟨c,rfl,rfl,hc⟩:=(h.row i hi).full (fun e => by subst e; simp at hfit; omega);refine ⟨c,rfl,rfl,?_⟩;unfold slS;dsimp only [boundOf];rw [if_pos (Int.natCast_nonneg _),if_pos (Int.natCast_nonneg _)];simp only [Int.toNat_natCast];rw [if_pos ⟨Nat.le_refl _,hfit,by omega,by simp⟩];have:openOk H c 1 none = true:=by unfold openOk; rw [hc]; simp
 rw [if_pos this,Nat.mul_one,Nat.zero_add,Nat.add_sub_cancel_left]
theorem Star.copy1 {H0 H:Heap} {L:List It} (h:Star H0 H L) (i j:Nat) {c:Nat} {o2:Option Nat} {s s2:Value} {b r:List Int} (hi:L[i]? = some (itRow (some c) 1 s encB b)) (hj:L[j]? = some (itRow o2 1 s2 encB r)) (a n cap:Nat) (hr:r.length = n) (hn:0 < n) (hfit:a + n ≤ b.length) :
  ∃ H',cpR 1 (.slice (some ⟨c,a,none⟩) n cap) s2 H = .ok (.int .i64 n) H' ∧ Star H0 H' (L.set i (itRow (some c) 1 s encB (b.take a ++ (r ++ b.drop (a + n))))):=by
 obtain ⟨c',e1,e2,hc⟩:=(h.row i hi).full (fun e => by subst e; simp at hfit; omega);injection e1 with e1;subst e1;have hown2:=(h.row j hj).own0;have hl2:=hown2.lenV;have hf2:=hown2.first encB_len;have hrl:(rows encB r).length = n:=by rw [ζf encB_len,hr,Nat.mul_one]
 have hbl:(rows encB b).length = b.length:=by rw [ζf encB_len,Nat.mul_one]
 have hsp:splice (rows encB b) a (rows encB r) = rows encB (b.take a ++ (r ++ b.drop (a + n))):=by
  unfold splice;have t1:=ζ7t encB_len b a;rw [Nat.mul_one] at t1;have t2:(rows encB b).drop (a + n) = rows encB (b.drop (a + n)):=by
   have e:rows encB b = rows encB (b.take (a + n)) ++ rows encB (b.drop (a + n)):=by rw [← ζ3u,List.take_append_drop]
   have hl:(rows encB (b.take (a + n))).length = a + n:=by rw [ζf encB_len,Nat.mul_one,List.length_take]; omega
   rw [e,List.drop_append_of_le_length (by omega),List.drop_of_length_le (by omega),List.nil_append]
  rw [t1,hrl,t2,ζ3u,ζ3u]
 refine ⟨_,?_,h.setRow i hi (b.take a ++ (r ++ b.drop (a + n))) (by simp; omega)⟩;unfold cpR;dsimp only;rw [hl2];dsimp only;rw [hr,Nat.min_self];rw [hr] at hf2;rw [hf2];dsimp only;rw [if_neg (by intro e; rw [List.isEmpty_iff] at e; rw [e] at hrl; simp at hrl; omega)];unfold putCells;rw [hc];dsimp only;rw [if_pos (by rw [hrl,hbl]; simp; omega)];simp only [Res.bind];rw [hsp,show min (n:Int) n = n by omega]
end Go.Sw
end
section
namespace Go.Sw
open Go.RowKit
end Go.Sw
end
section
namespace Go.Sw
open Go.RowKit
variable {σ:Type}
end Go.Sw
end
section
set_option maxRecDepth 100000
set_option linter.unusedVariables false
namespace Go.Sw
noncomputable section
end
end Go.Sw
end
section
set_option maxRecDepth 100000
set_option linter.unusedVariables false
namespace Go.Sw
noncomputable section
end
end Go.Sw
end
section
namespace Go.Sw
structure Pl where
 adv:Int
 x:Int
 y:Int
 deriving DecidableEq
def Pl.ok (p:Pl):Prop:=(-2147483648 ≤ p.adv ∧ p.adv ≤ 2147483647) ∧ (-2147483648 ≤ p.x ∧ p.x ≤ 2147483647) ∧ (-2147483648 ≤ p.y ∧ p.y ≤ 2147483647)
end Go.Sw
end
section
namespace Go.Sw
end Go.Sw
end
section
namespace Go.Sw
end Go.Sw
end
section
namespace Go.Sw
end Go.Sw
end
section
namespace Go.Sw
open Go.RowKit
end Go.Sw
end
section
namespace Go.Sw
open Go.RowKit
end Go.Sw
end
section
namespace Go.Sw
open Go.RowKit
def oddB (vs:List Int) (a:Int):Bool:=(List.range (vs.length / 2)).any fun i => decide (a ≤ (i:Int) ∧ gU vs (2 * (i:Int)) 2 % 2 = 1)
structure STab where
 m:Mach
 vals:List Int
structure STab.ok (t:STab):Prop where
 m:t.m.ok
 byt:Byt t.vals
 len:t.vals.length < 2 ^ 31
 has:∀ e,e ∈ t.m.ents → e.a = 65535 ∨ oddB t.vals e.a = true
end Go.Sw
end
section
namespace Go.Sw
open Go.RowKit
end Go.Sw
end
