/-
  Functions' forms, and what is proved of them, part 6.
-/
import Derived.Test.YtanfippcmdialaaGreatSwCfg
import Derived.Test.YtanfippcmdialaaGreatSwW5
import Derived.Test.YtanfippcmdialaaGreatSwW2
import Derived.Test.YtanfippcmdialaaGreatSwW4
import Derived.Test.YtanfippcmdialaaGreatSwW1
import Derived.Test.YtanfippcmdialaaGreatSwLib8
import Derived.Tactics
import Derived.Tactics2
import Derived.Defers
import Derived.Recover
import Derived.Laws.Pointers
set_option linter.unusedSimpArgs false
set_option linter.unusedVariables false
set_option linter.unusedSectionVars false
section
set_option maxRecDepth 100000
set_option linter.unusedVariables false
namespace Go.Sw
noncomputable section
def ζ44 (k:Nat) (call:Caller):Env → Heap → Res (AExit × Env):=loopB (C k) call F.ζ2 [1,1,1,1,0,1,0,0]
def ζ5w (k:Nat) (call:Caller):Kont Value:=kBlock 0 (kSeq (pieceK (C k) call F.ζ2 [1,1,1,1,1]) (kDone Prog (resOf Prog F.ζ2)))
def ζ45 (k:Nat) (call:Caller):Env → Heap → Res (AExit × Env):=loopB (C k) call F.ζ2 [1,1,1,1,1,1,0,1,0,0]
def ζ5x (k:Nat) (call:Caller):Kont Value:=kBlock 2 (kSeq (pieceK (C k) call F.ζ2 [1,1,1,1,1,1,1]) (kDone Prog (resOf Prog F.ζ2)))
def ζ2p (k:Nat) (call:Caller):Env → Heap → Res (AExit × Env):=loopB (C k) call F.ζ2 [1,1,1,1,1,1,0,1,0,0,1,1,0,0,1,1,0,0]
def ζ5y (k:Nat) (call:Caller):Kont (AExit × Env):=kBlock 4 (kBlock 3 (kSeq (pieceK (C k) call F.ζ2 [1,1,1,1,1,1,0,1,0,0,1,1,1]) (kRound (ownOf (C k) F.ζ2 [1,1,1,1,1,1,0,1,0,0]))))
def ζ6a (k:Nat) (call:Caller) (a1 a2 a3 a7 a8 a9 a12 a13 a15 a17 a47 a48 a49 a53 a54:Value) (h:Heap):Res (AExit × Env) :=
 kSeq (pieceK (C k) call F.ζ2 [1,1,1,1,1,1,0,1,0,0,1,1,0,0,1,1,0,0,1,1,0,0,1,1,1]) (kBlock 5 (kSeq (pieceK (C k) call F.ζ2 [1,1,1,1,1,1,0,1,0,0,1,1,0,0,1,1,0,0,1,1,1]) (kRound (ownOf (C k) F.ζ2 [1,1,1,1,1,1,0,1,0,0,1,1,0,0,1,1,0,0])))) .normal [(1,a1),(2,a2),(3,a3),(7,a7),(8,a8),(9,a9),(12,a12),(13,a13),(15,a15),(17,a17),(47,a47),(48,a48),(49,a49),(53,a53),(54,a54)] h
def ζ6b (k:Nat) (call:Caller) (a1 a2 a3 a7 a8 a9 a12 a13 a15 a16 a17 a47 a48 a49 a53 a54 a60:Value) (h:Heap):Res (AExit × Env) :=
 kSeq (pieceK (C k) call F.ζ2 [1,1,1,1,1,1,0,1,0,0,1,1,0,0,1,1,0,0,1,1,0,0,1,1,1]) (kBlock 5 (kSeq (pieceK (C k) call F.ζ2 [1,1,1,1,1,1,0,1,0,0,1,1,0,0,1,1,0,0,1,1,1]) (kRound (ownOf (C k) F.ζ2 [1,1,1,1,1,1,0,1,0,0,1,1,0,0,1,1,0,0])))) .normal [(1,a1),(2,a2),(3,a3),(7,a7),(8,a8),(9,a9),(12,a12),(13,a13),(15,a15),(16,a16),(17,a17),(47,a47),(48,a48),(49,a49),(53,a53),(54,a54),(60,a60)] h
def ζ2q (k:Nat) (call:Caller):Env → Heap → Res (AExit × Env):=loopB (C k) call F.ζ2 [1,1,1,1,1,1,1,0,1,0,0]
def ζ5z (k:Nat) (call:Caller):Kont Value:=kBlock 6 (kSeq (pieceK (C k) call F.ζ2 [1,1,1,1,1,1,1,1]) (kDone Prog (resOf Prog F.ζ2)))
def ζ6c (k:Nat) (call:Caller) (a1 a2 a7 a8 a9 a12 a13 a19 a72 a73 a74:Value) (h:Heap):Res (AExit × Env) :=
 kSeq (pieceK (C k) call F.ζ2 [1,1,1,1,1,1,1,0,1,0,0,1,1,0,0,1,1,1]) (kBlock 7 (kSeq (pieceK (C k) call F.ζ2 [1,1,1,1,1,1,1,0,1,0,0,1,1,1]) (kRound (ownOf (C k) F.ζ2 [1,1,1,1,1,1,1,0,1,0,0])))) .normal [(1,a1),(2,a2),(7,a7),(8,a8),(9,a9),(12,a12),(13,a13),(19,a19),(72,a72),(73,a73),(74,a74)] h
def ζ6d (k:Nat) (call:Caller) (a1 a2 a7 a8 a9 a12 a13 a19 a72 a73 a74 a88:Value) (h:Heap):Res (AExit × Env) :=
 kSeq (pieceK (C k) call F.ζ2 [1,1,1,1,1,1,1,0,1,0,0,1,1,0,0,1,1,1]) (kBlock 7 (kSeq (pieceK (C k) call F.ζ2 [1,1,1,1,1,1,1,0,1,0,0,1,1,1]) (kRound (ownOf (C k) F.ζ2 [1,1,1,1,1,1,1,0,1,0,0])))) .normal [(1,a1),(2,a2),(7,a7),(8,a8),(9,a9),(12,a12),(13,a13),(19,a19),(72,a72),(73,a73),(74,a74),(88,a88)] h
def ζ42 (k:Nat) (call:Caller) (a1 a2 a7 a8 a9 a12 a13 a72 a73 a74:Value) (h:Heap):Res (AExit × Env) :=
 kSeq (pieceK (C k) call F.ζ2 [1,1,1,1,1,1,1,0,1,0,0,1,1,1]) (kRound (ownOf (C k) F.ζ2 [1,1,1,1,1,1,1,0,1,0,0])) .normal [(1,a1),(2,a2),(7,a7),(8,a8),(9,a9),(12,a12),(13,a13),(72,a72),(73,a73),(74,a74)] h
def ζ43 (k:Nat) (call:Caller) (a1 a2 a7 a8 a9 a12 a13 a19 a72 a73 a74 a95:Value) (h:Heap):Res (AExit × Env) :=
 kSeq (pieceK (C k) call F.ζ2 [1,1,1,1,1,1,1,0,1,0,0,1,1,1]) (kRound (ownOf (C k) F.ζ2 [1,1,1,1,1,1,1,0,1,0,0])) .normal [(1,a1),(2,a2),(7,a7),(8,a8),(9,a9),(12,a12),(13,a13),(19,a19),(72,a72),(73,a73),(74,a74),(95,a95)] h
def ζ2 (k:Nat) (call:Caller) (a0 a1 a2:Value) (h:Heap):Res Value :=
 (boxR a0 h).bind fun v1 h2 =>
 (fieldAddrR Prog 26 v1 3 h2).bind fun v3 h4 =>
 (loadR Prog 5 v3 h4).bind fun v5 h6 =>
 (convR Prog 5 3 v5 h6).bind fun v7 h8 =>
 (binR Prog .rem 3 v7 (.int .i64 8) h8).bind fun v9 h10 =>
 (binR Prog .add 3 (.int .i64 4) v9 h10).bind fun v11 h12 =>
 (binR Prog .add 3 (.int .i64 16) a2 h12).bind fun v13 h14 =>
 (call F.ζ3 [(.slice none 0 0),(.int .i64 8),(.int .i64 2)] h14).bindT (fun p17 h18 => (fieldAddrR Prog 26 v1 0 h14).bindN fun v19 h20 => (loadR Prog 22 v19 h20).bindN fun v21 h22 => (builtinV Prog .len [22] [v21] h22).bindN fun v23 h24 => chkR ((okVal (loadR Prog 22 v19 h14) v21 && true) && true) (.panic p17 h18)) fun v15 h16 =>
 (call F.ζ3 [v15,(.int .i64 0),(.int .i64 2)] h16).bindT (fun p27 h28 => (fieldAddrR Prog 26 v1 0 h16).bindN fun v29 h30 => (loadR Prog 22 v29 h30).bindN fun v31 h32 => (builtinV Prog .len [22] [v31] h32).bindN fun v33 h34 => chkR ((okVal (loadR Prog 22 v29 h14) v31 && (okVal (loadR Prog 22 v29 h16) v31 && true)) && true) (.panic p27 h28)) fun v25 h26 =>
 (fieldAddrR Prog 26 v1 0 h26).bindN fun v35 h36 =>
 (loadR Prog 22 v35 h36).bindN fun v37 h38 =>
 (builtinV Prog .len [22] [v37] h38).bindN fun v39 h40 =>
 (call F.ζ3 [v25,v39,(.int .i64 2)] h40).bindT (fun p43 h44 => chkR ((okVal (loadR Prog 22 v35 h14) v37 && (okVal (loadR Prog 22 v35 h16) v37 && true)) && true) (.panic p43 h44)) fun v41 h42 =>
 chkR ((okVal (loadR Prog 22 v35 h14) v37 && (okVal (loadR Prog 22 v35 h16) v37 && true)) && true) (
 (fieldAddrR Prog 26 v1 0 h42).bind fun v45 h46 =>
 (loadR Prog 22 v45 h46).bind fun v47 h48 =>
 (builtinV Prog .len [22] [v47] h48).bind fun v49 h50 =>
 (loopN (ζ44 k call) loopFuel [(1,a1),(2,a2),(3,v1),(7,v11),(8,v13),(9,v41),(35,v47),(36,v49),(37,(.int .i64 0))] h50).bind fun r51 h52 =>
 ζ5w k call r51.1 r51.2 h52)
theorem ζak (k:Nat) (a0 a1 a2:Value) (h:Heap):R (T k) F.ζ2 [a0,a1,a2] h = nrm (ownW k) h (ζ2 k (R (T k)) a0 a1 a2 h) :=
 (R_body (t:=T k) (T_scott k) (by kernel_rfl) (by kernel_rfl) _ _).trans (by kernel_rfl)
theorem ζ4s (k:Nat) (call:Caller) (a1 a2 a3 a7 a8 a9 a35 a36 a37:Value) (h:Heap):ζ44 k call [(1,a1),(2,a2),(3,a3),(7,a7),(8,a8),(9,a9),(35,a35),(36,a36),(37,a37)] h =
 (binR Prog .lss 3 a37 a36 h).bind fun v53 h54 =>
 condV (some v53) (
 (indexAddrR Prog 22 a35 a37 h54).bind fun v55 h56 =>
 (loadR Prog 5 v55 h56).bind fun v57 h58 =>
 (convR Prog 5 3 v57 h58).bind fun v59 h60 =>
 (call F.ζ3 [a9,v59,(.int .i64 2)] h60).bind fun v61 h62 =>
 (binR Prog .add 3 a37 (.int .i64 1) h62).bind fun v63 h64 =>
 .ok (.normal,[(1,a1),(2,a2),(3,a3),(7,a7),(8,a8),(9,v61),(35,a35),(36,a36),(37,v63)]) h64)
 (
 .ok ((.exit 0),[(1,a1),(2,a2),(3,a3),(7,a7),(8,a8),(9,a9),(35,a35),(36,a36),(37,a37),(38,v53)]) h54) :=
 (loopB_eq _ _).trans (by kernel_rfl)
theorem ζ7k (k:Nat) (call:Caller) (a1 a2 a3 a7 a8 a9 a35 a36 a37 a38:Value) (h:Heap):ζ5w k call (.exit 0) [(1,a1),(2,a2),(3,a3),(7,a7),(8,a8),(9,a9),(35,a35),(36,a36),(37,a37),(38,a38)] h =
 (fieldAddrR Prog 26 a3 1 h).bind fun v65 h66 =>
 (loadR Prog 23 v65 h66).bind fun v67 h68 =>
 (builtinV Prog .len [23] [v67] h68).bind fun v69 h70 =>
 (loopN (ζ45 k call) loopFuel [(1,a1),(2,a2),(3,a3),(7,a7),(8,a8),(9,a9),(12,(.slice none 0 0)),(13,(.slice none 0 0)),(47,v67),(48,v69),(49,(.int .i64 0))] h70).bind fun r71 h72 =>
 ζ5x k call r71.1 r71.2 h72:=by kernel_rfl
theorem ζ4t (k:Nat) (call:Caller) (a1 a2 a3 a7 a8 a9 a12 a13 a47 a48 a49:Value) (h:Heap):ζ45 k call [(1,a1),(2,a2),(3,a3),(7,a7),(8,a8),(9,a9),(12,a12),(13,a13),(47,a47),(48,a48),(49,a49)] h =
 (binR Prog .lss 3 a49 a48 h).bind fun v73 h74 =>
 condV (some v73) (
 (indexAddrR Prog 23 a47 a49 h74).bind fun v75 h76 =>
 (loadR Prog 22 v75 h76).bind fun v77 h78 =>
 (loopN (ζ2p k call) loopFuel [(1,a1),(2,a2),(3,a3),(7,a7),(8,a8),(9,a9),(12,a12),(13,a13),(15,v77),(47,a47),(48,a48),(49,a49),(53,a7),(54,(.int .i64 0))] h78).bind fun r79 h80 =>
 ζ5y k call r79.1 r79.2 h80)
 (
 .ok ((.exit 2),[(1,a1),(2,a2),(3,a3),(7,a7),(8,a8),(9,a9),(12,a12),(13,a13),(47,a47),(48,a48),(49,a49),(50,v73)]) h74) :=
 (loopB_eq _ _).trans (by kernel_rfl)
theorem ζ4u (k:Nat) (call:Caller) (a1 a2 a3 a7 a8 a9 a12 a13 a15 a47 a48 a49 a53 a54:Value) (h:Heap):ζ2p k call [(1,a1),(2,a2),(3,a3),(7,a7),(8,a8),(9,a9),(12,a12),(13,a13),(15,a15),(47,a47),(48,a48),(49,a49),(53,a53),(54,a54)] h =
 (binR Prog .lss 3 a54 a53 h).bind fun v81 h82 =>
 condV (some v81) (
 (builtinV Prog .len [22] [a15] h82).bind fun v83 h84 =>
 (binR Prog .lss 3 a54 v83 h84).bind fun v85 h86 =>
 condV (some v85) (
 (indexAddrR Prog 22 a15 a54 h86).bind fun v87 h88 =>
 (loadR Prog 5 v87 h88).bind fun v89 h90 =>
 (convR Prog 5 3 v89 h90).bind fun v91 h92 =>
 ζ6a k call a1 a2 a3 a7 a8 a9 a12 a13 a15 v91 a47 a48 a49 a53 a54 h92)
 (
 ζ6b k call a1 a2 a3 a7 a8 a9 a12 a13 a15 a54 (.int .i64 0) a47 a48 a49 a53 a54 v85 h86))
 (
 .ok ((.exit 4),[(1,a1),(2,a2),(3,a3),(7,a7),(8,a8),(9,a9),(12,a12),(13,a13),(15,a15),(47,a47),(48,a48),(49,a49),(53,a53),(54,a54),(55,v81)]) h82) :=
 (loopB_eq _ _).trans (by kernel_rfl)
theorem ζ86 (k:Nat) (call:Caller) (a1 a2 a3 a7 a8 a9 a12 a13 a15 a17 a47 a48 a49 a53 a54:Value) (h:Heap):ζ6a k call a1 a2 a3 a7 a8 a9 a12 a13 a15 a17 a47 a48 a49 a53 a54 h =
 (call F.ζ3 [a12,a17,(.int .i64 2)] h).bind fun v93 h94 =>
 (binR Prog .add 3 a54 (.int .i64 1) h94).bind fun v95 h96 =>
 .ok (.normal,[(1,a1),(2,a2),(3,a3),(7,a7),(8,a8),(9,a9),(12,v93),(13,a13),(15,a15),(47,a47),(48,a48),(49,a49),(53,a53),(54,v95)]) h96:=by kernel_rfl
theorem ζ87 (k:Nat) (call:Caller) (a1 a2 a3 a7 a8 a9 a12 a13 a15 a16 a17 a47 a48 a49 a53 a54 a60:Value) (h:Heap):ζ6b k call a1 a2 a3 a7 a8 a9 a12 a13 a15 a16 a17 a47 a48 a49 a53 a54 a60 h =
 (call F.ζ3 [a12,a17,(.int .i64 2)] h).bind fun v97 h98 =>
 (binR Prog .add 3 a54 (.int .i64 1) h98).bind fun v99 h100 =>
 .ok (.normal,[(1,a1),(2,a2),(3,a3),(7,a7),(8,a8),(9,a9),(12,v97),(13,a13),(15,a15),(47,a47),(48,a48),(49,a49),(53,a53),(54,v99)]) h100:=by kernel_rfl
theorem ζ7l (k:Nat) (call:Caller) (a1 a2 a3 a7 a8 a9 a12 a13 a47 a48 a49 a50:Value) (h:Heap):ζ5x k call (.exit 2) [(1,a1),(2,a2),(3,a3),(7,a7),(8,a8),(9,a9),(12,a12),(13,a13),(47,a47),(48,a48),(49,a49),(50,a50)] h =
 (fieldAddrR Prog 26 a3 2 h).bind fun v101 h102 =>
 (loadR Prog 24 v101 h102).bind fun v103 h104 =>
 (builtinV Prog .len [24] [v103] h104).bind fun v105 h106 =>
 (loopN (ζ2q k call) loopFuel [(1,a1),(2,a2),(7,a7),(8,a8),(9,a9),(12,a12),(13,a13),(72,v103),(73,v105),(74,(.int .i64 0))] h106).bind fun r107 h108 =>
 ζ5z k call r107.1 r107.2 h108:=by kernel_rfl
theorem ζ23 (k:Nat) (call:Caller) (a1 a2 a7 a8 a9 a12 a13 a72 a73 a74:Value) (h:Heap):ζ2q k call [(1,a1),(2,a2),(7,a7),(8,a8),(9,a9),(12,a12),(13,a13),(72,a72),(73,a73),(74,a74)] h =
 (binR Prog .lss 3 a74 a73 h).bind fun v109 h110 =>
 condV (some v109) (
 (indexAddrR Prog 24 a72 a74 h110).bind fun v111 h112 =>
 (loadR Prog 129 v111 h112).bind fun v113 h114 =>
 (allocR Prog 129 h114).bind fun v115 h116 =>
 (storeR Prog 129 v115 v113 h116).bind fun _v117 h118 =>
 (fieldAddrR Prog 129 v115 0 h118).bindN fun v119 h120 =>
 (loadR Prog 3 v119 h120).bindN fun v121 h122 =>
 (binR Prog .and 3 v121 (.int .i64 65535) h122).bindN fun v123 h124 =>
 (call F.ζ3 [a13,v123,(.int .i64 2)] h124).bindT (fun p127 h128 => (fieldAddrR Prog 129 v115 1 h124).bindN fun v129 h130 => (loadR Prog 3 v129 h130).bindN fun v131 h132 => (binR Prog .and 3 v131 (.int .i64 65535) h132).bindN fun v133 h134 => chkR ((okVal (loadR Prog 3 v129 h118) v131 && true) && true) (.panic p127 h128)) fun v125 h126 =>
 (fieldAddrR Prog 129 v115 1 h126).bindN fun v135 h136 =>
 (loadR Prog 3 v135 h136).bindN fun v137 h138 =>
 (binR Prog .and 3 v137 (.int .i64 65535) h138).bindN fun v139 h140 =>
 (call F.ζ3 [v125,v139,(.int .i64 2)] h140).bindT (fun p143 h144 => chkR ((okVal (loadR Prog 3 v135 h118) v137 && true) && true) (.panic p143 h144)) fun v141 h142 =>
 chkR ((okVal (loadR Prog 3 v135 h118) v137 && true) && true) (
 (binR Prog .gtr 3 a1 (.int .i64 0) h142).bind fun v145 h146 =>
 condV (some v145) (
 (fieldAddrR Prog 129 v115 2 h146).bind fun v147 h148 =>
 (loadR Prog 3 v147 h148).bind fun v149 h150 =>
 (binR Prog .and 3 v149 (.int .i64 65535) h150).bind fun v151 h152 =>
 (call F.ζ3 [v141,v151,(.int .i64 2)] h152).bind fun v153 h154 =>
 ζ6c k call a1 a2 a7 a8 a9 a12 v153 v115 a72 a73 a74 h154)
 (
 ζ6d k call a1 a2 a7 a8 a9 a12 v141 v115 a72 a73 a74 v145 h146)))
 (
 .ok ((.exit 6),[(1,a1),(2,a2),(7,a7),(8,a8),(9,a9),(12,a12),(13,a13),(72,a72),(73,a73),(74,a74),(75,v109)]) h110) :=
 (loopB_eq _ _).trans (by kernel_rfl)
theorem ζ4q (k:Nat) (call:Caller) (a1 a2 a7 a8 a9 a12 a13 a19 a72 a73 a74:Value) (h:Heap):ζ6c k call a1 a2 a7 a8 a9 a12 a13 a19 a72 a73 a74 h =
 (binR Prog .gtr 3 a1 (.int .i64 1) h).bind fun v155 h156 =>
 condV (some v155) (
 (fieldAddrR Prog 129 a19 3 h156).bind fun v157 h158 =>
 (loadR Prog 3 v157 h158).bind fun v159 h160 =>
 (binR Prog .and 3 v159 (.int .i64 65535) h160).bind fun v161 h162 =>
 (call F.ζ3 [a13,v161,(.int .i64 2)] h162).bind fun v163 h164 =>
 ζ42 k call a1 a2 a7 a8 a9 a12 v163 a72 a73 a74 h164)
 (
 ζ43 k call a1 a2 a7 a8 a9 a12 a13 a19 a72 a73 a74 v155 h156):=by kernel_rfl
theorem ζ88 (k:Nat) (call:Caller) (a1 a2 a7 a8 a9 a12 a13 a19 a72 a73 a74 a88:Value) (h:Heap):ζ6d k call a1 a2 a7 a8 a9 a12 a13 a19 a72 a73 a74 a88 h =
 (binR Prog .gtr 3 a1 (.int .i64 1) h).bind fun v165 h166 =>
 condV (some v165) (
 (fieldAddrR Prog 129 a19 3 h166).bind fun v167 h168 =>
 (loadR Prog 3 v167 h168).bind fun v169 h170 =>
 (binR Prog .and 3 v169 (.int .i64 65535) h170).bind fun v171 h172 =>
 (call F.ζ3 [a13,v171,(.int .i64 2)] h172).bind fun v173 h174 =>
 ζ42 k call a1 a2 a7 a8 a9 a12 v173 a72 a73 a74 h174)
 (
 ζ43 k call a1 a2 a7 a8 a9 a12 a13 a19 a72 a73 a74 v165 h166):=by kernel_rfl
theorem ζ89 (k:Nat) (call:Caller) (a1 a2 a7 a8 a9 a12 a13 a72 a73 a74:Value) (h:Heap):ζ42 k call a1 a2 a7 a8 a9 a12 a13 a72 a73 a74 h =
 (binR Prog .add 3 a74 (.int .i64 1) h).bind fun v175 h176 =>
 .ok (.normal,[(1,a1),(2,a2),(7,a7),(8,a8),(9,a9),(12,a12),(13,a13),(72,a72),(73,a73),(74,v175)]) h176:=by kernel_rfl
theorem ζ4r (k:Nat) (call:Caller) (a1 a2 a7 a8 a9 a12 a13 a19 a72 a73 a74 a95:Value) (h:Heap):ζ43 k call a1 a2 a7 a8 a9 a12 a13 a19 a72 a73 a74 a95 h =
 (binR Prog .add 3 a74 (.int .i64 1) h).bind fun v177 h178 =>
 .ok (.normal,[(1,a1),(2,a2),(7,a7),(8,a8),(9,a9),(12,a12),(13,a13),(72,a72),(73,a73),(74,v177)]) h178:=by kernel_rfl
theorem ζ7m (k:Nat) (call:Caller) (a1 a2 a3 a7 a8 a9 a12 a13 a15 a47 a48 a49 a53 a54 a55:Value) (h:Heap):ζ5y k call (.exit 4) [(1,a1),(2,a2),(3,a3),(7,a7),(8,a8),(9,a9),(12,a12),(13,a13),(15,a15),(47,a47),(48,a48),(49,a49),(53,a53),(54,a54),(55,a55)] h =
 (binR Prog .add 3 a49 (.int .i64 1) h).bind fun v179 h180 =>
 .ok (.normal,[(1,a1),(2,a2),(3,a3),(7,a7),(8,a8),(9,a9),(12,a12),(13,a13),(47,a47),(48,a48),(49,v179)]) h180:=by kernel_rfl
theorem ζ7n (k:Nat) (call:Caller) (a1 a2 a7 a8 a9 a12 a13 a72 a73 a74 a75:Value) (h:Heap):ζ5z k call (.exit 6) [(1,a1),(2,a2),(7,a7),(8,a8),(9,a9),(12,a12),(13,a13),(72,a72),(73,a73),(74,a74),(75,a75)] h =
 (call F.ζ3 [(.slice none 0 0),a7,(.int .i64 4)] h).bind fun v181 h182 =>
 (call F.ζ3 [v181,a8,(.int .i64 4)] h182).bind fun v183 h184 =>
 (builtinV Prog .len [22] [a9] h184).bind fun v185 h186 =>
 (binR Prog .add 3 a8 v185 h186).bind fun v187 h188 =>
 (call F.ζ3 [v183,v187,(.int .i64 4)] h188).bind fun v189 h190 =>
 (builtinV Prog .len [22] [a9] h190).bind fun v191 h192 =>
 (binR Prog .add 3 a8 v191 h192).bind fun v193 h194 =>
 (builtinV Prog .len [22] [a12] h194).bind fun v195 h196 =>
 (binR Prog .add 3 v193 v195 h196).bind fun v197 h198 =>
 (call F.ζ3 [v189,v197,(.int .i64 4)] h198).bind fun v199 h200 =>
 (builtinV Prog .append [22,3] [v199,a2] h200).bind fun v201 h202 =>
 (builtinV Prog .append [22,22] [v201,a9] h202).bind fun v203 h204 =>
 (builtinV Prog .append [22,22] [v203,a12] h204).bind fun v205 h206 =>
 (builtinV Prog .append [22,22] [v205,a13] h206).bind fun v207 h208 =>
 .ok v207 h208:=by kernel_rfl
end
end Go.Sw
end
section
namespace Go.Sw
open Go.RowKit
structure Plan where
 cls:List Int
 rows:List (List Int)
 ents:List En
 wide:Int
abbrev encBR (r:List Int):List Value:=[lv encB r]
def planN (p:Plan):Nat:=4 + (p.wide % 8).toNat
def twos (l:List Int):List Int:=(l.map fun c => bytesOf c 2).flatten
def ofS (cls:List Int):List Int:=(bytesOf 8 2 ++ bytesOf 0 2 ++ bytesOf cls.length 2) ++ twos cls
def rowL (n:Nat) (r:List Int):List Int:=(List.range n).map fun i => r[i]?.getD 0
def rowsL (n:Nat) (rs:List (List Int)):List Int:=(rs.map fun r => twos (rowL n r)).flatten
def m16 (x:Int):Int:=x % 65536
def entB (w:Int) (e:En):List Int:=bytesOf (m16 e.next) 2 ++ bytesOf (m16 e.flags) 2 ++ (if 0 < w then bytesOf (m16 e.a) 2 else []) ++ (if 1 < w then bytesOf (m16 e.b) 2 else [])
def entsB (w:Int) (es:List En):List Int:=(es.map (entB w)).flatten
def planBytes (p:Plan) (w:Int) (room:Nat):List Int :=
 (((bytesOf (planN p:Int) 4 ++ bytesOf (16 + room:Int) 4 ++ bytesOf (16 + room + (ofS p.cls).length:Int) 4 ++ bytesOf (16 + room + (ofS p.cls).length + (rowsL (planN p) p.rows).length:Int) 4 ++ List.replicate room 0) ++ ofS p.cls) ++ rowsL (planN p) p.rows) ++ entsB w p.ents
theorem ζfc (l:List Int) (x:Int):twos (l ++ [x]) = twos l ++ bytesOf x 2:=by simp [twos]
theorem twos_len (l:List Int):(twos l).length = l.length * 2:=flat_len (z:=2) (fun r hr => by obtain ⟨p,_,rfl⟩:=List.mem_map.1 hr; simp) |>.trans (by simp)
theorem rowL_len (n:Nat) (r:List Int):(rowL n r).length = n:=by simp [rowL]
theorem ζlc (n:Nat) (rs:List (List Int)) (r:List Int):rowsL n (rs ++ [r]) = rowsL n rs ++ twos (rowL n r):=by simp [rowsL]
theorem ζfa (n:Nat) (rs:List (List Int)):(rowsL n rs).length = rs.length * (n * 2):=flat_len (z:=n * 2) (fun r hr => by obtain ⟨p,_,rfl⟩:=List.mem_map.1 hr; rw [twos_len,rowL_len]) |>.trans (by simp)
theorem entB_len (w:Int) (e:En):(entB w e).length ≤ 8:=by
 unfold entB;simp only [List.length_append,ζo];split <;> split <;> simp
theorem ζbw (w:Int) (es:List En) (e:En):entsB w (es ++ [e]) = entsB w es ++ entB w e:=by simp [entsB]
theorem ζbe (w:Int):∀ es:List En,(entsB w es).length ≤ es.length * 8
 | [] => by simp [entsB]
 | e :: es => by
  have h1:=ζbe w es;have h2:=entB_len w e;unfold entsB at h1 ⊢;simp only [List.map_cons,List.flatten_cons,List.length_append,List.length_cons];omega
theorem and16 (P:Program) (t:TypeId) (H:Heap) (a:Int):binR P .and t (.int .i64 a) (.int .i64 65535) H = .ok (.int .i64 (m16 a)) H:=by
 have e:(BitVec.ofInt 64 a &&& BitVec.ofInt 64 65535).toNat = (a % 65536).toNat:=by
  rw [BitVec.toNat_and,BitVec.toNat_ofInt,BitVec.toNat_ofInt];rw [show ((65535:Int) % ((2 ^ 64:Nat):Int)).toNat = 2 ^ 16 - 1 from by decide,Nat.and_two_pow_sub_one_eq_mod];omega
 have e1:binV P .and t (.int .i64 a) (.int .i64 65535) = some (.int .i64 (IntKind.i64.wrap (BitVec.ofInt 64 a &&& BitVec.ofInt 64 65535).toNat)):=rfl;unfold binR;rw [e1,e];unfold m16;rw [show (((a % 65536).toNat:Nat):Int) = a % 65536 by omega,wrap_i64 (by omega) (by omega)];rfl
theorem ζbf (a:Int):0 ≤ m16 a ∧ m16 a < 65536:=by unfold m16; omega
theorem write_l3 (k:Nat) {H0 H:Heap} {o9 o12:Option Nat} {a9 a12:Value} {l9 l12:List Int} {B:It} (w room:Value) (n:Nat) (hn:n ≤ 11) (a3 a8:Value) {vr:Value} (r:List Int) (hr:Byt r) (hv:Sl H0 1 vr encB r) (x47 x48 x49:Value) (hl:l12.length < 2 ^ 29)
  (g:Star H0 H [itRow o9 1 a9 encB l9,itRow o12 1 a12 encB l12,B]) :
  ∃ s o H' z,loopN (ζ2p k (R (T k))) loopFuel [(1,w),(2,room),(3,a3),(7,.int .i64 n),(8,a8),(9,a9),(12,a12),(13,.slice none 0 0),(15,vr),(47,x47),(48,x48),(49,x49),(53,.int .i64 n),(54,.int .i64 0)] H =
   .ok (.exit 4,[(1,w),(2,room),(3,a3),(7,.int .i64 n),(8,a8),(9,a9),(12,s),(13,.slice none 0 0),(15,vr),(47,x47),(48,x48),(49,x49),(53,.int .i64 n),(54,z),(55,.bool false)]) H' ∧
   Star H0 H' [itRow o9 1 a9 encB l9,itRow o 1 s encB (l12 ++ twos (rowL n r)),B]:=by
 have hvl:=fun H' => hv.len H'
 obtain ⟨x,e',H1,hr1,rfl,z,s,o,rfl,g⟩:=loop_up (body:=ζ2p k (R (T k))) n
  (fun j e H' => ∃ s o,e = [(1,w),(2,room),(3,a3),(7,.int .i64 n),(8,a8),(9,a9),(12,s),(13,.slice none 0 0),(15,vr),(47,x47),(48,x48),(49,x49),(53,.int .i64 n),(54,.int .i64 j)] ∧ Star H0 H' [itRow o9 1 a9 encB l9,itRow o 1 s encB (l12 ++ twos ((rowL n r).take j)),B])
  (fun x e H' => x = .exit 4 ∧ ∃ z s o,e = [(1,w),(2,room),(3,a3),(7,.int .i64 n),(8,a8),(9,a9),(12,s),(13,.slice none 0 0),(15,vr),(47,x47),(48,x48),(49,x49),(53,.int .i64 n),(54,z),(55,.bool false)] ∧ Star H0 H' [itRow o9 1 a9 encB l9,itRow o 1 s encB (l12 ++ twos (rowL n r)),B])
  (e0:=[(1,w),(2,room),(3,a3),(7,.int .i64 n),(8,a8),(9,a9),(12,a12),(13,.slice none 0 0),(15,vr),(47,x47),(48,x48),(49,x49),(53,.int .i64 n),(54,.int .i64 0)]) (H0:=H) ⟨a12,o12,rfl,by simpa [twos] using g⟩ (by omega)
  (fun j e H' hj ⟨s,o,he,g⟩ => by
   subst he;have hlt:(j:Int) < n:=by omega
   have hq:(rowL n r)[j]? = some (r[j]?.getD 0):=by unfold rowL; rw [List.getElem?_map,List.getElem?_range hj]; rfl
   have hlen:(l12 ++ twos ((rowL n r).take j)).length < 2 ^ 30:=by
    rw [List.length_append,twos_len,List.length_take,rowL_len];omega
   have hb:0 ≤ r[j]?.getD 0 ∧ r[j]?.getD 0 < 256:=by
    cases h:r[j]? with
    | none => simp
    | some y => exact hr y (List.mem_of_getElem? h)
   obtain ⟨s',o',H2,e2,g2⟩:=Put_star k g 1 rfl (r[j]?.getD 0) 2 2 rfl hb.1 (by omega) (by omega) hlen;simp only [List.set_cons_zero,List.set_cons_succ] at g2;refine .inl ⟨_,H2,?_,s',o',rfl,by rw [ζ2j hq,ζfc,← List.append_assoc]; exact g2⟩;rw [ζ4u];cases h:r[j]? with
   | some y =>
    have hjr:(j:Int) < r.length:=by have:=(List.getElem?_eq_some_iff.1 h).1; omega
    obtain ⟨pp,i1,i2⟩:=hv.ix1 encB_len j y h _ rfl;have i2:=i2 H' g.ext;rw [h] at e2 hb;simp at e2 hb;simp -implicitDefEqProofs (disch:=omega) [hlt,hjr,hvl,i1,i2,ζ86,e2]
   | none =>
    have hjr:¬ (j:Int) < r.length:=by have:=List.getElem?_eq_none_iff.1 h; omega
    rw [h] at e2;simp at e2;simp -implicitDefEqProofs (disch:=omega) [hlt,hjr,hvl,ζ87,e2])
  (fun e H' ⟨s,o,he,g⟩ => by
   subst he;rw [List.take_of_length_le (by rw [rowL_len]; exact Nat.le_refl _)] at g;refine ⟨.exit 4,_,H',?_,by simp,rfl,.int .i64 n,s,o,rfl,g⟩;rw [ζ4u];simp -implicitDefEqProofs)
 exact ⟨s,o,H1,z,hr1,g⟩
def Plan.ok (p:Plan):Prop:=Byt p.cls ∧ (∀ r,r ∈ p.rows → Byt r) ∧ 0 ≤ p.wide ∧ p.wide < 256
set_option maxHeartbeats 1000000 in
theorem write_l4 (k:Nat) {H0 H:Heap} {o9 o12:Option Nat} {a9 a12:Value} {l9 l12:List Int} {B:It} (w:Int) (hw:w = 0 ∨ w = 1 ∨ w = 2) (room:Value) (a7 a8:Value) (es:List En) (hl:es.length < 2 ^ 20) {sE:Value} (hsE:Sl H0 4 sE encEn es)
  (g:Star H0 H [itRow o9 1 a9 encB l9,itRow o12 1 a12 encB l12,B]) :
  ∃ s o H' z,loopN (ζ2q k (R (T k))) loopFuel [(1,.int .i64 w),(2,room),(7,a7),(8,a8),(9,a9),(12,a12),(13,.slice none 0 0),(72,sE),(73,.int .i64 es.length),(74,.int .i64 0)] H =
   .ok (.exit 6,[(1,.int .i64 w),(2,room),(7,a7),(8,a8),(9,a9),(12,a12),(13,s),(72,sE),(73,.int .i64 es.length),(74,z),(75,.bool false)]) H' ∧
   Star H0 H' [itRow o9 1 a9 encB l9,itRow o12 1 a12 encB l12,B,itRow o 1 s encB (entsB w es)]:=by
 have g:=g.more_row (Ext.refl _) (OwnO.nil encB _ 1) (fun b hb => by cases hb)
 obtain ⟨x,e',H1,hr1,rfl,z,s,o,rfl,g⟩:=loop_up (body:=ζ2q k (R (T k))) es.length
  (fun j e H' => ∃ s o,e = [(1,.int .i64 w),(2,room),(7,a7),(8,a8),(9,a9),(12,a12),(13,s),(72,sE),(73,.int .i64 es.length),(74,.int .i64 j)] ∧ Star H0 H' [itRow o9 1 a9 encB l9,itRow o12 1 a12 encB l12,B,itRow o 1 s encB (entsB w (es.take j))])
  (fun x e H' => x = .exit 6 ∧ ∃ z s o,e = [(1,.int .i64 w),(2,room),(7,a7),(8,a8),(9,a9),(12,a12),(13,s),(72,sE),(73,.int .i64 es.length),(74,z),(75,.bool false)] ∧ Star H0 H' [itRow o9 1 a9 encB l9,itRow o12 1 a12 encB l12,B,itRow o 1 s encB (entsB w es)])
  (e0:=[(1,.int .i64 w),(2,room),(7,a7),(8,a8),(9,a9),(12,a12),(13,.slice none 0 0),(72,sE),(73,.int .i64 es.length),(74,.int .i64 0)]) (H0:=H) ⟨.slice none 0 0,none,rfl,by simpa [entsB] using g⟩ (by omega)
  (fun j e H' hj ⟨s,o,he,g⟩ => by
   subst he;have hlt:(j:Int) < es.length:=by omega
   obtain ⟨en,hen⟩:∃ en,es[j]? = some en:=⟨_,List.getElem?_eq_getElem hj⟩
   obtain ⟨q,i1,i2⟩:=((hsE.up g.ext).rd (by decide) ζ58).2 j en hen;have hlen:=ζbe w (es.take j);rw [List.length_take] at hlen;have g:=g.push ⟨encEn en,1,false⟩;simp only [List.cons_append,List.nil_append] at g;have b1:=ζbf en.next;have b2:=ζbf en.flags;have b3:=ζbf en.a;have b4:=ζbf en.b;have an:=fun H a => and16 Prog 3 H a;obtain ⟨s1,o1,H1,e1,g1⟩:=Put_star k g 3 rfl (m16 en.next) 2 2 rfl b1.1 (by omega) (by omega) (by omega);simp only [List.set_cons_zero,List.set_cons_succ] at g1;have h1:=g1.get 4 rfl;obtain ⟨s2,o2,H2,e2,g2⟩:=Put_star k g1 3 rfl (m16 en.flags) 2 2 rfl b2.1 (by omega) (by omega) (by simp; omega);simp only [List.set_cons_zero,List.set_cons_succ] at g2;have h2:=g2.get 4 rfl;rcases hw with rfl | rfl | rfl
   ·refine .inl ⟨_,H2,?_,s2,o2,rfl,by rw [ζ2j hen,ζbw]; simpa [entB] using g2.take 4⟩;rw [ζ23];simp -implicitDefEqProofs (disch:=omega) [hlt,i1,i2,an,e1,h1,e2,h2,ζ88,ζ4r]
   ·obtain ⟨s3,o3,H3,e3,g3⟩:=Put_star k g2 3 rfl (m16 en.a) 2 2 rfl b3.1 (by omega) (by omega) (by simp; omega);simp only [List.set_cons_zero,List.set_cons_succ] at g3;have h3:=g3.get 4 rfl;refine .inl ⟨_,H3,?_,s3,o3,rfl,by rw [ζ2j hen,ζbw]; simpa [entB] using g3.take 4⟩;rw [ζ23];simp -implicitDefEqProofs (disch:=omega) [hlt,i1,i2,an,e1,h1,e2,h2,e3,h3,ζ4q,ζ4r]
   ·obtain ⟨s3,o3,H3,e3,g3⟩:=Put_star k g2 3 rfl (m16 en.a) 2 2 rfl b3.1 (by omega) (by omega) (by simp; omega);simp only [List.set_cons_zero,List.set_cons_succ] at g3;have h3:=g3.get 4 rfl;obtain ⟨s4,o4,H4,e4,g4⟩:=Put_star k g3 3 rfl (m16 en.b) 2 2 rfl b4.1 (by omega) (by omega) (by simp; omega);simp only [List.set_cons_zero,List.set_cons_succ] at g4;refine .inl ⟨_,H4,?_,s4,o4,rfl,by rw [ζ2j hen,ζbw]; simpa [entB] using g4.take 4⟩;rw [ζ23];simp -implicitDefEqProofs (disch:=omega) [hlt,i1,i2,an,e1,h1,e2,h2,e3,h3,e4,ζ4q,ζ89])
  (fun e H' ⟨s,o,he,g⟩ => by
   subst he;rw [List.take_length] at g;refine ⟨.exit 6,_,H',?_,by simp,rfl,.int .i64 es.length,s,o,rfl,g⟩;rw [ζ23];simp -implicitDefEqProofs)
 exact ⟨s,o,H1,z,hr1,g⟩
theorem planN_eq (p:Plan) (h:0 ≤ p.wide ∧ p.wide < 256):4 + p.wide.tmod 8 = (planN p:Int) ∧ planN p ≤ 11:=by
 unfold planN;rw [Int.tmod_eq_emod_of_nonneg h.1];omega
set_option maxHeartbeats 2000000 in
theorem ζj2 (k:Nat) (p:Plan) (hp:p.ok) (w:Int) (hw:w = 0 ∨ w = 1 ∨ w = 2) (room:Nat) (hroom:room ≤ 1000) (h1:p.cls.length ≤ 1000) (h2:p.rows.length ≤ 1000) (h3:p.ents.length ≤ 1000) {H:Heap} {vC vR sE:Value} (hC:Sl H 1 vC encB p.cls) {rv:List (List Int × Value)} (hrv:rv.map Prod.fst = p.rows) (hrs:∀ x,x ∈ rv → Sl H 1 x.2 encB x.1) (hR:Sl H 1 vR encU rv) (hsE:Sl H 4 sE encEn p.ents) :
  ∃ s H',ζ2 k (R (T k)) (.agg #[vC,vR,sE,.int .u8 p.wide]) (.int .i64 w) (.int .i64 room) H = .ok s H' ∧ Own H H' 1 s encB (planBytes p w room) ∧ Ext H H':=by
 have hrvl:rv.length = p.rows.length:=by rw [← hrv]; simp
 have hN:=planN_eq p hp.2.2;obtain ⟨n,hn⟩:∃ n,n = planN p:=⟨_,rfl⟩
 rw [← hn] at hN;have hwd:0 ≤ p.wide ∧ p.wide < 256:=hp.2.2;have hrem:=fun H => bin_rem Prog 3 H .i64 p.wide 8 (by decide);rw [Int.tmod_eq_emod_of_nonneg hwd.1] at hrem hN;obtain ⟨B,hB⟩:∃ B:Blk,B = ⟨[vC,vR,sE,.int .u8 p.wide],1,false⟩:=⟨_,rfl⟩
 have g:=(Star.nil H).more_row (Ext.refl _) (OwnO.nil encB _ 1) (fun b hb => by cases hb);have g:=g.more_row (Ext.refl _) (OwnO.nil encB _ 1) (fun b hb => by cases hb);have g:=g.push B;simp only [List.cons_append,List.nil_append] at g
 -- the head of the classes
 obtain ⟨s1,o1,H1,e1,g⟩:=Put_star k g 0 rfl 8 2 2 rfl (by omega) (by omega) (by omega) (by simp);simp only [List.set_cons_zero,List.set_cons_succ] at g;have b1:=g.get 2 rfl;obtain ⟨s2,o2,H2,e2,g⟩:=Put_star k g 0 rfl 0 2 2 rfl (by omega) (by omega) (by omega) (by simp);simp only [List.set_cons_zero,List.set_cons_succ] at g;have b2:=g.get 2 rfl;obtain ⟨s3,o3,H3,e3,g⟩:=Put_star k g 0 rfl p.cls.length 2 2 rfl (by omega) (by omega) (by omega) (by simp);simp only [List.set_cons_zero,List.set_cons_succ,List.nil_append] at g;have b3:=g.get 2 rfl
 -- the classes
 obtain ⟨x,e',H4,hr4,rfl,z4,s4,o4,rfl,g⟩:=loop_up (body:=ζ44 k (R (T k))) p.cls.length
  (fun j e H' => ∃ s o,e = [(1,.int .i64 w),(2,.int .i64 room),(3,ptrV H.n),(7,.int .i64 n),(8,.int .i64 (16 + room)),(9,s),(35,vC),(36,.int .i64 p.cls.length),(37,.int .i64 j)] ∧ Star H H' [itRow o 1 s encB ((bytesOf 8 2 ++ bytesOf 0 2 ++ bytesOf p.cls.length 2) ++ twos (p.cls.take j)),itRow none 1 (.slice none 0 0) encB [],itBlk H.n B])
  (fun x e H' => x = .exit 0 ∧ ∃ z s o,e = [(1,.int .i64 w),(2,.int .i64 room),(3,ptrV H.n),(7,.int .i64 n),(8,.int .i64 (16 + room)),(9,s),(35,vC),(36,.int .i64 p.cls.length),(37,z),(38,.bool false)] ∧ Star H H' [itRow o 1 s encB (ofS p.cls),itRow none 1 (.slice none 0 0) encB [],itBlk H.n B])
  (e0:=[(1,.int .i64 w),(2,.int .i64 room),(3,ptrV H.n),(7,.int .i64 n),(8,.int .i64 (16 + room)),(9,s3),(35,vC),(36,.int .i64 p.cls.length),(37,.int .i64 0)]) (H0:=H3) ⟨s3,o3,rfl,by simpa [twos] using g⟩ (by omega)
  (fun j e H' hj ⟨s,o,he,g⟩ => by
   subst he;have hlt:(j:Int) < p.cls.length:=by omega
   obtain ⟨c,hc⟩:∃ c,p.cls[j]? = some c:=⟨_,List.getElem?_eq_getElem hj⟩
   obtain ⟨pp,i1,i2⟩:=hC.ix1 encB_len j c hc _ rfl;have i2:=i2 H' g.ext;have hcb:=hp.1 c (List.mem_of_getElem? hc);obtain ⟨s',o',H2,e2,g2⟩:=Put_star k g 0 rfl c 2 2 rfl hcb.1 (by omega) (by omega) (by simp [twos_len]; omega);simp only [List.set_cons_zero,List.set_cons_succ] at g2;refine .inl ⟨_,H2,?_,s',o',rfl,by rw [ζ2j hc,ζfc,← List.append_assoc]; exact g2⟩;rw [ζ4s];simp -implicitDefEqProofs (disch:=omega) [hlt,i1,i2,e2])
  (fun e H' ⟨s,o,he,g⟩ => by
   subst he;rw [List.take_length] at g;refine ⟨.exit 0,_,H',?_,by simp,rfl,.int .i64 p.cls.length,s,o,rfl,g⟩;rw [ζ4s];simp -implicitDefEqProofs)
 have b4:=g.get 2 rfl;have hofl:(ofS p.cls).length = 6 + p.cls.length * 2:=by unfold ofS; simp [twos_len]; omega
 -- the rows
 obtain ⟨x,e',H5,hr5,rfl,z5,s5,o5,rfl,g⟩:=loop_up (body:=ζ45 k (R (T k))) p.rows.length
  (fun j e H' => ∃ s o,e = [(1,.int .i64 w),(2,.int .i64 room),(3,ptrV H.n),(7,.int .i64 n),(8,.int .i64 (16 + room)),(9,s4),(12,s),(13,.slice none 0 0),(47,vR),(48,.int .i64 p.rows.length),(49,.int .i64 j)] ∧ Star H H' [itRow o4 1 s4 encB (ofS p.cls),itRow o 1 s encB (rowsL n (p.rows.take j)),itBlk H.n B])
  (fun x e H' => x = .exit 2 ∧ ∃ z s o,e = [(1,.int .i64 w),(2,.int .i64 room),(3,ptrV H.n),(7,.int .i64 n),(8,.int .i64 (16 + room)),(9,s4),(12,s),(13,.slice none 0 0),(47,vR),(48,.int .i64 p.rows.length),(49,z),(50,.bool false)] ∧ Star H H' [itRow o4 1 s4 encB (ofS p.cls),itRow o 1 s encB (rowsL n p.rows),itBlk H.n B])
  (e0:=[(1,.int .i64 w),(2,.int .i64 room),(3,ptrV H.n),(7,.int .i64 n),(8,.int .i64 (16 + room)),(9,s4),(12,.slice none 0 0),(13,.slice none 0 0),(47,vR),(48,.int .i64 p.rows.length),(49,.int .i64 0)]) (H0:=H4) ⟨.slice none 0 0,none,rfl,by simpa [rowsL] using g⟩ (by omega)
  (fun j e H' hj ⟨s,o,he,g⟩ => by
   subst he;have hlt:(j:Int) < p.rows.length:=by omega
   obtain ⟨r,hr⟩:∃ r,p.rows[j]? = some r:=⟨_,List.getElem?_eq_getElem hj⟩
   obtain ⟨x,hx⟩:∃ x,rv[j]? = some x:=⟨_,List.getElem?_eq_getElem (by omega)⟩
   have hxr:x.1 = r:=by
    have h0:(rv.map Prod.fst)[j]? = some x.1:=by rw [List.getElem?_map,hx]; rfl
    rw [hrv,hr] at h0;exact (Option.some.inj h0).symm
   obtain ⟨pp,i1,i2⟩:=hR.ix1 encU_len j x hx _ rfl;have i2:=i2 H' g.ext;have hxs:=hrs x (List.mem_of_getElem? hx);rw [hxr] at hxs;have hll:(rowsL n (p.rows.take j)).length < 2 ^ 29:=by
    rw [ζfa,List.length_take];have:min j p.rows.length * (n * 2) ≤ 1000 * 22:=Nat.mul_le_mul (by omega) (by omega);omega
   obtain ⟨s',o',H2,z',e2,g2⟩:=write_l3 k (.int .i64 w) (.int .i64 room) n (by omega) (ptrV H.n) (.int .i64 (16 + room)) r (hp.2.1 r (List.mem_of_getElem? hr)) hxs (vR) (.int .i64 p.rows.length) (.int .i64 j) hll g;refine .inl ⟨_,H2,?_,s',o',rfl,by rw [ζ2j hr,ζlc]; exact g2⟩;rw [ζ4t];simp -implicitDefEqProofs (disch:=omega) [hlt,i1,i2,e2,ζ7m])
  (fun e H' ⟨s,o,he,g⟩ => by
   subst he;rw [List.take_length] at g;refine ⟨.exit 2,_,H',?_,by simp,rfl,.int .i64 p.rows.length,s,o,rfl,g⟩;rw [ζ4t];simp -implicitDefEqProofs)
 have b5:=g.get 2 rfl;have hrl:(rowsL n p.rows).length ≤ 1000 * 22:=by rw [ζfa]; exact Nat.mul_le_mul h2 (by omega)
 -- the entries
 obtain ⟨s6,o6,H6,z6,hr6,g⟩:=write_l4 k w hw (.int .i64 room) (.int .i64 n) (.int .i64 (16 + room)) p.ents (by omega) hsE g;have hel:=ζbe w p.ents;have q9:∀ H',lnS s4 H' = .ok (.int .i64 (ofS p.cls).length) H':=(g.row 0 rfl).len;have q12:∀ H',lnS s5 H' = .ok (.int .i64 (rowsL n p.rows).length) H':=(g.row 1 rfl).len
 -- all together
 have g:=g.more_row (Ext.refl _) (OwnO.nil encB _ 1) (fun b hb => by cases hb);simp only [List.cons_append,List.nil_append] at g;obtain ⟨t1,u1,J1,f1,g⟩:=Put_star k g 4 rfl n 4 4 rfl (by omega) (by omega) (by omega) (by simp);simp only [List.set_cons_zero,List.set_cons_succ,List.nil_append] at g;obtain ⟨t2,u2,J2,f2,g⟩:=Put_star k g 4 rfl (16 + room) 4 4 rfl (by omega) (by omega) (by omega) (by simp);simp only [List.set_cons_zero,List.set_cons_succ] at g;obtain ⟨t3,u3,J3,f3,g⟩:=Put_star k g 4 rfl (16 + room + (ofS p.cls).length) 4 4 rfl (by omega) (by omega) (by omega) (by simp);simp only [List.set_cons_zero,List.set_cons_succ] at g;obtain ⟨t4,u4,J4,f4,g⟩:=Put_star k g 4 rfl (16 + room + (ofS p.cls).length + (rowsL n p.rows).length) 4 4 rfl (by omega) (by omega) (by omega) (by simp);simp only [List.set_cons_zero,List.set_cons_succ] at g;obtain ⟨a4,l4,c4,ht4⟩:=(g.row 4 rfl).shape;obtain ⟨t5,u5,J5,f5,g⟩:=g.append (bytes:=1) 4 encB_len rfl (b:=lv encB (List.replicate room 0)) (l2:=List.replicate room 0) (by rw [lv,List.length_replicate]; rfl) (by have:=lv_first encB_len (List.replicate room 0) J4; exact this) (by simp; omega) (by decide);simp only [List.set_cons_zero,List.set_cons_succ] at g;have f5':azR 1 1 [.int .u8 0] t4 (.int .i64 room) J4 = .ok t5 J5:=by
  rw [ht4] at f5 ⊢;rw [azR_eq encB_len a4 l4 c4 (0:Int) _ rfl .i64 room (by omega)];exact f5
 obtain ⟨t6,u6,J6,f6,g⟩:=g.appendRow (bytes:=1) 4 0 encB_len rfl rfl (by simp; omega) (by decide);simp only [List.set_cons_zero,List.set_cons_succ] at g;obtain ⟨t7,u7,J7,f7,g⟩:=g.appendRow (bytes:=1) 4 1 encB_len rfl rfl (by simp; omega) (by decide);simp only [List.set_cons_zero,List.set_cons_succ] at g;obtain ⟨t8,u8,J8,f8,g⟩:=g.appendRow (bytes:=1) 4 3 encB_len rfl rfl (by simp; omega) (by decide);simp only [List.set_cons_zero,List.set_cons_succ] at g;have hbytes:planBytes p w room = bytesOf (n:Int) 4 ++ bytesOf (16 + room:Int) 4 ++ bytesOf (16 + room + (ofS p.cls).length:Int) 4 ++ bytesOf (16 + room + (ofS p.cls).length + (rowsL n p.rows).length:Int) 4 ++ List.replicate room 0 ++ ofS p.cls ++ rowsL n p.rows ++ entsB w p.ents:=by
  unfold planBytes;rw [← hn]
 rw [hbytes];refine ⟨t8,J8,?_,g.own 4 rfl,g.ext⟩;rw [hB] at e1 b1 b2 b3 b4 b5;have hlnE:=fun H' => hsE.len H';have hlnC:=fun H' => hC.len H';have hlnR:=fun H' => hR.len H';rw [hrvl] at hlnR;have hvqC:veq vC vC = true:=hC.veq fun x _ u hu => by simp at hu; subst hu; simp
 simp -implicitDefEqProofs (disch:=omega) [ζ2,hrem,hN.1,e1,b1,e2,b2,e3,b3,hr4,ζ7k,b4,hr5,ζ7l,b5,hr6,ζ7n,f1,q9,q12,f2,f3,f4,f5',f6,f7,f8,hlnE,hlnC,hlnR,hvqC]
theorem lvU_rows (l:List (List Int)):lv encBR l = lv encU (l.map fun s => (s,lv encB s)):=by
 unfold lv;rw [List.length_map];congr 2;unfold rows;rw [List.flatMap_map];rfl
theorem rv_fst (l:List (List Int)):(l.map fun s => (s,lv encB s)).map Prod.fst = l:=by rw [List.map_map]; simp [Function.comp_def]
structure PlanSl (H:Heap) (p:Plan) (vC vR sE:Value) (rv:List (List Int × Value)):Prop where
 cls:Sl H 1 vC encB p.cls
 fst:rv.map Prod.fst = p.rows
 each:∀ x,x ∈ rv → Sl H 1 x.2 encB x.1
 rows:Sl H 1 vR encU rv
 ents:Sl H 4 sE encEn p.ents
theorem PlanSl.up {H H':Heap} {p:Plan} {vC vR sE:Value} {rv:List (List Int × Value)} (h:PlanSl H p vC vR sE rv) (he:Ext H H'):PlanSl H' p vC vR sE rv:=⟨h.cls.up he,h.fst,fun x hx => (h.each x hx).up he,h.rows.up he,h.ents.up he⟩
theorem PlanSl.lv (H:Heap) (p:Plan) {sE:Value} (h:Sl H 4 sE encEn p.ents):PlanSl H p (Go.Sw.lv encB p.cls) (Go.Sw.lv encBR p.rows) sE (p.rows.map fun s => (s,Go.Sw.lv encB s)) :=
 ⟨Sl.lv _ 1 _,rv_fst p.rows,fun x hx => by obtain ⟨s,_,rfl⟩:=List.mem_map.1 hx; exact Sl.lv _ 1 _,by rw [lvU_rows]; exact Sl.lv _ 1 _,h⟩
theorem ζj3 (k:Nat) (hW:ownW k = .no) (p:Plan) (hp:p.ok) (w:Int) (hw:w = 0 ∨ w = 1 ∨ w = 2) (room:Nat) (hroom:room ≤ 1000) (h1:p.cls.length ≤ 1000) (h2:p.rows.length ≤ 1000) (h3:p.ents.length ≤ 1000) {H0 H:Heap} {L:List It} (g:Star H0 H L) {vC vR sE:Value} {rv:List (List Int × Value)} (hP:PlanSl H p vC vR sE rv) :
  ∃ s o H',R (T k) F.ζ2 [.agg #[vC,vR,sE,.int .u8 p.wide],.int .i64 w,.int .i64 room] H = .ok s H' ∧ Star H0 H' (L ++ [itRow o 1 s encB (planBytes p w room)]) ∧ Ext H H':=by
 obtain ⟨s,H',e,ho,hx⟩:=ζj2 k p hp w hw room hroom h1 h2 h3 hP.cls hP.fst hP.each hP.rows hP.ents;obtain ⟨o,g⟩:=g.more_own ho hx;exact ⟨s,o,H',by rw [ζak,hW]; exact nrm_of e,g,hx⟩
end Go.Sw
end
section
namespace Go.Sw
open Go.RowKit
theorem bin_andL (P:Program) (t:TypeId) (H:Heap) (k:Nat) (hk:k < 62) {a:Int} (h0:0 ≤ a) (h1:a < 2 ^ 62) (m:Int) (hm:m = ((2 ^ k:Nat):Int) - 1):binR P .and t (.int .i64 a) (.int .i64 m) H = .ok (.int .i64 (a % ((2 ^ k:Nat):Int))) H:=by
 obtain ⟨n,rfl⟩:=Int.eq_ofNat_of_zero_le h0;have hp:2 ^ k ≤ 2 ^ 61:=Nat.pow_le_pow_right (by decide) (by omega);have hp0:0 < 2 ^ k:=Nat.two_pow_pos k;have e:(BitVec.ofInt 64 (n:Int) &&& BitVec.ofInt 64 m).toNat = n % 2 ^ k:=by
  rw [BitVec.toNat_and,BitVec.toNat_ofInt,BitVec.toNat_ofInt,hm];rw [show (((n:Int)) % ((2 ^ 64:Nat):Int)).toNat = n by omega,show ((((2 ^ k:Nat):Int) - 1) % ((2 ^ 64:Nat):Int)).toNat = 2 ^ k - 1 by omega,Nat.and_two_pow_sub_one_eq_mod]
 have e1:binV P .and t (.int .i64 (n:Int)) (.int .i64 m) = some (.int .i64 (IntKind.i64.wrap (BitVec.ofInt 64 (n:Int) &&& BitVec.ofInt 64 m).toNat)):=rfl;have hlt:n % 2 ^ k < 2 ^ k:=Nat.mod_lt _ hp0;unfold binR;rw [e1,e,wrap_i64 (by omega) (by omega),Int.natCast_emod];rfl
theorem and24 (P:Program) (t:TypeId) (H:Heap) {a:Int} (h0:0 ≤ a) (h1:a < 4294967296):binR P .and t (.int .i64 a) (.int .i64 16777215) H = .ok (.int .i64 (a % 16777216)) H:=bin_andL P t H 24 (by decide) h0 (by omega) 16777215 rfl
end Go.Sw
end
section
namespace Go.Sw
open Go.RowKit
variable {σ:Type}
def runD (m:Mach) (ln:σ → List Gl) (f:σ → Int → En → σ × Int × Int) (most:Int):Nat → σ × Drv → Int × Int × σ
  | 0,x => (x.2.stp,4,x.1)
  | n + 1,x => if x.2.stp < most then
      (if (stepD m ln f x).2 then ((stepD m ln f x).1.2.stp,0,(stepD m ln f x).1.1)
       else if (stepD m ln f x).1.2.rest > 64 then ((stepD m ln f x).1.2.stp,4,(stepD m ln f x).1.1)
       else runD m ln f most n (stepD m ln f x).1)
    else (x.2.stp,4,x.1)
theorem ζnd (m:Mach) (ln:σ → List Gl) (f:σ → Int → En → σ × Int × Int) (x:σ × Drv):(stepD m ln f x).1.2.stp = x.2.stp + 1:=by unfold stepD; split <;> rfl
theorem stepD_pl (m:Mach) (ln:σ → List Gl) (f:σ → Int → En → σ × Int × Int) (x:σ × Drv):0 ≤ (stepD m ln f x).1.2.pl:=by unfold stepD; split <;> (dsimp only; omega)
theorem ζlj (m:Mach) (ln:σ → List Gl) (f:σ → Int → En → σ × Int × Int) (x:σ × Drv) (h:0 ≤ x.2.rest):0 ≤ (stepD m ln f x).1.2.rest ∧ (stepD m ln f x).1.2.rest ≤ x.2.rest + 1:=by unfold stepD; split <;> (dsimp only; omega)
set_option maxHeartbeats 1000000 in
theorem ζg1 (k:Nat) (m:Mach) (hm:m.ok) {H0 H:Heap} (W:σ → List It) (Inv:σ → Prop) (ln:σ → List Gl) (c:Nat) (hW:∀ s,∃ (i:Nat) (o:Option Nat),(W s)[i]? = some (itLine c o (ln s))) (a:Value) (f:σ → Int → En → σ × Int × Int) (ha:ActOk k m H0 W Inv a f)
  (X:List It) (s:σ) (hI:Inv s) (h:Star H0 H (W s ++ X)) (hl:(ln s).length < 2 ^ 40) :
  ∃ H',R (T k) F.ζ3w [machV m,ptrV c,a] H = .ok (.tuple #[.int .i64 (runD m ln f (2 * (ln s).length + 128) (2 * (ln s).length + 128) (s,⟨0,0,0,0⟩)).1,.int .i64 (runD m ln f (2 * (ln s).length + 128) (2 * (ln s).length + 128) (s,⟨0,0,0,0⟩)).2.1]) H' ∧
   Star H0 H' (W (runD m ln f (2 * (ln s).length + 128) (2 * (ln s).length + 128) (s,⟨0,0,0,0⟩)).2.2 ++ X) ∧ Inv (runD m ln f (2 * (ln s).length + 128) (2 * (ln s).length + 128) (s,⟨0,0,0,0⟩)).2.2:=by
 rw [ζjd];obtain ⟨N,hN⟩:∃ N,N = 2 * (ln s).length + 128:=⟨_,rfl⟩
 have hNi:(2 * ((ln s).length:Int) + 128) = (N:Int):=by omega
 obtain ⟨x0,hx0⟩:∃ x0:σ × Drv,x0 = (s,⟨0,0,0,0⟩):=⟨_,rfl⟩
 rw [← hN,hNi,← hx0];generalize hR0:runD m ln f (N:Int) N x0 = R0;have g:=h.push ⟨drvC m c ⟨0,0,0,0⟩,1,false⟩;obtain ⟨i,o,ho⟩:=hW s;have hline:(W s ++ X ++ [itBlk H.n ⟨drvC m c ⟨0,0,0,0⟩,1,false⟩])[i]? = some (itLine c o (ln s)):=by
  have h0:i < (W s).length:=(List.getElem?_eq_some_iff.1 ho).1;rw [List.append_assoc,List.getElem?_append_left h0];exact ho
 have hlen:=ζjq k g i hline
 obtain ⟨e,eE,H1,hr1,hQ⟩:=loop_up (body:=ζ93 k (R (T k))) N
  (fun j e H' => e = [(2,a),(8,ptrV H.n),(9,.int .i64 N)] ∧ ∃ x:σ × Drv,Star H0 H' (W x.1 ++ X ++ [itBlk H.n ⟨drvC m c x.2,1,false⟩]) ∧ Inv x.1 ∧ x.2.stp = j ∧ 0 ≤ x.2.pl ∧ x.2.pl ≤ 128 * j ∧ 0 ≤ x.2.rest ∧ x.2.rest ≤ j ∧ (0 ≤ x.2.st ∧ x.2.st < m.rows.length) ∧ runD m ln f N (N - j) x = R0)
  (fun x' e H' => ∃ r:Int × Int × σ,r = R0 ∧ ∃ d:Drv,Star H0 H' (W r.2.2 ++ X ++ [itBlk H.n ⟨drvC m c d,1,false⟩]) ∧ Inv r.2.2 ∧
   ((x' = .ret ∧ e = [(6,.int .i64 r.1),(7,.int .i64 0)] ∧ r.2.1 = 0) ∨ (x' = .exit 0 ∧ d.stp = r.1 ∧ r.2.1 = 4 ∧ (e = [(2,a),(8,ptrV H.n),(9,.int .i64 N),(35,.bool true)] ∨ e = [(2,a),(8,ptrV H.n),(9,.int .i64 N),(23,.bool false)]))))
  (e0:=[(2,a),(8,ptrV H.n),(9,.int .i64 N)]) (H0:=H.push ⟨drvC m c ⟨0,0,0,0⟩,1,false⟩)
  ⟨rfl,x0,by rw [hx0]; exact g,by rw [hx0]; exact hI,by rw [hx0]; rfl,by rw [hx0]; exact Int.le_refl _,by rw [hx0]; exact Int.le_refl _,by rw [hx0]; exact Int.le_refl _,by rw [hx0]; exact Int.le_refl _,by rw [hx0]; have:=hm.two; dsimp only; omega,by rw [Nat.sub_zero]; exact hR0⟩ (by omega)
  (fun j e H' hj ⟨he,x,g,hI,h1,h2,h3,h4,h5,hse,hrun⟩ => by
   subst he;obtain ⟨H2,e2,g2,hI2,h6,h7⟩:=ζeq k m hm W Inv ln c hW a f ha X H.n x.1 x.2 hI g (by omega) (by omega) (by omega) hse;have hq:=g.memBlk (c:=H.n) (k:=⟨drvC m c x.2,1,false⟩) (by simp);have p1:=ζnd m ln f x;have p2:=stepD_pl m ln f x;have p3:=ζlj m ln f x h4;have hlt:x.2.stp < (N:Int):=by omega
   have hNj:N - j = (N - (j + 1)) + 1:=by omega
   rw [hNj] at hrun;unfold runD at hrun;rw [if_pos hlt] at hrun;have hxx:(x.1,x.2) = x:=rfl;rw [hxx] at e2 g2 hI2 h6 h7;generalize stepD m ln f x = y at *;have hq2:=g2.memBlk (c:=H.n) (k:=⟨drvC m c y.1.2,1,false⟩) (by simp);cases hy:y.2 with
   | true =>
    rw [hy] at hrun e2;simp only [if_true] at hrun;refine .inr ⟨.ret,_,H2,?_,by simp,_,hrun,y.1.2,g2,hI2,.inl ⟨rfl,rfl,rfl⟩⟩;rw [ζ4j];simp -implicitDefEqProofs (disch:=omega) [hq,hlt,e2,hq2]
   | false =>
    rw [hy] at hrun e2;simp only [Bool.false_eq_true,if_false] at hrun;by_cases hr:y.1.2.rest > 64
    ·rw [if_pos hr] at hrun;refine .inr ⟨.exit 0,_,H2,?_,by simp,_,hrun,y.1.2,g2,hI2,.inr ⟨rfl,rfl,rfl,.inl rfl⟩⟩;rw [ζ4j];simp -implicitDefEqProofs (disch:=omega) [hq,hlt,e2,hq2,hr]
    ·rw [if_neg hr] at hrun;refine .inl ⟨_,H2,?_,rfl,y.1,g2,hI2,by omega,p2,by omega,p3.1,by omega,h7,hrun⟩;rw [ζ4j];simp -implicitDefEqProofs (disch:=omega) [hq,hlt,e2,hq2,hr])
  (fun e H' ⟨he,x,g,hI,h1,h2,h3,h4,h5,hse,hrun⟩ => by
   subst he;rw [Nat.sub_self] at hrun;have hq:=g.memBlk (c:=H.n) (k:=⟨drvC m c x.2,1,false⟩) (by simp);refine ⟨.exit 0,_,H',?_,by simp,_,hrun,x.2,g,hI,.inr ⟨rfl,rfl,rfl,.inr rfl⟩⟩;have hnl:¬ x.2.stp < (N:Int):=by omega
   rw [ζ4j];simp -implicitDefEqProofs (disch:=omega) [hq,hnl])
 obtain ⟨r,hr,d,g,hIr,hcase⟩:=hQ;subst hr;have hq:=g.memBlk (c:=H.n) (k:=⟨drvC m c d,1,false⟩) (by simp);have gX:Star H0 H1 (W r.2.2 ++ X):=g.ζer;refine ⟨H1,?_,gX,hIr⟩;rcases hcase with ⟨rfl,rfl,hc⟩ | ⟨rfl,hd,hc,rfl | rfl⟩
 ·rw [hc];simp -implicitDefEqProofs (disch:=omega) [ζ3w,hlen,hNi,hr1,ζd8]
 ·rw [hc];simp -implicitDefEqProofs (disch:=omega) [ζ3w,hlen,hNi,hr1,ζbu,hq,hd]
 ·rw [hc];simp -implicitDefEqProofs (disch:=omega) [ζ3w,hlen,hNi,hr1,ζa8,hq,hd]
end Go.Sw
end
section
namespace Go.Sw
open Go.RowKit
theorem ζn5 {b rv:List Int} {j:Int}:restS b j = some rv ↔ (0 ≤ j ∧ j ≤ b.length) ∧ rv = b.drop j.toNat:=by
 unfold restS;split
 ·rename_i h;exact ⟨fun e => by injection e with e; exact ⟨h,e.symm⟩,fun e => by rw [e.2]⟩
 ·rename_i h;exact ⟨fun e => (by cases e),fun e => absurd e.1 h⟩
end Go.Sw
end
section
namespace Go.Sw
open Go.RowKit
theorem twos_get (l:List Int) (pre rest:List Int) (i:Nat) (x:Int) (hx:l[i]? = some x) (hb:0 ≤ x ∧ x < 65536) (p:Int) (hp:p = pre.length + 2 * i):uS (pre ++ (twos l ++ rest)) p 2 = some x:=by
 obtain ⟨hi,hg⟩:=List.getElem?_eq_some_iff.1 hx;have e:twos l = twos (l.take i) ++ (bytesOf x 2 ++ twos (l.drop (i + 1))):=by
  have:l = l.take i ++ ([x] ++ l.drop (i + 1)):=by
   rw [← hg,List.singleton_append,← List.drop_eq_getElem_cons hi,List.take_append_drop]
  conv => lhs; rw [this]
  simp [twos]
 rw [e,← List.append_assoc];have h:=uS_at (pre ++ twos (l.take i)) (twos (l.drop (i + 1)) ++ rest) (n:=x) (k:=2) p 2 (by rw [List.length_append,twos_len,List.length_take]; omega) rfl hb.1 (by simpa using hb.2);simpa [List.append_assoc] using h
def planRoom (p:Plan) (w:Int) (rm:List Int):List Int :=
 bytesOf (planN p:Int) 4 ++ (bytesOf (16 + rm.length:Int) 4 ++ (bytesOf (16 + rm.length + (ofS p.cls).length:Int) 4 ++ (bytesOf (16 + rm.length + (ofS p.cls).length + (rowsL (planN p) p.rows).length:Int) 4 ++ (rm ++ (ofS p.cls ++ (rowsL (planN p) p.rows ++ entsB w p.ents))))))
theorem ζf8 (p:Plan) (w:Int) (room:Nat):planBytes p w room = planRoom p w (List.replicate room 0):=by
 unfold planBytes planRoom;simp [List.append_assoc]
def tabOf (cls:List Int):Int × List Pt:=(8,if cls = [] then [] else [⟨0,(cls.length:Int) - 1,cls⟩])
theorem ζnl (l:List Int) (pre rest:List Int) (hb:∀ x,x ∈ l → 0 ≤ x ∧ x < 65536) (i:Int) (hi:i = pre.length):listS (pre ++ (twos l ++ rest)) i l.length 2 = some l:=by
 have hs:(listS (pre ++ (twos l ++ rest)) i l.length 2).isSome = true:=by
  rw [ζhj (by omega),ζiq (by omega)];simp [twos_len];omega
 obtain ⟨vs,hv⟩:=Option.isSome_iff_exists.1 hs;rw [hv];congr 1;have hlen:vs.length = l.length:=by
  unfold listS at hv;obtain ⟨r,_,rfl⟩:=Option.map_eq_some_iff.1 hv;simp
 apply List.ext_getElem?;intro j;by_cases hj:j < l.length
 ·obtain ⟨x,hx⟩:∃ x,l[j]? = some x:=⟨_,List.getElem?_eq_getElem hj⟩
  rw [ζmt (by omega) hv j (by omega),hx];exact twos_get l pre rest j x hx (hb x (List.mem_of_getElem? hx)) _ (by omega)
 ·rw [List.getElem?_eq_none (by omega),List.getElem?_eq_none (by omega)]
theorem look_ofS (cls:List Int) (hb:∀ x,x ∈ cls → 0 ≤ x ∧ x < 65536) (hl:cls.length ≤ 65535) (rest:List Int) (g:Int):lookS (ofS cls ++ rest) g 2 = some (tabOf cls):=by
 have h0:uS (ofS cls ++ rest) 0 2 = some 8:=by
  have:=uS_at [] (bytesOf 0 2 ++ (bytesOf cls.length 2 ++ (twos cls ++ rest))) (n:=8) (k:=2) 0 2 rfl rfl (by omega) (by decide);simpa [ofS,List.append_assoc] using this
 have h2:uS (ofS cls ++ rest) 2 2 = some 0:=by
  have:=uS_at (bytesOf 8 2) (bytesOf cls.length 2 ++ (twos cls ++ rest)) (n:=0) (k:=2) 2 2 (by simp) rfl (by omega) (by decide);simpa [ofS,List.append_assoc] using this
 have h4:uS (ofS cls ++ rest) (2 + 2) 2 = some (cls.length:Int):=by
  have:=uS_at (bytesOf 8 2 ++ bytesOf 0 2) (twos cls ++ rest) (n:=cls.length) (k:=2) (2 + 2) 2 (by simp) rfl (by omega) (by simp; omega);simpa [ofS,List.append_assoc] using this
 have h6:listS (ofS cls ++ rest) (2 + 4) cls.length 2 = some cls:=by
  have:=ζnl cls (bytesOf 8 2 ++ bytesOf 0 2 ++ bytesOf cls.length 2) rest hb (2 + 4) (by simp);simpa [ofS,List.append_assoc] using this
 unfold lookS partsS;rw [h0,Option.bind_some];simp only [show ¬ ((8:Int) = 0) by decide,show ¬ ((8:Int) = 2) by decide,show ¬ ((8:Int) = 4) by decide,show ¬ ((8:Int) = 6) by decide,if_false,if_true];unfold trimS;rw [h2,Option.bind_some,h4,Option.bind_some,if_pos (by omega),h6,Option.map_some,Option.bind_some];unfold tabOf;by_cases hc:cls = []
 ·subst hc; rfl
 ·rw [if_neg hc,if_neg (show ¬ ((cls.length:Int) = 0) by have:=List.length_pos_iff.2 hc; omega)];simp [risesS]
end Go.Sw
end
section
set_option maxRecDepth 100000
set_option linter.unusedVariables false
namespace Go.Sw
noncomputable section
end
end Go.Sw
end
section
namespace Go.Sw
open Go.RowKit
theorem Star.stAll {H0 H:Heap} {L:List It} (h:Star H0 H L) (i:Nat) {c:Nat} {cells:List Value} {e:Nat} (hi:L[i]? = some (itBlk c ⟨cells,e,false⟩)) (vs:List Value) (n:Nat) (hn:cells.length = n) (hv:vs.length = n) :
  ∃ H',stR n (.pointer (some ⟨c,0,none⟩)) (.agg vs.toArray) H = .ok undef H' ∧ Star H0 H' (L.set i (itBlk c ⟨vs,e,false⟩)) ∧ H'.n = H.n:=by
 have hg:=h.get i hi;refine ⟨H.set c (some ⟨vs,e,false⟩),?_,h.step i hi (by simp) (fun d _ hd => ?_) _ ?_ fun b hb => .inl hb,by simp⟩
 ·have hd:cells.drop vs.length = []:=by rw [List.drop_eq_nil_iff]; omega
  simp [hg,hv,hd];rw [hv] at hd;rw [if_pos (by omega),hd];simp
 ·rw [ζ2k];exact fun e => hd (show d ∈ [c] by simp [e])
 ·exact ζ7u _ _ _ (by rw [hg]; rfl)
end Go.Sw
end
section
namespace Go.Sw
open Go.RowKit
end Go.Sw
end
section
namespace Go.Sw
end Go.Sw
end
section
namespace Go.Sw
open Go.RowKit
end Go.Sw
end
section
namespace Go.Sw
open Go.RowKit
theorem ζhq {p:Plan} (hp:p.ok) (w:Int) {rm:List Int} (hrm:rm.length ≤ 1000) (h1:p.cls.length ≤ 1000) (h2:p.rows.length ≤ 1000) (h3:p.ents.length ≤ 1000):(planRoom p w rm).length ≤ 100000:=by
 have hN:=planN_eq p hp.2.2;have hofl:(ofS p.cls).length = 6 + p.cls.length * 2:=by unfold ofS; simp [twos_len]; omega
 have hrl:(rowsL (planN p) p.rows).length ≤ 1000 * 22:=by rw [ζfa]; exact Nat.mul_le_mul h2 (by omega)
 have hel:=ζbe w p.ents;unfold planRoom;simp;omega
end Go.Sw
end
section
namespace Go.Sw
open Go.RowKit
variable {σ:Type}
def DoOk (k:Nat) (m:Mach) (H0:Heap) (W:σ → List It) (Inv:σ → Prop) (a:Value) (g:σ → Int → En → σ):Prop :=
 ∀ s i e H X,Inv s → Star H0 H (W s ++ X) → 0 ≤ i → i < 2 ^ 50 → e ∈ m.ents →
  ∃ v H',callV (R (T k)) a [.int .i64 i,encE e] H = .ok v H' ∧ Star H0 H' (W (g s i e) ++ X) ∧ Inv (g s i e)
theorem plain_ok (k:Nat) {m:Mach} {H0:Heap} {W:σ → List It} {Inv:σ → Prop} {a:Value} {g:σ → Int → En → σ} (h:DoOk k m H0 W Inv a g) (p:Nat) :
  ActOk k m H0 (fun s => W s ++ [itBlk p ⟨[a],1,false⟩]) Inv (.func (.func F.ζ1k) #[] #[ptrV p]) (fun s i e => (g s i e,i,i + 1)):=by
 intro s i e H X hI st h0 h1 he;have st2:=st.push ⟨encEn e,1,false⟩;have hp:=st2.memBlk (c:=p) (k:=⟨[a],1,false⟩) (by simp);have hpn:¬ p = H.n:=by have:=Heap.get_lt (st.memBlk (c:=p) (k:=⟨[a],1,false⟩) (by simp)); omega
 obtain ⟨v,H',e1,st3,hI2⟩:=h s i e (H.push ⟨encEn e,1,false⟩) ([itBlk p ⟨[a],1,false⟩] ++ X ++ [itBlk H.n ⟨encEn e,1,false⟩]) hI (by simpa [List.append_assoc] using st2) h0 h1 he;have st4:Star H0 H' (W (g s i e) ++ [itBlk p ⟨[a],1,false⟩] ++ X):=by
  have:W (g s i e) ++ ([itBlk p ⟨[a],1,false⟩] ++ X ++ [itBlk H.n ⟨encEn e,1,false⟩]) = (W (g s i e) ++ [itBlk p ⟨[a],1,false⟩] ++ X) ++ [itBlk H.n ⟨encEn e,1,false⟩]:=by simp
  rw [this] at st3;exact st3.ζer
 refine ⟨H',?_,st4,hI2,by dsimp only; omega,by dsimp only; omega⟩;simp only [callV,List.nil_append,List.cons_append];rw [ζb3,nrm_of];simp -implicitDefEqProofs (disch:=omega) [ζ1k,hp,hpn,e1]
end Go.Sw
end
section
set_option maxRecDepth 100000
set_option linter.unusedVariables false
namespace Go.Sw
noncomputable section
def ζgy (k:Nat) (call:Caller):Env → Heap → Res (AExit × Env):=loopB (C k) call F.ζ84 [1,1,0,1,0,0]
def ζfb (k:Nat) (call:Caller):Kont Value:=kBlock 0 (kSeq (pieceK (C k) call F.ζ84 [1,1,1]) (kDone Prog (resOf Prog F.ζ84)))
def ζ84 (k:Nat) (call:Caller) (a0 a1:Value) (h:Heap):Res Value :=
 (boxR a0 h).bind fun v1 h2 =>
 (loadR Prog 113 v1 h2).bindN fun v3 h4 =>
 (call F.ζ1x [v3,a1,(.int .i64 1)] h4).bindT (fun p7 h8 => (loadR Prog 113 v1 h4).bindN fun v9 h10 => (loadR Prog 113 v1 h10).bindN fun v11 h12 => chkR ((okVal (loadR Prog 113 v1 h2) v9 && true) && ((okVal (loadR Prog 113 v1 h2) v11 && true) && true)) (.panic p7 h8)) fun v5 h6 =>
 (loadR Prog 113 v1 h6).bindN fun v13 h14 =>
 (loadR Prog 113 v1 h14).bindN fun v15 h16 =>
 (call F.ζb [v15,(.int .i64 16)] h16).bindT (fun p19 h20 => chkR ((okVal (loadR Prog 113 v1 h2) v13 && true) && ((okVal (loadR Prog 113 v1 h2) v15 && true) && true)) (.panic p19 h20)) fun v17 h18 =>
 (call F.ζg [v13,v17] h18).bindT (fun p23 h24 => chkR ((okVal (loadR Prog 113 v1 h2) v13 && (okVal (loadR Prog 113 v1 h18) v13 && true)) && ((okVal (loadR Prog 113 v1 h2) v15 && true) && true)) (.panic p23 h24)) fun v21 h22 =>
 (buildR Prog 161 [(0,v5),(1,v21)] h22).bindN fun v25 h26 =>
 (boxR v25 h26).bindN fun v27 h28 =>
 chkR ((okVal (loadR Prog 113 v1 h2) v13 && (okVal (loadR Prog 113 v1 h18) v13 && true)) && ((okVal (loadR Prog 113 v1 h2) v15 && true) && true)) (
 (nilR v27 h28).bind fun v29 h30 =>
 (fieldAddrR Prog 161 v29 0 h30).bind fun v31 h32 =>
 (loadR Prog 159 v31 h32).bind fun v33 h34 =>
 (call F.ζ11 [v33] h34).bind fun v35 h36 =>
 (builtinV Prog .len [24] [v35] h36).bind fun v37 h38 =>
 (loopN (ζgy k call) loopFuel [(5,v27),(22,v35),(23,v37),(24,(.int .i64 0))] h38).bind fun r39 h40 =>
 ζfb k call r39.1 r39.2 h40)
end
end Go.Sw
end
section
namespace Go.Sw
open Go.RowKit
end Go.Sw
end
section
namespace Go.Sw
open Go.RowKit
abbrev stackC (t:STab):List Value:=[machV t.m,lv encB t.vals]
abbrev stackV (t:STab):Value:=boxV (stackC t).toArray
theorem Flat.stack (t:STab):Flat (stackV t):=.boxV (.cons (Flat.mach t.m) (.cons (Flat.B _) .nil))
end Go.Sw
end
section
namespace Go.Sw
open Go.RowKit
structure CTab where
 m:Mach
 subs:List (Int × List Pt)
end Go.Sw
end
section
namespace Go.Sw
open Go.RowKit
end Go.Sw
end
section
namespace Go.Sw
open Go.RowKit
end Go.Sw
end
section
namespace Go.Sw
open Go.RowKit Go.Proofs
set_option maxRecDepth 20000 in
theorem ζjb (p:Addr) (b:Bool) (w:World) (hc:(w.alloc (.cells #[] 217)).cell? p = some (.bool b)) (hz:(w.alloc (.cells #[] 217)).frozen? p = false) :
  CallsD Prog 98 #[.pointer (some p)] (.panicking [{ v:=.iface 217 (.agg #[]),recovered:=false }]) w fun e u' w' =>
   e = .returned (.tuple #[]) ∧ u' = .panicking [{ v:=.iface 217 (.agg #[]),recovered:=true }] ∧ w' = (w.alloc (.cells #[] 217)).setCell p (.bool false):=by
 refine callsD_of_wpS Tryz.func98 rfl fun c₀ cs hu => ?_;apply wpS_seq;apply wpS_region;simp [wpOpsS,go_sem,recoverD,hu,Tryz.ntmps98,Exit.thenS];have hta:∀ w,(Instr.typeAssert (.iface 217 (.agg #[])) 20 217 true).run Prog w = .ok (.tuple #[.agg #[],.bool true]) w:=fun w => by kernel_rfl
 refine wpS_of_wp ?_
 go_wp2
 cases c₀;simp_all [bodyPostS,results,Tryz.results98]
theorem ζkh (p:Addr) (w:World) :
  CallsD Prog 98 #[.pointer (some p)] .returning w fun e u' w' => e = .returned (.tuple #[]) ∧ u' = .returning ∧ w' = w:=by
 refine callsD_of_wpS Tryz.func98 rfl fun c₀ cs hu => ?_;apply wpS_seq;apply wpS_region;simp [wpOpsS,go_sem,recoverD,hu,Tryz.ntmps98,Exit.thenS];refine wpS_of_wp ?_
 go_wp2
 cases c₀;simp_all [bodyPostS,results,Tryz.results98]
set_option maxRecDepth 20000 in
theorem try_walk (g:FuncId) (first cap:Array Value) (w:World) (R:Ending → World → Prop)
  (hcf:(callFunc g (first ++ cap)).run Prog (w.alloc (.cells #[.bool false] 4)) = .ok (.enter g (first ++ cap)) (w.alloc (.cells #[.bool false] 4)))
  (hcall:Calls Prog g (first ++ cap) (w.alloc (.cells #[.bool false] 4)) fun e w' => match e with
   | .returned _ => w'.heap[w.heap.size]? = some (.cells #[.bool false] 4 (0,0)) ∧ R (.returned (.bool true)) (w'.setCell ⟨w.heap.size,0,none⟩ (.bool true))
   | .panicked chain => chain = [{ v:=.iface 217 (.agg #[]),recovered:=false }] ∧ w'.heap[w.heap.size]? = some (.cells #[.bool false] 4 (0,0)) ∧ R (.returned (.bool false)) ((w'.alloc (.cells #[] 217)).setCell ⟨w.heap.size,0,none⟩ (.bool false))
   | .outgrown => False) :
  Calls Prog 47 #[.func (.func g) first cap] w R:=by
 have hmf:∀ (fn:Fn) (first cap:Array Value) (w:World),(Instr.makeFunc fn first cap).run Prog w = .ok (.func fn first cap) w:=fun _ _ _ _ => rfl
 go_enter_defers Tryz.func47,Tryz.ntmps47
 go_wp2
 rename_i K2 hK2 K1 hK1;refine hcall.mono fun e w' he => ?_;cases e with
 | returned v =>
  obtain ⟨h1,h2⟩:=he;have hc:w'.cell? ⟨w.heap.size,0,none⟩ = some (.bool false):=by simp [World.cell?,h1]
  have hz:w'.frozen? ⟨w.heap.size,0,none⟩ = false:=by simp [World.frozen?,h1]
  apply hK1;apply hK2
  go_wp2
  have hc2:(w'.setCell ⟨w.heap.size,0,none⟩ (.bool true)).cell? ⟨w.heap.size,0,none⟩ = some (.bool true):=World.cell?_setCell_same _ _ _ hc;refine leaves_cons (f:=98) (args:=#[.pointer (some ⟨w.heap.size,0,none⟩)]) (by simp) (by simp [go_sem]) ?_;refine (ζkh ⟨w.heap.size,0,none⟩ _).mono ?_;rintro e u' w'' ⟨rfl,rfl,rfl⟩;simp [Leaves,settle,results,Tryz.results47,go_sem,hc2];exact h2
 | panicked chain =>
  obtain ⟨h0,h1,h2⟩:=he;subst h0;have hlt:w.heap.size < w'.heap.size:=by
   rcases Nat.lt_or_ge w.heap.size w'.heap.size with h | h
   ·exact h
   ·rw [Array.getElem?_eq_none h] at h1; cases h1
  have h3:(w'.alloc (.cells #[] 217)).heap[w.heap.size]? = some (.cells #[.bool false] 4 (0,0)):=by
   rw [ζ12 _ _ _ hlt]; exact h1
  have hc:(w'.alloc (.cells #[] 217)).cell? ⟨w.heap.size,0,none⟩ = some (.bool false):=by simp only [World.cell?,h3]; rfl
  have hz:(w'.alloc (.cells #[] 217)).frozen? ⟨w.heap.size,0,none⟩ = false:=by simp [World.frozen?,h3]
  have hc2:((w'.alloc (.cells #[] 217)).setCell ⟨w.heap.size,0,none⟩ (.bool false)).cell? ⟨w.heap.size,0,none⟩ = some (.bool false):=World.cell?_setCell_same _ _ _ hc;show Leaves _ _ _ _ _ _ _;refine leaves_cons (f:=98) (args:=#[.pointer (some ⟨w.heap.size,0,none⟩)]) (by simp) (by simp [go_sem]) ?_;refine (ζjb ⟨w.heap.size,0,none⟩ false _ hc hz).mono ?_;rintro e u' w'' ⟨rfl,rfl,rfl⟩;simp [Leaves,settle,results,Tryz.results47,go_sem,hc2];exact h2
 | outgrown => exact he.elim
theorem try_is:SpIs Prog 47 (tryV 217):=try_of (bt:=4) Tryz.func47 rfl (by kernel_rfl) try_walk
end Go.Sw
end
section
namespace Go.Sw
open Go.RowKit
structure CTab.ok (t:CTab):Prop where
 m:t.m.ok
 subs:∀ x,x ∈ t.subs → (∀ p,p ∈ x.2 → p.ok) ∧ risesS x.2 = true ∧ x.2.length < 2 ^ 31
 has:∀ e,e ∈ t.m.ents → (e.a = 65535 ∨ e.a < t.subs.length) ∧ (e.b = 65535 ∨ e.b < t.subs.length)
end Go.Sw
end
section
namespace Go.Sw
open Go.RowKit
theorem ζm1 (n:Nat):n &&& 2 ^ 15 = if n.testBit 15 then 2 ^ 15 else 0:=by
 apply Nat.eq_of_testBit_eq;intro i;rw [Nat.testBit_and,Nat.testBit_two_pow];by_cases h:15 = i
 ·subst h;cases hb:n.testBit 15 <;> simp <;> decide
 ·cases hb:n.testBit 15
  ·simp [h]
  ·simp only [h,decide_false,Bool.and_false,if_true,Nat.testBit_two_pow]
theorem and15 (P:Program) (t:TypeId) (H:Heap) {a:Int} (h0:0 ≤ a) (h1:a < 65536):binR P .and t (.int .i64 a) (.int .i64 32768) H = .ok (.int .i64 (if a ≥ 32768 then 32768 else 0)) H:=by
 have e:(BitVec.ofInt 64 a &&& BitVec.ofInt 64 32768).toNat = (if a ≥ 32768 then 32768 else 0):=by
  rw [BitVec.toNat_and,BitVec.toNat_ofInt,BitVec.toNat_ofInt];rw [show ((32768:Int) % ((2 ^ 64:Nat):Int)).toNat = 2 ^ 15 from by decide,ζm1,Nat.testBit_eq_decide_div_mod_eq];obtain ⟨n,rfl⟩:=Int.eq_ofNat_of_zero_le h0;rw [show (((n:Int)) % ((2 ^ 64:Nat):Int)).toNat = n by omega];by_cases h:(n:Int) ≥ 32768
  ·rw [if_pos h,decide_eq_true (show n / 2 ^ 15 % 2 = 1 by omega)]; rfl
  ·rw [if_neg h,decide_eq_false (show ¬ n / 2 ^ 15 % 2 = 1 by omega)]; rfl
 have e1:binV P .and t (.int .i64 a) (.int .i64 32768) = some (.int .i64 (IntKind.i64.wrap (BitVec.ofInt 64 a &&& BitVec.ofInt 64 32768).toNat)):=rfl;unfold binR;rw [e1,e];by_cases h:a ≥ 32768
 ·simp [h]
 ·simp [h]
end Go.Sw
end
section
namespace Go.Sw
open Go.RowKit
end Go.Sw
end
section
namespace Go.Sw
open Go.RowKit
theorem plainNew (k:Nat) (f:Fn) (a b:Array Value) (H:Heap):R (T k) F.ζ4c [.func f a b] H = .ok (.func (.func F.ζ1k) #[] #[ptrV H.n]) (H.push ⟨[.func f a b],1,false⟩):=by
 rw [ζg2];have e:ζ4c k (R (T k)) (.func f a b) H = .ok (.func (.func F.ζ1k) #[] #[ptrV H.n]) (H.push ⟨[.func f a b],1,false⟩):=by
  simp -implicitDefEqProofs [ζ4c]
 rw [e];have dead:¬ Alive H (.func (.func F.ζ1k) #[] #[ptrV H.n]):=fun h => by
  cases h with
  | func fn xs ys h1 h2 =>
   have:=h2 0 (ptrV H.n) rfl;cases this with
   | ptr b off k hg => have:=Heap.get_lt hg; omega
 unfold nrm;exact if_neg fun hc => dead hc.2
end Go.Sw
end
section
namespace Go.Sw
open Go.RowKit
theorem veq_Ens (l:List En):veq (lv encEn l) (lv encEn l) = true:=veq_lv fun p _ v hv => by
 simp [encEn] at hv;rcases hv with rfl | rfl | rfl | rfl <;> simp
theorem veq_Is (l:List Int):veq (lv encI l) (lv encI l) = true:=veq_lv fun p _ v hv => by
 simp [encI] at hv;subst hv; simp
theorem veq_Rows (l:List (List Int)):veq (lv encRow l) (lv encRow l) = true:=veq_lv fun p _ v hv => by
 simp [encRow] at hv;subst hv; exact veq_Is p
theorem veq_mach (m:Mach):veq (machV m) (machV m) = true:=veq_boxV (l:=[.int .i64 m.classes,tabV m.tab,lv encRow m.rows,lv encEn m.ents]) fun v hv => by
 simp at hv;rcases hv with rfl | rfl | rfl | rfl
 ·simp
 ·exact veq_tab _
 ·exact veq_Rows _
 ·exact veq_Ens _
end Go.Sw
end
section
namespace Go.Sw
open Go.RowKit
theorem Star.perm {H0 H:Heap} {L L':List It} (h:Star H0 H L) (hp:L.Perm L'):Star H0 H L':=by
 have hpw:L.Pairwise fun x y => ∀ b,b ∈ x.o → b ∉ y.o:=List.pairwise_iff_getElem.2 fun i j hi hj hij b hb => h.2.2 i j _ _ (by omega) (List.getElem?_eq_getElem hi) (List.getElem?_eq_getElem hj) b hb;have hpw':=(hp.pairwise_iff (fun {x y} hxy b hb hb2 => hxy b hb2 hb)).1 hpw;refine ⟨h.1,fun i x hx => ?_,fun i j x y hij hx hy b hb => ?_⟩
 ·obtain ⟨j,hj⟩:=List.getElem?_of_mem (hp.mem_iff.2 (List.mem_of_getElem? hx));exact h.2.1 j x hj
 ·obtain ⟨hi,rfl⟩:=List.getElem?_eq_some_iff.1 hx;obtain ⟨hj,rfl⟩:=List.getElem?_eq_some_iff.1 hy;rcases Nat.lt_or_gt_of_ne hij with hlt | hgt
  ·exact List.pairwise_iff_getElem.1 hpw' i j hi hj hlt b hb
  ·exact fun hb2 => List.pairwise_iff_getElem.1 hpw' j i hj hi hgt b hb2 hb
def runStr (t:STab) (gl:List Gl) (down cross:Bool) (l:List Pl):Int × Int × (List Pl × List Int) :=
 runD t.m (fun _:List Pl × List Int => gl) (fun s i e => (doSt t (gl.length:Int) down cross s i e,i,i + 1)) (2 * (gl.length:Int) + 128) (2 * gl.length + 128) ((l,[]),⟨0,0,0,0⟩)
def runSt (t:STab) (gl:List Gl) (down cross:Bool) (l:List Pl):List Pl × Int:=((runStr t gl down cross l).2.2.1,(runStr t gl down cross l).2.1)
end Go.Sw
end
section
namespace Go.Sw
open Go.RowKit
end Go.Sw
end
section
namespace Go.Sw
open Go.RowKit
structure BTab where
 m:Mach
 kind:Int
 acts:List Int
def entAct (k:Int) (a:List Int) (e:En):Bool:=decide (e.a = 65535) || (pieceS a (4 * k * e.a) (4 * k)).isSome
def bindS (b:List Int) (g:Int):Option BTab:=(machS b g 1).bind fun m => (uS b 16 4).bind fun w =>
 if w / 1073741824 = 1 ∨ w / 1073741824 = 2 then (restS b (w % 16777216)).bind fun a => if m.ents.all (entAct (w / 1073741824) a) then some ⟨m,w / 1073741824,a⟩ else none else some ⟨m,w / 1073741824,[]⟩
structure BTab.ok (t:BTab):Prop where
 m:t.m.ok
 kind:0 ≤ t.kind ∧ t.kind < 4
 byt:Byt t.acts
 len:t.acts.length < 2 ^ 31
 has:t.kind = 1 ∨ t.kind = 2 → ∀ e,e ∈ t.m.ents → e.a = 65535 ∨ 4 * t.kind * e.a + 4 * t.kind ≤ t.acts.length
theorem bindS_ok {b:List Int} (hb:Byt b) {g:Int} (h1:1 ≤ g) (h2:g ≤ 65535) (hl:b.length < 2 ^ 31) {t:BTab} (h:bindS b g = some t):t.ok:=by
 unfold bindS at h;obtain ⟨m,hm,h⟩:=Option.bind_eq_some_iff.1 h;obtain ⟨w,hw,h⟩:=Option.bind_eq_some_iff.1 h;have hwb:=uS_four hb hw;split at h
 ·rename_i hc;obtain ⟨a,ha,h⟩:=Option.bind_eq_some_iff.1 h;split at h
  ·rename_i hall;injection h with h;subst h;have:=ζ4l ha;refine ⟨machS_ok hb h1 h2 (by omega) hm,by dsimp only; omega,hb.rest ha,by dsimp only; omega,fun _ e he => ?_⟩;have:=List.all_eq_true.1 hall e he;unfold entAct at this;rw [Bool.or_eq_true,decide_eq_true_eq] at this;refine this.imp id fun hp => ?_;obtain ⟨r,hr⟩:=Option.isSome_iff_exists.1 hp;unfold pieceS at hr;split at hr
   ·dsimp only; omega
   ·cases hr
  ·cases h
 ·rename_i hc;injection h with h;subst h;exact ⟨machS_ok hb h1 h2 (by omega) hm,by dsimp only; omega,Byt.nil,by simp,fun h => absurd h hc⟩
def ptsS (t:BTab) (pg:Int → Int → Option (Int × Int)) (a mk own:Int):Option ((Int × Int) × (Int × Int)) :=
 if t.kind = 1 then (pg mk (gU t.acts (4 * a) 2)).bind fun p => (pg own (gU t.acts (4 * a + 2) 2)).map fun q => (p,q)
 else if t.kind = 2 then some ((s16 (gU t.acts (8 * a) 2),s16 (gU t.acts (8 * a + 2) 2)),(s16 (gU t.acts (8 * a + 4) 2),s16 (gU t.acts (8 * a + 6) 2)))
 else none
def shiftPl (l:List Pl) (i x y:Int):List Pl:=updPl l i fun p => ⟨p.adv,addI p.x x,addI p.y y⟩
def bindPl (t:BTab) (pg:Int → Int → Option (Int × Int)) (gl:List Gl) (l:List Pl) (i mark:Int) (e:En):List Pl :=
 if e.a = 65535 then l else
 match atG gl i,atG gl mark with
 | some own,some mk => match ptsS t pg e.a mk.id own.id with
  | some r => shiftPl l i (r.1.1 - r.2.1) (r.1.2 - r.2.2)
  | none => l
 | _,_ => l
def doBi (t:BTab) (pg:Int → Int → Option (Int × Int)) (gl:List Gl) (s:List Pl × Int) (i:Int) (e:En):List Pl × Int :=
 (bindPl t pg gl s.1 i s.2 e,if e.flags ≥ 32768 ∧ (atG gl i).isSome = true then i else s.2)
theorem ζbm (t:BTab) (pg:Int → Int → Option (Int × Int)) (gl:List Gl) (l:List Pl) (i mark:Int) (e:En):(bindPl t pg gl l i mark e).length = l.length:=by
 unfold bindPl shiftPl
 repeat' split
 all_goals simp
theorem ζm4 (t:BTab) (pg:Int → Int → Option (Int × Int)) (gl:List Gl) {l:List Pl} (h:∀ q,q ∈ l → q.ok) (i mark:Int) (e:En):∀ q,q ∈ bindPl t pg gl l i mark e → q.ok:=by
 unfold bindPl shiftPl
 repeat' split
 all_goals first
  | exact h
  | exact updPl_ok h _ fun q hq => ⟨hq.1,addI_ok _ _,addI_ok _ _⟩
def runBr (t:BTab) (pg:Int → Int → Option (Int × Int)) (gl:List Gl) (l:List Pl):Int × Int × (List Pl × Int) :=
 runD t.m (fun _:List Pl × Int => gl) (fun s i e => (doBi t pg gl s i e,i,i + 1)) (2 * (gl.length:Int) + 128) (2 * gl.length + 128) ((l,-1),⟨0,0,0,0⟩)
def runB (t:BTab) (pg:Int → Int → Option (Int × Int)) (gl:List Gl) (l:List Pl):List Pl × Int:=((runBr t pg gl l).2.2.1,(runBr t pg gl l).2.1)
end Go.Sw
end
