/-
  Functions' forms, and what is proved of them, part 7.
-/
import Derived.Test.YtanfippcmdialaaGreatSwCfg
import Derived.Test.YtanfippcmdialaaGreatSwW6
import Derived.Test.YtanfippcmdialaaGreatSwW4
import Derived.Test.YtanfippcmdialaaGreatSwW3
import Derived.Test.YtanfippcmdialaaGreatSwW5
set_option linter.unusedSimpArgs false
set_option linter.unusedVariables false
set_option linter.unusedSectionVars false
section
set_option maxRecDepth 100000
set_option linter.unusedVariables false
namespace Go.Sw
noncomputable section
def ζ31 (k:Nat) (call:Caller) (a0 a1 a2 a3:Value) (h:Heap):Res Value :=
 (boxR a0 h).bind fun v1 h2 =>
 (boxR a1 h2).bind fun v3 h4 =>
 (boxR a2 h4).bind fun v5 h6 =>
 (boxR a3 h6).bind fun v7 h8 =>
 (allocR Prog 3 h8).bind fun v9 h10 =>
 (storeR Prog 3 v9 (.int .i64 (-1)) h10).bind fun _v11 h12 =>
 (loadR Prog 75 v1 h12).bindN fun v13 h14 =>
 (nilR v13 h14).bindN fun v15 h16 =>
 (fieldAddrR Prog 191 v15 0 h16).bindN fun v17 h18 =>
 (loadR Prog 159 v17 h18).bindN fun v19 h20 =>
 (loadR Prog 52 v3 h20).bindN fun v21 h22 =>
 (call F.ζ4c [(.func (.func F.ζ9) #[] #[v3,v9,v1,v7,v5])] h22).bindT (fun p25 h26 => .panic p25 h26) fun v23 h24 =>
 (call F.ζ3w [v19,v21,v23] h24).bindT (fun p29 h30 => chkR ((okVal (loadR Prog 75 v1 h24) v13 && true) && ((okVal (loadR Prog 159 v17 h24) v19 && true) && ((okVal (loadR Prog 52 v3 h24) v21 && true) && true))) (.panic p29 h30)) fun v27 h28 =>
 (extractR v27 0 h28).bindN fun v31 h32 =>
 (extractR v27 1 h32).bindN fun v33 h34 =>
 chkR ((okVal (loadR Prog 75 v1 h24) v13 && true) && ((okVal (loadR Prog 159 v17 h24) v19 && true) && ((okVal (loadR Prog 52 v3 h24) v21 && true) && true))) (
 .ok v33 h34)
theorem ζbn (k:Nat) (a0 a1 a2 a3:Value) (h:Heap):R (T k) F.ζ31 [a0,a1,a2,a3] h = nrm .no h (ζ31 k (R (T k)) a0 a1 a2 a3 h) :=
 (R_body (t:=T k) (T_scott k) (by kernel_rfl) (by kernel_rfl) _ _).trans (by kernel_rfl)
def ζ5g (k:Nat) (call:Caller):Env → Heap → Res (AExit × Env):=loopB (C k) call F.ζ32 [1,1,1,1,1,1,1,0,1,0,0]
def ζar (k:Nat) (call:Caller):Kont Value:=kBlock 0 (kSeq (pieceK (C k) call F.ζ32 [1,1,1,1,1,1,1,1]) (kDone Prog (resOf Prog F.ζ32)))
def ζbo (k:Nat) (call:Caller) (a5 a7 a51 a52 a53:Value) (h:Heap):Res (AExit × Env) :=
 kSeq (pieceK (C k) call F.ζ32 [1,1,1,1,1,1,1,0,1,0,0,1,1,1]) (kRound (ownOf (C k) F.ζ32 [1,1,1,1,1,1,1,0,1,0,0])) .normal [(5,a5),(7,a7),(51,a51),(52,a52),(53,a53)] h
def ζbp (k:Nat) (call:Caller) (a5 a7 a9 a51 a52 a53 a59:Value) (h:Heap):Res (AExit × Env) :=
 kSeq (pieceK (C k) call F.ζ32 [1,1,1,1,1,1,1,0,1,0,0,1,1,1]) (kRound (ownOf (C k) F.ζ32 [1,1,1,1,1,1,1,0,1,0,0])) .normal [(5,a5),(7,a7),(9,a9),(51,a51),(52,a52),(53,a53),(59,a59)] h
def ζ32 (k:Nat) (call:Caller) (a0 a1:Value) (h:Heap):Res Value :=
 (boxR a0 h).bind fun v1 h2 =>
 (loadR Prog 113 v1 h2).bind fun v3 h4 =>
 (call F.ζ1x [v3,a1,(.int .i64 1)] h4).bind fun v5 h6 =>
 (buildR Prog 191 [(0,v5)] h6).bind fun v7 h8 =>
 (boxR v7 h8).bind fun v9 h10 =>
 (loadR Prog 113 v1 h10).bind fun v11 h12 =>
 (call F.ζb [v11,(.int .i64 16)] h12).bind fun v13 h14 =>
 (binR Prog .shr 3 v13 (.int .u64 30) h14).bind fun v15 h16 =>
 (nilR v9 h16).bind fun v17 h18 =>
 (fieldAddrR Prog 191 v17 1 h18).bind fun v19 h20 =>
 (storeR Prog 3 v19 v15 h20).bind fun _v21 h22 =>
 (nilR v9 h22).bind fun v23 h24 =>
 (fieldAddrR Prog 191 v23 1 h24).bind fun v25 h26 =>
 (loadR Prog 3 v25 h26).bind fun v27 h28 =>
 (binR Prog .neq 3 v27 (.int .i64 1) h28).bind fun v29 h30 =>
 ((bif wantVal v29 true then Res.ok v9 h30 else Res.ok undef h30)).bind fun v31 h32 =>
 ((bif wantVal v29 true then nilR v31 h32 else Res.ok undef h32)).bind fun v33 h34 =>
 ((bif wantVal v29 true then fieldAddrR Prog 191 v33 1 h34 else Res.ok undef h34)).bind fun v35 h36 =>
 ((bif wantVal v29 true then loadR Prog 3 v35 h36 else Res.ok undef h36)).bind fun v37 h38 =>
 ((bif wantVal v29 true then binR Prog .neq 3 v37 (.int .i64 2) h38 else Res.ok undef h38)).bind fun v39 h40 =>
 (condV (some v29) (Res.ok v39 h40) (Res.ok (.bool false) h40)).bind fun v41 h42 =>
 condV (some v41) (
 .ok v9 h42)
 (
 (loadR Prog 113 v1 h42).bind fun v43 h44 =>
 (binR Prog .and 3 v13 (.int .i64 16777215) h44).bind fun v45 h46 =>
 (call F.ζg [v43,v45] h46).bind fun v47 h48 =>
 (nilR v9 h48).bind fun v49 h50 =>
 (fieldAddrR Prog 191 v49 2 h50).bind fun v51 h52 =>
 (storeR Prog 113 v51 v47 h52).bind fun _v53 h54 =>
 (nilR v9 h54).bind fun v55 h56 =>
 (fieldAddrR Prog 191 v55 1 h56).bind fun v57 h58 =>
 (loadR Prog 3 v57 h58).bind fun v59 h60 =>
 (binR Prog .mul 3 (.int .i64 4) v59 h60).bind fun v61 h62 =>
 (nilR v9 h62).bind fun v63 h64 =>
 (fieldAddrR Prog 191 v63 0 h64).bind fun v65 h66 =>
 (loadR Prog 159 v65 h66).bind fun v67 h68 =>
 (call F.ζ11 [v67] h68).bind fun v69 h70 =>
 (builtinV Prog .len [24] [v69] h70).bind fun v71 h72 =>
 (loopN (ζ5g k call) loopFuel [(5,v9),(7,v61),(51,v69),(52,v71),(53,(.int .i64 0))] h72).bind fun r73 h74 =>
 ζar k call r73.1 r73.2 h74)
theorem ζj9 (k:Nat) (a0 a1:Value) (h:Heap):R (T k) F.ζ32 [a0,a1] h = nrm .fz h (ζ32 k (R (T k)) a0 a1 h) :=
 (R_body (t:=T k) (T_scott k) (by kernel_rfl) (by kernel_rfl) _ _).trans (by kernel_rfl)
theorem ζ4i (k:Nat) (call:Caller) (a5 a7 a51 a52 a53:Value) (h:Heap):ζ5g k call [(5,a5),(7,a7),(51,a51),(52,a52),(53,a53)] h =
 (binR Prog .lss 3 a53 a52 h).bind fun v75 h76 =>
 condV (some v75) (
 (indexAddrR Prog 24 a51 a53 h76).bind fun v77 h78 =>
 (loadR Prog 129 v77 h78).bind fun v79 h80 =>
 (allocR Prog 129 h80).bind fun v81 h82 =>
 (storeR Prog 129 v81 v79 h82).bind fun _v83 h84 =>
 (fieldAddrR Prog 129 v81 2 h84).bind fun v85 h86 =>
 (loadR Prog 3 v85 h86).bind fun v87 h88 =>
 (binR Prog .neq 3 v87 (.int .i64 65535) h88).bind fun v89 h90 =>
 condV (some v89) (
 (nilR a5 h90).bindN fun v91 h92 =>
 (fieldAddrR Prog 191 v91 2 h92).bindN fun v93 h94 =>
 (loadR Prog 113 v93 h94).bindN fun v95 h96 =>
 (fieldAddrR Prog 129 v81 2 h96).bindN fun v97 h98 =>
 (loadR Prog 3 v97 h98).bindN fun v99 h100 =>
 (binR Prog .mul 3 a7 v99 h100).bindN fun v101 h102 =>
 (call F.ζy [v95,v101,a7] h102).bindT (fun p105 h106 => .panic p105 h106) fun v103 h104 =>
 ζbo k call a5 a7 a51 a52 a53 h104)
 (
 ζbp k call a5 a7 v81 a51 a52 a53 v89 h90))
 (
 .ok ((.exit 0),[(5,a5),(7,a7),(51,a51),(52,a52),(53,a53),(54,v75)]) h76) :=
 (loopB_eq _ _).trans (by kernel_rfl)
theorem ζd6 (k:Nat) (call:Caller) (a5 a7 a51 a52 a53:Value) (h:Heap):ζbo k call a5 a7 a51 a52 a53 h =
 (binR Prog .add 3 a53 (.int .i64 1) h).bind fun v107 h108 =>
 .ok (.normal,[(5,a5),(7,a7),(51,a51),(52,a52),(53,v107)]) h108:=by kernel_rfl
theorem ζd7 (k:Nat) (call:Caller) (a5 a7 a9 a51 a52 a53 a59:Value) (h:Heap):ζbp k call a5 a7 a9 a51 a52 a53 a59 h =
 (binR Prog .add 3 a53 (.int .i64 1) h).bind fun v109 h110 =>
 .ok (.normal,[(5,a5),(7,a7),(51,a51),(52,a52),(53,v109)]) h110:=by kernel_rfl
theorem ζ7t (k:Nat) (call:Caller) (a5 a7 a51 a52 a53 a54:Value) (h:Heap):ζar k call (.exit 0) [(5,a5),(7,a7),(51,a51),(52,a52),(53,a53),(54,a54)] h =
 .ok a5 h:=by kernel_rfl
def ζ1r (k:Nat) (call:Caller) (a0 a3 a8 a10:Value) (h:Heap):Res Value :=
 kSeq (pieceK (C k) call F.ζ9 [1,1,1,1]) (kDone Prog (resOf Prog F.ζ9)) .normal [(0,a0),(3,a3),(8,a8),(10,a10)] h
def ζ38 (k:Nat) (call:Caller) (a0 a3 a6 a8 a10 a13 a14 a48:Value) (h:Heap):Res Value :=
 kSeq (pieceK (C k) call F.ζ9 [1,1,1,1]) (kDone Prog (resOf Prog F.ζ9)) .normal [(0,a0),(3,a3),(6,a6),(8,a8),(10,a10),(13,a13),(14,a14),(48,a48)] h
def ζ39 (k:Nat) (call:Caller) (a0 a3 a4 a5 a6 a8 a9 a10 a11 a36:Value) (h:Heap):Res Value :=
 kSeq (pieceK (C k) call F.ζ9 [1,1,1,1]) (kDone Prog (resOf Prog F.ζ9)) .normal [(0,a0),(3,a3),(4,a4),(5,a5),(6,a6),(8,a8),(9,a9),(10,a10),(11,a11),(36,a36)] h
def ζ9 (k:Nat) (call:Caller) (a0 a1 a2 a3 a4 a5 a6:Value) (h:Heap):Res Value :=
 (boxR a1 h).bind fun v1 h2 =>
 (loadR Prog 52 a2 h2).bind fun v3 h4 =>
 (call F.ζ2i [v3,a0] h4).bind fun v5 h6 =>
 (extractR v5 0 h6).bind fun v7 h8 =>
 (extractR v5 1 h8).bind fun v9 h10 =>
 (allocR Prog 150 h10).bind fun v11 h12 =>
 (storeR Prog 150 v11 v7 h12).bind fun _v13 h14 =>
 (loadR Prog 52 a2 h14).bind fun v15 h16 =>
 (loadR Prog 3 a3 h16).bind fun v17 h18 =>
 (call F.ζ2i [v15,v17] h18).bind fun v19 h20 =>
 (extractR v19 0 h20).bind fun v21 h22 =>
 (extractR v19 1 h22).bind fun v23 h24 =>
 (allocR Prog 150 h24).bind fun v25 h26 =>
 (storeR Prog 150 v25 v21 h26).bind fun _v27 h28 =>
 (fieldAddrR Prog 129 v1 2 h28).bind fun v29 h30 =>
 (loadR Prog 3 v29 h30).bind fun v31 h32 =>
 (binR Prog .neq 3 v31 (.int .i64 65535) h32).bind fun v33 h34 =>
 ((bif wantVal v33 true then Res.ok v9 h34 else Res.ok undef h34)).bind fun v35 h36 =>
 (condV (some v33) (Res.ok v35 h36) (Res.ok (.bool false) h36)).bind fun v37 h38 =>
 ((bif wantVal v37 true then Res.ok v23 h38 else Res.ok undef h38)).bind fun v39 h40 =>
 (condV (some v37) (Res.ok v39 h40) (Res.ok (.bool false) h40)).bind fun v41 h42 =>
 condV (some v41) (
 (loadR Prog 75 a4 h42).bind fun v43 h44 =>
 (fieldAddrR Prog 129 v1 2 h44).bind fun v45 h46 =>
 (loadR Prog 3 v45 h46).bind fun v47 h48 =>
 (loadR Prog 150 v25 h48).bind fun v49 h50 =>
 (loadR Prog 150 v11 h50).bind fun v51 h52 =>
 (loadR Prog 82 a5 h52).bind fun v53 h54 =>
 (call F.ζf [v43,v47,v49,v51,v53] h54).bind fun v55 h56 =>
 (extractR v55 0 h56).bind fun v57 h58 =>
 (extractR v55 1 h58).bind fun v59 h60 =>
 (extractR v55 2 h60).bind fun v61 h62 =>
 (allocR Prog 195 h62).bind fun v63 h64 =>
 (allocR Prog 195 h64).bind fun v65 h66 =>
 (storeR Prog 195 v63 v57 h66).bind fun _v67 h68 =>
 (storeR Prog 195 v65 v59 h68).bind fun _v69 h70 =>
 condV (some v61) (
 (loadR Prog 49 a6 h70).bind fun v71 h72 =>
 (fieldAddrR Prog 195 v63 0 h72).bind fun v73 h74 =>
 (loadR Prog 3 v73 h74).bind fun v75 h76 =>
 (fieldAddrR Prog 195 v65 0 h76).bind fun v77 h78 =>
 (loadR Prog 3 v77 h78).bind fun v79 h80 =>
 (binR Prog .sub 3 v75 v79 h80).bind fun v81 h82 =>
 (fieldAddrR Prog 195 v63 1 h82).bind fun v83 h84 =>
 (loadR Prog 3 v83 h84).bind fun v85 h86 =>
 (fieldAddrR Prog 195 v65 1 h86).bind fun v87 h88 =>
 (loadR Prog 3 v87 h88).bind fun v89 h90 =>
 (binR Prog .sub 3 v85 v89 h90).bind fun v91 h92 =>
 (call F.ζ1h [v71,a0,v81,v91] h92).bind fun v93 h94 =>
 ζ1r k call a0 a3 v1 v9 h94)
 (
 ζ38 k call a0 a3 a6 v1 v9 v63 v65 v61 h70))
 (
 ζ39 k call a0 a3 a4 a5 a6 v1 v11 v9 v25 v41 h42)
theorem ζ92 (k:Nat) (a0 a1 a2 a3 a4 a5 a6:Value) (h:Heap):R (T k) F.ζ9 [a0,a1,a2,a3,a4,a5,a6] h = nrm .no h (ζ9 k (R (T k)) a0 a1 a2 a3 a4 a5 a6 h) :=
 (R_body (t:=T k) (T_scott k) (by kernel_rfl) (by kernel_rfl) _ _).trans (by kernel_rfl)
theorem ζ1b (k:Nat) (call:Caller) (a0 a3 a8 a10:Value) (h:Heap):ζ1r k call a0 a3 a8 a10 h =
 (fieldAddrR Prog 129 a8 1 h).bind fun v95 h96 =>
 (loadR Prog 3 v95 h96).bind fun v97 h98 =>
 (binR Prog .and 3 v97 (.int .i64 32768) h98).bind fun v99 h100 =>
 (binR Prog .neq 3 v99 (.int .i64 0) h100).bind fun v101 h102 =>
 ((bif wantVal v101 true then Res.ok a10 h102 else Res.ok undef h102)).bind fun v103 h104 =>
 (condV (some v101) (Res.ok v103 h104) (Res.ok (.bool false) h104)).bind fun v105 h106 =>
 condV (some v105) (
 (storeR Prog 3 a3 a0 h106).bind fun _v107 h108 =>
 .ok (.tuple #[]) h108)
 (
 .ok (.tuple #[]) h106):=by kernel_rfl
theorem ζ6w (k:Nat) (call:Caller) (a0 a3 a6 a8 a10 a13 a14 a48:Value) (h:Heap):ζ38 k call a0 a3 a6 a8 a10 a13 a14 a48 h =
 (fieldAddrR Prog 129 a8 1 h).bind fun v109 h110 =>
 (loadR Prog 3 v109 h110).bind fun v111 h112 =>
 (binR Prog .and 3 v111 (.int .i64 32768) h112).bind fun v113 h114 =>
 (binR Prog .neq 3 v113 (.int .i64 0) h114).bind fun v115 h116 =>
 ((bif wantVal v115 true then Res.ok a10 h116 else Res.ok undef h116)).bind fun v117 h118 =>
 (condV (some v115) (Res.ok v117 h118) (Res.ok (.bool false) h118)).bind fun v119 h120 =>
 condV (some v119) (
 (storeR Prog 3 a3 a0 h120).bind fun _v121 h122 =>
 .ok (.tuple #[]) h122)
 (
 .ok (.tuple #[]) h120):=by kernel_rfl
theorem ζ6x (k:Nat) (call:Caller) (a0 a3 a4 a5 a6 a8 a9 a10 a11 a36:Value) (h:Heap):ζ39 k call a0 a3 a4 a5 a6 a8 a9 a10 a11 a36 h =
 (fieldAddrR Prog 129 a8 1 h).bind fun v123 h124 =>
 (loadR Prog 3 v123 h124).bind fun v125 h126 =>
 (binR Prog .and 3 v125 (.int .i64 32768) h126).bind fun v127 h128 =>
 (binR Prog .neq 3 v127 (.int .i64 0) h128).bind fun v129 h130 =>
 ((bif wantVal v129 true then Res.ok a10 h130 else Res.ok undef h130)).bind fun v131 h132 =>
 (condV (some v129) (Res.ok v131 h132) (Res.ok (.bool false) h132)).bind fun v133 h134 =>
 condV (some v133) (
 (storeR Prog 3 a3 a0 h134).bind fun _v135 h136 =>
 .ok (.tuple #[]) h136)
 (
 .ok (.tuple #[]) h134):=by kernel_rfl
def ζ3f (k:Nat) (call:Caller) (a10 a11 a12:Value) (h:Heap):Res Value :=
 kSeq (pieceK (C k) call F.ζf [1,1,1]) (kDone Prog (resOf Prog F.ζf)) .normal [(10,a10),(11,a11),(12,a12)] h
def ζ5e (k:Nat) (call:Caller) (a1 a4 a8 a10 a11 a12 a13 a35:Value) (h:Heap):Res Value :=
 kSeq (pieceK (C k) call F.ζf [1,1,1]) (kDone Prog (resOf Prog F.ζf)) .normal [(1,a1),(4,a4),(8,a8),(10,a10),(11,a11),(12,a12),(13,a13),(35,a35)] h
def ζ5f (k:Nat) (call:Caller) (a1 a10 a11 a12 a13 a48:Value) (h:Heap):Res Value :=
 kSeq (pieceK (C k) call F.ζf [1,1,1]) (kDone Prog (resOf Prog F.ζf)) .normal [(1,a1),(10,a10),(11,a11),(12,a12),(13,a13),(48,a48)] h
def ζf (k:Nat) (call:Caller) (a0 a1 a2 a3 a4:Value) (h:Heap):Res Value :=
 (boxR a2 h).bind fun v1 h2 =>
 (boxR a3 h2).bind fun v3 h4 =>
 (allocR Prog 195 h4).bind fun v5 h6 =>
 (allocR Prog 195 h6).bind fun v7 h8 =>
 (nilR a0 h8).bind fun v9 h10 =>
 (fieldAddrR Prog 191 v9 2 h10).bind fun v11 h12 =>
 (loadR Prog 113 v11 h12).bind fun v13 h14 =>
 (allocR Prog 113 h14).bind fun v15 h16 =>
 (storeR Prog 113 v15 v13 h16).bind fun _v17 h18 =>
 (nilR a0 h18).bind fun v19 h20 =>
 (fieldAddrR Prog 191 v19 1 h20).bind fun v21 h22 =>
 (loadR Prog 3 v21 h22).bind fun v23 h24 =>
 (binR Prog .eql 3 v23 (.int .i64 1) h24).bind fun v25 h26 =>
 condV (some v25) (
 (fieldAddrR Prog 150 v1 0 h26).bindN fun v27 h28 =>
 (loadR Prog 3 v27 h28).bindN fun v29 h30 =>
 (loadR Prog 113 v15 h30).bindN fun v31 h32 =>
 (binR Prog .mul 3 (.int .i64 4) a1 h32).bindN fun v33 h34 =>
 (call F.ζ8 [v31,v33] h34).bindT (fun p37 h38 => .panic p37 h38) fun v35 h36 =>
 (call F.ζz [a4,v29,v35] h36).bindT (fun p41 h42 => chkR ((okVal (loadR Prog 3 v27 h36) v29 && true) && true) (.panic p41 h42)) fun v39 h40 =>
 (extractR v39 0 h40).bindN fun v43 h44 =>
 (extractR v39 1 h44).bindN fun v45 h46 =>
 (storeR Prog 195 v5 v43 h46).bindN fun _v47 h48 =>
 chkR ((okVal (loadR Prog 3 v27 h36) v29 && true) && true) (
 condV (some v45) (
 (fieldAddrR Prog 150 v3 0 h48).bindN fun v49 h50 =>
 (loadR Prog 3 v49 h50).bindN fun v51 h52 =>
 (loadR Prog 113 v15 h52).bindN fun v53 h54 =>
 (binR Prog .mul 3 (.int .i64 4) a1 h54).bindN fun v55 h56 =>
 (binR Prog .add 3 v55 (.int .i64 2) h56).bindN fun v57 h58 =>
 (call F.ζ8 [v53,v57] h58).bindT (fun p61 h62 => .panic p61 h62) fun v59 h60 =>
 (call F.ζz [a4,v51,v59] h60).bindT (fun p65 h66 => chkR ((okVal (loadR Prog 3 v49 h60) v51 && true) && true) (.panic p65 h66)) fun v63 h64 =>
 (extractR v63 0 h64).bindN fun v67 h68 =>
 (extractR v63 1 h68).bindN fun v69 h70 =>
 (storeR Prog 195 v7 v67 h70).bindN fun _v71 h72 =>
 chkR ((okVal (loadR Prog 3 v49 h60) v51 && true) && true) (
 ζ3f k call v5 v7 v69 h72))
 (
 ζ5e k call a1 a4 v3 v5 v7 v45 v15 v45 h48)))
 (
 (binR Prog .eql 3 v23 (.int .i64 2) h26).bind fun v73 h74 =>
 condV (some v73) (
 (loadR Prog 113 v15 h74).bindN fun v75 h76 =>
 (binR Prog .mul 3 (.int .i64 8) a1 h76).bindN fun v77 h78 =>
 (call F.ζ13 [v75,v77] h78).bindT (fun p81 h82 => (loadR Prog 113 v15 h78).bindN fun v83 h84 => (binR Prog .mul 3 (.int .i64 8) a1 h84).bindN fun v85 h86 => (binR Prog .add 3 v85 (.int .i64 2) h86).bindN fun v87 h88 => chkR ((okVal (loadR Prog 113 v15 h74) v83 && true) && true) (.panic p81 h82)) fun v79 h80 =>
 (loadR Prog 113 v15 h80).bindN fun v89 h90 =>
 (binR Prog .mul 3 (.int .i64 8) a1 h90).bindN fun v91 h92 =>
 (binR Prog .add 3 v91 (.int .i64 2) h92).bindN fun v93 h94 =>
 (call F.ζ13 [v89,v93] h94).bindT (fun p97 h98 => chkR ((okVal (loadR Prog 113 v15 h74) v89 && true) && true) (.panic p97 h98)) fun v95 h96 =>
 (buildR Prog 195 [(0,v79),(1,v95)] h96).bindN fun v99 h100 =>
 (storeR Prog 195 v5 v99 h100).bindN fun _v101 h102 =>
 chkR ((okVal (loadR Prog 113 v15 h74) v89 && true) && true) (
 (loadR Prog 113 v15 h102).bindN fun v103 h104 =>
 (binR Prog .mul 3 (.int .i64 8) a1 h104).bindN fun v105 h106 =>
 (binR Prog .add 3 v105 (.int .i64 4) h106).bindN fun v107 h108 =>
 (call F.ζ13 [v103,v107] h108).bindT (fun p111 h112 => (loadR Prog 113 v15 h108).bindN fun v113 h114 => (binR Prog .mul 3 (.int .i64 8) a1 h114).bindN fun v115 h116 => (binR Prog .add 3 v115 (.int .i64 6) h116).bindN fun v117 h118 => chkR ((okVal (loadR Prog 113 v15 h102) v113 && true) && true) (.panic p111 h112)) fun v109 h110 =>
 (loadR Prog 113 v15 h110).bindN fun v119 h120 =>
 (binR Prog .mul 3 (.int .i64 8) a1 h120).bindN fun v121 h122 =>
 (binR Prog .add 3 v121 (.int .i64 6) h122).bindN fun v123 h124 =>
 (call F.ζ13 [v119,v123] h124).bindT (fun p127 h128 => chkR ((okVal (loadR Prog 113 v15 h102) v119 && true) && true) (.panic p127 h128)) fun v125 h126 =>
 (buildR Prog 195 [(0,v109),(1,v125)] h126).bindN fun v129 h130 =>
 (storeR Prog 195 v7 v129 h130).bindN fun _v131 h132 =>
 chkR ((okVal (loadR Prog 113 v15 h102) v119 && true) && true) (
 ζ3f k call v5 v7 (.bool true) h132)))
 (
 ζ5f k call a1 v5 v7 (.bool false) v15 v73 h74))
theorem ζ9i (k:Nat) (a0 a1 a2 a3 a4:Value) (h:Heap):R (T k) F.ζf [a0,a1,a2,a3,a4] h = nrm .gc h (ζf k (R (T k)) a0 a1 a2 a3 a4 h) :=
 (R_body (t:=T k) (T_scott k) (by kernel_rfl) (by kernel_rfl) _ _).trans (by kernel_rfl)
theorem ζ2o (k:Nat) (call:Caller) (a10 a11 a12:Value) (h:Heap):ζ3f k call a10 a11 a12 h =
 (loadR Prog 195 a10 h).bindN fun v133 h134 =>
 (loadR Prog 195 a11 h134).bindN fun v135 h136 =>
 (storeR Prog 195 a10 v133 h136).bindN fun _v137 h138 =>
 (storeR Prog 195 a11 v135 h138).bindN fun _v139 h140 =>
 chkR ((okVal (loadR Prog 195 a11 h138) v135 && true) && true) (
 (loadR Prog 195 a10 h140).bind fun v141 h142 =>
 (loadR Prog 195 a11 h142).bind fun v143 h144 =>
 .ok (.tuple #[v141,v143,a12]) h144):=by kernel_rfl
theorem ζ7f (k:Nat) (call:Caller) (a1 a4 a8 a10 a11 a12 a13 a35:Value) (h:Heap):ζ5e k call a1 a4 a8 a10 a11 a12 a13 a35 h =
 (loadR Prog 195 a10 h).bindN fun v145 h146 =>
 (loadR Prog 195 a11 h146).bindN fun v147 h148 =>
 (storeR Prog 195 a10 v145 h148).bindN fun _v149 h150 =>
 (storeR Prog 195 a11 v147 h150).bindN fun _v151 h152 =>
 chkR ((okVal (loadR Prog 195 a11 h150) v147 && true) && true) (
 (loadR Prog 195 a10 h152).bind fun v153 h154 =>
 (loadR Prog 195 a11 h154).bind fun v155 h156 =>
 .ok (.tuple #[v153,v155,a12]) h156):=by kernel_rfl
theorem ζ7g (k:Nat) (call:Caller) (a1 a10 a11 a12 a13 a48:Value) (h:Heap):ζ5f k call a1 a10 a11 a12 a13 a48 h =
 (loadR Prog 195 a10 h).bindN fun v157 h158 =>
 (loadR Prog 195 a11 h158).bindN fun v159 h160 =>
 (storeR Prog 195 a10 v157 h160).bindN fun _v161 h162 =>
 (storeR Prog 195 a11 v159 h162).bindN fun _v163 h164 =>
 chkR ((okVal (loadR Prog 195 a11 h162) v159 && true) && true) (
 (loadR Prog 195 a10 h164).bind fun v165 h166 =>
 (loadR Prog 195 a11 h166).bind fun v167 h168 =>
 .ok (.tuple #[v165,v167,a12]) h168):=by kernel_rfl
end
end Go.Sw
end
section
namespace Go.Sw
open Go.RowKit
abbrev bindC (t:BTab):List Value:=[machV t.m,.int .i64 t.kind,lv encB t.acts]
abbrev bindV (t:BTab):Value:=boxV (bindC t).toArray
theorem Flat.bind (t:BTab):Flat (bindV t):=.boxV (.cons (Flat.mach t.m) (.cons (.int _ _) (.cons (Flat.B _) .nil)))
theorem shr30 (P:Program) (t:TypeId) (H:Heap) {a:Int} (h0:0 ≤ a) (h1:a < 4294967296):binR P .shr t (.int .i64 a) (.int .u64 30) H = .ok (.int .i64 (a / 1073741824)) H:=by
 unfold binR;simp [binV,shiftV,IntKind.signed,IntKind.bits];exact Int.fdiv_eq_ediv_of_nonneg _ (by decide)
theorem ζj8 (k:Nat) {vs:List Int} (hb:Byt vs) (hl:vs.length < 2 ^ 31) {p:Nat} {kd:Int} (hkd:kd = 1 ∨ kd = 2) {es:List En} (hes:∀ e,e ∈ es → 0 ≤ e.a ∧ e.a < 65536) (hel:es.length < 2 ^ 40) {m c:Value} {H:Heap} (hp:H.get p = some ⟨[m,c,lv encB vs],1,false⟩) :
  (∃ z H',loopN (ζ5g k (R (T k))) loopFuel [(5,ptrV p),(7,.int .i64 (4 * kd)),(51,lv encEn es),(52,.int .i64 es.length),(53,.int .i64 0)] H = .ok (.exit 0,[(5,ptrV p),(7,.int .i64 (4 * kd)),(51,lv encEn es),(52,.int .i64 es.length),(53,z),(54,.bool false)]) H' ∧ Ext H H' ∧ es.all (entAct kd vs) = true) ∨
  (∃ H',loopN (ζ5g k (R (T k))) loopFuel [(5,ptrV p),(7,.int .i64 (4 * kd)),(51,lv encEn es),(52,.int .i64 es.length),(53,.int .i64 0)] H = .panic failV H' ∧ Ext H H' ∧ es.all (entAct kd vs) = false):=by
 rcases loop_upP (body:=ζ5g k (R (T k))) es.length
  (fun j e' H' => e' = [(5,ptrV p),(7,.int .i64 (4 * kd)),(51,lv encEn es),(52,.int .i64 es.length),(53,.int .i64 j)] ∧ Ext H H' ∧ (es.take j).all (entAct kd vs) = true)
  (fun xx e' H' => xx = .exit 0 ∧ (∃ z,e' = [(5,ptrV p),(7,.int .i64 (4 * kd)),(51,lv encEn es),(52,.int .i64 es.length),(53,z),(54,.bool false)]) ∧ Ext H H' ∧ es.all (entAct kd vs) = true)
  (fun v H' => v = failV ∧ Ext H H' ∧ es.all (entAct kd vs) = false)
  (fun j e' H' hj ⟨he',hx,hall⟩ => by
   subst he';have hjl:(j:Int) < es.length:=by omega
   obtain ⟨en,hen⟩:∃ en,es[j]? = some en:=⟨_,List.getElem?_eq_getElem hj⟩
   have hmem:=List.mem_of_getElem? hen;have i1:=fun H' => ixS_lvN ζ58 es .i64 j en hen H';have hx2:Ext H (H'.push ⟨encEn en,1,false⟩):=hx.push _;have hea:=hes en hmem;have hp2:=hx2.get hp;have hq:(H'.push ⟨encEn en,1,false⟩).get H'.n = some ⟨encEn en,1,false⟩:=ζd _ _ _ rfl;have hne:¬ p = H'.n:=by have:=Heap.get_lt (hx.get hp); omega
   have hp1:=hx.get hp;by_cases c1:en.a = 65535
   ·have c1':(en.a != 65535) = false:=by rw [c1]; rfl
    refine .inl ⟨_,_,?_,rfl,hx2,?_⟩
    ·rw [ζ4i];simp -implicitDefEqProofs (disch:=omega) [hjl,i1,c1',ζd7]
    ·rw [ζ2j hen,List.all_append,hall];simp [entAct,c1]
   ·have c1':(en.a != 65535) = true:=by rw [bne_iff_ne]; exact c1
    have hcut:=fun H' => Cut_lv k vs (4 * kd * en.a) (4 * kd) (by omega) H';have hE:entAct kd vs en = (pieceS vs (4 * kd * en.a) (4 * kd)).isSome:=by unfold entAct; rw [decide_eq_false c1]; rfl
    have w1:IntKind.i64.wrap (4 * kd * en.a) = 4 * kd * en.a:=by
     rcases hkd with rfl | rfl <;> exact wrap_i64 (by omega) (by omega)
    cases hpc:pieceS vs (4 * kd * en.a) (4 * kd) with
    | none =>
     rw [hpc] at hcut hE;refine .inr (.inr ⟨failV,_,?_,rfl,hx2,?_⟩)
     ·rw [ζ4i];simp -implicitDefEqProofs (disch:=omega) [hjl,i1,c1',hne,hp1,w1,hcut,orF]
     ·rw [Bool.eq_false_iff];intro h;have:=List.all_eq_true.1 h en hmem;rw [hE] at this;cases this
    | some r =>
     rw [hpc] at hcut hE;refine .inl ⟨_,_,?_,rfl,hx2,?_⟩
     ·rw [ζ4i];simp -implicitDefEqProofs (disch:=omega) [hjl,i1,c1',hne,hp1,w1,hcut,orF,ζd6]
     ·rw [ζ2j hen,List.all_append,hall];simp [hE])
  (fun e' H' ⟨he',hx,hall⟩ => by
   subst he';rw [List.take_length] at hall;refine .inl ⟨.exit 0,_,H',?_,by simp,rfl,⟨.int .i64 es.length,rfl⟩,hx,hall⟩;rw [ζ4i];simp -implicitDefEqProofs) loopFuel 0 [(5,ptrV p),(7,.int .i64 (4 * kd)),(51,lv encEn es),(52,.int .i64 es.length),(53,.int .i64 0)] H (Nat.zero_le _) (by unfold loopFuel; omega) ⟨rfl,Ext.refl _,rfl⟩ with ⟨xx,e',H1,hr,rfl,⟨z,rfl⟩,hx,hE⟩ | ⟨v,H1,hr,rfl,hx,hE⟩
 ·exact .inl ⟨z,H1,hr,hx,hE⟩
 ·exact .inr ⟨H1,hr,hx,hE⟩
theorem ζhe (k:Nat) (hk:k < 1000000) (b:List Int) (hb:Byt b) (g:Int) (hg:1 ≤ g ∧ g ≤ 65535) (hl:b.length < 2 ^ 31) (H:Heap):R (T k) F.ζ32 [vwB b,.int .i64 g] H = orF (bindS b g) bindV H:=by
 rw [ζj9];have hx:Ext H (H.push ⟨[lv encB b],1,false⟩):=(Ext.refl H).push _;have hvb:veq (vwB b) (vwB b) = true:=veq_agg (l:=[lv encB b]) fun u hu => by simp at hu; subst hu; exact veq_B b
 refine fz_orF ?_ fun _ _ => (Flat.bind _).alive;unfold bindS;simp -implicitDefEqProofs (disch:=omega) [ζ32];refine Cp.callT (ζgz k (Sl.lv _ 1 b) hb g 1 hg.1 hg.2 (.inr (.inl rfl)) hl) (fun _ => ⟨_,by simp -implicitDefEqProofs (disch:=omega) [hvb],hx⟩) fun m hm => ?_;have hok:=machS_ok hb hg.1 hg.2 (by omega) hm;simp -implicitDefEqProofs (disch:=omega) [hvb];have hx1:=hx.push ⟨[machV m,.int .i64 0,.slice none 0 0],1,false⟩;refine Cp.callT (U32_run k (Sl.lv _ 1 b) hb 16 (by omega)) (fun _ => ⟨_,by simp -implicitDefEqProofs (disch:=omega) [hvb],hx1⟩) fun w hw => ?_;have hwb:=uS_four hb hw;have sh:=fun H => shr30 Prog 3 H hwb.1 hwb.2;have an:=fun H => and24 Prog 3 H hwb.1 hwb.2;have hx2:=fun kd => hx.push ⟨[machV m,.int .i64 kd,.slice none 0 0],1,false⟩;generalize hkd:w / 1073741824 = kd at sh ⊢;by_cases hc:kd = 1 ∨ kd = 2;rotate_left
 ·rw [if_neg hc];have c1:(kd != 1) = true:=by rw [bne_iff_ne]; omega
  have c2:(kd != 2) = true:=by rw [bne_iff_ne]; omega
  simp -implicitDefEqProofs (disch:=omega) [sh,c1,c2];refine .ok (hx2 kd) ?_;exact ⟨_,fz_box (by omega) (ζd _ _ _ (by simp)) (ζ1s (v:=machV m) (u:=machV m) (L1:=[]) rfl (ζ1s (v:=.int .i64 kd) (u:=.int .i64 kd) (L1:=[]) rfl (mapF_one (v:=.slice none 0 0) (u:=lv encB []) (L:=[]) rfl)))⟩
 ·rw [if_pos hc];have hrest:=fun H' => Rest_lv k b (w % 16777216) (by omega) (by omega) H';have d:(kd = 1 ∧ (kd != 1) = false) ∨ (kd = 2 ∧ (kd != 1) = true ∧ (kd != 2) = false):=by
   rcases hc with rfl | rfl
   ·exact .inl ⟨rfl,rfl⟩
   ·exact .inr ⟨rfl,rfl,rfl⟩
  cases hr:restS b (w % 16777216) with
  | none =>
   rw [hr] at hrest;rcases d with ⟨rfl,d1⟩ | ⟨rfl,d1,d2⟩
   ·simp -implicitDefEqProofs (disch:=omega) [sh,an,hvb,hrest,orF];exact ⟨_,rfl,hx2 1⟩
   ·simp -implicitDefEqProofs (disch:=omega) [sh,an,hvb,hrest,orF];exact ⟨_,rfl,hx2 2⟩
  | some sb =>
   rw [hr] at hrest;have lsb:=ζ4l hr;have hent:=fun H' => ζj0 k hk m hok.elen H';have hes:∀ e,e ∈ m.ents → 0 ≤ e.a ∧ e.a < 65536:=fun e he => by have:=hok.ent e he; omega
   have hx3:Ext H ((H.push ⟨[lv encB b],1,false⟩).push ⟨[machV m,.int .i64 kd,lv encB sb],1,false⟩):=hx.push _;have hpg:((H.push ⟨[lv encB b],1,false⟩).push ⟨[machV m,.int .i64 kd,lv encB sb],1,false⟩).get (H.n + 1) = some ⟨[machV m,.int .i64 kd,lv encB sb],1,false⟩:=ζd _ _ _ (by simp);have e2:=ζj8 k (hb.rest hr) (by omega) hc hes (by have:=hok.elen; omega) hpg;simp only [Option.bind_some]
   have fin:∀ {R0:Res Value},((∃ H2,R0 = .ok (ptrV (H.n + 1)) H2 ∧ Ext _ H2 ∧ m.ents.all (entAct kd sb) = true) ∨ (∃ H2,R0 = .panic failV H2 ∧ Ext ((H.push ⟨[lv encB b],1,false⟩).push ⟨[machV m,.int .i64 kd,lv encB sb],1,false⟩) H2 ∧ m.ents.all (entAct kd sb) = false)) →
     Cp failV (Ext H) R0 (if ∀ x,x ∈ m.ents → entAct kd sb x = true then some ⟨m,kd,sb⟩ else none) fun b v H' => ∃ L,fzV H.n H' fzDepth v = some (bindV b,L):=fun {R0} h => by
    rcases h with ⟨H2,rfl,hx4,hall⟩ | ⟨H2,rfl,hx4,hall⟩
    ·rw [if_pos (List.all_eq_true.1 hall)];refine .ok (hx3.trans hx4) ?_;exact ⟨_,fz_box (by omega) (hx4.get hpg) (ζ1s (v:=machV m) (u:=machV m) (L1:=[]) rfl (ζ1s (v:=.int .i64 kd) (u:=.int .i64 kd) (L1:=[]) rfl (mapF_one (v:=lv encB sb) (u:=lv encB sb) (L:=[]) rfl)))⟩
    ·rw [if_neg (fun hc => by rw [List.all_eq_true.2 hc] at hall; cases hall)];exact ⟨H2,rfl,hx3.trans hx4⟩
   refine fin ?_
   rcases d with ⟨rfl,d1⟩ | ⟨rfl,d1,d2⟩ <;>
    rcases e2 with ⟨z,H2,e2,hx4,hall⟩ | ⟨H2,e2,hx4,hall⟩
   ·refine .inl ⟨H2,?_,hx4,hall⟩;simp at e2;simp -implicitDefEqProofs (disch:=omega) [sh,an,hvb,hrest,orF,hent,e2,ζ7t]
   ·refine .inr ⟨H2,?_,hx4,hall⟩;simp at e2;simp -implicitDefEqProofs (disch:=omega) [sh,an,hvb,hrest,orF,hent,e2]
   ·refine .inl ⟨H2,?_,hx4,hall⟩;simp at e2;simp -implicitDefEqProofs (disch:=omega) [sh,an,hvb,hrest,orF,hent,e2,ζ7t]
   ·refine .inr ⟨H2,?_,hx4,hall⟩;simp at e2;simp -implicitDefEqProofs (disch:=omega) [sh,an,hvb,hrest,orF,hent,e2]
end Go.Sw
end
section
namespace Go.Sw
open Go.RowKit
def bindP (o:Option BTab):Value:=match o with | some t => bindV t | none => .pointer none
def bindN (b:List Int) (g:Int):Int:=if 1 ≤ g ∧ g ≤ 65535 then (if (bindS b g).isSome then 0 else 2) else 1
end Go.Sw
end
section
set_option maxRecDepth 100000
set_option linter.unusedVariables false
namespace Go.Sw
noncomputable section
def ζ57 (k:Nat) (call:Caller) (a0 a1:Value) (h:Heap):Res Value :=
 (boxR a1 h).bind fun v1 h2 =>
 (allocR Prog 82 h2).bind fun v3 h4 =>
 (loadR Prog 3 v1 h4).bind fun v5 h6 =>
 (binR Prog .lss 3 v5 (.int .i64 1) h6).bind fun v7 h8 =>
 ((bif wantVal v7 false then loadR Prog 3 v1 h8 else Res.ok undef h8)).bind fun v9 h10 =>
 ((bif wantVal v7 false then binR Prog .gtr 3 v9 (.int .i64 65535) h10 else Res.ok undef h10)).bind fun v11 h12 =>
 (condV (some v7) (Res.ok (.bool true) h12) (Res.ok v11 h12)).bind fun v13 h14 =>
 condV (some v13) (
 (storeR Prog 82 v3 (.pointer none) h14).bind fun _v15 h16 =>
 (loadR Prog 82 v3 h16).bind fun v17 h18 =>
 .ok (.tuple #[v17,(.int .i64 1)]) h18)
 (
 (call F.view_Of [a0] h14).bind fun v19 h20 =>
 (call F.ζ28 [v19] h20).bind fun v21 h22 =>
 (call F.view_Of [v21] h22).bind fun v23 h24 =>
 (allocR Prog 113 h24).bind fun v25 h26 =>
 (storeR Prog 113 v25 v23 h26).bind fun _v27 h28 =>
 (call F.view_Try [(.func (.func F.ζ21) #[] #[v25,v1,v3])] h28).bind fun v29 h30 =>
 (unR .not v29 h30).bind fun v31 h32 =>
 condV (some v31) (
 (storeR Prog 82 v3 (.pointer none) h32).bind fun _v33 h34 =>
 (loadR Prog 82 v3 h34).bind fun v35 h36 =>
 .ok (.tuple #[v35,(.int .i64 2)]) h36)
 (
 (loadR Prog 82 v3 h32).bind fun v37 h38 =>
 (storeR Prog 82 v3 v37 h38).bind fun _v39 h40 =>
 (loadR Prog 82 v3 h40).bind fun v41 h42 =>
 .ok (.tuple #[v41,(.int .i64 0)]) h42))
theorem ζj6 (k:Nat) (a0 a1:Value) (h:Heap):R (T k) F.ζ57 [a0,a1] h = nrm .fz h (ζ57 k (R (T k)) a0 a1 h) :=
 (R_body (t:=T k) (T_scott k) (by kernel_rfl) (by kernel_rfl) _ _).trans (by kernel_rfl)
def ζ21 (k:Nat) (call:Caller) (a0 a1 a2:Value) (h:Heap):Res Value :=
 (loadR Prog 113 a0 h).bind fun v1 h2 =>
 (loadR Prog 3 a1 h2).bind fun v3 h4 =>
 (call F.ζ0 [v1,v3] h4).bind fun v5 h6 =>
 (storeR Prog 82 a2 v5 h6).bind fun _v7 h8 =>
 .ok (.tuple #[]) h8
theorem ζd5 (k:Nat) (a0 a1 a2:Value) (h:Heap):R (T k) F.ζ21 [a0,a1,a2] h = nrm .no h (ζ21 k (R (T k)) a0 a1 a2 h) :=
 (R_body (t:=T k) (T_scott k) (by kernel_rfl) (by kernel_rfl) _ _).trans (by kernel_rfl)
def ζh9 (k:Nat) (call:Caller):Env → Heap → Res AExit:=rangeB CI call F.ζ0 [1,1,1,1,0,1,0,0] [1,1,1,1,0,1,0,1]
def ζfi (k:Nat) (call:Caller):Kont Value:=kBlock 0 (kSeq (pieceK CI call F.ζ0 [1,1,1,1,1]) (kDone Prog (resOf Prog F.ζ0)))
def ζ0 (k:Nat) (call:Caller) (a0 a1:Value) (h:Heap):Res Value :=
 (boxR a0 h).bind fun v1 h2 =>
 (loadR Prog 113 v1 h2).bind fun v3 h4 =>
 (call F.ζ8 [v3,(.int .i64 0)] h4).bind fun v5 h6 =>
 (binR Prog .eql 3 v5 (.int .i64 0) h6).bind fun v7 h8 =>
 (call F.ζ1n [v7] h8).bind fun v9 h10 =>
 (loadR Prog 113 v1 h10).bindN fun v11 h12 =>
 (loadR Prog 113 v1 h12).bindN fun v13 h14 =>
 (call F.ζb [v13,(.int .i64 4)] h14).bindT (fun p17 h18 => (loadR Prog 113 v1 h14).bindN fun v19 h20 => (loadR Prog 113 v1 h20).bindN fun v21 h22 => (allocR Prog 82 h22).bindN fun v23 h24 => chkR ((okVal (loadR Prog 113 v1 h10) v19 && true) && ((okVal (loadR Prog 113 v1 h10) v21 && true) && true)) (.panic p17 h18)) fun v15 h16 =>
 (call F.ζg [v11,v15] h16).bindT (fun p27 h28 => (loadR Prog 113 v1 h16).bindN fun v29 h30 => (loadR Prog 113 v1 h30).bindN fun v31 h32 => (allocR Prog 82 h32).bindN fun v33 h34 => chkR ((okVal (loadR Prog 113 v1 h16) v11 && true) && ((okVal (loadR Prog 113 v1 h10) v29 && (okVal (loadR Prog 113 v1 h16) v29 && true)) && ((okVal (loadR Prog 113 v1 h10) v31 && (okVal (loadR Prog 113 v1 h16) v31 && true)) && true))) (.panic p27 h28)) fun v25 h26 =>
 (call F.ζ1g [v25,a1,(.int .i64 2)] h26).bindT (fun p37 h38 => (loadR Prog 113 v1 h26).bindN fun v39 h40 => (loadR Prog 113 v1 h40).bindN fun v41 h42 => (allocR Prog 82 h42).bindN fun v43 h44 => chkR ((okVal (loadR Prog 113 v1 h16) v11 && true) && ((okVal (loadR Prog 113 v1 h10) v39 && (okVal (loadR Prog 113 v1 h16) v39 && (okVal (loadR Prog 113 v1 h26) v39 && true))) && ((okVal (loadR Prog 113 v1 h10) v41 && (okVal (loadR Prog 113 v1 h16) v41 && (okVal (loadR Prog 113 v1 h26) v41 && true))) && true))) (.panic p37 h38)) fun v35 h36 =>
 (loadR Prog 113 v1 h36).bindN fun v45 h46 =>
 (loadR Prog 113 v1 h46).bindN fun v47 h48 =>
 (call F.ζb [v47,(.int .i64 8)] h48).bindT (fun p51 h52 => (allocR Prog 82 h48).bindN fun v53 h54 => chkR ((okVal (loadR Prog 113 v1 h16) v11 && true) && ((okVal (loadR Prog 113 v1 h10) v45 && (okVal (loadR Prog 113 v1 h16) v45 && (okVal (loadR Prog 113 v1 h26) v45 && true))) && ((okVal (loadR Prog 113 v1 h10) v47 && (okVal (loadR Prog 113 v1 h16) v47 && (okVal (loadR Prog 113 v1 h26) v47 && true))) && true))) (.panic p51 h52)) fun v49 h50 =>
 (call F.ζg [v45,v49] h50).bindT (fun p57 h58 => (allocR Prog 82 h50).bindN fun v59 h60 => chkR ((okVal (loadR Prog 113 v1 h16) v11 && true) && ((okVal (loadR Prog 113 v1 h10) v45 && (okVal (loadR Prog 113 v1 h16) v45 && (okVal (loadR Prog 113 v1 h26) v45 && (okVal (loadR Prog 113 v1 h50) v45 && true)))) && ((okVal (loadR Prog 113 v1 h10) v47 && (okVal (loadR Prog 113 v1 h16) v47 && (okVal (loadR Prog 113 v1 h26) v47 && true))) && true))) (.panic p57 h58)) fun v55 h56 =>
 (buildR Prog 115 [(0,v35),(1,v55)] h56).bindN fun v61 h62 =>
 (boxR v61 h62).bindN fun v63 h64 =>
 (allocR Prog 82 h64).bindN fun v65 h66 =>
 (storeR Prog 82 v65 v63 h66).bindN fun _v67 h68 =>
 chkR ((okVal (loadR Prog 113 v1 h16) v11 && true) && ((okVal (loadR Prog 113 v1 h10) v45 && (okVal (loadR Prog 113 v1 h16) v45 && (okVal (loadR Prog 113 v1 h26) v45 && (okVal (loadR Prog 113 v1 h50) v45 && true)))) && ((okVal (loadR Prog 113 v1 h10) v47 && (okVal (loadR Prog 113 v1 h16) v47 && (okVal (loadR Prog 113 v1 h26) v47 && true))) && true))) (
 ((.stuck:Res Value)).bind fun v69 h70 =>
 (allocR Prog 235 h70).bind fun v71 h72 =>
 (storeR Prog 235 v71 v69 h72).bind fun _v73 h74 =>
 (loadR Prog 82 v65 h74).bind fun v75 h76 =>
 (nilR v75 h76).bind fun v77 h78 =>
 (fieldAddrR Prog 115 v77 0 h78).bind fun v79 h80 =>
 (loadR Prog 111 v79 h80).bind fun v81 h82 =>
 (call F.ζ1v [v81] h82).bind fun v83 h84 =>
 ((opt (itS v83 h84) h84).bind fun l85 h86 => rangeN (ζh9 k call) [33,34] [(4,(.pointer none)),(5,v65),(6,v71)] l85 h86).bind fun r87 h88 =>
 ζfi k call r87.1 r87.2 h88)
theorem ζha {β:Type} (k:Nat) (call:Caller) (a0 a1:Value) (h:Heap) (K:Kont β):pieceK CI call F.ζ0 [0] [(0,a0),(1,a1)] h K =
 (  (boxR a0 h).bind fun v1 h2 =>
 K .normal [(1,a1),(2,v1),(4,(.pointer none))] h2):=by kernel_rfl
theorem ζhb {β:Type} (k:Nat) (call:Caller) (a1 v1:Value) (h2:Heap) (K:Kont β):pieceK CI call F.ζ0 [1,0] [(1,a1),(2,v1),(4,(.pointer none))] h2 K =
 (  (loadR Prog 113 v1 h2).bind fun v3 h4 =>
 (call F.ζ8 [v3,(.int .i64 0)] h4).bind fun v5 h6 =>
 (binR Prog .eql 3 v5 (.int .i64 0) h6).bind fun v7 h8 =>
 (call F.ζ1n [v7] h8).bind fun v9 h10 =>
 K .normal [(1,a1),(2,v1),(4,(.pointer none))] h10):=by kernel_rfl
theorem ζhc {β:Type} (k:Nat) (call:Caller) (a1 v1:Value) (h10:Heap) (K:Kont β):pieceK CI call F.ζ0 [1,1,0] [(1,a1),(2,v1),(4,(.pointer none))] h10 K =
 (  (loadR Prog 113 v1 h10).bindN fun v11 h12 =>
 (loadR Prog 113 v1 h12).bindN fun v13 h14 =>
 (call F.ζb [v13,(.int .i64 4)] h14).bindT (fun p17 h18 => (loadR Prog 113 v1 h14).bindN fun v19 h20 => (loadR Prog 113 v1 h20).bindN fun v21 h22 => (allocR Prog 82 h22).bindN fun v23 h24 => chkR ((okVal (loadR Prog 113 v1 h10) v19 && true) && ((okVal (loadR Prog 113 v1 h10) v21 && true) && true)) (.panic p17 h18)) fun v15 h16 =>
 (call F.ζg [v11,v15] h16).bindT (fun p27 h28 => (loadR Prog 113 v1 h16).bindN fun v29 h30 => (loadR Prog 113 v1 h30).bindN fun v31 h32 => (allocR Prog 82 h32).bindN fun v33 h34 => chkR ((okVal (loadR Prog 113 v1 h16) v11 && true) && ((okVal (loadR Prog 113 v1 h10) v29 && (okVal (loadR Prog 113 v1 h16) v29 && true)) && ((okVal (loadR Prog 113 v1 h10) v31 && (okVal (loadR Prog 113 v1 h16) v31 && true)) && true))) (.panic p27 h28)) fun v25 h26 =>
 (call F.ζ1g [v25,a1,(.int .i64 2)] h26).bindT (fun p37 h38 => (loadR Prog 113 v1 h26).bindN fun v39 h40 => (loadR Prog 113 v1 h40).bindN fun v41 h42 => (allocR Prog 82 h42).bindN fun v43 h44 => chkR ((okVal (loadR Prog 113 v1 h16) v11 && true) && ((okVal (loadR Prog 113 v1 h10) v39 && (okVal (loadR Prog 113 v1 h16) v39 && (okVal (loadR Prog 113 v1 h26) v39 && true))) && ((okVal (loadR Prog 113 v1 h10) v41 && (okVal (loadR Prog 113 v1 h16) v41 && (okVal (loadR Prog 113 v1 h26) v41 && true))) && true))) (.panic p37 h38)) fun v35 h36 =>
 (loadR Prog 113 v1 h36).bindN fun v45 h46 =>
 (loadR Prog 113 v1 h46).bindN fun v47 h48 =>
 (call F.ζb [v47,(.int .i64 8)] h48).bindT (fun p51 h52 => (allocR Prog 82 h48).bindN fun v53 h54 => chkR ((okVal (loadR Prog 113 v1 h16) v11 && true) && ((okVal (loadR Prog 113 v1 h10) v45 && (okVal (loadR Prog 113 v1 h16) v45 && (okVal (loadR Prog 113 v1 h26) v45 && true))) && ((okVal (loadR Prog 113 v1 h10) v47 && (okVal (loadR Prog 113 v1 h16) v47 && (okVal (loadR Prog 113 v1 h26) v47 && true))) && true))) (.panic p51 h52)) fun v49 h50 =>
 (call F.ζg [v45,v49] h50).bindT (fun p57 h58 => (allocR Prog 82 h50).bindN fun v59 h60 => chkR ((okVal (loadR Prog 113 v1 h16) v11 && true) && ((okVal (loadR Prog 113 v1 h10) v45 && (okVal (loadR Prog 113 v1 h16) v45 && (okVal (loadR Prog 113 v1 h26) v45 && (okVal (loadR Prog 113 v1 h50) v45 && true)))) && ((okVal (loadR Prog 113 v1 h10) v47 && (okVal (loadR Prog 113 v1 h16) v47 && (okVal (loadR Prog 113 v1 h26) v47 && true))) && true))) (.panic p57 h58)) fun v55 h56 =>
 (buildR Prog 115 [(0,v35),(1,v55)] h56).bindN fun v61 h62 =>
 (boxR v61 h62).bindN fun v63 h64 =>
 (allocR Prog 82 h64).bindN fun v65 h66 =>
 (storeR Prog 82 v65 v63 h66).bindN fun _v67 h68 =>
 chkR ((okVal (loadR Prog 113 v1 h16) v11 && true) && ((okVal (loadR Prog 113 v1 h10) v45 && (okVal (loadR Prog 113 v1 h16) v45 && (okVal (loadR Prog 113 v1 h26) v45 && (okVal (loadR Prog 113 v1 h50) v45 && true)))) && ((okVal (loadR Prog 113 v1 h10) v47 && (okVal (loadR Prog 113 v1 h16) v47 && (okVal (loadR Prog 113 v1 h26) v47 && true))) && true))) (
 K .normal [(4,(.pointer none)),(5,v65)] h68)):=by kernel_rfl
theorem ζfj {β:Type} (k:Nat) (call:Caller) (v65 v71:Value) (h74:Heap) (K:Kont β):pieceK CI call F.ζ0 [1,1,1,1,0,0] [(4,(.pointer none)),(5,v65),(6,v71)] h74 K =
 (  (loadR Prog 82 v65 h74).bind fun v75 h76 =>
 (nilR v75 h76).bind fun v77 h78 =>
 (fieldAddrR Prog 115 v77 0 h78).bind fun v79 h80 =>
 (loadR Prog 111 v79 h80).bind fun v81 h82 =>
 (call F.ζ1v [v81] h82).bind fun v83 h84 =>
 K .normal [(4,(.pointer none)),(5,v65),(6,v71),(32,v83)] h84):=by kernel_rfl
theorem ζfk {β:Type} (k:Nat) (call:Caller) (a4 a5 a6 a33 a34:Value) (h:Heap) (K:Kont β):pieceK CI call F.ζ0 [1,1,1,1,0,1,0,0] [(4,a4),(5,a5),(6,a6),(33,a33),(34,a34)] h K =
 (  K .normal [(5,a5),(6,a6),(8,a34)] h):=by kernel_rfl
theorem ζao {β:Type} (k:Nat) (call:Caller) (e:Env) (h:Heap) (K:Kont β):pieceK CI call F.ζ0 [1,1,1,1,0,1,0,1,0,0,1] e h K = pieceK CI call F.ζ0 [1,1,1,1,0,1,0,1,0,0,1,0] e h (kSeq (pieceK CI call F.ζ0 [1,1,1,1,0,1,0,1,0,0,1,1]) K):=by kernel_rfl
theorem ζap {β:Type} (k:Nat) (call:Caller) (a5 a6 a34 v95:Value) (h100:Heap) (K:Kont β):pieceK CI call F.ζ0 [1,1,1,1,0,1,0,1,0,0,1,0] [(5,a5),(6,a6),(8,a34),(10,v95)] h100 K =
 (  K .normal [(5,a5),(6,a6),(8,a34),(41,v95)] h100):=by kernel_rfl
theorem ζaq {β:Type} (k:Nat) (call:Caller) (a5 a6 a34 v95:Value) (h100:Heap) (K:Kont β):pieceK CI call F.ζ0 [1,1,1,1,0,1,0,1,0,0,1,1] [(5,a5),(6,a6),(8,a34),(41,v95)] h100 K =
 (condV (some v95) (pieceK CI call F.ζ0 [1,1,1,1,0,1,0,1,0,0,1,1,0] [(5,a5),(6,a6),(8,a34),(41,v95)] h100 K) (pieceK CI call F.ζ0 [1,1,1,1,0,1,0,1,0,0,1,1,1] [(5,a5),(6,a6),(8,a34),(41,v95)] h100 K)):=by kernel_rfl
theorem ζfl {β:Type} (k:Nat) (call:Caller) (e:Env) (h:Heap) (K:Kont β):pieceK CI call F.ζ0 [1,1,1,1,0,1,0,1,0,0,1,1,0] e h K = K (.exit 1) e h:=by kernel_rfl
theorem ζfm {β:Type} (k:Nat) (call:Caller) (e:Env) (h:Heap) (K:Kont β):pieceK CI call F.ζ0 [1,1,1,1,0,1,0,1,0,0,1,1,1] e h K = K .normal e h:=by kernel_rfl
theorem ζfn {β:Type} (k:Nat) (call:Caller) (a5 a34:Value) (h106:Heap) (K:Kont β):pieceK CI call F.ζ0 [1,1,1,1,0,1,0,1,0,1,1] [(5,a5),(8,a34)] h106 K =
 (    (loadR Prog 82 a5 h106).bindN fun v107 h108 =>
 (nilR v107 h108).bindN fun v109 h110 =>
 (fieldAddrR Prog 115 v109 1 h110).bindN fun v111 h112 =>
 (loadR Prog 113 v111 h112).bindN fun v113 h114 =>
 (binR Prog .add 3 a34 (.int .i64 4) h114).bindN fun v115 h116 =>
 (loadR Prog 82 a5 h116).bindN fun v117 h118 =>
 (nilR v117 h118).bindN fun v119 h120 =>
 (fieldAddrR Prog 115 v119 1 h120).bindN fun v121 h122 =>
 (loadR Prog 113 v121 h122).bindN fun v123 h124 =>
 (call F.ζb [v123,a34] h124).bindT (fun p127 h128 => .panic p127 h128) fun v125 h126 =>
 (call F.ζl [v113,v115,v125,(.int .i64 4)] h126).bindT (fun p131 h132 => chkR ((okVal (loadR Prog 82 a5 h126) v107 && true) && ((okVal (loadR Prog 113 v111 h126) v113 && true) && true)) (.panic p131 h132)) fun v129 h130 =>
 chkR ((okVal (loadR Prog 82 a5 h126) v107 && true) && ((okVal (loadR Prog 113 v111 h126) v113 && true) && true)) (
 K .normal [] h130)):=by kernel_rfl
theorem ζfo {β:Type} (k:Nat) (call:Caller) (e:Env) (h:Heap) (K:Kont β):pieceK CI call F.ζ0 [1,1,1,1,1] e h K = pieceK CI call F.ζ0 [1,1,1,1,1,0] e h (kSeq (pieceK CI call F.ζ0 [1,1,1,1,1,1]) K):=by kernel_rfl
theorem ζfp {β:Type} (k:Nat) (call:Caller) (a4 a5 a6:Value) (h:Heap) (K:Kont β):pieceK CI call F.ζ0 [1,1,1,1,1,0] [(4,a4),(5,a5),(6,a6)] h K =
 (  (loadR Prog 82 a5 h).bind fun v133 h134 =>
 K .normal [(4,v133)] h134):=by kernel_rfl
theorem ζfq {β:Type} (k:Nat) (call:Caller) (e:Env) (h:Heap) (K:Kont β):pieceK CI call F.ζ0 [1,1,1,1,1,1] e h K = K .ret e h:=by kernel_rfl
theorem ζfr (v133:Value) (h134:Heap):kDone Prog (resOf Prog F.ζ0) .ret [(4,v133)] h134 =
 (  .ok v133 h134):=by kernel_rfl
def ζz (k:Nat) (call:Caller) (a0 a1 a2:Value) (h:Heap):Res Value :=
 (allocR Prog 195 h).bind fun v1 h2 =>
 (binR Prog .lss 3 a2 (.int .i64 0) h2).bind fun v3 h4 =>
 ((bif wantVal v3 false then Res.ok a2 h4 else Res.ok undef h4)).bind fun v5 h6 =>
 ((bif wantVal v3 false then Res.ok a0 h6 else Res.ok undef h6)).bind fun v7 h8 =>
 ((bif wantVal v3 false then Res.ok a1 h8 else Res.ok undef h8)).bind fun v9 h10 =>
 ((bif wantVal v3 false then call F.ζ1a [v7,v9] h10 else Res.ok undef h10)).bind fun v11 h12 =>
 ((bif wantVal v3 false then binR Prog .geq 3 v5 v11 h12 else Res.ok undef h12)).bind fun v13 h14 =>
 (condV (some v3) (Res.ok (.bool true) h14) (Res.ok v13 h14)).bind fun v15 h16 =>
 condV (some v15) (
 (buildR Prog 195 [] h16).bind fun v17 h18 =>
 (storeR Prog 195 v1 v17 h18).bind fun _v19 h20 =>
 (loadR Prog 195 v1 h20).bind fun v21 h22 =>
 .ok (.tuple #[v21,(.bool false)]) h22)
 (
 (nilR a0 h16).bind fun v23 h24 =>
 (fieldAddrR Prog 115 v23 0 h24).bind fun v25 h26 =>
 (loadR Prog 111 v25 h26).bind fun v27 h28 =>
 (call F.ζ14 [v27,a1] h28).bind fun v29 h30 =>
 (extractR v29 0 h30).bind fun v31 h32 =>
 (extractR v29 1 h32).bind fun v33 h34 =>
 (nilR a0 h34).bindN fun v35 h36 =>
 (fieldAddrR Prog 115 v35 1 h36).bindN fun v37 h38 =>
 (loadR Prog 113 v37 h38).bindN fun v39 h40 =>
 (binR Prog .add 3 v31 (.int .i64 4) h40).bindN fun v41 h42 =>
 (binR Prog .mul 3 (.int .i64 4) a2 h42).bindN fun v43 h44 =>
 (binR Prog .add 3 v41 v43 h44).bindN fun v45 h46 =>
 (call F.ζ13 [v39,v45] h46).bindT (fun p49 h50 => (nilR a0 h46).bindN fun v51 h52 => (fieldAddrR Prog 115 v51 1 h52).bindN fun v53 h54 => (loadR Prog 113 v53 h54).bindN fun v55 h56 => (binR Prog .add 3 v31 (.int .i64 6) h56).bindN fun v57 h58 => (binR Prog .mul 3 (.int .i64 4) a2 h58).bindN fun v59 h60 => (binR Prog .add 3 v57 v59 h60).bindN fun v61 h62 => chkR ((okVal (loadR Prog 113 v53 h34) v55 && true) && true) (.panic p49 h50)) fun v47 h48 =>
 (nilR a0 h48).bindN fun v63 h64 =>
 (fieldAddrR Prog 115 v63 1 h64).bindN fun v65 h66 =>
 (loadR Prog 113 v65 h66).bindN fun v67 h68 =>
 (binR Prog .add 3 v31 (.int .i64 6) h68).bindN fun v69 h70 =>
 (binR Prog .mul 3 (.int .i64 4) a2 h70).bindN fun v71 h72 =>
 (binR Prog .add 3 v69 v71 h72).bindN fun v73 h74 =>
 (call F.ζ13 [v67,v73] h74).bindT (fun p77 h78 => chkR ((okVal (loadR Prog 113 v65 h34) v67 && true) && true) (.panic p77 h78)) fun v75 h76 =>
 (buildR Prog 195 [(0,v47),(1,v75)] h76).bindN fun v79 h80 =>
 (storeR Prog 195 v1 v79 h80).bindN fun _v81 h82 =>
 chkR ((okVal (loadR Prog 113 v65 h34) v67 && true) && true) (
 (loadR Prog 195 v1 h82).bind fun v83 h84 =>
 .ok (.tuple #[v83,(.bool true)]) h84))
theorem ζ7s (k:Nat) (a0 a1 a2:Value) (h:Heap):R (T k) F.ζz [a0,a1,a2] h = nrm .gc h (ζz k (R (T k)) a0 a1 a2 h) :=
 (R_body (t:=T k) (T_scott k) (by kernel_rfl) (by kernel_rfl) _ _).trans (by kernel_rfl)
def ζ1a (k:Nat) (call:Caller) (a0 a1:Value) (h:Heap):Res Value :=
 (nilR a0 h).bind fun v1 h2 =>
 (fieldAddrR Prog 115 v1 0 h2).bind fun v3 h4 =>
 (loadR Prog 111 v3 h4).bind fun v5 h6 =>
 (binR Prog .eql 111 v5 (.pointer none) h6).bind fun v7 h8 =>
 condV (some v7) (
 .ok (.int .i64 0) h8)
 (
 (nilR a0 h8).bind fun v9 h10 =>
 (fieldAddrR Prog 115 v9 0 h10).bind fun v11 h12 =>
 (loadR Prog 111 v11 h12).bind fun v13 h14 =>
 (call F.ζ14 [v13,a1] h14).bind fun v15 h16 =>
 (extractR v15 0 h16).bind fun v17 h18 =>
 (extractR v15 1 h18).bind fun v19 h20 =>
 (unR .not v19 h20).bind fun v21 h22 =>
 condV (some v21) (
 .ok (.int .i64 0) h22)
 (
 (nilR a0 h22).bind fun v23 h24 =>
 (fieldAddrR Prog 115 v23 1 h24).bind fun v25 h26 =>
 (loadR Prog 113 v25 h26).bind fun v27 h28 =>
 (call F.ζb [v27,v17] h28).bind fun v29 h30 =>
 .ok v29 h30))
theorem ζ6l (k:Nat) (a0 a1:Value) (h:Heap):R (T k) F.ζ1a [a0,a1] h = nrm .gc h (ζ1a k (R (T k)) a0 a1 h) :=
 (R_body (t:=T k) (T_scott k) (by kernel_rfl) (by kernel_rfl) _ _).trans (by kernel_rfl)
end
end Go.Sw
end
section
namespace Go.Sw
open Go.RowKit
def nilAnk:List Value:=[.pointer none,.slice none 0 0]
theorem ankr0Count (k:Nat) {H:Heap} {a:Nat} (ha:H.get a = some ⟨nilAnk,1,false⟩) (id:Int):R (T k) F.ζ1a [ptrV a,.int .i64 id] H = .ok (.int .i64 0) H:=by
 rw [ζ6l];refine nrm_gc ⟨H,?_,Ext.refl H⟩ (.int _ _);unfold nilAnk at ha;simp -implicitDefEqProofs (disch:=omega) [ζ1a,ha]
theorem ankr0Get (k:Nat) {H:Heap} {a:Nat} (ha:H.get a = some ⟨nilAnk,1,false⟩) (id i:Int):R (T k) F.ζz [ptrV a,.int .i64 id,.int .i64 i] H = .ok (.tuple #[.agg #[.int .i64 0,.int .i64 0],.bool false]) H:=by
 rw [ζ7s];have hx:=(Ext.refl H).push ⟨[.int .i64 0,.int .i64 0],1,false⟩;have fl:Flat (.tuple #[.agg #[.int .i64 0,.int .i64 0],.bool false]):=Flat.tupleL (l:=[.agg #[.int .i64 0,.int .i64 0],.bool false]) (.cons (Flat.aggL (l:=[.int .i64 0,.int .i64 0]) (.cons (.int _ _) (.cons (.int _ _) .nil))) (.cons (.bool _) .nil));refine nrm_gc ⟨_,?_,hx⟩ fl.alive;have hc:=ankr0Count k (hx.get ha) id;by_cases h:i < 0
 ·simp -implicitDefEqProofs (disch:=omega) [ζz,h]
 ·have h':0 ≤ i:=by omega
  simp -implicitDefEqProofs (disch:=omega) [ζz,h,h',hc]
def ptV (p:Int × Int):Value:=.agg #[.int .i64 p.1,.int .i64 p.2]
theorem Flat.pt (p:Int × Int):Flat (ptV p):=Flat.aggL (l:=[.int .i64 p.1,.int .i64 p.2]) (.cons (.int _ _) (.cons (.int _ _) .nil))
def noPg:Int → Int → Option (Int × Int):=fun _ _ => none
def AnkAt (k:Nat) (v:Value) (pg:Int → Int → Option (Int × Int)) (H:Heap):Prop:=∀ id i H',Ext H H' → R (T k) F.ζz [v,.int .i64 id,.int .i64 i] H' = .ok (.tuple #[ptV ((pg id i).getD (0,0)),.bool (pg id i).isSome]) H'
def PgOk (pg:Int → Int → Option (Int × Int)):Prop:=∀ id i p,pg id i = some p → -32768 ≤ p.1 ∧ p.1 < 32768 ∧ -32768 ≤ p.2 ∧ p.2 < 32768
theorem noPg_at (k:Nat) {H:Heap} {a:Nat} (ha:H.get a = some ⟨nilAnk,1,false⟩):AnkAt k (ptrV a) noPg H:=fun id i _ hx => ankr0Get k (hx.get ha) id i
set_option maxHeartbeats 1000000 in
theorem ζl8 (k:Nat) (t:BTab) (ht:t.ok) (a:Int) (ha:0 ≤ a ∧ a < 65536) (hfit:t.kind = 1 ∨ t.kind = 2 → 4 * t.kind * a + 4 * t.kind ≤ t.acts.length) (mk own:Gl) {H:Heap} {pv:Value} {pg:Int → Int → Option (Int × Int)} (hank:AnkAt k pv pg H) (hpg:PgOk pg) :
  ∃ P Q:Int × Int,R (T k) F.ζf [bindV t,.int .i64 a,encA (some mk),encA (some own),pv] H = .ok (.tuple #[ptV P,ptV Q,.bool (ptsS t pg a mk.id own.id).isSome]) H ∧
   (∀ r,ptsS t pg a mk.id own.id = some r → r = (P,Q)) ∧ (-32768 ≤ P.1 ∧ P.1 < 32768 ∧ -32768 ≤ P.2 ∧ P.2 < 32768) ∧ (-32768 ≤ Q.1 ∧ Q.1 < 32768 ∧ -32768 ≤ Q.2 ∧ Q.2 < 32768):=by
 have hb:=ht.byt;have hl:=ht.len;have hU:∀ i:Int,0 ≤ i → i + 2 ≤ (t.acts.length:Int) → uS t.acts i 2 = some (gU t.acts i 2):=fun i h0 h1 => by
  have:∃ x,uS t.acts i 2 = some x:=by
   unfold uS pieceS;rw [if_pos ⟨by omega,by omega,by omega,by omega⟩];exact ⟨_,rfl⟩
  obtain ⟨x,hx⟩:=this;rw [hx,gU_some hx]
 have fl:∀ p q b,Flat (.tuple #[ptV p,ptV q,.bool b]):=fun p q b => Flat.tupleL (l:=[ptV p,ptV q,.bool b]) (.cons (Flat.pt p) (.cons (Flat.pt q) (.cons (.bool _) .nil)));have hx1:=((((Ext.refl H).push ⟨[.int .i64 mk.id,.int .i64 mk.cl],1,false⟩).push ⟨[.int .i64 own.id,.int .i64 own.cl],1,false⟩))
 have hx2:=fun (p q:Int × Int) => (((hx1.push ⟨[.int .i64 p.1,.int .i64 p.2],1,false⟩).push ⟨[.int .i64 q.1,.int .i64 q.2],1,false⟩).push ⟨[lv encB t.acts],1,false⟩)
 have vq:∀ x y:Int,veq (.agg #[.int .i64 x,.int .i64 y]) (.agg #[.int .i64 x,.int .i64 y]) = true:=fun x y => veq_agg (l:=[.int .i64 x,.int .i64 y]) fun u hu => by simp at hu; rcases hu with rfl | rfl <;> simp
 have vw:veq (vwB t.acts) (vwB t.acts) = true:=veq_agg (l:=[lv encB t.acts]) fun u hu => by simp at hu; subst hu; exact veq_B t.acts
 rw [ζ9i];unfold ptsS;by_cases d1:t.kind = 1
 ·have hf:=hfit (.inl d1);rw [d1] at hf;rw [if_pos d1];have e1:(t.kind == 1) = true:=by rw [beq_iff_eq]; exact d1
  have u1:=hU (4 * a) (by omega) (by omega);have u2:=hU (4 * a + 2) (by omega) (by omega);have r1:=fun H' => U16_run k (Sl.lv H' 1 t.acts) hb (4 * a) (by omega);have r2:=fun H' => U16_run k (Sl.lv H' 1 t.acts) hb (4 * a + 2) (by omega);rw [u1] at r1;rw [u2] at r2;have g1:=hank mk.id (gU t.acts (4 * a) 2) _ (hx2 (0,0) (0,0));have w1:IntKind.i64.wrap (4 * a) = 4 * a:=wrap_i64 (by omega) (by omega);have w2:IntKind.i64.wrap (4 * a + 2) = 4 * a + 2:=wrap_i64 (by omega) (by omega);cases hp:pg mk.id (gU t.acts (4 * a) 2) with
  | none =>
   rw [hp] at g1;refine ⟨(0,0),(0,0),?_,fun r hr => (by cases hr),by decide,by decide⟩;refine nrm_gc ⟨_,?_,hx2 (0,0) (0,0)⟩ (fl _ _ _).alive;unfold ptV at g1;simp only [Option.getD_none,Option.isSome_none] at g1;simp -implicitDefEqProofs (disch:=omega) [ζf,encA,e1,d1,r1,orF,w1,g1,vq,vw,ζ7f,ptV]
  | some p =>
   have pb:=hpg _ _ _ hp;rw [hp] at g1;have g2:=hank own.id (gU t.acts (4 * a + 2) 2) _ (hx2 p (0,0));unfold ptV at g1 g2;simp only [Option.getD_some,Option.isSome_some] at g1;cases hq:pg own.id (gU t.acts (4 * a + 2) 2) with
   | none =>
    rw [hq] at g2;simp only [Option.getD_none,Option.isSome_none] at g2;refine ⟨p,(0,0),?_,fun r hr => (by simp at hr),pb,by decide⟩;refine nrm_gc ⟨_,?_,hx2 p (0,0)⟩ (fl _ _ _).alive;simp -implicitDefEqProofs (disch:=omega) [ζf,encA,e1,d1,r1,r2,orF,w1,w2,g1,g2,vq,vw,ζ2o,ptV]
   | some q =>
    have qb:=hpg _ _ _ hq;rw [hq] at g2;simp only [Option.getD_some,Option.isSome_some] at g2;refine ⟨p,q,?_,fun r hr => (by simpa using hr.symm),pb,qb⟩;refine nrm_gc ⟨_,?_,hx2 p q⟩ (fl _ _ _).alive;simp -implicitDefEqProofs (disch:=omega) [ζf,encA,e1,d1,r1,r2,orF,w1,w2,g1,g2,vq,vw,ζ2o,ptV]
 rw [if_neg d1];have e1:(t.kind == 1) = false:=by rw [beq_eq_false_iff_ne]; exact d1
 by_cases d2:t.kind = 2
 ·have hf:=hfit (.inr d2);rw [d2] at hf;rw [if_pos d2];have e2:(t.kind == 2) = true:=by rw [beq_iff_eq]; exact d2
  have r1:=fun H' i => I16_run k (Sl.lv H' 1 t.acts) hb i (by omega);have q1:=fun H' => (r1 H' (8 * a)).trans (by rw [hU _ (by omega) (by omega)]);have q2:=fun H' => (r1 H' (8 * a + 2)).trans (by rw [hU _ (by omega) (by omega)]);have q3:=fun H' => (r1 H' (8 * a + 4)).trans (by rw [hU _ (by omega) (by omega)]);have q4:=fun H' => (r1 H' (8 * a + 6)).trans (by rw [hU _ (by omega) (by omega)]);have sb:∀ i,-32768 ≤ s16 (gU t.acts i 2) ∧ s16 (gU t.acts i 2) < 32768:=fun i => by
   have:=gU_two hb i;unfold s16;split <;> omega
  have w1:IntKind.i64.wrap (8 * a) = 8 * a:=wrap_i64 (by omega) (by omega);have s1:=sb (8 * a); have s2:=sb (8 * a + 2); have s3:=sb (8 * a + 4); have s4:=sb (8 * a + 6);refine ⟨(s16 (gU t.acts (8 * a) 2),s16 (gU t.acts (8 * a + 2) 2)),(s16 (gU t.acts (8 * a + 4) 2),s16 (gU t.acts (8 * a + 6) 2)),?_,fun r hr => (by simpa using hr.symm),⟨s1.1,s1.2,s2.1,s2.2⟩,⟨s3.1,s3.2,s4.1,s4.2⟩⟩;refine nrm_gc ⟨_,?_,hx2 (s16 (gU t.acts (8 * a) 2),s16 (gU t.acts (8 * a + 2) 2)) (s16 (gU t.acts (8 * a + 4) 2),s16 (gU t.acts (8 * a + 6) 2))⟩ (fl _ _ _).alive;simp -implicitDefEqProofs (disch:=omega) [ζf,encA,e1,e2,q1,q2,q3,q4,orF,w1,vq,vw,ζ2o,ptV]
 ·rw [if_neg d2];have e2:(t.kind == 2) = false:=by rw [beq_eq_false_iff_ne]; exact d2
  refine ⟨(0,0),(0,0),?_,fun r hr => (by cases hr),by decide,by decide⟩;refine nrm_gc ⟨_,?_,hx2 (0,0) (0,0)⟩ (fl _ _ _).alive;simp -implicitDefEqProofs (disch:=omega) [ζf,encA,e1,e2,vq,vw,ζ7g,ptV]
end Go.Sw
end
section
namespace Go.Sw
open Go.RowKit
theorem Star.memB {H0 H:Heap} {L:List It} (h:Star H0 H L) {c:Nat} {k:Blk} (hm:itBlk c k ∈ L):H.get c = some k:=by
 obtain ⟨j,hj⟩:=List.getElem?_of_mem hm;exact h.get j hj
def bindW (t:BTab) (L:List It) (ip p:Nat) (op:Option Nat) (down:Bool) (c:Nat) (pv:Value) (mb lb tb pb qb:Nat) (s:List Pl × Int):List It :=
 L.set ip (itPl p op down s.1) ++ [itBlk mb ⟨[.int .i64 s.2],1,false⟩,itBlk lb ⟨[ptrV c],1,false⟩,itBlk tb ⟨[bindV t],1,false⟩,itBlk pb ⟨[pv],1,false⟩,itBlk qb ⟨[ptrV p],1,false⟩]
set_option maxHeartbeats 2000000 in
theorem bind_do (k:Nat) (t:BTab) (ht:t.ok) (L:List It) (il ip c p mb lb tb pb qb:Nat) (o op:Option Nat) (down:Bool) (hip:ip < L.length) (gl:List Gl) (hil:L[il]? = some (itLine c o gl)) (hne:il ≠ ip) {pv:Value} {pg:Int → Int → Option (Int × Int)} (hpg:PgOk pg) {H0:Heap} (hank:∀ (H':Heap) (l':List Pl) (Y:List It),Star H0 H' (L.set ip (itPl p op down l') ++ Y) → AnkAt k pv pg H') :
  DoOk k t.m H0 (bindW t L ip p op down c pv mb lb tb pb qb) (fun s => ∀ q,q ∈ s.1 → q.ok) (.func (.func F.ζ9) #[] #[ptrV lb,ptrV mb,ptrV tb,ptrV pb,ptrV qb]) (doBi t pg gl):=by
 intro s j e H X hI st h0 h1 he;obtain ⟨l,mark⟩:=s;dsimp only at hI;have hok':∀ q,q ∈ (doBi t pg gl (l,mark) j e).1 → q.ok:=ζm4 t pg gl hI j mark e;have heb:=ht.m.ent e he;have hill:=(List.getElem?_eq_some_iff.1 hil).1;unfold bindW at st;dsimp only at st;obtain ⟨S,hS⟩:∃ S:List Pl → Int → List It,S = fun l' m' => L.set ip (itPl p op down l') ++ itBlk mb ⟨[.int .i64 m'],1,false⟩ :: ([itBlk lb ⟨[ptrV c],1,false⟩,itBlk tb ⟨[bindV t],1,false⟩,itBlk pb ⟨[pv],1,false⟩,itBlk qb ⟨[ptrV p],1,false⟩] ++ (X ++ [itBlk H.n ⟨encEn e,1,false⟩])):=⟨_,rfl⟩
 have hSv:∀ l' m',S l' m' = L.set ip (itPl p op down l') ++ itBlk mb ⟨[.int .i64 m'],1,false⟩ :: ([itBlk lb ⟨[ptrV c],1,false⟩,itBlk tb ⟨[bindV t],1,false⟩,itBlk pb ⟨[pv],1,false⟩,itBlk qb ⟨[ptrV p],1,false⟩] ++ (X ++ [itBlk H.n ⟨encEn e,1,false⟩])):=fun _ _ => by rw [hS]
 have hmx:∀ l' m',(S l' m')[L.length]? = some (itBlk mb ⟨[.int .i64 m'],1,false⟩):=fun l' m' => by
  rw [hSv,List.getElem?_append_right (by simp)];simp
 have hpx:∀ l' m',(S l' m')[ip]? = some (itPl p op down l'):=fun l' m' => by
  rw [hSv,List.getElem?_append_left (by simpa using hip),List.getElem?_set_self hip]
 have hlx:∀ l' m',(S l' m')[il]? = some (itLine c o gl):=fun l' m' => by
  rw [hSv,List.getElem?_append_left (by simpa using hill),List.getElem?_set_ne (fun h => hne h.symm)];exact hil
 have setM:∀ l' m' m'',(S l' m').set L.length (itBlk mb ⟨[.int .i64 m''],1,false⟩) = S l' m'':=fun l' m' m'' => by
  rw [hSv,hSv,List.set_append_right _ _ (by simp)];simp
 have setP:∀ l' l'' m',(S l' m').set ip (itPl p op down l'') = S l'' m':=fun l' l'' m' => by
  rw [hSv,hSv,List.set_append_left _ _ (by simpa using hip),List.set_set]
 have look:∀ {H':Heap} {l' m'},Star H0 H' (S l' m') → H'.get mb = some ⟨[.int .i64 m'],1,false⟩ ∧ H'.get lb = some ⟨[ptrV c],1,false⟩ ∧ H'.get tb = some ⟨[bindV t],1,false⟩ ∧ H'.get pb = some ⟨[pv],1,false⟩ ∧ H'.get qb = some ⟨[ptrV p],1,false⟩ ∧ H'.get H.n = some ⟨encEn e,1,false⟩:=fun {H' l' m'} h => by
  rw [hSv] at h;exact ⟨h.memB (by simp),h.memB (by simp),h.memB (by simp),h.memB (by simp),h.memB (by simp),h.memB (by simp)⟩
 have st2:Star H0 (H.push ⟨encEn e,1,false⟩) (S l mark):=by
  have:=st.push ⟨encEn e,1,false⟩;rw [hSv];simpa using this
 have fin:∀ {H':Heap} {l' m'},Star H0 H' (S l' m') → Star H0 H' (bindW t L ip p op down c pv mb lb tb pb qb (l',m') ++ X):=fun {H' l' m'} h => by
  rw [hSv] at h;have e1:L.set ip (itPl p op down l') ++ itBlk mb ⟨[.int .i64 m'],1,false⟩ :: ([itBlk lb ⟨[ptrV c],1,false⟩,itBlk tb ⟨[bindV t],1,false⟩,itBlk pb ⟨[pv],1,false⟩,itBlk qb ⟨[ptrV p],1,false⟩] ++ (X ++ [itBlk H.n ⟨encEn e,1,false⟩])) = (bindW t L ip p op down c pv mb lb tb pb qb (l',m') ++ X) ++ [itBlk H.n ⟨encEn e,1,false⟩]:=by
   unfold bindW;simp
  rw [e1] at h;exact h.ζer
 have ha15:=fun H => and15 Prog 3 H heb.2.2.1 heb.2.2.2.1;have nq:∀ b,b < H.n → ¬ b = H.n ∧ ¬ b = H.n + 1 ∧ ¬ b = H.n + 1 + 1 ∧ ¬ b = H.n + 1 + 1 + 1 ∧ ¬ b = H.n + 1 + 1 + 1 + 1:=fun b hb => by omega
 obtain ⟨n11,n12,n13,n14,n15⟩:=nq mb (Heap.get_lt (st.memB (c:=mb) (k:=⟨[.int .i64 mark],1,false⟩) (by simp)));obtain ⟨n21,n22,n23,n24,n25⟩:=nq lb (Heap.get_lt (st.memB (c:=lb) (k:=⟨[ptrV c],1,false⟩) (by simp)));obtain ⟨n31,n32,n33,n34,n35⟩:=nq tb (Heap.get_lt (st.memB (c:=tb) (k:=⟨[bindV t],1,false⟩) (by simp)));obtain ⟨n41,n42,n43,n44,n45⟩:=nq pb (Heap.get_lt (st.memB (c:=pb) (k:=⟨[pv],1,false⟩) (by simp)));obtain ⟨n51,n52,n53,n54,n55⟩:=nq qb (Heap.get_lt (st.memB (c:=qb) (k:=⟨[ptrV p],1,false⟩) (by simp)));have z1:=st.memB (c:=mb) (k:=⟨[.int .i64 mark],1,false⟩) (by simp);have z2:=st.memB (c:=lb) (k:=⟨[ptrV c],1,false⟩) (by simp);have z3:=st.memB (c:=tb) (k:=⟨[bindV t],1,false⟩) (by simp);have z4:=st.memB (c:=pb) (k:=⟨[pv],1,false⟩) (by simp);have z5:=st.memB (c:=qb) (k:=⟨[ptrV p],1,false⟩) (by simp);clear st;obtain ⟨here,hhere⟩:∃ x,x = atG gl j:=⟨_,rfl⟩
 obtain ⟨mkd,hmkd⟩:∃ x,x = atG gl mark:=⟨_,rfl⟩
 -- the mark
 have tail:∀ {H':Heap} {l'},Star H0 H' (S l' mark) → ∃ H'',(∀ a10,a10 = Value.bool here.isSome → ζ1r k (R (T k)) (.int .i64 j) (ptrV mb) (ptrV H.n) a10 H' = .ok (.tuple #[]) H'') ∧
   Star H0 H'' (bindW t L ip p op down c pv mb lb tb pb qb (l',if e.flags ≥ 32768 ∧ here.isSome = true then j else mark) ++ X):=fun {H' l'} h => by
  obtain ⟨w1,w2,w3,w4,w5,w6⟩:=look h;by_cases d1:e.flags ≥ 32768
  ·cases hh:here.isSome with
   | true =>
    have:=h.setBlk L.length (hmx _ _) ⟨[.int .i64 j],1,false⟩;rw [setM] at this;refine ⟨_,fun a10 ha => ?_,by rw [if_pos ⟨d1,rfl⟩]; exact fin this⟩;subst ha;rw [ζ1b];rw [if_pos d1] at ha15;simp -implicitDefEqProofs (disch:=omega) [w1,w6,ha15,bne]
   | false =>
    refine ⟨H',fun a10 ha => ?_,by rw [if_neg (fun h => by cases h.2)]; exact fin h⟩;subst ha;rw [ζ1b];rw [if_pos d1] at ha15;simp -implicitDefEqProofs (disch:=omega) [w1,w6,ha15,bne]
  ·refine ⟨H',fun a10 ha => ?_,by rw [if_neg (fun h => d1 h.1)]; exact fin h⟩;subst ha;rw [ζ1b];rw [if_neg d1] at ha15;simp -implicitDefEqProofs (disch:=omega) [w1,w6,ha15,bne]
 have j21:∀ {H':Heap} (a6 a13 a14 a48 a10:Value),ζ38 k (R (T k)) (.int .i64 j) (ptrV mb) a6 (ptrV H.n) a10 a13 a14 a48 H' = ζ1r k (R (T k)) (.int .i64 j) (ptrV mb) (ptrV H.n) a10 H':=fun a6 a13 a14 a48 a10 => by rw [ζ6w,ζ1b]
 have j31:∀ {H':Heap} (a4 a5 a6 a9 a11 a36 a10:Value),ζ39 k (R (T k)) (.int .i64 j) (ptrV mb) a4 a5 a6 (ptrV H.n) a9 a10 a11 a36 H' = ζ1r k (R (T k)) (.int .i64 j) (ptrV mb) (ptrV H.n) a10 H':=fun a4 a5 a6 a9 a11 a36 a10 => by rw [ζ6x,ζ1b]
 have hat1:=ζcb k st2 il (hlx _ _) j;rw [← hhere] at hat1;have st3:=st2.rest ((Ext.refl _).push ⟨(encG (here.getD ⟨0,0⟩)),1,false⟩);have hat2:=ζcb k st3 il (hlx _ _) mark;rw [← hmkd] at hat2;have st4:=st3.rest ((Ext.refl _).push ⟨(encG (mkd.getD ⟨0,0⟩)),1,false⟩);obtain ⟨y1,y2,y3,y4,y5,y6⟩:=look st2;obtain ⟨x1,x2,x3,x4,x5,x6⟩:=look st4
 have fini:∀ {R0:Res Value} {l'},bindPl t pg gl l j mark e = l' → (∃ H'',R0 = .ok (.tuple #[]) H'' ∧ Star H0 H'' (bindW t L ip p op down c pv mb lb tb pb qb (l',if e.flags ≥ 32768 ∧ here.isSome = true then j else mark) ++ X)) →
   ∃ v H',R0 = .ok v H' ∧ Star H0 H' (bindW t L ip p op down c pv mb lb tb pb qb (doBi t pg gl (l,mark) j e) ++ X) ∧ ∀ q,q ∈ (doBi t pg gl (l,mark) j e).1 → q.ok:=fun {R0 l'} hb ⟨H'',h1,h2⟩ => by
  refine ⟨_,H'',h1,?_,hok'⟩;unfold doBi;rw [hb,← hhere];exact h2
 simp only [callV,List.nil_append,List.cons_append];rw [ζ92];by_cases c1:e.a = 65535
 ·have c1':(e.a != 65535) = false:=by rw [c1]; rfl
  refine fini (l':=l) (by unfold bindPl; rw [if_pos c1]) ?_;obtain ⟨H'',t1,t2⟩:=tail st4;refine ⟨H'',nrm_of ?_,t2⟩;have t1:=t1 _ rfl;unfold encA at hat1 hat2;simp -implicitDefEqProofs (disch:=omega) [ζ9,n11,n12,n13,n14,n15,n21,n22,n23,n24,n25,n31,n32,n33,n34,n35,n41,n42,n43,n44,n45,n51,n52,n53,n54,n55,z1,z2,z3,z4,z5,hat1,hat2,c1',j31,t1]
 have c1':(e.a != 65535) = true:=by rw [bne_iff_ne]; exact c1
 cases hh:here with
 | none =>
  refine fini (l':=l) (by unfold bindPl; rw [if_neg c1,← hhere,hh]) ?_;obtain ⟨H'',t1,t2⟩:=tail st4;refine ⟨H'',nrm_of ?_,t2⟩;have t1:=t1 _ rfl;unfold encA at hat1 hat2;rw [hh] at hat1 t1 hat2;simp only [Option.getD_none,Option.isSome_none] at hat1 t1 hat2;simp -implicitDefEqProofs (disch:=omega) [ζ9,n11,n12,n13,n14,n15,n21,n22,n23,n24,n25,n31,n32,n33,n34,n35,n41,n42,n43,n44,n45,n51,n52,n53,n54,n55,z1,z2,z3,z4,z5,hat1,hat2,c1',j31,t1]
 | some own =>
  cases hm:mkd with
  | none =>
   refine fini (l':=l) (by unfold bindPl; rw [if_neg c1,← hhere,← hmkd,hh,hm]) ?_;obtain ⟨H'',t1,t2⟩:=tail st4;refine ⟨H'',nrm_of ?_,t2⟩;have t1:=t1 _ rfl;unfold encA at hat1 hat2;rw [hh,hm] at t1;rw [hh] at hat1;rw [hm,hh] at hat2;simp only [Option.getD_none,Option.isSome_none,Option.getD_some,Option.isSome_some] at hat1 t1 hat2;simp -implicitDefEqProofs (disch:=omega) [ζ9,n11,n12,n13,n14,n15,n21,n22,n23,n24,n25,n31,n32,n33,n34,n35,n41,n42,n43,n44,n45,n51,n52,n53,n54,n55,z1,z2,z3,z4,z5,hat1,hat2,c1',j31,t1]
  | some mk =>
   have han:AnkAt k pv pg _:=hank _ l _ (by have:=st4; rw [hSv] at this; exact this);obtain ⟨P,Q,ep,hpr,hPb,hQb⟩:=ζl8 k t ht e.a ⟨heb.2.2.2.2.1,heb.2.2.2.2.2.1⟩ (fun hk => (ht.has hk e he).resolve_left c1) mk own han hpg;have st5:=st4.rest (((Ext.refl _).push ⟨[.int .i64 P.1,.int .i64 P.2],1,false⟩).push ⟨[.int .i64 Q.1,.int .i64 Q.2],1,false⟩);unfold encA at hat1 hat2 ep;unfold ptV at ep;rw [hh,hm] at ep st5;rw [hh] at hat1;rw [hm,hh] at hat2;simp only [Option.getD_some,Option.isSome_some] at hat1 hat2 ep st5;cases hps:ptsS t pg e.a mk.id own.id with
   | none =>
    rw [hps] at ep;refine fini (l':=l) (by unfold bindPl; rw [if_neg c1,← hhere,← hmkd,hh,hm]; dsimp only; rw [hps]) ?_;obtain ⟨H'',t1,t2⟩:=tail st5;refine ⟨H'',nrm_of ?_,t2⟩;have t1:=t1 _ rfl;rw [hh] at t1;simp only [Option.isSome_some,Option.isSome_none] at t1 ep;simp -implicitDefEqProofs (disch:=omega) [ζ9,n11,n12,n13,n14,n15,n21,n22,n23,n24,n25,n31,n32,n33,n34,n35,n41,n42,n43,n44,n45,n51,n52,n53,n54,n55,z1,z2,z3,z4,z5,hat1,hat2,c1',j21,t1,ep]
   | some r =>
    obtain rfl:=hpr r hps;rw [hps] at ep;obtain ⟨H6,es,st6⟩:=ζlh k st5 ip (hpx _ _) hI j (P.1 - Q.1) (P.2 - Q.2);rw [setP] at st6;refine fini (l':=shiftPl l j (P.1 - Q.1) (P.2 - Q.2)) (by unfold bindPl; rw [if_neg c1,← hhere,← hmkd,hh,hm]; dsimp only; rw [hps]) ?_;obtain ⟨H'',t1,t2⟩:=tail st6;refine ⟨H'',nrm_of ?_,t2⟩;have t1:=t1 _ rfl;rw [hh] at t1;simp only [Option.isSome_some,Option.isSome_none] at t1 ep;have w1:IntKind.i64.wrap (P.1 - Q.1) = P.1 - Q.1:=wrap_i64 (by omega) (by omega);have w2:IntKind.i64.wrap (P.2 - Q.2) = P.2 - Q.2:=wrap_i64 (by omega) (by omega);simp -implicitDefEqProofs (disch:=omega) [ζ9,n11,n12,n13,n14,n15,n21,n22,n23,n24,n25,n31,n32,n33,n34,n35,n41,n42,n43,n44,n45,n51,n52,n53,n54,n55,z1,z2,z3,z4,z5,hat1,hat2,c1',t1,ep,es,w1,w2]
end Go.Sw
end
section
namespace Go.Sw
open Go.RowKit
theorem perm5 {α:Type} (a b c d e:α):[a,b,c,d,e].Perm [e,b,a,d,c] :=
 (List.perm_append_comm (l₁:=[a,b,c,d]) (l₂:=[e])).trans (.cons e ((List.Perm.swap b a [c,d]).trans (.cons b (.cons a (.swap d c [])))))
theorem veq_bind (t:BTab):veq (bindV t) (bindV t) = true:=veq_boxV (l:=bindC t) fun v hv => by
 simp [bindC] at hv;rcases hv with rfl | rfl | rfl
 ·exact veq_mach _
 ·simp
 ·exact veq_B _
set_option maxHeartbeats 1000000 in
theorem ζft (k:Nat) (t:BTab) (ht:t.ok) {H0 H:Heap} {L:List It} (h:Star H0 H L) (il ip:Nat) (hne:il ≠ ip) {c p:Nat} {o op:Option Nat} {down:Bool} {gl:List Gl} {l:List Pl} (hil:L[il]? = some (itLine c o gl)) (hip:L[ip]? = some (itPl p op down l)) {pv:Value} {pg:Int → Int → Option (Int × Int)} (hpg:PgOk pg) (hank:∀ (H':Heap) (l':List Pl) (Y:List It),Star H0 H' (L.set ip (itPl p op down l') ++ Y) → AnkAt k pv pg H') (hst:storable pv = true) (hce:pv.cells = #[pv]) (hl:gl.length < 2 ^ 40) (hok:∀ q,q ∈ l → q.ok) :
  ∃ H',R (T k) F.ζ31 [bindV t,ptrV c,ptrV p,pv] H = .ok (.int .i64 (runB t pg gl l).2) H' ∧ Star H0 H' (L.set ip (itPl p op down (runB t pg gl l).1)) ∧ ∀ q,q ∈ (runB t pg gl l).1 → q.ok:=by
 have hlt:=(List.getElem?_eq_some_iff.1 hip).1;have hll:=(List.getElem?_eq_some_iff.1 hil).1;have same:L.set ip (itPl p op down l) = L:=by
  obtain ⟨hlt,hx⟩:=List.getElem?_eq_some_iff.1 hip;rw [← hx,List.set_getElem_self]
 have st:=((((h.push ⟨[bindV t],1,false⟩).push ⟨[ptrV c],1,false⟩).push ⟨[ptrV p],1,false⟩).push ⟨[pv],1,false⟩).push ⟨[.int .i64 (-1)],1,false⟩;simp only [hn_push] at st;obtain ⟨H5,hH5⟩:∃ H5,H5 = ((((H.push ⟨[bindV t],1,false⟩).push ⟨[ptrV c],1,false⟩).push ⟨[ptrV p],1,false⟩).push ⟨[pv],1,false⟩).push ⟨[.int .i64 (-1)],1,false⟩:=⟨_,rfl⟩
 rw [← hH5] at st;have st:Star H0 H5 (bindW t L ip p op down c pv (H.n + 4) (H.n + 1) H.n (H.n + 3) (H.n + 2) (l,-1)):=by
  refine st.perm ?_;unfold bindW;dsimp only;rw [same];simp only [List.append_assoc,List.cons_append,List.nil_append];refine List.Perm.append_left L ?_;exact perm5 _ _ _ _ _
 have ePl:=plainNew k (.func F.ζ9) #[] #[ptrV (H.n + 1),ptrV (H.n + 4),ptrV H.n,ptrV (H.n + 3),ptrV (H.n + 2)] H5;have st4:=st.push ⟨[.func (.func F.ζ9) #[] #[ptrV (H.n + 1),ptrV (H.n + 4),ptrV H.n,ptrV (H.n + 3),ptrV (H.n + 2)]],1,false⟩;have hact:=plain_ok k (bind_do k t ht L il ip c p (H.n + 4) (H.n + 1) H.n (H.n + 3) (H.n + 2) o op down hlt gl hil hne hpg hank) H5.n
 obtain ⟨H7,eR,st5,hokR⟩:=ζg1 k t.m ht.m (fun s:List Pl × Int => bindW t L ip p op down c pv (H.n + 4) (H.n + 1) H.n (H.n + 3) (H.n + 2) s ++ [itBlk H5.n ⟨[.func (.func F.ζ9) #[] #[ptrV (H.n + 1),ptrV (H.n + 4),ptrV H.n,ptrV (H.n + 3),ptrV (H.n + 2)]],1,false⟩]) (fun s => ∀ q,q ∈ s.1 → q.ok) (fun _ => gl) c
  (fun s => ⟨il,o,by
   unfold bindW;rw [List.append_assoc,List.getElem?_append_left (by simpa using hll),List.getElem?_set_ne (fun h => hne h.symm)];exact hil⟩) _ _ hact [] (l,-1) hok (by simpa [List.append_assoc] using st4) hl
 have hr:runD t.m (fun _:List Pl × Int => gl) (fun s i e => (doBi t pg gl s i e,i,i + 1)) (2 * (gl.length:Int) + 128) (2 * gl.length + 128) ((l,-1),⟨0,0,0,0⟩) = runBr t pg gl l:=by unfold runBr; rfl
 rw [hr] at eR st5 hokR;have b0:=st4.memB (c:=H.n) (k:=⟨[bindV t],1,false⟩) (by unfold bindW; simp);have b1:=st4.memB (c:=H.n + 1) (k:=⟨[ptrV c],1,false⟩) (by unfold bindW; simp);refine ⟨H7,?_,?_,?_⟩
 ·rw [ζbn,nrm_of];have hbx:∀ H',boxR pv H' = newP [pv] H':=fun H' => by
   unfold boxR;rw [hst,hce];rfl
  have v1:=veq_bind t;have v2:=veq_mach t.m;unfold runB;generalize runBr t pg gl l = r at eR ⊢;rw [hH5] at ePl eR b0 b1;simp only [hn_push] at ePl eR;have n2:H.n + 1 + 1 = H.n + 2:=rfl;have n3:H.n + 2 + 1 = H.n + 3:=rfl;have n4:H.n + 3 + 1 = H.n + 4:=rfl;simp -implicitDefEqProofs (disch:=omega) [ζ31,hbx,n2,n3,n4,ePl,eR,v1,v2]
 ·unfold runB;generalize runBr t pg gl l = r at st5 ⊢;unfold bindW at st5;have:=st5.take L.length;rw [List.append_assoc,List.append_assoc,List.take_append_of_le_length (by simp),List.take_of_length_le (by simp)] at this;exact this
 ·unfold runB;generalize runBr t pg gl l = r at hokR ⊢;exact hokR
end Go.Sw
end
