/-
  Functions' forms, and what is proved of them, part 8.
-/
import Derived.Test.YtanfippcmdialaaSwCfg
import Derived.Test.YtanfippcmdialaaSwW7
set_option linter.unusedSimpArgs false
set_option linter.unusedVariables false
set_option linter.unusedSectionVars false
section
set_option maxRecDepth 100000
set_option linter.unusedVariables false
namespace Go.Sw
noncomputable section
def ζ2l (k:Nat) (call:Caller):Env → Heap → Res (AExit × Env):=loopB (C k) call F.ζ0 [1,1,1,1,0,1,0,0]
def ζl (k:Nat) (call:Caller):Kont Value:=kBlock 0 (kSeq (pieceK (C k) call F.ζ0 [1,1,1,1,1]) (kDone Prog (resOf Prog F.ζ0)))
def ζ2m (k:Nat) (call:Caller):Env → Heap → Res (AExit × Env):=loopB (C k) call F.ζ0 [1,1,1,1,1,1,1,1,1,0,1,0,0]
def ζ1p (k:Nat) (call:Caller):Kont Value:=kBlock 2 (kSeq (pieceK (C k) call F.ζ0 [1,1,1,1,1,1,1,1,1,1]) (kDone Prog (resOf Prog F.ζ0)))
def ζ2n (k:Nat) (call:Caller):Env → Heap → Res (AExit × Env):=loopB (C k) call F.ζ0 [1,1,1,1,1,1,1,1,1,1,1,1,1,1,1,1,0,1,0,0]
def ζ2e (k:Nat) (call:Caller):Kont Value:=kBlock 4 (kSeq (pieceK (C k) call F.ζ0 [1,1,1,1,1,1,1,1,1,1,1,1,1,1,1,1,1]) (kDone Prog (resOf Prog F.ζ0)))
def ζ0 (k:Nat) (call:Caller) (a0:Value) (h:Heap):Res Value :=
 (buildSliceR Prog 31 2 [(0,(.int .u8 1)),(1,(.int .u8 0))] h).bind fun v1 h2 =>
 (buildSliceR Prog 31 2 [(0,(.int .u8 1)),(1,(.int .u8 0))] h2).bind fun v3 h4 =>
 (buildSliceR Prog 101 2 [(0,v1),(1,v3)] h4).bind fun v5 h6 =>
 (buildR Prog 130 [(1,(.int .i64 32)),(3,(.int .i64 65535))] h6).bind fun v7 h8 =>
 (buildR Prog 130 [(2,(.int .i64 65535)),(3,(.int .i64 65535))] h8).bind fun v9 h10 =>
 (buildSliceR Prog 102 2 [(0,v7),(1,v9)] h10).bind fun v11 h12 =>
 (buildR Prog 104 [(1,v5),(2,v11)] h12).bind fun v13 h14 =>
 (buildSliceR Prog 106 1 [(0,(.int .u16 9))] h14).bind fun v15 h16 =>
 (buildR Prog 154 [(0,v13),(1,v15)] h16).bind fun v17 h18 =>
 (allocR Prog 154 h18).bind fun v19 h20 =>
 (storeR Prog 154 v19 v17 h20).bind fun _v21 h22 =>
 (loadR Prog 154 v19 h22).bind fun v23 h24 =>
 (call F.ζ1c [v23] h24).bind fun v25 h26 =>
 (call F.ins_Read [v25,(.int .i64 20)] h26).bind fun v27 h28 =>
 (extractR v27 0 h28).bind fun v29 h30 =>
 (extractR v27 1 h30).bind fun v31 h32 =>
 (buildSliceR Prog 31 10 [(0,(.int .u8 4)),(1,(.int .u8 4)),(2,(.int .u8 4)),(3,(.int .u8 4)),(4,(.int .u8 4)),(5,(.int .u8 4)),(6,(.int .u8 4)),(7,(.int .u8 4)),(8,(.int .u8 4)),(9,(.int .u8 5))] h32).bind fun v33 h34 =>
 (buildSliceR Prog 31 6 [(0,(.int .u8 0)),(1,(.int .u8 0)),(2,(.int .u8 0)),(3,(.int .u8 0)),(4,(.int .u8 1)),(5,(.int .u8 2))] h34).bind fun v35 h36 =>
 (buildSliceR Prog 31 6 [(0,(.int .u8 0)),(1,(.int .u8 0)),(2,(.int .u8 0)),(3,(.int .u8 0)),(4,(.int .u8 1)),(5,(.int .u8 2))] h36).bind fun v37 h38 =>
 (buildSliceR Prog 101 2 [(0,v35),(1,v37)] h38).bind fun v39 h40 =>
 (buildR Prog 130 [] h40).bind fun v41 h42 =>
 (buildR Prog 130 [(1,(.int .i64 32768))] h42).bind fun v43 h44 =>
 (buildR Prog 130 [(1,(.int .i64 40960))] h44).bind fun v45 h46 =>
 (buildSliceR Prog 102 3 [(0,v41),(1,v43),(2,v45)] h46).bind fun v47 h48 =>
 (buildR Prog 104 [(0,v33),(3,(.int .u8 2)),(1,v39),(2,v47)] h48).bind fun v49 h50 =>
 (buildSliceR Prog 105 2 [(0,(.int .u32 0)),(1,(.int .u32 2147483648))] h50).bind fun v51 h52 =>
 (buildR Prog 108 [(0,v49),(1,v51)] h52).bind fun v53 h54 =>
 (allocR Prog 108 h54).bind fun v55 h56 =>
 (storeR Prog 108 v55 v53 h56).bind fun _v57 h58 =>
 (loopN (ζ2l k call) loopFuel [(0,a0),(4,v29),(5,v31),(6,v55),(44,(.int .i64 0))] h58).bind fun r59 h60 =>
 ζl k call r59.1 r59.2 h60
theorem ζ1m {β:Type} (f:Env → Heap → Kont β → Res β) (K:Kont β) (e:Env) (h:Heap):kSeq f K .normal e h = f e h K:=rfl
theorem ζ1o {β:Type} (f:Env → Heap → Kont β → Res β) (K:Kont β) (i:Nat) (e:Env) (h:Heap):kSeq f K (.exit i) e h = K (.exit i) e h:=rfl
theorem ζ1n {β:Type} (f:Env → Heap → Kont β → Res β) (K:Kont β) (e:Env) (h:Heap):kSeq f K .ret e h = K .ret e h:=rfl
theorem ζ1h {β:Type} (j:Nat) (K:Kont β) (e:Env) (h:Heap):kBlock j K .normal e h = K .normal e h:=rfl
theorem ζ1j {β:Type} (j:Nat) (K:Kont β) (i:Nat) (e:Env) (h:Heap):kBlock j K (.exit i) e h = bif i == j then K .normal e h else K (.exit i) e h:=rfl
theorem ζ1i {β:Type} (j:Nat) (K:Kont β) (e:Env) (h:Heap):kBlock j K .ret e h = K .ret e h:=rfl
theorem ζ1l (ks:List Nat) (i:Nat) (e:Env) (h:Heap):kRound ks (.exit i) e h = .ok (.exit i,e) h:=rfl
theorem ζ1k (ks:List Nat) (e:Env) (h:Heap):kRound ks .ret e h = .ok (.ret,e) h:=rfl
theorem ζdf {β:Type} (k:Nat) (call:Caller) (e:Env) (h:Heap) (K:Kont β):pieceK (C k) call F.ζ0 [] e h K = pieceK (C k) call F.ζ0 [0] e h (kSeq (pieceK (C k) call F.ζ0 [1]) K):=by kernel_rfl
theorem ζdg {β:Type} (k:Nat) (call:Caller) (a0:Value) (h:Heap) (K:Kont β):pieceK (C k) call F.ζ0 [0] [(0,a0)] h K =
 (  K .normal [(0,a0)] h):=by kernel_rfl
theorem ζdh {β:Type} (k:Nat) (call:Caller) (e:Env) (h:Heap) (K:Kont β):pieceK (C k) call F.ζ0 [1] e h K = pieceK (C k) call F.ζ0 [1,0] e h (kSeq (pieceK (C k) call F.ζ0 [1,1]) K):=by kernel_rfl
theorem ζdi {β:Type} (k:Nat) (call:Caller) (a0:Value) (h:Heap) (K:Kont β):pieceK (C k) call F.ζ0 [1,0] [(0,a0)] h K =
 (  (buildSliceR Prog 31 2 [(0,(.int .u8 1)),(1,(.int .u8 0))] h).bind fun v1 h2 =>
 (buildSliceR Prog 31 2 [(0,(.int .u8 1)),(1,(.int .u8 0))] h2).bind fun v3 h4 =>
 (buildSliceR Prog 101 2 [(0,v1),(1,v3)] h4).bind fun v5 h6 =>
 (buildR Prog 130 [(1,(.int .i64 32)),(3,(.int .i64 65535))] h6).bind fun v7 h8 =>
 (buildR Prog 130 [(2,(.int .i64 65535)),(3,(.int .i64 65535))] h8).bind fun v9 h10 =>
 (buildSliceR Prog 102 2 [(0,v7),(1,v9)] h10).bind fun v11 h12 =>
 (buildR Prog 104 [(1,v5),(2,v11)] h12).bind fun v13 h14 =>
 (buildSliceR Prog 106 1 [(0,(.int .u16 9))] h14).bind fun v15 h16 =>
 (buildR Prog 154 [(0,v13),(1,v15)] h16).bind fun v17 h18 =>
 (allocR Prog 154 h18).bind fun v19 h20 =>
 (storeR Prog 154 v19 v17 h20).bind fun _v21 h22 =>
 K .normal [(0,a0),(3,v19)] h22):=by kernel_rfl
theorem ζdj {β:Type} (k:Nat) (call:Caller) (e:Env) (h:Heap) (K:Kont β):pieceK (C k) call F.ζ0 [1,1] e h K = pieceK (C k) call F.ζ0 [1,1,0] e h (kSeq (pieceK (C k) call F.ζ0 [1,1,1]) K):=by kernel_rfl
theorem ζdk {β:Type} (k:Nat) (call:Caller) (a0 v19:Value) (h22:Heap) (K:Kont β):pieceK (C k) call F.ζ0 [1,1,0] [(0,a0),(3,v19)] h22 K =
 (  (loadR Prog 154 v19 h22).bind fun v23 h24 =>
 (call F.ζ1c [v23] h24).bind fun v25 h26 =>
 (call F.ins_Read [v25,(.int .i64 20)] h26).bind fun v27 h28 =>
 (extractR v27 0 h28).bind fun v29 h30 =>
 (extractR v27 1 h30).bind fun v31 h32 =>
 K .normal [(0,a0),(4,v29),(5,v31)] h32):=by kernel_rfl
theorem ζdl {β:Type} (k:Nat) (call:Caller) (e:Env) (h:Heap) (K:Kont β):pieceK (C k) call F.ζ0 [1,1,1] e h K = pieceK (C k) call F.ζ0 [1,1,1,0] e h (kSeq (pieceK (C k) call F.ζ0 [1,1,1,1]) K):=by kernel_rfl
theorem ζdm {β:Type} (k:Nat) (call:Caller) (a0 v29 v31:Value) (h32:Heap) (K:Kont β):pieceK (C k) call F.ζ0 [1,1,1,0] [(0,a0),(4,v29),(5,v31)] h32 K =
 (  (buildSliceR Prog 31 10 [(0,(.int .u8 4)),(1,(.int .u8 4)),(2,(.int .u8 4)),(3,(.int .u8 4)),(4,(.int .u8 4)),(5,(.int .u8 4)),(6,(.int .u8 4)),(7,(.int .u8 4)),(8,(.int .u8 4)),(9,(.int .u8 5))] h32).bind fun v33 h34 =>
 (buildSliceR Prog 31 6 [(0,(.int .u8 0)),(1,(.int .u8 0)),(2,(.int .u8 0)),(3,(.int .u8 0)),(4,(.int .u8 1)),(5,(.int .u8 2))] h34).bind fun v35 h36 =>
 (buildSliceR Prog 31 6 [(0,(.int .u8 0)),(1,(.int .u8 0)),(2,(.int .u8 0)),(3,(.int .u8 0)),(4,(.int .u8 1)),(5,(.int .u8 2))] h36).bind fun v37 h38 =>
 (buildSliceR Prog 101 2 [(0,v35),(1,v37)] h38).bind fun v39 h40 =>
 (buildR Prog 130 [] h40).bind fun v41 h42 =>
 (buildR Prog 130 [(1,(.int .i64 32768))] h42).bind fun v43 h44 =>
 (buildR Prog 130 [(1,(.int .i64 40960))] h44).bind fun v45 h46 =>
 (buildSliceR Prog 102 3 [(0,v41),(1,v43),(2,v45)] h46).bind fun v47 h48 =>
 (buildR Prog 104 [(0,v33),(3,(.int .u8 2)),(1,v39),(2,v47)] h48).bind fun v49 h50 =>
 (buildSliceR Prog 105 2 [(0,(.int .u32 0)),(1,(.int .u32 2147483648))] h50).bind fun v51 h52 =>
 (buildR Prog 108 [(0,v49),(1,v51)] h52).bind fun v53 h54 =>
 (allocR Prog 108 h54).bind fun v55 h56 =>
 (storeR Prog 108 v55 v53 h56).bind fun _v57 h58 =>
 K .normal [(0,a0),(4,v29),(5,v31),(6,v55)] h58):=by kernel_rfl
theorem ζdn {β:Type} (k:Nat) (call:Caller) (e:Env) (h:Heap) (K:Kont β):pieceK (C k) call F.ζ0 [1,1,1,1] e h K = pieceK (C k) call F.ζ0 [1,1,1,1,0] e h (kSeq (pieceK (C k) call F.ζ0 [1,1,1,1,1]) K):=by kernel_rfl
theorem ζab {β:Type} (k:Nat) (call:Caller) (e:Env) (h:Heap) (K:Kont β):pieceK (C k) call F.ζ0 [1,1,1,1,0] e h K = pieceK (C k) call F.ζ0 [1,1,1,1,0,0] e h (kSeq (pieceK (C k) call F.ζ0 [1,1,1,1,0,1]) K):=by kernel_rfl
theorem ζac {β:Type} (k:Nat) (call:Caller) (a0 v29 v31 v55:Value) (h58:Heap) (K:Kont β):pieceK (C k) call F.ζ0 [1,1,1,1,0,0] [(0,a0),(4,v29),(5,v31),(6,v55)] h58 K =
 (  K .normal [(0,a0),(4,v29),(5,v31),(6,v55),(44,(.int .i64 0))] h58):=by kernel_rfl
theorem ζad {β:Type} (k:Nat) (call:Caller) (e:Env) (h:Heap) (K:Kont β):pieceK (C k) call F.ζ0 [1,1,1,1,0,1] e h K = pieceK (C k) call F.ζ0 [1,1,1,1,0,1,0] e h (kBlock 0 K):=by kernel_rfl
theorem ζae {β:Type} (k:Nat) (call:Caller) (a0 v29 v31 v55:Value) (h58:Heap) (K:Kont β):pieceK (C k) call F.ζ0 [1,1,1,1,0,1,0] [(0,a0),(4,v29),(5,v31),(6,v55),(44,(.int .i64 0))] h58 K =
 ((loopN (ζ2l k call) loopFuel [(0,a0),(4,v29),(5,v31),(6,v55),(44,(.int .i64 0))] h58).bind fun r59 h60 => K r59.1 r59.2 h60):=by kernel_rfl
theorem ζaf {β:Type} (k:Nat) (call:Caller) (e:Env) (h:Heap) (K:Kont β):pieceK (C k) call F.ζ0 [1,1,1,1,0,1,0,0] e h K = pieceK (C k) call F.ζ0 [1,1,1,1,0,1,0,0,0] e h (kSeq (pieceK (C k) call F.ζ0 [1,1,1,1,0,1,0,0,1]) K):=by kernel_rfl
theorem ζag {β:Type} (k:Nat) (call:Caller) (a0 a4 a5 a6 a44:Value) (h:Heap) (K:Kont β):pieceK (C k) call F.ζ0 [1,1,1,1,0,1,0,0,0] [(0,a0),(4,a4),(5,a5),(6,a6),(44,a44)] h K =
 (  (binR Prog .lss 3 a44 (.int .i64 10) h).bind fun v61 h62 =>
 K .normal [(0,a0),(4,a4),(5,a5),(6,a6),(44,a44),(45,v61)] h62):=by kernel_rfl
theorem ζah {β:Type} (k:Nat) (call:Caller) (e:Env) (h:Heap) (K:Kont β):pieceK (C k) call F.ζ0 [1,1,1,1,0,1,0,0,1] e h K = pieceK (C k) call F.ζ0 [1,1,1,1,0,1,0,0,1,0] e h (kSeq (pieceK (C k) call F.ζ0 [1,1,1,1,0,1,0,0,1,1]) K):=by kernel_rfl
theorem ζai {β:Type} (k:Nat) (call:Caller) (a0 a4 a5 a6 a44 v61:Value) (h62:Heap) (K:Kont β):pieceK (C k) call F.ζ0 [1,1,1,1,0,1,0,0,1,0] [(0,a0),(4,a4),(5,a5),(6,a6),(44,a44),(45,v61)] h62 K =
 (condV (some v61) (pieceK (C k) call F.ζ0 [1,1,1,1,0,1,0,0,1,0,0] [(0,a0),(4,a4),(5,a5),(6,a6),(44,a44),(45,v61)] h62 K) (pieceK (C k) call F.ζ0 [1,1,1,1,0,1,0,0,1,0,1] [(0,a0),(4,a4),(5,a5),(6,a6),(44,a44),(45,v61)] h62 K)):=by kernel_rfl
theorem ζaj {β:Type} (k:Nat) (call:Caller) (e:Env) (h:Heap) (K:Kont β):pieceK (C k) call F.ζ0 [1,1,1,1,0,1,0,0,1,0,0] e h K = K .normal e h:=by kernel_rfl
theorem ζak {β:Type} (k:Nat) (call:Caller) (e:Env) (h:Heap) (K:Kont β):pieceK (C k) call F.ζ0 [1,1,1,1,0,1,0,0,1,1] e h K = pieceK (C k) call F.ζ0 [1,1,1,1,0,1,0,0,1,1,0] e h (kSeq (pieceK (C k) call F.ζ0 [1,1,1,1,0,1,0,0,1,1,1]) K):=by kernel_rfl
theorem ζal {β:Type} (k:Nat) (call:Caller) (e:Env) (h:Heap) (K:Kont β):pieceK (C k) call F.ζ0 [1,1,1,1,0,1,0,0,1,1,0] e h K = pieceK (C k) call F.ζ0 [1,1,1,1,0,1,0,0,1,1,0,0] e h (kBlock 1 K):=by kernel_rfl
theorem ζam {β:Type} (k:Nat) (call:Caller) (e:Env) (h:Heap) (K:Kont β):pieceK (C k) call F.ζ0 [1,1,1,1,0,1,0,0,1,1,0,0] e h K = pieceK (C k) call F.ζ0 [1,1,1,1,0,1,0,0,1,1,0,0,0] e h (kSeq (pieceK (C k) call F.ζ0 [1,1,1,1,0,1,0,0,1,1,0,0,1]) K):=by kernel_rfl
theorem ζan {β:Type} (k:Nat) (call:Caller) (a0 a4 a5 a6 a44 v61:Value) (h62:Heap) (K:Kont β):pieceK (C k) call F.ζ0 [1,1,1,1,0,1,0,0,1,1,0,0,0] [(0,a0),(4,a4),(5,a5),(6,a6),(44,a44),(45,v61)] h62 K =
 (    K .normal [(0,a0),(4,a4),(5,a5),(6,a6),(7,a44),(44,a44)] h62):=by kernel_rfl
theorem ζao {β:Type} (k:Nat) (call:Caller) (e:Env) (h:Heap) (K:Kont β):pieceK (C k) call F.ζ0 [1,1,1,1,0,1,0,0,1,1,0,0,1] e h K = pieceK (C k) call F.ζ0 [1,1,1,1,0,1,0,0,1,1,0,0,1,0] e h (kSeq (pieceK (C k) call F.ζ0 [1,1,1,1,0,1,0,0,1,1,0,0,1,1]) K):=by kernel_rfl
theorem ζap {β:Type} (k:Nat) (call:Caller) (a0 a4 a5 a6 a44:Value) (h62:Heap) (K:Kont β):pieceK (C k) call F.ζ0 [1,1,1,1,0,1,0,0,1,1,0,0,1,0] [(0,a0),(4,a4),(5,a5),(6,a6),(7,a44),(44,a44)] h62 K =
 (    (fieldAddrR Prog 108 a6 2 h62).bind fun v63 h64 =>
 (loadR Prog 106 v63 h64).bind fun v65 h66 =>
 (binR Prog .rem 3 a44 (.int .i64 9) h66).bind fun v67 h68 =>
 (convR Prog 3 80 v67 h68).bind fun v69 h70 =>
 (buildSliceR Prog 106 1 [(0,v69)] h70).bind fun v71 h72 =>
 (builtinV Prog .append [106,106] [v65,v71] h72).bind fun v73 h74 =>
 (fieldAddrR Prog 108 a6 2 h74).bind fun v75 h76 =>
 (storeR Prog 106 v75 v73 h76).bind fun _v77 h78 =>
 K .normal [(0,a0),(4,a4),(5,a5),(6,a6),(7,a44),(44,a44)] h78):=by kernel_rfl
theorem ζaq {β:Type} (k:Nat) (call:Caller) (a0 a4 a5 a6 a44:Value) (h78:Heap) (K:Kont β):pieceK (C k) call F.ζ0 [1,1,1,1,0,1,0,0,1,1,0,0,1,1] [(0,a0),(4,a4),(5,a5),(6,a6),(7,a44),(44,a44)] h78 K =
 (    (fieldAddrR Prog 108 a6 3 h78).bind fun v79 h80 =>
 (loadR Prog 106 v79 h80).bind fun v81 h82 =>
 (convR Prog 3 80 a44 h82).bind fun v83 h84 =>
 (buildSliceR Prog 106 1 [(0,v83)] h84).bind fun v85 h86 =>
 (builtinV Prog .append [106,106] [v81,v85] h86).bind fun v87 h88 =>
 (fieldAddrR Prog 108 a6 3 h88).bind fun v89 h90 =>
 (storeR Prog 106 v89 v87 h90).bind fun _v91 h92 =>
 K .normal [(0,a0),(4,a4),(5,a5),(6,a6),(44,a44)] h92):=by kernel_rfl
theorem ζar {β:Type} (k:Nat) (call:Caller) (a0 a4 a5 a6 a44:Value) (h92:Heap) (K:Kont β):pieceK (C k) call F.ζ0 [1,1,1,1,0,1,0,0,1,1,1] [(0,a0),(4,a4),(5,a5),(6,a6),(44,a44)] h92 K =
 (    (binR Prog .add 3 a44 (.int .i64 1) h92).bind fun v93 h94 =>
 K .normal [(0,a0),(4,a4),(5,a5),(6,a6),(44,v93)] h94):=by kernel_rfl
theorem ζas (k:Nat) (a0 a4 a5 a6 v93:Value) (h94:Heap):kRound (ownOf (C k) F.ζ0 [1,1,1,1,0,1,0,0]) .normal [(0,a0),(4,a4),(5,a5),(6,a6),(44,v93)] h94 =
 (.ok (.normal,[(0,a0),(4,a4),(5,a5),(6,a6),(44,v93)]) h94):=by kernel_rfl
theorem ζat {β:Type} (k:Nat) (call:Caller) (e:Env) (h:Heap) (K:Kont β):pieceK (C k) call F.ζ0 [1,1,1,1,0,1,0,0,1,0,1] e h K = K (.exit 0) e h:=by kernel_rfl
theorem ζau {β:Type} (k:Nat) (call:Caller) (e:Env) (h:Heap) (K:Kont β):pieceK (C k) call F.ζ0 [1,1,1,1,1] e h K = pieceK (C k) call F.ζ0 [1,1,1,1,1,0] e h (kSeq (pieceK (C k) call F.ζ0 [1,1,1,1,1,1]) K):=by kernel_rfl
theorem ζav {β:Type} (k:Nat) (call:Caller) (a0 a4 a5 a6 a44 a45:Value) (h:Heap) (K:Kont β):pieceK (C k) call F.ζ0 [1,1,1,1,1,0] [(0,a0),(4,a4),(5,a5),(6,a6),(44,a44),(45,a45)] h K =
 (  (loadR Prog 108 a6 h).bind fun v95 h96 =>
 (call F.ζa [v95] h96).bind fun v97 h98 =>
 (call F.ζ5t [v97,(.int .i64 20)] h98).bind fun v99 h100 =>
 (extractR v99 0 h100).bind fun v101 h102 =>
 (extractR v99 1 h102).bind fun v103 h104 =>
 K .normal [(0,a0),(4,a4),(5,a5),(8,v101),(9,v103)] h104):=by kernel_rfl
theorem ζaw {β:Type} (k:Nat) (call:Caller) (e:Env) (h:Heap) (K:Kont β):pieceK (C k) call F.ζ0 [1,1,1,1,1,1] e h K = pieceK (C k) call F.ζ0 [1,1,1,1,1,1,0] e h (kSeq (pieceK (C k) call F.ζ0 [1,1,1,1,1,1,1]) K):=by kernel_rfl
theorem ζax {β:Type} (k:Nat) (call:Caller) (e:Env) (h:Heap) (K:Kont β):pieceK (C k) call F.ζ0 [1,1,1,1,1,1,0] e h K = pieceK (C k) call F.ζ0 [1,1,1,1,1,1,0,0] e h (kSeq (pieceK (C k) call F.ζ0 [1,1,1,1,1,1,0,1]) K):=by kernel_rfl
theorem ζay {β:Type} (k:Nat) (call:Caller) (a0 a4 a5 v101 v103:Value) (h104:Heap) (K:Kont β):pieceK (C k) call F.ζ0 [1,1,1,1,1,1,0,0] [(0,a0),(4,a4),(5,a5),(8,v101),(9,v103)] h104 K =
 (  (binR Prog .neq 33 a5 (.int .i64 0) h104).bind fun v105 h106 =>
 ((bif wantVal v105 false then Res.ok v103 h106 else Res.ok undef h106)).bind fun v107 h108 =>
 ((bif wantVal v105 false then binR Prog .neq 33 v107 (.int .i64 0) h108 else Res.ok undef h108)).bind fun v109 h110 =>
 (condV (some v105) (Res.ok (.bool true) h110) (Res.ok v109 h110)).bind fun v111 h112 =>
 ((bif wantVal v111 false then Res.ok a4 h112 else Res.ok undef h112)).bind fun v113 h114 =>
 ((bif wantVal v111 false then binR Prog .eql 155 v113 (.pointer none) h114 else Res.ok undef h114)).bind fun v115 h116 =>
 (condV (some v111) (Res.ok (.bool true) h116) (Res.ok v115 h116)).bind fun v117 h118 =>
 ((bif wantVal v117 false then Res.ok v101 h118 else Res.ok undef h118)).bind fun v119 h120 =>
 ((bif wantVal v117 false then binR Prog .eql 111 v119 (.pointer none) h120 else Res.ok undef h120)).bind fun v121 h122 =>
 (condV (some v117) (Res.ok (.bool true) h122) (Res.ok v121 h122)).bind fun v123 h124 =>
 K .normal [(0,a0),(4,a4),(8,v101),(82,v123)] h124):=by kernel_rfl
theorem ζaz {β:Type} (k:Nat) (call:Caller) (a0 a4 v101 v123:Value) (h124:Heap) (K:Kont β):pieceK (C k) call F.ζ0 [1,1,1,1,1,1,0,1] [(0,a0),(4,a4),(8,v101),(82,v123)] h124 K =
 (condV (some v123) (pieceK (C k) call F.ζ0 [1,1,1,1,1,1,0,1,0] [(0,a0),(4,a4),(8,v101),(82,v123)] h124 K) (pieceK (C k) call F.ζ0 [1,1,1,1,1,1,0,1,1] [(0,a0),(4,a4),(8,v101),(82,v123)] h124 K)):=by kernel_rfl
theorem ζb0 {β:Type} (k:Nat) (call:Caller) (e:Env) (h:Heap) (K:Kont β):pieceK (C k) call F.ζ0 [1,1,1,1,1,1,0,1,0] e h K = pieceK (C k) call F.ζ0 [1,1,1,1,1,1,0,1,0,0] e h (kSeq (pieceK (C k) call F.ζ0 [1,1,1,1,1,1,0,1,0,1]) K):=by kernel_rfl
theorem ζb1 {β:Type} (k:Nat) (call:Caller) (a0 a4 v101 v123:Value) (h124:Heap) (K:Kont β):pieceK (C k) call F.ζ0 [1,1,1,1,1,1,0,1,0,0] [(0,a0),(4,a4),(8,v101),(82,v123)] h124 K =
 (    K .normal [(2,(.bool false))] h124):=by kernel_rfl
theorem ζb2 {β:Type} (k:Nat) (call:Caller) (e:Env) (h:Heap) (K:Kont β):pieceK (C k) call F.ζ0 [1,1,1,1,1,1,0,1,0,1] e h K = K .ret e h:=by kernel_rfl
theorem ζb3 (h124:Heap):kDone Prog (resOf Prog F.ζ0) .ret [(2,(.bool false))] h124 =
 (    .ok (.bool false) h124):=by kernel_rfl
theorem ζb4 {β:Type} (k:Nat) (call:Caller) (e:Env) (h:Heap) (K:Kont β):pieceK (C k) call F.ζ0 [1,1,1,1,1,1,0,1,1] e h K = K .normal e h:=by kernel_rfl
theorem ζb5 {β:Type} (k:Nat) (call:Caller) (e:Env) (h:Heap) (K:Kont β):pieceK (C k) call F.ζ0 [1,1,1,1,1,1,1] e h K = pieceK (C k) call F.ζ0 [1,1,1,1,1,1,1,0] e h (kSeq (pieceK (C k) call F.ζ0 [1,1,1,1,1,1,1,1]) K):=by kernel_rfl
theorem ζb6 {β:Type} (k:Nat) (call:Caller) (e:Env) (h:Heap) (K:Kont β):pieceK (C k) call F.ζ0 [1,1,1,1,1,1,1,0] e h K = pieceK (C k) call F.ζ0 [1,1,1,1,1,1,1,0,0] e h (kSeq (pieceK (C k) call F.ζ0 [1,1,1,1,1,1,1,0,1]) K):=by kernel_rfl
theorem ζb7 {β:Type} (k:Nat) (call:Caller) (a0 a4 v101 v123:Value) (h124:Heap) (K:Kont β):pieceK (C k) call F.ζ0 [1,1,1,1,1,1,1,0,0] [(0,a0),(4,a4),(8,v101),(82,v123)] h124 K =
 (    (builtinV Prog .len [31] [a0] h124).bind fun v125 h126 =>
 (binR Prog .gtr 3 v125 (.int .i64 60) h126).bind fun v127 h128 =>
 K .normal [(0,a0),(4,a4),(8,v101),(85,v127)] h128):=by kernel_rfl
theorem ζb8 {β:Type} (k:Nat) (call:Caller) (a0 a4 v101 v127:Value) (h128:Heap) (K:Kont β):pieceK (C k) call F.ζ0 [1,1,1,1,1,1,1,0,1] [(0,a0),(4,a4),(8,v101),(85,v127)] h128 K =
 (condV (some v127) (pieceK (C k) call F.ζ0 [1,1,1,1,1,1,1,0,1,0] [(0,a0),(4,a4),(8,v101),(85,v127)] h128 K) (pieceK (C k) call F.ζ0 [1,1,1,1,1,1,1,0,1,1] [(0,a0),(4,a4),(8,v101),(85,v127)] h128 K)):=by kernel_rfl
theorem ζb9 {β:Type} (k:Nat) (call:Caller) (e:Env) (h:Heap) (K:Kont β):pieceK (C k) call F.ζ0 [1,1,1,1,1,1,1,0,1,0] e h K = pieceK (C k) call F.ζ0 [1,1,1,1,1,1,1,0,1,0,0] e h (kSeq (pieceK (C k) call F.ζ0 [1,1,1,1,1,1,1,0,1,0,1]) K):=by kernel_rfl
theorem ζba {β:Type} (k:Nat) (call:Caller) (a0 a4 v101 v127:Value) (h128:Heap) (K:Kont β):pieceK (C k) call F.ζ0 [1,1,1,1,1,1,1,0,1,0,0] [(0,a0),(4,a4),(8,v101),(85,v127)] h128 K =
 (      K .normal [(2,(.bool true))] h128):=by kernel_rfl
theorem ζbb {β:Type} (k:Nat) (call:Caller) (e:Env) (h:Heap) (K:Kont β):pieceK (C k) call F.ζ0 [1,1,1,1,1,1,1,0,1,0,1] e h K = K .ret e h:=by kernel_rfl
theorem ζbc (h128:Heap):kDone Prog (resOf Prog F.ζ0) .ret [(2,(.bool true))] h128 =
 (      .ok (.bool true) h128):=by kernel_rfl
theorem ζbd {β:Type} (k:Nat) (call:Caller) (e:Env) (h:Heap) (K:Kont β):pieceK (C k) call F.ζ0 [1,1,1,1,1,1,1,0,1,1] e h K = K .normal e h:=by kernel_rfl
theorem ζbe {β:Type} (k:Nat) (call:Caller) (e:Env) (h:Heap) (K:Kont β):pieceK (C k) call F.ζ0 [1,1,1,1,1,1,1,1] e h K = pieceK (C k) call F.ζ0 [1,1,1,1,1,1,1,1,0] e h (kSeq (pieceK (C k) call F.ζ0 [1,1,1,1,1,1,1,1,1]) K):=by kernel_rfl
theorem ζbf {β:Type} (k:Nat) (call:Caller) (a0 a4 v101 v127:Value) (h128:Heap) (K:Kont β):pieceK (C k) call F.ζ0 [1,1,1,1,1,1,1,1,0] [(0,a0),(4,a4),(8,v101),(85,v127)] h128 K =
 (      K .normal [(0,a0),(4,a4),(8,v101),(10,(.slice none 0 0))] h128):=by kernel_rfl
theorem ζbg {β:Type} (k:Nat) (call:Caller) (e:Env) (h:Heap) (K:Kont β):pieceK (C k) call F.ζ0 [1,1,1,1,1,1,1,1,1] e h K = pieceK (C k) call F.ζ0 [1,1,1,1,1,1,1,1,1,0] e h (kSeq (pieceK (C k) call F.ζ0 [1,1,1,1,1,1,1,1,1,1]) K):=by kernel_rfl
theorem ζbh {β:Type} (k:Nat) (call:Caller) (e:Env) (h:Heap) (K:Kont β):pieceK (C k) call F.ζ0 [1,1,1,1,1,1,1,1,1,0] e h K = pieceK (C k) call F.ζ0 [1,1,1,1,1,1,1,1,1,0,0] e h (kSeq (pieceK (C k) call F.ζ0 [1,1,1,1,1,1,1,1,1,0,1]) K):=by kernel_rfl
theorem ζbi {β:Type} (k:Nat) (call:Caller) (a0 a4 v101:Value) (h128:Heap) (K:Kont β):pieceK (C k) call F.ζ0 [1,1,1,1,1,1,1,1,1,0,0] [(0,a0),(4,a4),(8,v101),(10,(.slice none 0 0))] h128 K =
 (      (builtinV Prog .len [31] [a0] h128).bind fun v129 h130 =>
 K .normal [(4,a4),(8,v101),(10,(.slice none 0 0)),(86,a0),(87,v129),(88,(.int .i64 0))] h130):=by kernel_rfl
theorem ζbj {β:Type} (k:Nat) (call:Caller) (e:Env) (h:Heap) (K:Kont β):pieceK (C k) call F.ζ0 [1,1,1,1,1,1,1,1,1,0,1] e h K = pieceK (C k) call F.ζ0 [1,1,1,1,1,1,1,1,1,0,1,0] e h (kBlock 2 K):=by kernel_rfl
theorem ζbk {β:Type} (k:Nat) (call:Caller) (a4 v101 a0 v129:Value) (h130:Heap) (K:Kont β):pieceK (C k) call F.ζ0 [1,1,1,1,1,1,1,1,1,0,1,0] [(4,a4),(8,v101),(10,(.slice none 0 0)),(86,a0),(87,v129),(88,(.int .i64 0))] h130 K =
 ((loopN (ζ2m k call) loopFuel [(4,a4),(8,v101),(10,(.slice none 0 0)),(86,a0),(87,v129),(88,(.int .i64 0))] h130).bind fun r131 h132 => K r131.1 r131.2 h132):=by kernel_rfl
theorem ζbl {β:Type} (k:Nat) (call:Caller) (e:Env) (h:Heap) (K:Kont β):pieceK (C k) call F.ζ0 [1,1,1,1,1,1,1,1,1,0,1,0,0] e h K = pieceK (C k) call F.ζ0 [1,1,1,1,1,1,1,1,1,0,1,0,0,0] e h (kSeq (pieceK (C k) call F.ζ0 [1,1,1,1,1,1,1,1,1,0,1,0,0,1]) K):=by kernel_rfl
theorem ζbm {β:Type} (k:Nat) (call:Caller) (a4 a8 a10 a86 a87 a88:Value) (h:Heap) (K:Kont β):pieceK (C k) call F.ζ0 [1,1,1,1,1,1,1,1,1,0,1,0,0,0] [(4,a4),(8,a8),(10,a10),(86,a86),(87,a87),(88,a88)] h K =
 (  (binR Prog .lss 3 a88 a87 h).bind fun v133 h134 =>
 K .normal [(4,a4),(8,a8),(10,a10),(86,a86),(87,a87),(88,a88),(89,v133)] h134):=by kernel_rfl
theorem ζbn {β:Type} (k:Nat) (call:Caller) (e:Env) (h:Heap) (K:Kont β):pieceK (C k) call F.ζ0 [1,1,1,1,1,1,1,1,1,0,1,0,0,1] e h K = pieceK (C k) call F.ζ0 [1,1,1,1,1,1,1,1,1,0,1,0,0,1,0] e h (kSeq (pieceK (C k) call F.ζ0 [1,1,1,1,1,1,1,1,1,0,1,0,0,1,1]) K):=by kernel_rfl
theorem ζbo {β:Type} (k:Nat) (call:Caller) (a4 a8 a10 a86 a87 a88 v133:Value) (h134:Heap) (K:Kont β):pieceK (C k) call F.ζ0 [1,1,1,1,1,1,1,1,1,0,1,0,0,1,0] [(4,a4),(8,a8),(10,a10),(86,a86),(87,a87),(88,a88),(89,v133)] h134 K =
 (condV (some v133) (pieceK (C k) call F.ζ0 [1,1,1,1,1,1,1,1,1,0,1,0,0,1,0,0] [(4,a4),(8,a8),(10,a10),(86,a86),(87,a87),(88,a88),(89,v133)] h134 K) (pieceK (C k) call F.ζ0 [1,1,1,1,1,1,1,1,1,0,1,0,0,1,0,1] [(4,a4),(8,a8),(10,a10),(86,a86),(87,a87),(88,a88),(89,v133)] h134 K)):=by kernel_rfl
theorem ζbp {β:Type} (k:Nat) (call:Caller) (e:Env) (h:Heap) (K:Kont β):pieceK (C k) call F.ζ0 [1,1,1,1,1,1,1,1,1,0,1,0,0,1,0,0] e h K = K .normal e h:=by kernel_rfl
theorem ζbq {β:Type} (k:Nat) (call:Caller) (e:Env) (h:Heap) (K:Kont β):pieceK (C k) call F.ζ0 [1,1,1,1,1,1,1,1,1,0,1,0,0,1,1] e h K = pieceK (C k) call F.ζ0 [1,1,1,1,1,1,1,1,1,0,1,0,0,1,1,0] e h (kSeq (pieceK (C k) call F.ζ0 [1,1,1,1,1,1,1,1,1,0,1,0,0,1,1,1]) K):=by kernel_rfl
theorem ζbr {β:Type} (k:Nat) (call:Caller) (e:Env) (h:Heap) (K:Kont β):pieceK (C k) call F.ζ0 [1,1,1,1,1,1,1,1,1,0,1,0,0,1,1,0] e h K = pieceK (C k) call F.ζ0 [1,1,1,1,1,1,1,1,1,0,1,0,0,1,1,0,0] e h (kBlock 3 K):=by kernel_rfl
theorem ζbs {β:Type} (k:Nat) (call:Caller) (e:Env) (h:Heap) (K:Kont β):pieceK (C k) call F.ζ0 [1,1,1,1,1,1,1,1,1,0,1,0,0,1,1,0,0] e h K = pieceK (C k) call F.ζ0 [1,1,1,1,1,1,1,1,1,0,1,0,0,1,1,0,0,0] e h (kSeq (pieceK (C k) call F.ζ0 [1,1,1,1,1,1,1,1,1,0,1,0,0,1,1,0,0,1]) K):=by kernel_rfl
theorem ζbt {β:Type} (k:Nat) (call:Caller) (a4 a8 a10 a86 a87 a88 v133:Value) (h134:Heap) (K:Kont β):pieceK (C k) call F.ζ0 [1,1,1,1,1,1,1,1,1,0,1,0,0,1,1,0,0,0] [(4,a4),(8,a8),(10,a10),(86,a86),(87,a87),(88,a88),(89,v133)] h134 K =
 (    (indexAddrR Prog 31 a86 a88 h134).bind fun v135 h136 =>
 (loadR Prog 5 v135 h136).bind fun v137 h138 =>
 K .normal [(4,a4),(8,a8),(10,a10),(12,v137),(86,a86),(87,a87),(88,a88)] h138):=by kernel_rfl
theorem ζbu {β:Type} (k:Nat) (call:Caller) (a4 a8 a10 v137 a86 a87 a88:Value) (h138:Heap) (K:Kont β):pieceK (C k) call F.ζ0 [1,1,1,1,1,1,1,1,1,0,1,0,0,1,1,0,0,1] [(4,a4),(8,a8),(10,a10),(12,v137),(86,a86),(87,a87),(88,a88)] h138 K =
 (    (convR Prog 5 3 v137 h138).bind fun v139 h140 =>
 (binR Prog .rem 3 v139 (.int .i64 9) h140).bind fun v141 h142 =>
 (buildSliceR Prog 23 1 [(0,v141)] h142).bind fun v143 h144 =>
 (builtinV Prog .append [23,23] [a10,v143] h144).bind fun v145 h146 =>
 K .normal [(4,a4),(8,a8),(10,v145),(86,a86),(87,a87),(88,a88)] h146):=by kernel_rfl
theorem ζbv {β:Type} (k:Nat) (call:Caller) (a4 a8 v145 a86 a87 a88:Value) (h146:Heap) (K:Kont β):pieceK (C k) call F.ζ0 [1,1,1,1,1,1,1,1,1,0,1,0,0,1,1,1] [(4,a4),(8,a8),(10,v145),(86,a86),(87,a87),(88,a88)] h146 K =
 (    (binR Prog .add 3 a88 (.int .i64 1) h146).bind fun v147 h148 =>
 K .normal [(4,a4),(8,a8),(10,v145),(86,a86),(87,a87),(88,v147)] h148):=by kernel_rfl
theorem ζbw (k:Nat) (a4 a8 v145 a86 a87 v147:Value) (h148:Heap):kRound (ownOf (C k) F.ζ0 [1,1,1,1,1,1,1,1,1,0,1,0,0]) .normal [(4,a4),(8,a8),(10,v145),(86,a86),(87,a87),(88,v147)] h148 =
 (.ok (.normal,[(4,a4),(8,a8),(10,v145),(86,a86),(87,a87),(88,v147)]) h148):=by kernel_rfl
theorem ζbx {β:Type} (k:Nat) (call:Caller) (e:Env) (h:Heap) (K:Kont β):pieceK (C k) call F.ζ0 [1,1,1,1,1,1,1,1,1,0,1,0,0,1,0,1] e h K = K (.exit 2) e h:=by kernel_rfl
theorem ζby {β:Type} (k:Nat) (call:Caller) (e:Env) (h:Heap) (K:Kont β):pieceK (C k) call F.ζ0 [1,1,1,1,1,1,1,1,1,1] e h K = pieceK (C k) call F.ζ0 [1,1,1,1,1,1,1,1,1,1,0] e h (kSeq (pieceK (C k) call F.ζ0 [1,1,1,1,1,1,1,1,1,1,1]) K):=by kernel_rfl
theorem ζbz {β:Type} (k:Nat) (call:Caller) (a4 a8 a10 a86 a87 a88 a89:Value) (h:Heap) (K:Kont β):pieceK (C k) call F.ζ0 [1,1,1,1,1,1,1,1,1,1,0] [(4,a4),(8,a8),(10,a10),(86,a86),(87,a87),(88,a88),(89,a89)] h K =
 (  (call F.line_New [a10] h).bind fun v149 h150 =>
 K .normal [(4,a4),(8,a8),(10,a10),(13,v149)] h150):=by kernel_rfl
theorem ζc0 {β:Type} (k:Nat) (call:Caller) (e:Env) (h:Heap) (K:Kont β):pieceK (C k) call F.ζ0 [1,1,1,1,1,1,1,1,1,1,1] e h K = pieceK (C k) call F.ζ0 [1,1,1,1,1,1,1,1,1,1,1,0] e h (kSeq (pieceK (C k) call F.ζ0 [1,1,1,1,1,1,1,1,1,1,1,1]) K):=by kernel_rfl
theorem ζc1 {β:Type} (k:Nat) (call:Caller) (a4 a8 a10 v149:Value) (h150:Heap) (K:Kont β):pieceK (C k) call F.ζ0 [1,1,1,1,1,1,1,1,1,1,1,0] [(4,a4),(8,a8),(10,a10),(13,v149)] h150 K =
 (  (builtinV Prog .len [23] [a10] h150).bind fun v151 h152 =>
 (call F.ζ2b [a4,v149,v151] h152).bind fun v153 h154 =>
 (extractR v153 0 h154).bind fun v155 h156 =>
 (extractR v153 1 h156).bind fun v157 h158 =>
 K .normal [(8,a8),(10,a10),(13,v149),(14,v155),(15,v157)] h158):=by kernel_rfl
theorem ζc2 {β:Type} (k:Nat) (call:Caller) (e:Env) (h:Heap) (K:Kont β):pieceK (C k) call F.ζ0 [1,1,1,1,1,1,1,1,1,1,1,1] e h K = pieceK (C k) call F.ζ0 [1,1,1,1,1,1,1,1,1,1,1,1,0] e h (kSeq (pieceK (C k) call F.ζ0 [1,1,1,1,1,1,1,1,1,1,1,1,1]) K):=by kernel_rfl
theorem ζc3 {β:Type} (k:Nat) (call:Caller) (e:Env) (h:Heap) (K:Kont β):pieceK (C k) call F.ζ0 [1,1,1,1,1,1,1,1,1,1,1,1,0] e h K = pieceK (C k) call F.ζ0 [1,1,1,1,1,1,1,1,1,1,1,1,0,0] e h (kSeq (pieceK (C k) call F.ζ0 [1,1,1,1,1,1,1,1,1,1,1,1,0,1]) K):=by kernel_rfl
theorem ζc4 {β:Type} (k:Nat) (call:Caller) (a8 a10 v149 v155 v157:Value) (h158:Heap) (K:Kont β):pieceK (C k) call F.ζ0 [1,1,1,1,1,1,1,1,1,1,1,1,0,0] [(8,a8),(10,a10),(13,v149),(14,v155),(15,v157)] h158 K =
 (  (builtinV Prog .len [23] [a10] h158).bind fun v159 h160 =>
 (binR Prog .neq 3 v155 v159 h160).bind fun v161 h162 =>
 ((bif wantVal v161 false then Res.ok v157 h162 else Res.ok undef h162)).bind fun v163 h164 =>
 ((bif wantVal v161 false then binR Prog .neq 33 v163 (.int .i64 0) h164 else Res.ok undef h164)).bind fun v165 h166 =>
 (condV (some v161) (Res.ok (.bool true) h166) (Res.ok v165 h166)).bind fun v167 h168 =>
 ((bif wantVal v167 false then Res.ok v149 h168 else Res.ok undef h168)).bind fun v169 h170 =>
 ((bif wantVal v167 false then call F.ζd [v169] h170 else Res.ok undef h170)).bind fun v171 h172 =>
 ((bif wantVal v167 false then Res.ok a10 h172 else Res.ok undef h172)).bind fun v173 h174 =>
 ((bif wantVal v167 false then builtinV Prog .len [23] [v173] h174 else Res.ok undef h174)).bind fun v175 h176 =>
 ((bif wantVal v167 false then binR Prog .mul 3 (.int .i64 2) v175 h176 else Res.ok undef h176)).bind fun v177 h178 =>
 ((bif wantVal v167 false then binR Prog .neq 3 v171 v177 h178 else Res.ok undef h178)).bind fun v179 h180 =>
 (condV (some v167) (Res.ok (.bool true) h180) (Res.ok v179 h180)).bind fun v181 h182 =>
 K .normal [(8,a8),(10,a10),(13,v149),(124,v181)] h182):=by kernel_rfl
theorem ζc5 {β:Type} (k:Nat) (call:Caller) (a8 a10 v149 v181:Value) (h182:Heap) (K:Kont β):pieceK (C k) call F.ζ0 [1,1,1,1,1,1,1,1,1,1,1,1,0,1] [(8,a8),(10,a10),(13,v149),(124,v181)] h182 K =
 (condV (some v181) (pieceK (C k) call F.ζ0 [1,1,1,1,1,1,1,1,1,1,1,1,0,1,0] [(8,a8),(10,a10),(13,v149),(124,v181)] h182 K) (pieceK (C k) call F.ζ0 [1,1,1,1,1,1,1,1,1,1,1,1,0,1,1] [(8,a8),(10,a10),(13,v149),(124,v181)] h182 K)):=by kernel_rfl
theorem ζc6 {β:Type} (k:Nat) (call:Caller) (e:Env) (h:Heap) (K:Kont β):pieceK (C k) call F.ζ0 [1,1,1,1,1,1,1,1,1,1,1,1,0,1,0] e h K = pieceK (C k) call F.ζ0 [1,1,1,1,1,1,1,1,1,1,1,1,0,1,0,0] e h (kSeq (pieceK (C k) call F.ζ0 [1,1,1,1,1,1,1,1,1,1,1,1,0,1,0,1]) K):=by kernel_rfl
theorem ζc7 {β:Type} (k:Nat) (call:Caller) (a8 a10 v149 v181:Value) (h182:Heap) (K:Kont β):pieceK (C k) call F.ζ0 [1,1,1,1,1,1,1,1,1,1,1,1,0,1,0,0] [(8,a8),(10,a10),(13,v149),(124,v181)] h182 K =
 (    K .normal [(2,(.bool false))] h182):=by kernel_rfl
theorem ζc8 {β:Type} (k:Nat) (call:Caller) (e:Env) (h:Heap) (K:Kont β):pieceK (C k) call F.ζ0 [1,1,1,1,1,1,1,1,1,1,1,1,0,1,0,1] e h K = K .ret e h:=by kernel_rfl
theorem ζc9 (h182:Heap):kDone Prog (resOf Prog F.ζ0) .ret [(2,(.bool false))] h182 =
 (    .ok (.bool false) h182):=by kernel_rfl
theorem ζca {β:Type} (k:Nat) (call:Caller) (e:Env) (h:Heap) (K:Kont β):pieceK (C k) call F.ζ0 [1,1,1,1,1,1,1,1,1,1,1,1,0,1,1] e h K = K .normal e h:=by kernel_rfl
theorem ζcb {β:Type} (k:Nat) (call:Caller) (e:Env) (h:Heap) (K:Kont β):pieceK (C k) call F.ζ0 [1,1,1,1,1,1,1,1,1,1,1,1,1] e h K = pieceK (C k) call F.ζ0 [1,1,1,1,1,1,1,1,1,1,1,1,1,0] e h (kSeq (pieceK (C k) call F.ζ0 [1,1,1,1,1,1,1,1,1,1,1,1,1,1]) K):=by kernel_rfl
theorem ζcc {β:Type} (k:Nat) (call:Caller) (e:Env) (h:Heap) (K:Kont β):pieceK (C k) call F.ζ0 [1,1,1,1,1,1,1,1,1,1,1,1,1,0] e h K = pieceK (C k) call F.ζ0 [1,1,1,1,1,1,1,1,1,1,1,1,1,0,0] e h (kSeq (pieceK (C k) call F.ζ0 [1,1,1,1,1,1,1,1,1,1,1,1,1,0,1]) K):=by kernel_rfl
theorem ζcd {β:Type} (k:Nat) (call:Caller) (a8 a10 v149 v181:Value) (h182:Heap) (K:Kont β):pieceK (C k) call F.ζ0 [1,1,1,1,1,1,1,1,1,1,1,1,1,0,0] [(8,a8),(10,a10),(13,v149),(124,v181)] h182 K =
 (    (call F.ζ3n [a8,v149] h182).bind fun v183 h184 =>
 (binR Prog .neq 33 v183 (.int .i64 0) h184).bind fun v185 h186 =>
 K .normal [(10,a10),(13,v149),(128,v185)] h186):=by kernel_rfl
theorem ζce {β:Type} (k:Nat) (call:Caller) (a10 v149 v185:Value) (h186:Heap) (K:Kont β):pieceK (C k) call F.ζ0 [1,1,1,1,1,1,1,1,1,1,1,1,1,0,1] [(10,a10),(13,v149),(128,v185)] h186 K =
 (condV (some v185) (pieceK (C k) call F.ζ0 [1,1,1,1,1,1,1,1,1,1,1,1,1,0,1,0] [(10,a10),(13,v149),(128,v185)] h186 K) (pieceK (C k) call F.ζ0 [1,1,1,1,1,1,1,1,1,1,1,1,1,0,1,1] [(10,a10),(13,v149),(128,v185)] h186 K)):=by kernel_rfl
theorem ζcf {β:Type} (k:Nat) (call:Caller) (e:Env) (h:Heap) (K:Kont β):pieceK (C k) call F.ζ0 [1,1,1,1,1,1,1,1,1,1,1,1,1,0,1,0] e h K = pieceK (C k) call F.ζ0 [1,1,1,1,1,1,1,1,1,1,1,1,1,0,1,0,0] e h (kSeq (pieceK (C k) call F.ζ0 [1,1,1,1,1,1,1,1,1,1,1,1,1,0,1,0,1]) K):=by kernel_rfl
theorem ζcg {β:Type} (k:Nat) (call:Caller) (a10 v149 v185:Value) (h186:Heap) (K:Kont β):pieceK (C k) call F.ζ0 [1,1,1,1,1,1,1,1,1,1,1,1,1,0,1,0,0] [(10,a10),(13,v149),(128,v185)] h186 K =
 (      K .normal [(2,(.bool false))] h186):=by kernel_rfl
theorem ζch {β:Type} (k:Nat) (call:Caller) (e:Env) (h:Heap) (K:Kont β):pieceK (C k) call F.ζ0 [1,1,1,1,1,1,1,1,1,1,1,1,1,0,1,0,1] e h K = K .ret e h:=by kernel_rfl
theorem ζci (h186:Heap):kDone Prog (resOf Prog F.ζ0) .ret [(2,(.bool false))] h186 =
 (      .ok (.bool false) h186):=by kernel_rfl
theorem ζcj {β:Type} (k:Nat) (call:Caller) (e:Env) (h:Heap) (K:Kont β):pieceK (C k) call F.ζ0 [1,1,1,1,1,1,1,1,1,1,1,1,1,0,1,1] e h K = K .normal e h:=by kernel_rfl
theorem ζck {β:Type} (k:Nat) (call:Caller) (e:Env) (h:Heap) (K:Kont β):pieceK (C k) call F.ζ0 [1,1,1,1,1,1,1,1,1,1,1,1,1,1] e h K = pieceK (C k) call F.ζ0 [1,1,1,1,1,1,1,1,1,1,1,1,1,1,0] e h (kSeq (pieceK (C k) call F.ζ0 [1,1,1,1,1,1,1,1,1,1,1,1,1,1,1]) K):=by kernel_rfl
theorem ζcl {β:Type} (k:Nat) (call:Caller) (a10 v149 v185:Value) (h186:Heap) (K:Kont β):pieceK (C k) call F.ζ0 [1,1,1,1,1,1,1,1,1,1,1,1,1,1,0] [(10,a10),(13,v149),(128,v185)] h186 K =
 (      (call F.ζ37 [v149] h186).bind fun v187 h188 =>
 K .normal [(10,a10),(13,v149)] h188):=by kernel_rfl
theorem ζcm {β:Type} (k:Nat) (call:Caller) (e:Env) (h:Heap) (K:Kont β):pieceK (C k) call F.ζ0 [1,1,1,1,1,1,1,1,1,1,1,1,1,1,1] e h K = pieceK (C k) call F.ζ0 [1,1,1,1,1,1,1,1,1,1,1,1,1,1,1,0] e h (kSeq (pieceK (C k) call F.ζ0 [1,1,1,1,1,1,1,1,1,1,1,1,1,1,1,1]) K):=by kernel_rfl
theorem ζcn {β:Type} (k:Nat) (call:Caller) (e:Env) (h:Heap) (K:Kont β):pieceK (C k) call F.ζ0 [1,1,1,1,1,1,1,1,1,1,1,1,1,1,1,0] e h K = pieceK (C k) call F.ζ0 [1,1,1,1,1,1,1,1,1,1,1,1,1,1,1,0,0] e h (kSeq (pieceK (C k) call F.ζ0 [1,1,1,1,1,1,1,1,1,1,1,1,1,1,1,0,1]) K):=by kernel_rfl
theorem ζco {β:Type} (k:Nat) (call:Caller) (a10 v149:Value) (h188:Heap) (K:Kont β):pieceK (C k) call F.ζ0 [1,1,1,1,1,1,1,1,1,1,1,1,1,1,1,0,0] [(10,a10),(13,v149)] h188 K =
 (      (call F.ζd [v149] h188).bind fun v189 h190 =>
 (builtinV Prog .len [23] [a10] h190).bind fun v191 h192 =>
 (binR Prog .neq 3 v189 v191 h192).bind fun v193 h194 =>
 K .normal [(10,a10),(13,v149),(135,v193)] h194):=by kernel_rfl
theorem ζcp {β:Type} (k:Nat) (call:Caller) (a10 v149 v193:Value) (h194:Heap) (K:Kont β):pieceK (C k) call F.ζ0 [1,1,1,1,1,1,1,1,1,1,1,1,1,1,1,0,1] [(10,a10),(13,v149),(135,v193)] h194 K =
 (condV (some v193) (pieceK (C k) call F.ζ0 [1,1,1,1,1,1,1,1,1,1,1,1,1,1,1,0,1,0] [(10,a10),(13,v149),(135,v193)] h194 K) (pieceK (C k) call F.ζ0 [1,1,1,1,1,1,1,1,1,1,1,1,1,1,1,0,1,1] [(10,a10),(13,v149),(135,v193)] h194 K)):=by kernel_rfl
theorem ζcq {β:Type} (k:Nat) (call:Caller) (e:Env) (h:Heap) (K:Kont β):pieceK (C k) call F.ζ0 [1,1,1,1,1,1,1,1,1,1,1,1,1,1,1,0,1,0] e h K = pieceK (C k) call F.ζ0 [1,1,1,1,1,1,1,1,1,1,1,1,1,1,1,0,1,0,0] e h (kSeq (pieceK (C k) call F.ζ0 [1,1,1,1,1,1,1,1,1,1,1,1,1,1,1,0,1,0,1]) K):=by kernel_rfl
theorem ζcr {β:Type} (k:Nat) (call:Caller) (a10 v149 v193:Value) (h194:Heap) (K:Kont β):pieceK (C k) call F.ζ0 [1,1,1,1,1,1,1,1,1,1,1,1,1,1,1,0,1,0,0] [(10,a10),(13,v149),(135,v193)] h194 K =
 (        K .normal [(2,(.bool false))] h194):=by kernel_rfl
theorem ζcs {β:Type} (k:Nat) (call:Caller) (e:Env) (h:Heap) (K:Kont β):pieceK (C k) call F.ζ0 [1,1,1,1,1,1,1,1,1,1,1,1,1,1,1,0,1,0,1] e h K = K .ret e h:=by kernel_rfl
theorem ζ8x (h194:Heap):kDone Prog (resOf Prog F.ζ0) .ret [(2,(.bool false))] h194 =
 (        .ok (.bool false) h194):=by kernel_rfl
theorem ζ8y {β:Type} (k:Nat) (call:Caller) (e:Env) (h:Heap) (K:Kont β):pieceK (C k) call F.ζ0 [1,1,1,1,1,1,1,1,1,1,1,1,1,1,1,0,1,1] e h K = K .normal e h:=by kernel_rfl
theorem ζ8z {β:Type} (k:Nat) (call:Caller) (e:Env) (h:Heap) (K:Kont β):pieceK (C k) call F.ζ0 [1,1,1,1,1,1,1,1,1,1,1,1,1,1,1,1] e h K = pieceK (C k) call F.ζ0 [1,1,1,1,1,1,1,1,1,1,1,1,1,1,1,1,0] e h (kSeq (pieceK (C k) call F.ζ0 [1,1,1,1,1,1,1,1,1,1,1,1,1,1,1,1,1]) K):=by kernel_rfl
theorem ζ90 {β:Type} (k:Nat) (call:Caller) (e:Env) (h:Heap) (K:Kont β):pieceK (C k) call F.ζ0 [1,1,1,1,1,1,1,1,1,1,1,1,1,1,1,1,0] e h K = pieceK (C k) call F.ζ0 [1,1,1,1,1,1,1,1,1,1,1,1,1,1,1,1,0,0] e h (kSeq (pieceK (C k) call F.ζ0 [1,1,1,1,1,1,1,1,1,1,1,1,1,1,1,1,0,1]) K):=by kernel_rfl
theorem ζ91 {β:Type} (k:Nat) (call:Caller) (a10 v149 v193:Value) (h194:Heap) (K:Kont β):pieceK (C k) call F.ζ0 [1,1,1,1,1,1,1,1,1,1,1,1,1,1,1,1,0,0] [(10,a10),(13,v149),(135,v193)] h194 K =
 (        (call F.ζ2u [v149] h194).bind fun v195 h196 =>
 (builtinV Prog .len [22] [v195] h196).bind fun v197 h198 =>
 K .normal [(10,a10),(137,v195),(138,v197),(139,(.int .i64 0))] h198):=by kernel_rfl
theorem ζ92 {β:Type} (k:Nat) (call:Caller) (e:Env) (h:Heap) (K:Kont β):pieceK (C k) call F.ζ0 [1,1,1,1,1,1,1,1,1,1,1,1,1,1,1,1,0,1] e h K = pieceK (C k) call F.ζ0 [1,1,1,1,1,1,1,1,1,1,1,1,1,1,1,1,0,1,0] e h (kBlock 4 K):=by kernel_rfl
theorem ζ93 {β:Type} (k:Nat) (call:Caller) (a10 v195 v197:Value) (h198:Heap) (K:Kont β):pieceK (C k) call F.ζ0 [1,1,1,1,1,1,1,1,1,1,1,1,1,1,1,1,0,1,0] [(10,a10),(137,v195),(138,v197),(139,(.int .i64 0))] h198 K =
 ((loopN (ζ2n k call) loopFuel [(10,a10),(137,v195),(138,v197),(139,(.int .i64 0))] h198).bind fun r199 h200 => K r199.1 r199.2 h200):=by kernel_rfl
theorem ζ94 {β:Type} (k:Nat) (call:Caller) (e:Env) (h:Heap) (K:Kont β):pieceK (C k) call F.ζ0 [1,1,1,1,1,1,1,1,1,1,1,1,1,1,1,1,0,1,0,0] e h K = pieceK (C k) call F.ζ0 [1,1,1,1,1,1,1,1,1,1,1,1,1,1,1,1,0,1,0,0,0] e h (kSeq (pieceK (C k) call F.ζ0 [1,1,1,1,1,1,1,1,1,1,1,1,1,1,1,1,0,1,0,0,1]) K):=by kernel_rfl
theorem ζ95 {β:Type} (k:Nat) (call:Caller) (a10 a137 a138 a139:Value) (h:Heap) (K:Kont β):pieceK (C k) call F.ζ0 [1,1,1,1,1,1,1,1,1,1,1,1,1,1,1,1,0,1,0,0,0] [(10,a10),(137,a137),(138,a138),(139,a139)] h K =
 (  (binR Prog .lss 3 a139 a138 h).bind fun v201 h202 =>
 K .normal [(10,a10),(137,a137),(138,a138),(139,a139),(140,v201)] h202):=by kernel_rfl
theorem ζ96 {β:Type} (k:Nat) (call:Caller) (e:Env) (h:Heap) (K:Kont β):pieceK (C k) call F.ζ0 [1,1,1,1,1,1,1,1,1,1,1,1,1,1,1,1,0,1,0,0,1] e h K = pieceK (C k) call F.ζ0 [1,1,1,1,1,1,1,1,1,1,1,1,1,1,1,1,0,1,0,0,1,0] e h (kSeq (pieceK (C k) call F.ζ0 [1,1,1,1,1,1,1,1,1,1,1,1,1,1,1,1,0,1,0,0,1,1]) K):=by kernel_rfl
theorem ζ97 {β:Type} (k:Nat) (call:Caller) (a10 a137 a138 a139 v201:Value) (h202:Heap) (K:Kont β):pieceK (C k) call F.ζ0 [1,1,1,1,1,1,1,1,1,1,1,1,1,1,1,1,0,1,0,0,1,0] [(10,a10),(137,a137),(138,a138),(139,a139),(140,v201)] h202 K =
 (condV (some v201) (pieceK (C k) call F.ζ0 [1,1,1,1,1,1,1,1,1,1,1,1,1,1,1,1,0,1,0,0,1,0,0] [(10,a10),(137,a137),(138,a138),(139,a139),(140,v201)] h202 K) (pieceK (C k) call F.ζ0 [1,1,1,1,1,1,1,1,1,1,1,1,1,1,1,1,0,1,0,0,1,0,1] [(10,a10),(137,a137),(138,a138),(139,a139),(140,v201)] h202 K)):=by kernel_rfl
theorem ζ98 {β:Type} (k:Nat) (call:Caller) (e:Env) (h:Heap) (K:Kont β):pieceK (C k) call F.ζ0 [1,1,1,1,1,1,1,1,1,1,1,1,1,1,1,1,0,1,0,0,1,0,0] e h K = K .normal e h:=by kernel_rfl
theorem ζ99 {β:Type} (k:Nat) (call:Caller) (e:Env) (h:Heap) (K:Kont β):pieceK (C k) call F.ζ0 [1,1,1,1,1,1,1,1,1,1,1,1,1,1,1,1,0,1,0,0,1,1] e h K = pieceK (C k) call F.ζ0 [1,1,1,1,1,1,1,1,1,1,1,1,1,1,1,1,0,1,0,0,1,1,0] e h (kSeq (pieceK (C k) call F.ζ0 [1,1,1,1,1,1,1,1,1,1,1,1,1,1,1,1,0,1,0,0,1,1,1]) K):=by kernel_rfl
theorem ζ9a {β:Type} (k:Nat) (call:Caller) (e:Env) (h:Heap) (K:Kont β):pieceK (C k) call F.ζ0 [1,1,1,1,1,1,1,1,1,1,1,1,1,1,1,1,0,1,0,0,1,1,0] e h K = pieceK (C k) call F.ζ0 [1,1,1,1,1,1,1,1,1,1,1,1,1,1,1,1,0,1,0,0,1,1,0,0] e h (kBlock 5 K):=by kernel_rfl
theorem ζ9b {β:Type} (k:Nat) (call:Caller) (e:Env) (h:Heap) (K:Kont β):pieceK (C k) call F.ζ0 [1,1,1,1,1,1,1,1,1,1,1,1,1,1,1,1,0,1,0,0,1,1,0,0] e h K = pieceK (C k) call F.ζ0 [1,1,1,1,1,1,1,1,1,1,1,1,1,1,1,1,0,1,0,0,1,1,0,0,0] e h (kSeq (pieceK (C k) call F.ζ0 [1,1,1,1,1,1,1,1,1,1,1,1,1,1,1,1,0,1,0,0,1,1,0,0,1]) K):=by kernel_rfl
theorem ζ9c {β:Type} (k:Nat) (call:Caller) (a10 a137 a138 a139 v201:Value) (h202:Heap) (K:Kont β):pieceK (C k) call F.ζ0 [1,1,1,1,1,1,1,1,1,1,1,1,1,1,1,1,0,1,0,0,1,1,0,0,0] [(10,a10),(137,a137),(138,a138),(139,a139),(140,v201)] h202 K =
 (    (indexAddrR Prog 22 a137 a139 h202).bind fun v203 h204 =>
 (loadR Prog 57 v203 h204).bind fun v205 h206 =>
 (allocR Prog 57 h206).bind fun v207 h208 =>
 (storeR Prog 57 v207 v205 h208).bind fun _v209 h210 =>
 K .normal [(10,a10),(16,a139),(17,v207),(137,a137),(138,a138),(139,a139)] h210):=by kernel_rfl
theorem ζ9d {β:Type} (k:Nat) (call:Caller) (e:Env) (h:Heap) (K:Kont β):pieceK (C k) call F.ζ0 [1,1,1,1,1,1,1,1,1,1,1,1,1,1,1,1,0,1,0,0,1,1,0,0,1] e h K = pieceK (C k) call F.ζ0 [1,1,1,1,1,1,1,1,1,1,1,1,1,1,1,1,0,1,0,0,1,1,0,0,1,0] e h (kSeq (pieceK (C k) call F.ζ0 [1,1,1,1,1,1,1,1,1,1,1,1,1,1,1,1,0,1,0,0,1,1,0,0,1,1]) K):=by kernel_rfl
theorem ζ9e {β:Type} (k:Nat) (call:Caller) (a10 a139 v207 a137 a138:Value) (h210:Heap) (K:Kont β):pieceK (C k) call F.ζ0 [1,1,1,1,1,1,1,1,1,1,1,1,1,1,1,1,0,1,0,0,1,1,0,0,1,0] [(10,a10),(16,a139),(17,v207),(137,a137),(138,a138),(139,a139)] h210 K =
 (    (fieldAddrR Prog 57 v207 0 h210).bindN fun v211 h212 =>
 (loadR Prog 3 v211 h212).bindN fun v213 h214 =>
 (indexAddrR Prog 23 a10 a139 h214).bindN fun v215 h216 =>
 (loadR Prog 3 v215 h216).bindN fun v217 h218 =>
 (binR Prog .neq 3 v213 v217 h218).bindN fun v219 h220 =>
 ((bif wantVal v219 false then fieldAddrR Prog 57 v207 1 h220 else Res.ok undef h220)).bindN fun v221 h222 =>
 ((bif wantVal v219 false then loadR Prog 3 v221 h222 else Res.ok undef h222)).bindN fun v223 h224 =>
 ((bif wantVal v219 false then Res.ok a139 h224 else Res.ok undef h224)).bindN fun v225 h226 =>
 ((bif wantVal v219 false then binR Prog .neq 3 v223 v225 h226 else Res.ok undef h226)).bindN fun v227 h228 =>
 (condV (some v219) (Res.ok (.bool true) h228) (Res.ok v227 h228)).bindN fun v229 h230 =>
 K .normal [(10,a10),(137,a137),(138,a138),(139,a139),(156,v229)] h230):=by kernel_rfl
theorem ζ9f {β:Type} (k:Nat) (call:Caller) (a10 a137 a138 a139 v229:Value) (h230:Heap) (K:Kont β):pieceK (C k) call F.ζ0 [1,1,1,1,1,1,1,1,1,1,1,1,1,1,1,1,0,1,0,0,1,1,0,0,1,1] [(10,a10),(137,a137),(138,a138),(139,a139),(156,v229)] h230 K =
 (condV (some v229) (pieceK (C k) call F.ζ0 [1,1,1,1,1,1,1,1,1,1,1,1,1,1,1,1,0,1,0,0,1,1,0,0,1,1,0] [(10,a10),(137,a137),(138,a138),(139,a139),(156,v229)] h230 K) (pieceK (C k) call F.ζ0 [1,1,1,1,1,1,1,1,1,1,1,1,1,1,1,1,0,1,0,0,1,1,0,0,1,1,1] [(10,a10),(137,a137),(138,a138),(139,a139),(156,v229)] h230 K)):=by kernel_rfl
theorem ζ9g {β:Type} (k:Nat) (call:Caller) (e:Env) (h:Heap) (K:Kont β):pieceK (C k) call F.ζ0 [1,1,1,1,1,1,1,1,1,1,1,1,1,1,1,1,0,1,0,0,1,1,0,0,1,1,0] e h K = pieceK (C k) call F.ζ0 [1,1,1,1,1,1,1,1,1,1,1,1,1,1,1,1,0,1,0,0,1,1,0,0,1,1,0,0] e h (kSeq (pieceK (C k) call F.ζ0 [1,1,1,1,1,1,1,1,1,1,1,1,1,1,1,1,0,1,0,0,1,1,0,0,1,1,0,1]) K):=by kernel_rfl
theorem ζ9h {β:Type} (k:Nat) (call:Caller) (a10 a137 a138 a139 v229:Value) (h230:Heap) (K:Kont β):pieceK (C k) call F.ζ0 [1,1,1,1,1,1,1,1,1,1,1,1,1,1,1,1,0,1,0,0,1,1,0,0,1,1,0,0] [(10,a10),(137,a137),(138,a138),(139,a139),(156,v229)] h230 K =
 (      K .normal [(2,(.bool false))] h230):=by kernel_rfl
theorem ζ9i {β:Type} (k:Nat) (call:Caller) (e:Env) (h:Heap) (K:Kont β):pieceK (C k) call F.ζ0 [1,1,1,1,1,1,1,1,1,1,1,1,1,1,1,1,0,1,0,0,1,1,0,0,1,1,0,1] e h K = K .ret e h:=by kernel_rfl
theorem ζ9j {β:Type} (k:Nat) (call:Caller) (e:Env) (h:Heap) (K:Kont β):pieceK (C k) call F.ζ0 [1,1,1,1,1,1,1,1,1,1,1,1,1,1,1,1,0,1,0,0,1,1,0,0,1,1,1] e h K = K .normal e h:=by kernel_rfl
theorem ζ9k {β:Type} (k:Nat) (call:Caller) (a10 a137 a138 a139 v229:Value) (h230:Heap) (K:Kont β):pieceK (C k) call F.ζ0 [1,1,1,1,1,1,1,1,1,1,1,1,1,1,1,1,0,1,0,0,1,1,1] [(10,a10),(137,a137),(138,a138),(139,a139),(156,v229)] h230 K =
 (      (binR Prog .add 3 a139 (.int .i64 1) h230).bind fun v231 h232 =>
 K .normal [(10,a10),(137,a137),(138,a138),(139,v231)] h232):=by kernel_rfl
theorem ζ9l (k:Nat) (a10 a137 a138 v231:Value) (h232:Heap):kRound (ownOf (C k) F.ζ0 [1,1,1,1,1,1,1,1,1,1,1,1,1,1,1,1,0,1,0,0]) .normal [(10,a10),(137,a137),(138,a138),(139,v231)] h232 =
 (.ok (.normal,[(10,a10),(137,a137),(138,a138),(139,v231)]) h232):=by kernel_rfl
theorem ζ9m {β:Type} (k:Nat) (call:Caller) (e:Env) (h:Heap) (K:Kont β):pieceK (C k) call F.ζ0 [1,1,1,1,1,1,1,1,1,1,1,1,1,1,1,1,0,1,0,0,1,0,1] e h K = K (.exit 4) e h:=by kernel_rfl
theorem ζ9n {β:Type} (k:Nat) (call:Caller) (e:Env) (h:Heap) (K:Kont β):pieceK (C k) call F.ζ0 [1,1,1,1,1,1,1,1,1,1,1,1,1,1,1,1,1] e h K = pieceK (C k) call F.ζ0 [1,1,1,1,1,1,1,1,1,1,1,1,1,1,1,1,1,0] e h (kSeq (pieceK (C k) call F.ζ0 [1,1,1,1,1,1,1,1,1,1,1,1,1,1,1,1,1,1]) K):=by kernel_rfl
theorem ζ9o {β:Type} (k:Nat) (call:Caller) (a10 a137 a138 a139 a140:Value) (h:Heap) (K:Kont β):pieceK (C k) call F.ζ0 [1,1,1,1,1,1,1,1,1,1,1,1,1,1,1,1,1,0] [(10,a10),(137,a137),(138,a138),(139,a139),(140,a140)] h K =
 (  K .normal [(2,(.bool true))] h):=by kernel_rfl
theorem ζ9p {β:Type} (k:Nat) (call:Caller) (e:Env) (h:Heap) (K:Kont β):pieceK (C k) call F.ζ0 [1,1,1,1,1,1,1,1,1,1,1,1,1,1,1,1,1,1] e h K = K .ret e h:=by kernel_rfl
theorem ζ9q (h:Heap):kDone Prog (resOf Prog F.ζ0) .ret [(2,(.bool true))] h =
 (  .ok (.bool true) h):=by kernel_rfl
theorem ζ8w (k:Nat) (call:Caller) (a0:Value) (h:Heap):bodyK (C k) call F.ζ0 [a0] h = pieceK (C k) call F.ζ0 [] [(0,a0)] h (kDone Prog (resOf Prog F.ζ0)):=by kernel_rfl
theorem ζde (k:Nat) (call:Caller) (a0:Value) (h:Heap):bodyK (C k) call F.ζ0 [a0] h = ζ0 k call a0 h:=by
 rw [ζ8w];simp only [ζl,ζdf,ζdg,ζdh,ζdi,ζdj,ζdk,ζdl,ζdm,ζdn,ζab,ζac,ζad,ζae,ζ0,ζ1m,ζ1o,ζ1n,ζ1h,ζ1j,ζ1i,ζ1l,ζ1k,Nat.reduceBEq,cond_true,cond_false]
theorem ζe2 (k:Nat) (a0:Value) (h:Heap):R (T k) F.ζ0 [a0] h = nrm .gc h (ζ0 k (R (T k)) a0 h) :=
 (R_body (t:=T k) (T_scott k) (by kernel_rfl) (by kernel_rfl) _ _).trans (congrArg (nrm .gc h) (ζde k (R (T k)) a0 h))
theorem ζ4y (k:Nat) (call:Caller) (a0 a4 a5 a6 a44:Value) (h:Heap):ζ2l k call [(0,a0),(4,a4),(5,a5),(6,a6),(44,a44)] h =
 (binR Prog .lss 3 a44 (.int .i64 10) h).bind fun v61 h62 =>
 condV (some v61) (
 (fieldAddrR Prog 108 a6 2 h62).bind fun v63 h64 =>
 (loadR Prog 106 v63 h64).bind fun v65 h66 =>
 (binR Prog .rem 3 a44 (.int .i64 9) h66).bind fun v67 h68 =>
 (convR Prog 3 80 v67 h68).bind fun v69 h70 =>
 (buildSliceR Prog 106 1 [(0,v69)] h70).bind fun v71 h72 =>
 (builtinV Prog .append [106,106] [v65,v71] h72).bind fun v73 h74 =>
 (fieldAddrR Prog 108 a6 2 h74).bind fun v75 h76 =>
 (storeR Prog 106 v75 v73 h76).bind fun _v77 h78 =>
 (fieldAddrR Prog 108 a6 3 h78).bind fun v79 h80 =>
 (loadR Prog 106 v79 h80).bind fun v81 h82 =>
 (convR Prog 3 80 a44 h82).bind fun v83 h84 =>
 (buildSliceR Prog 106 1 [(0,v83)] h84).bind fun v85 h86 =>
 (builtinV Prog .append [106,106] [v81,v85] h86).bind fun v87 h88 =>
 (fieldAddrR Prog 108 a6 3 h88).bind fun v89 h90 =>
 (storeR Prog 106 v89 v87 h90).bind fun _v91 h92 =>
 (binR Prog .add 3 a44 (.int .i64 1) h92).bind fun v93 h94 =>
 .ok (.normal,[(0,a0),(4,a4),(5,a5),(6,a6),(44,v93)]) h94)
 (
 .ok ((.exit 0),[(0,a0),(4,a4),(5,a5),(6,a6),(44,a44),(45,v61)]) h62) :=
 (loopB_eq _ _).trans (by simp only [ζl,ζaf,ζag,ζah,ζai,ζaj,ζak,ζal,ζam,ζan,ζao,ζap,ζaq,ζar,ζas,ζat,ζ0,ζ1m,ζ1o,ζ1n,ζ1h,ζ1j,ζ1i,ζ1l,ζ1k,Nat.reduceBEq,cond_true,cond_false])
theorem ζ4h (k:Nat) (call:Caller) (a0 a4 a5 a6 a44 a45:Value) (h:Heap):ζl k call (.exit 0) [(0,a0),(4,a4),(5,a5),(6,a6),(44,a44),(45,a45)] h =
 (loadR Prog 108 a6 h).bind fun v95 h96 =>
 (call F.ζa [v95] h96).bind fun v97 h98 =>
 (call F.ζ5t [v97,(.int .i64 20)] h98).bind fun v99 h100 =>
 (extractR v99 0 h100).bind fun v101 h102 =>
 (extractR v99 1 h102).bind fun v103 h104 =>
 (binR Prog .neq 33 a5 (.int .i64 0) h104).bind fun v105 h106 =>
 ((bif wantVal v105 false then Res.ok v103 h106 else Res.ok undef h106)).bind fun v107 h108 =>
 ((bif wantVal v105 false then binR Prog .neq 33 v107 (.int .i64 0) h108 else Res.ok undef h108)).bind fun v109 h110 =>
 (condV (some v105) (Res.ok (.bool true) h110) (Res.ok v109 h110)).bind fun v111 h112 =>
 ((bif wantVal v111 false then Res.ok a4 h112 else Res.ok undef h112)).bind fun v113 h114 =>
 ((bif wantVal v111 false then binR Prog .eql 155 v113 (.pointer none) h114 else Res.ok undef h114)).bind fun v115 h116 =>
 (condV (some v111) (Res.ok (.bool true) h116) (Res.ok v115 h116)).bind fun v117 h118 =>
 ((bif wantVal v117 false then Res.ok v101 h118 else Res.ok undef h118)).bind fun v119 h120 =>
 ((bif wantVal v117 false then binR Prog .eql 111 v119 (.pointer none) h120 else Res.ok undef h120)).bind fun v121 h122 =>
 (condV (some v117) (Res.ok (.bool true) h122) (Res.ok v121 h122)).bind fun v123 h124 =>
 condV (some v123) (
 .ok (.bool false) h124)
 (
 (builtinV Prog .len [31] [a0] h124).bind fun v125 h126 =>
 (binR Prog .gtr 3 v125 (.int .i64 60) h126).bind fun v127 h128 =>
 condV (some v127) (
 .ok (.bool true) h128)
 (
 (builtinV Prog .len [31] [a0] h128).bind fun v129 h130 =>
 (loopN (ζ2m k call) loopFuel [(4,a4),(8,v101),(10,(.slice none 0 0)),(86,a0),(87,v129),(88,(.int .i64 0))] h130).bind fun r131 h132 =>
 ζ1p k call r131.1 r131.2 h132)):=by simp only [ζ1p,ζl,ζau,ζav,ζaw,ζax,ζay,ζaz,ζb0,ζb1,ζb2,ζb3,ζb4,ζb5,ζb6,ζb7,ζb8,ζb9,ζba,ζbb,ζbc,ζbd,ζbe,ζbf,ζbg,ζbh,ζbi,ζbj,ζbk,ζ0,ζ1m,ζ1o,ζ1n,ζ1h,ζ1j,ζ1i,ζ1l,ζ1k,Nat.reduceBEq,cond_true,cond_false]
theorem ζ4z (k:Nat) (call:Caller) (a4 a8 a10 a86 a87 a88:Value) (h:Heap):ζ2m k call [(4,a4),(8,a8),(10,a10),(86,a86),(87,a87),(88,a88)] h =
 (binR Prog .lss 3 a88 a87 h).bind fun v133 h134 =>
 condV (some v133) (
 (indexAddrR Prog 31 a86 a88 h134).bind fun v135 h136 =>
 (loadR Prog 5 v135 h136).bind fun v137 h138 =>
 (convR Prog 5 3 v137 h138).bind fun v139 h140 =>
 (binR Prog .rem 3 v139 (.int .i64 9) h140).bind fun v141 h142 =>
 (buildSliceR Prog 23 1 [(0,v141)] h142).bind fun v143 h144 =>
 (builtinV Prog .append [23,23] [a10,v143] h144).bind fun v145 h146 =>
 (binR Prog .add 3 a88 (.int .i64 1) h146).bind fun v147 h148 =>
 .ok (.normal,[(4,a4),(8,a8),(10,v145),(86,a86),(87,a87),(88,v147)]) h148)
 (
 .ok ((.exit 2),[(4,a4),(8,a8),(10,a10),(86,a86),(87,a87),(88,a88),(89,v133)]) h134) :=
 (loopB_eq _ _).trans (by simp only [ζ1p,ζl,ζbl,ζbm,ζbn,ζbo,ζbp,ζbq,ζbr,ζbs,ζbt,ζbu,ζbv,ζbw,ζbx,ζ0,ζ1m,ζ1o,ζ1n,ζ1h,ζ1j,ζ1i,ζ1l,ζ1k,Nat.reduceBEq,cond_true,cond_false])
theorem ζ82 (k:Nat) (call:Caller) (a4 a8 a10 a86 a87 a88 a89:Value) (h:Heap):ζ1p k call (.exit 2) [(4,a4),(8,a8),(10,a10),(86,a86),(87,a87),(88,a88),(89,a89)] h =
 (call F.line_New [a10] h).bind fun v149 h150 =>
 (builtinV Prog .len [23] [a10] h150).bind fun v151 h152 =>
 (call F.ζ2b [a4,v149,v151] h152).bind fun v153 h154 =>
 (extractR v153 0 h154).bind fun v155 h156 =>
 (extractR v153 1 h156).bind fun v157 h158 =>
 (builtinV Prog .len [23] [a10] h158).bind fun v159 h160 =>
 (binR Prog .neq 3 v155 v159 h160).bind fun v161 h162 =>
 ((bif wantVal v161 false then Res.ok v157 h162 else Res.ok undef h162)).bind fun v163 h164 =>
 ((bif wantVal v161 false then binR Prog .neq 33 v163 (.int .i64 0) h164 else Res.ok undef h164)).bind fun v165 h166 =>
 (condV (some v161) (Res.ok (.bool true) h166) (Res.ok v165 h166)).bind fun v167 h168 =>
 ((bif wantVal v167 false then Res.ok v149 h168 else Res.ok undef h168)).bind fun v169 h170 =>
 ((bif wantVal v167 false then call F.ζd [v169] h170 else Res.ok undef h170)).bind fun v171 h172 =>
 ((bif wantVal v167 false then Res.ok a10 h172 else Res.ok undef h172)).bind fun v173 h174 =>
 ((bif wantVal v167 false then builtinV Prog .len [23] [v173] h174 else Res.ok undef h174)).bind fun v175 h176 =>
 ((bif wantVal v167 false then binR Prog .mul 3 (.int .i64 2) v175 h176 else Res.ok undef h176)).bind fun v177 h178 =>
 ((bif wantVal v167 false then binR Prog .neq 3 v171 v177 h178 else Res.ok undef h178)).bind fun v179 h180 =>
 (condV (some v167) (Res.ok (.bool true) h180) (Res.ok v179 h180)).bind fun v181 h182 =>
 condV (some v181) (
 .ok (.bool false) h182)
 (
 (call F.ζ3n [a8,v149] h182).bind fun v183 h184 =>
 (binR Prog .neq 33 v183 (.int .i64 0) h184).bind fun v185 h186 =>
 condV (some v185) (
 .ok (.bool false) h186)
 (
 (call F.ζ37 [v149] h186).bind fun v187 h188 =>
 (call F.ζd [v149] h188).bind fun v189 h190 =>
 (builtinV Prog .len [23] [a10] h190).bind fun v191 h192 =>
 (binR Prog .neq 3 v189 v191 h192).bind fun v193 h194 =>
 condV (some v193) (
 .ok (.bool false) h194)
 (
 (call F.ζ2u [v149] h194).bind fun v195 h196 =>
 (builtinV Prog .len [22] [v195] h196).bind fun v197 h198 =>
 (loopN (ζ2n k call) loopFuel [(10,a10),(137,v195),(138,v197),(139,(.int .i64 0))] h198).bind fun r199 h200 =>
 ζ2e k call r199.1 r199.2 h200))):=by simp only [ζ2e,ζ1p,ζl,ζby,ζbz,ζc0,ζc1,ζc2,ζc3,ζc4,ζc5,ζc6,ζc7,ζc8,ζc9,ζca,ζcb,ζcc,ζcd,ζce,ζcf,ζcg,ζch,ζci,ζcj,ζck,ζcl,ζcm,ζcn,ζco,ζcp,ζcq,ζcr,ζcs,ζ8x,ζ8y,ζ8z,ζ90,ζ91,ζ92,ζ93,ζ0,ζ1m,ζ1o,ζ1n,ζ1h,ζ1j,ζ1i,ζ1l,ζ1k,Nat.reduceBEq,cond_true,cond_false]
theorem ζ50 (k:Nat) (call:Caller) (a10 a137 a138 a139:Value) (h:Heap):ζ2n k call [(10,a10),(137,a137),(138,a138),(139,a139)] h =
 (binR Prog .lss 3 a139 a138 h).bind fun v201 h202 =>
 condV (some v201) (
 (indexAddrR Prog 22 a137 a139 h202).bind fun v203 h204 =>
 (loadR Prog 57 v203 h204).bind fun v205 h206 =>
 (allocR Prog 57 h206).bind fun v207 h208 =>
 (storeR Prog 57 v207 v205 h208).bind fun _v209 h210 =>
 (fieldAddrR Prog 57 v207 0 h210).bindN fun v211 h212 =>
 (loadR Prog 3 v211 h212).bindN fun v213 h214 =>
 (indexAddrR Prog 23 a10 a139 h214).bindN fun v215 h216 =>
 (loadR Prog 3 v215 h216).bindN fun v217 h218 =>
 (binR Prog .neq 3 v213 v217 h218).bindN fun v219 h220 =>
 ((bif wantVal v219 false then fieldAddrR Prog 57 v207 1 h220 else Res.ok undef h220)).bindN fun v221 h222 =>
 ((bif wantVal v219 false then loadR Prog 3 v221 h222 else Res.ok undef h222)).bindN fun v223 h224 =>
 ((bif wantVal v219 false then Res.ok a139 h224 else Res.ok undef h224)).bindN fun v225 h226 =>
 ((bif wantVal v219 false then binR Prog .neq 3 v223 v225 h226 else Res.ok undef h226)).bindN fun v227 h228 =>
 (condV (some v219) (Res.ok (.bool true) h228) (Res.ok v227 h228)).bindN fun v229 h230 =>
 condV (some v229) (
 .ok (.ret,[(2,(.bool false))]) h230)
 (
 (binR Prog .add 3 a139 (.int .i64 1) h230).bind fun v231 h232 =>
 .ok (.normal,[(10,a10),(137,a137),(138,a138),(139,v231)]) h232))
 (
 .ok ((.exit 4),[(10,a10),(137,a137),(138,a138),(139,a139),(140,v201)]) h202) :=
 (loopB_eq _ _).trans (by simp only [ζ2e,ζ1p,ζl,ζ94,ζ95,ζ96,ζ97,ζ98,ζ99,ζ9a,ζ9b,ζ9c,ζ9d,ζ9e,ζ9f,ζ9g,ζ9h,ζ9i,ζ9j,ζ9k,ζ9l,ζ9m,ζ0,ζ1m,ζ1o,ζ1n,ζ1h,ζ1j,ζ1i,ζ1l,ζ1k,Nat.reduceBEq,cond_true,cond_false])
theorem ζ83 (k:Nat) (call:Caller) (a10 a137 a138 a139 a140:Value) (h:Heap):ζ2e k call (.exit 4) [(10,a10),(137,a137),(138,a138),(139,a139),(140,a140)] h =
 .ok (.bool true) h:=by simp only [ζ2e,ζ1p,ζl,ζ9n,ζ9o,ζ9p,ζ9q,ζ0,ζ1m,ζ1o,ζ1n,ζ1h,ζ1j,ζ1i,ζ1l,ζ1k,Nat.reduceBEq,cond_true,cond_false]
end
end Go.Sw
end
section
namespace Go.Sw
open Go.RowKit
def textG (bs:List Int):List Int:=bs.map fun x => x % 9
theorem text_l2 (k:Nat) (bs:List Int) (hb:Byt bs) (hm:bs.length ≤ 60) (a4 a8:Value) {H0 H:Heap} {L:List It} (g:Star H0 H L) :
  ∃ s o zz H',loopN (ζ2m k (R (T k))) loopFuel [(4,a4),(8,a8),(10,.slice none 0 0),(86,lv encB bs),(87,.int .i64 bs.length),(88,.int .i64 0)] H =
   .ok (.exit 2,[(4,a4),(8,a8),(10,s),(86,lv encB bs),(87,.int .i64 bs.length),(88,zz),(89,.bool false)]) H' ∧ Star H0 H' (L ++ [itRow o 1 s encI (textG bs)]):=by
 have at_:∀ x:It,(L ++ [x])[L.length]? = some x:=fun x => by simp
 have set_:∀ x y:It,(L ++ [x]).set L.length y = L ++ [y]:=fun x y => by simp
 have g0:=g.more_row (Ext.refl _) (OwnO.nil encI _ 1) (fun b hb => by cases hb)
 obtain ⟨xx,e',H1,hr1,rfl,s,o,rfl,g1⟩:=loop_up (body:=ζ2m k (R (T k))) bs.length
  (fun j e H' => ∃ s o,e = [(4,a4),(8,a8),(10,s),(86,lv encB bs),(87,.int .i64 bs.length),(88,.int .i64 j)] ∧ Star H0 H' (L ++ [itRow o 1 s encI (textG (bs.take j))]))
  (fun xx e H' => xx = .exit 2 ∧ ∃ s o,e = [(4,a4),(8,a8),(10,s),(86,lv encB bs),(87,.int .i64 bs.length),(88,.int .i64 bs.length),(89,.bool false)] ∧ Star H0 H' (L ++ [itRow o 1 s encI (textG bs)]))
  (e0:=[(4,a4),(8,a8),(10,.slice none 0 0),(86,lv encB bs),(87,.int .i64 bs.length),(88,.int .i64 0)]) (H0:=H) ⟨_,none,rfl,by simpa [textG] using g0⟩ (by omega)
  (fun j e H' hj ⟨s,o,he,g⟩ => by
   subst he;have hjl:(j:Int) < bs.length:=by omega
   obtain ⟨b,hb1⟩:∃ b,bs[j]? = some b:=⟨_,List.getElem?_eq_getElem hj⟩
   have hbb:=hb b (List.mem_of_getElem? hb1);have i1:=fun H' => ixS_lvN encB_len bs .i64 j b hb1 H';have hw3:IntKind.i64.wrap ((j:Int) + 1) = ((j + 1:Nat):Int):=by rw [wrap_i64 (by omega) (by omega)]; omega
   have hwb:IntKind.i64.wrap b = b:=wrap_i64 (by omega) (by omega);have hrem:=fun H => bin_rem Prog 3 H .i64 b 9 (by decide);rw [Int.tmod_eq_emod_of_nonneg hbb.1] at hrem;obtain ⟨s2,o2,H2,e2,g2⟩:=g.append1 (bytes:=8) L.length encI_len (at_ _) (b % 9) (by unfold textG; rw [List.length_map,List.length_take]; omega) (by decide);have hid:textG (bs.take j) ++ [b % 9] = textG (bs.take (j + 1)):=by unfold textG; rw [ζ1x hb1,List.map_append]; rfl
   rw [set_,hid] at g2;have g2:=g2.take (L.length + 1);rw [List.take_of_length_le (by simp)] at g2;refine .inl ⟨_,H2,?_,s2,o2,rfl,g2⟩;rw [ζ4z];simp -implicitDefEqProofs (disch:=omega) [hjl,i1,hw3,hwb,hrem,e2])
  (fun e H' ⟨s,o,he,g⟩ => by
   subst he;rw [List.take_of_length_le (by simp)] at g;refine ⟨.exit 2,_,H',?_,by simp,rfl,s,o,rfl,g⟩;rw [ζ4z];simp -implicitDefEqProofs)
 exact ⟨s,o,_,H1,hr1,g1⟩
theorem text_l3 (k:Nat) (ts:List Int) (hm:ts.length ≤ 60) {v:Value} {H0:Heap} (hv:Sl H0 1 v encI ts) {H:Heap} (hx0:Ext H0 H) :
  ∃ zz H',loopN (ζ2n k (R (T k))) loopFuel [(10,v),(137,lv encG (newG ts)),(138,.int .i64 ts.length),(139,.int .i64 0)] H =
   .ok (.exit 4,[(10,v),(137,lv encG (newG ts)),(138,.int .i64 ts.length),(139,zz),(140,.bool false)]) H' ∧ Ext H H':=by
 obtain ⟨xx,e',H1,hr1,rfl,rfl,hx⟩:=loop_up (body:=ζ2n k (R (T k))) ts.length
  (fun j e H' => e = [(10,v),(137,lv encG (newG ts)),(138,.int .i64 ts.length),(139,.int .i64 j)] ∧ Ext H H')
  (fun xx e H' => xx = .exit 4 ∧ e = [(10,v),(137,lv encG (newG ts)),(138,.int .i64 ts.length),(139,.int .i64 ts.length),(140,.bool false)] ∧ Ext H H')
  (e0:=[(10,v),(137,lv encG (newG ts)),(138,.int .i64 ts.length),(139,.int .i64 0)]) (H0:=H) ⟨rfl,Ext.refl H⟩ (by omega)
  (fun j e H' hj ⟨he,hx⟩ => by
   subst he;have hjl:(j:Int) < ts.length:=by omega
   obtain ⟨t,ht⟩:∃ t,ts[j]? = some t:=⟨_,List.getElem?_eq_getElem hj⟩
   have hg:(newG ts)[j]? = some ⟨t,(j:Nat)⟩:=by rw [ζf5,ht]; rfl
   have i1:=fun H' => ixS_lvN encG_len (newG ts) .i64 j _ hg H';obtain ⟨p,i2,i3⟩:=hv.ix1 encI_len j t ht _ rfl;have hp:=(Ext.refl H').push ⟨encG ⟨t,(j:Nat)⟩,1,false⟩;have i3:=i3 _ ((hx0.trans hx).trans hp);have hw3:IntKind.i64.wrap ((j:Int) + 1) = ((j + 1:Nat):Int):=by rw [wrap_i64 (by omega) (by omega)]; omega
   refine .inl ⟨_,_,?_,rfl,hx.trans hp⟩;rw [ζ50];simp -implicitDefEqProofs (disch:=omega) [hjl,i1,i2,i3,hw3])
  (fun e H' ⟨he,hx⟩ => by
   subst he;refine ⟨.exit 4,_,H',?_,by simp,rfl,rfl,hx⟩;rw [ζ50];simp -implicitDefEqProofs)
 exact ⟨_,H1,hr1,hx⟩
end Go.Sw
end
