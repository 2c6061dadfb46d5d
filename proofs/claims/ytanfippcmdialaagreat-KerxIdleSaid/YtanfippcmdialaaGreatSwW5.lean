/-
  Functions' forms, and what is proved of them, part 5.
-/
import Derived.Test.YtanfippcmdialaaGreatSwCfg
import Derived.Test.YtanfippcmdialaaGreatSwW4
import Derived.Test.YtanfippcmdialaaGreatSwW3
import Derived.Test.YtanfippcmdialaaGreatSwW2
import Derived.Test.YtanfippcmdialaaGreatSwLib8
set_option linter.unusedSimpArgs false
set_option linter.unusedVariables false
set_option linter.unusedSectionVars false
section
set_option maxRecDepth 100000
set_option linter.unusedVariables false
namespace Go.Sw
noncomputable section
def ζ66 (k:Nat) (call:Caller) (a0 a1 a2:Value) (h:Heap):Res Value :=
 (boxR a1 h).bind fun v1 h2 =>
 (binR Prog .eql 3 a0 (.int .i64 0) h2).bind fun v3 h4 =>
 condV (some v3) (
 (loadR Prog 113 v1 h4).bind fun v5 h6 =>
 (call F.ζ67 [v5] h6).bind fun v7 h8 =>
 .ok v7 h8)
 (
 (binR Prog .eql 3 a0 (.int .i64 2) h4).bind fun v9 h10 =>
 condV (some v9) (
 (loadR Prog 113 v1 h10).bind fun v11 h12 =>
 (call F.ζ5m [v11,(.int .i64 4),a2,(.int .i64 2),(.int .i64 1)] h12).bind fun v13 h14 =>
 .ok v13 h14)
 (
 (binR Prog .eql 3 a0 (.int .i64 6) h10).bind fun v15 h16 =>
 condV (some v15) (
 (loadR Prog 113 v1 h16).bind fun v17 h18 =>
 (call F.ζc [v17,(.int .i64 0)] h18).bind fun v19 h20 =>
 (binR Prog .and 3 v19 (.int .i64 1) h20).bind fun v21 h22 =>
 (binR Prog .eql 3 v21 (.int .i64 1) h22).bind fun v23 h24 =>
 condV (some v23) (
 (loadR Prog 113 v1 h24).bind fun v25 h26 =>
 (call F.ζ5m [v25,(.int .i64 8),a2,(.int .i64 4),(.int .i64 4)] h26).bind fun v27 h28 =>
 .ok v27 h28)
 (
 (loadR Prog 113 v1 h24).bind fun v29 h30 =>
 (call F.ζ5m [v29,(.int .i64 8),a2,(.int .i64 2),(.int .i64 2)] h30).bind fun v31 h32 =>
 .ok v31 h32))
 (
 (call F.ζ78 [] h16).bind fun v33 h34 =>
 .ok (.pointer none) h34)))
theorem ζkj (k:Nat) (a0 a1 a2:Value) (h:Heap):R (T k) F.ζ66 [a0,a1,a2] h = nrm .fz h (ζ66 k (R (T k)) a0 a1 a2 h) :=
 (R_body (t:=T k) (T_scott k) (by kernel_rfl) (by kernel_rfl) _ _).trans (by kernel_rfl)
def ζ81 (k:Nat) (call:Caller):Env → Heap → Res (AExit × Env):=loopB (C k) call F.ζ67 [1,1,1,1,0,1,0,0]
def ζby (k:Nat) (call:Caller):Kont Value:=kBlock 0 (kSeq (pieceK (C k) call F.ζ67 [1,1,1,1,1]) (kDone Prog (resOf Prog F.ζ67)))
def ζ67 (k:Nat) (call:Caller) (a0:Value) (h:Heap):Res Value :=
 (boxR a0 h).bind fun v1 h2 =>
 (loadR Prog 113 v1 h2).bind fun v3 h4 =>
 (call F.ζc [v3,(.int .i64 0)] h4).bind fun v5 h6 =>
 (loadR Prog 113 v1 h6).bind fun v7 h8 =>
 (call F.ζz [v7,(.int .i64 0),(.int .i64 16)] h8).bind fun v9 h10 =>
 (loadR Prog 113 v1 h10).bind fun v11 h12 =>
 (call F.ζl [v11,(.int .i64 16),v5,(.int .i64 6)] h12).bind fun v13 h14 =>
 (buildR Prog 291 [(1,v13),(5,(.int .i64 2))] h14).bind fun v15 h16 =>
 (boxR v15 h16).bind fun v17 h18 =>
 (loopN (ζ81 k call) loopFuel [(4,v17),(15,v5),(16,(.int .i64 0))] h18).bind fun r19 h20 =>
 ζby k call r19.1 r19.2 h20
theorem ζkk (k:Nat) (a0:Value) (h:Heap):R (T k) F.ζ67 [a0] h = nrm .fz h (ζ67 k (R (T k)) a0 h) :=
 (R_body (t:=T k) (T_scott k) (by kernel_rfl) (by kernel_rfl) _ _).trans (by kernel_rfl)
theorem ζ5j (k:Nat) (call:Caller) (a4 a15 a16:Value) (h:Heap):ζ81 k call [(4,a4),(15,a15),(16,a16)] h =
 (binR Prog .lss 3 a16 a15 h).bind fun v21 h22 =>
 condV (some v21) (
 (nilR a4 h22).bindN fun v23 h24 =>
 (fieldAddrR Prog 291 v23 0 h24).bindN fun v25 h26 =>
 (loadR Prog 30 v25 h26).bindN fun v27 h28 =>
 (nilR a4 h28).bindN fun v29 h30 =>
 (fieldAddrR Prog 291 v29 1 h30).bindN fun v31 h32 =>
 (loadR Prog 113 v31 h32).bindN fun v33 h34 =>
 (binR Prog .mul 3 (.int .i64 6) a16 h34).bindN fun v35 h36 =>
 (call F.ζc [v33,v35] h36).bindT (fun p39 h40 => .panic p39 h40) fun v37 h38 =>
 (buildSliceR Prog 30 1 [(0,v37)] h38).bindN fun v41 h42 =>
 (builtinV Prog .append [30,30] [v27,v41] h42).bindN fun v43 h44 =>
 (nilR a4 h44).bindN fun v45 h46 =>
 (fieldAddrR Prog 291 v45 0 h46).bindN fun v47 h48 =>
 (storeR Prog 30 v47 v43 h48).bindN fun _v49 h50 =>
 chkR ((okVal (loadR Prog 30 v25 h38) v27 && (okVal (loadR Prog 30 v25 h42) v27 && true)) && true) (
 (binR Prog .eql 3 a16 (.int .i64 0) h50).bindN fun v51 h52 =>
 ((bif wantVal v51 false then Res.ok a4 h52 else Res.ok undef h52)).bindN fun v53 h54 =>
 ((bif wantVal v51 false then nilR v53 h54 else Res.ok undef h54)).bindN fun v55 h56 =>
 ((bif wantVal v51 false then fieldAddrR Prog 291 v55 0 h56 else Res.ok undef h56)).bindN fun v57 h58 =>
 ((bif wantVal v51 false then loadR Prog 30 v57 h58 else Res.ok undef h58)).bindN fun v59 h60 =>
 ((bif wantVal v51 false then Res.ok a16 h60 else Res.ok undef h60)).bindN fun v61 h62 =>
 ((bif wantVal v51 false then binR Prog .sub 3 v61 (.int .i64 1) h62 else Res.ok undef h62)).bindN fun v63 h64 =>
 ((bif wantVal v51 false then indexAddrR Prog 30 v59 v63 h64 else Res.ok undef h64)).bindN fun v65 h66 =>
 ((bif wantVal v51 false then loadR Prog 3 v65 h66 else Res.ok undef h66)).bindN fun v67 h68 =>
 ((bif wantVal v51 false then Res.ok a4 h68 else Res.ok undef h68)).bindN fun v69 h70 =>
 ((bif wantVal v51 false then nilR v69 h70 else Res.ok undef h70)).bindN fun v71 h72 =>
 ((bif wantVal v51 false then fieldAddrR Prog 291 v71 0 h72 else Res.ok undef h72)).bindN fun v73 h74 =>
 ((bif wantVal v51 false then loadR Prog 30 v73 h74 else Res.ok undef h74)).bindN fun v75 h76 =>
 ((bif wantVal v51 false then Res.ok a16 h76 else Res.ok undef h76)).bindN fun v77 h78 =>
 ((bif wantVal v51 false then indexAddrR Prog 30 v75 v77 h78 else Res.ok undef h78)).bindN fun v79 h80 =>
 ((bif wantVal v51 false then loadR Prog 3 v79 h80 else Res.ok undef h80)).bindN fun v81 h82 =>
 ((bif wantVal v51 false then binR Prog .lss 3 v67 v81 h82 else Res.ok undef h82)).bindN fun v83 h84 =>
 (condV (some v51) (Res.ok (.bool true) h84) (Res.ok v83 h84)).bindN fun v85 h86 =>
 (call F.ζ24 [v85] h86).bindT (fun p89 h90 => .panic p89 h90) fun v87 h88 =>
 (binR Prog .add 3 a16 (.int .i64 1) h88).bind fun v91 h92 =>
 .ok (.normal,[(4,a4),(15,a15),(16,v91)]) h92))
 (
 .ok ((.exit 0),[(4,a4),(15,a15),(16,a16),(17,v21)]) h22) :=
 (loopB_eq _ _).trans (by kernel_rfl)
theorem ζdv (k:Nat) (call:Caller) (a4 a15 a16 a17:Value) (h:Heap):ζby k call (.exit 0) [(4,a4),(15,a15),(16,a16),(17,a17)] h =
 .ok a4 h:=by kernel_rfl
def ζ5m (k:Nat) (call:Caller) (a0 a1 a2 a3 a4:Value) (h:Heap):Res Value :=
 (boxR a0 h).bind fun v1 h2 =>
 (buildR Prog 291 [(4,a4),(5,a3)] h2).bind fun v3 h4 =>
 (boxR v3 h4).bind fun v5 h6 =>
 (loadR Prog 113 v1 h6).bindN fun v7 h8 =>
 (loadR Prog 113 v1 h8).bindN fun v9 h10 =>
 (call F.ζc [v9,a1] h10).bindT (fun p13 h14 => .panic p13 h14) fun v11 h12 =>
 (call F.ζk [v7,v11] h12).bindT (fun p17 h18 => chkR ((okVal (loadR Prog 113 v1 h12) v7 && true) && true) (.panic p17 h18)) fun v15 h16 =>
 (call F.ζ2b [v15,a2,a3] h16).bindT (fun p21 h22 => chkR ((okVal (loadR Prog 113 v1 h12) v7 && true) && true) (.panic p21 h22)) fun v19 h20 =>
 (nilR v5 h20).bindN fun v23 h24 =>
 (fieldAddrR Prog 291 v23 2 h24).bindN fun v25 h26 =>
 (storeR Prog 111 v25 v19 h26).bindN fun _v27 h28 =>
 chkR ((okVal (loadR Prog 113 v1 h12) v7 && true) && true) (
 (loadR Prog 113 v1 h28).bindN fun v29 h30 =>
 (loadR Prog 113 v1 h30).bindN fun v31 h32 =>
 (binR Prog .add 3 a1 (.int .i64 4) h32).bindN fun v33 h34 =>
 (call F.ζc [v31,v33] h34).bindT (fun p37 h38 => .panic p37 h38) fun v35 h36 =>
 (call F.ζk [v29,v35] h36).bindT (fun p41 h42 => chkR ((okVal (loadR Prog 113 v1 h36) v29 && true) && true) (.panic p41 h42)) fun v39 h40 =>
 (call F.ζ2b [v39,a2,a3] h40).bindT (fun p45 h46 => chkR ((okVal (loadR Prog 113 v1 h36) v29 && true) && true) (.panic p45 h46)) fun v43 h44 =>
 (nilR v5 h44).bindN fun v47 h48 =>
 (fieldAddrR Prog 291 v47 3 h48).bindN fun v49 h50 =>
 (storeR Prog 111 v49 v43 h50).bindN fun _v51 h52 =>
 chkR ((okVal (loadR Prog 113 v1 h36) v29 && true) && true) (
 (loadR Prog 113 v1 h52).bindN fun v53 h54 =>
 (loadR Prog 113 v1 h54).bindN fun v55 h56 =>
 (binR Prog .add 3 a1 (.int .i64 8) h56).bindN fun v57 h58 =>
 (call F.ζc [v55,v57] h58).bindT (fun p61 h62 => .panic p61 h62) fun v59 h60 =>
 (call F.ζk [v53,v59] h60).bindT (fun p65 h66 => chkR ((okVal (loadR Prog 113 v1 h60) v53 && true) && true) (.panic p65 h66)) fun v63 h64 =>
 (nilR v5 h64).bindN fun v67 h68 =>
 (fieldAddrR Prog 291 v67 1 h68).bindN fun v69 h70 =>
 (storeR Prog 113 v69 v63 h70).bindN fun _v71 h72 =>
 chkR ((okVal (loadR Prog 113 v1 h60) v53 && true) && true) (
 (nilR v5 h72).bindN fun v73 h74 =>
 (fieldAddrR Prog 291 v73 2 h74).bindN fun v75 h76 =>
 (loadR Prog 111 v75 h76).bindN fun v77 h78 =>
 (call F.ζf [v77] h78).bindT (fun p81 h82 => (nilR v5 h78).bindN fun v83 h84 => (fieldAddrR Prog 291 v83 3 h84).bindN fun v85 h86 => (loadR Prog 111 v85 h86).bindN fun v87 h88 => chkR ((okVal (loadR Prog 111 v85 h72) v87 && true) && true) (.panic p81 h82)) fun v79 h80 =>
 (builtinV Prog .max [3,3] [v79,(.int .i64 0)] h80).bindN fun v89 h90 =>
 (nilR v5 h90).bindN fun v91 h92 =>
 (fieldAddrR Prog 291 v91 3 h92).bindN fun v93 h94 =>
 (loadR Prog 111 v93 h94).bindN fun v95 h96 =>
 (call F.ζf [v95] h96).bindT (fun p99 h100 => chkR ((okVal (loadR Prog 111 v93 h72) v95 && true) && true) (.panic p99 h100)) fun v97 h98 =>
 (builtinV Prog .max [3,3] [v97,(.int .i64 0)] h98).bindN fun v101 h102 =>
 (binR Prog .add 3 v89 v101 h102).bindN fun v103 h104 =>
 chkR ((okVal (loadR Prog 111 v93 h72) v95 && true) && true) (
 (nilR v5 h104).bind fun v105 h106 =>
 (fieldAddrR Prog 291 v105 1 h106).bind fun v107 h108 =>
 (loadR Prog 113 v107 h108).bind fun v109 h110 =>
 (binR Prog .mul 3 a4 v103 h110).bind fun v111 h112 =>
 (call F.ζz [v109,v111,a3] h112).bind fun v113 h114 =>
 .ok v5 h114))))
theorem ζip (k:Nat) (a0 a1 a2 a3 a4:Value) (h:Heap):R (T k) F.ζ5m [a0,a1,a2,a3,a4] h = nrm .fz h (ζ5m k (R (T k)) a0 a1 a2 a3 a4 h) :=
 (R_body (t:=T k) (T_scott k) (by kernel_rfl) (by kernel_rfl) _ _).trans (by kernel_rfl)
def ζ20 (k:Nat) (call:Caller) (a0 a1:Value) (h:Heap):Res Value :=
 (nilR a0 h).bind fun v1 h2 =>
 (fieldAddrR Prog 291 v1 5 h2).bind fun v3 h4 =>
 (loadR Prog 3 v3 h4).bind fun v5 h6 =>
 (binR Prog .eql 3 v5 (.int .i64 4) h6).bind fun v7 h8 =>
 condV (some v7) (
 (nilR a0 h8).bind fun v9 h10 =>
 (fieldAddrR Prog 291 v9 1 h10).bind fun v11 h12 =>
 (loadR Prog 113 v11 h12).bind fun v13 h14 =>
 (call F.ζ3q [v13,a1] h14).bind fun v15 h16 =>
 .ok v15 h16)
 (
 (nilR a0 h8).bind fun v17 h18 =>
 (fieldAddrR Prog 291 v17 1 h18).bind fun v19 h20 =>
 (loadR Prog 113 v19 h20).bind fun v21 h22 =>
 (call F.ζ10 [v21,a1] h22).bind fun v23 h24 =>
 .ok v23 h24)
theorem ζbj (k:Nat) (a0 a1:Value) (h:Heap):R (T k) F.ζ20 [a0,a1] h = nrm .gc h (ζ20 k (R (T k)) a0 a1 h) :=
 (R_body (t:=T k) (T_scott k) (by kernel_rfl) (by kernel_rfl) _ _).trans (by kernel_rfl)
def ζ1d (k:Nat) (call:Caller) (a0 a1 a2:Value) (h:Heap):Res Value :=
 (nilR a0 h).bind fun v1 h2 =>
 (fieldAddrR Prog 291 v1 2 h2).bind fun v3 h4 =>
 (loadR Prog 111 v3 h4).bind fun v5 h6 =>
 (binR Prog .eql 111 v5 (.pointer none) h6).bind fun v7 h8 =>
 condV (some v7) (
 (binR Prog .lss 3 a1 (.int .i64 0) h8).bind fun v9 h10 =>
 ((bif wantVal v9 false then Res.ok a1 h10 else Res.ok undef h10)).bind fun v11 h12 =>
 ((bif wantVal v9 false then binR Prog .gtr 3 v11 (.int .i64 65535) h12 else Res.ok undef h12)).bind fun v13 h14 =>
 (condV (some v9) (Res.ok (.bool true) h14) (Res.ok v13 h14)).bind fun v15 h16 =>
 ((bif wantVal v15 false then Res.ok a2 h16 else Res.ok undef h16)).bind fun v17 h18 =>
 ((bif wantVal v15 false then binR Prog .lss 3 v17 (.int .i64 0) h18 else Res.ok undef h18)).bind fun v19 h20 =>
 (condV (some v15) (Res.ok (.bool true) h20) (Res.ok v19 h20)).bind fun v21 h22 =>
 ((bif wantVal v21 false then Res.ok a2 h22 else Res.ok undef h22)).bind fun v23 h24 =>
 ((bif wantVal v21 false then binR Prog .gtr 3 v23 (.int .i64 65535) h24 else Res.ok undef h24)).bind fun v25 h26 =>
 (condV (some v21) (Res.ok (.bool true) h26) (Res.ok v25 h26)).bind fun v27 h28 =>
 condV (some v27) (
 .ok (.int .i64 0) h28)
 (
 (nilR a0 h28).bind fun v29 h30 =>
 (fieldAddrR Prog 291 v29 0 h30).bind fun v31 h32 =>
 (loadR Prog 30 v31 h32).bind fun v33 h34 =>
 (binR Prog .shl 3 a1 (.int .u64 16) h34).bind fun v35 h36 =>
 (binR Prog .or 3 v35 a2 h36).bind fun v37 h38 =>
 (call F.ζ5p [v33,v37] h38).bind fun v39 h40 =>
 (extractR v39 0 h40).bind fun v41 h42 =>
 (extractR v39 1 h42).bind fun v43 h44 =>
 (unR .not v43 h44).bind fun v45 h46 =>
 condV (some v45) (
 .ok (.int .i64 0) h46)
 (
 (binR Prog .mul 3 (.int .i64 6) v41 h46).bind fun v47 h48 =>
 (binR Prog .add 3 v47 (.int .i64 4) h48).bind fun v49 h50 =>
 (call F.ζ20 [a0,v49] h50).bind fun v51 h52 =>
 .ok v51 h52)))
 (
 (nilR a0 h8).bind fun v53 h54 =>
 (fieldAddrR Prog 291 v53 2 h54).bind fun v55 h56 =>
 (loadR Prog 111 v55 h56).bind fun v57 h58 =>
 (call F.ζr [v57,a1] h58).bind fun v59 h60 =>
 (extractR v59 0 h60).bind fun v61 h62 =>
 (extractR v59 1 h62).bind fun v63 h64 =>
 (nilR a0 h64).bind fun v65 h66 =>
 (fieldAddrR Prog 291 v65 3 h66).bind fun v67 h68 =>
 (loadR Prog 111 v67 h68).bind fun v69 h70 =>
 (call F.ζr [v69,a2] h70).bind fun v71 h72 =>
 (extractR v71 0 h72).bind fun v73 h74 =>
 (extractR v71 1 h74).bind fun v75 h76 =>
 (nilR a0 h76).bind fun v77 h78 =>
 (fieldAddrR Prog 291 v77 4 h78).bind fun v79 h80 =>
 (loadR Prog 3 v79 h80).bind fun v81 h82 =>
 (binR Prog .add 3 v61 v73 h82).bind fun v83 h84 =>
 (binR Prog .mul 3 v81 v83 h84).bind fun v85 h86 =>
 (call F.ζ20 [a0,v85] h86).bind fun v87 h88 =>
 .ok v87 h88)
theorem ζdu (k:Nat) (a0 a1 a2:Value) (h:Heap):R (T k) F.ζ1d [a0,a1,a2] h = nrm .gc h (ζ1d k (R (T k)) a0 a1 a2 h) :=
 (R_body (t:=T k) (T_scott k) (by kernel_rfl) (by kernel_rfl) _ _).trans (by kernel_rfl)
end
end Go.Sw
end
section
namespace Go.Sw
open Go.RowKit
theorem subV_lv (b:List Int) (a n:Nat) (h:a + n ≤ b.length):subV 1 (lv encB b) a n = lv encB ((b.drop a).take n):=by
 have h2:=((Sl.lv Heap.empty 1 b).sub encB_len .i64 .i64 .i64 a n h).1 Heap.empty (Ext.refl _);rw [slS_lv encB_len b _ _ _ a (a + n) (a + n) (by simp [boundOf]) (by unfold boundOf; dsimp only; rw [if_pos (by omega),Int.toNat_natCast]) (by unfold boundOf; dsimp only; rw [if_pos (by omega),Int.toNat_natCast]) (fun _ => rfl) (by omega) (Nat.le_refl _) h] at h2;injection h2 with h2;rw [← h2,List.drop_take,show a + n - a = n by omega]
theorem piece_lv {b r:List Int} {i n:Int} (h:pieceS b i n = some r):subV 1 (lv encB b) i.toNat n.toNat = lv encB r:=by
 obtain ⟨h1,rfl⟩:=ζ43.1 h;exact subV_lv b _ _ (by omega)
theorem ζgp {α:Type} {o:Option α} {f g:α → Value} (h:∀ a,o = some a → f a = g a) (H:Heap):orF o f H = orF o g H:=by
 cases o with
 | none => rfl
 | some a => show Res.ok (f a) H = Res.ok (g a) H; rw [h a rfl]
abbrev vwB (b:List Int):Value:=.agg #[lv encB b]
theorem Cut_lv (k:Nat) (b:List Int) (i n:Int) (hl:b.length < 2 ^ 62) (H:Heap):R (T k) F.ζz [vwB b,.int .i64 i,.int .i64 n] H = orF (pieceS b i n) vwB H :=
 (Cut_run k (Sl.lv H 1 b) i n hl).trans (ζgp (fun r hr => by rw [piece_lv hr]) H)
theorem Rest_lv (k:Nat) (b:List Int) (i:Int) (hl:b.length < 2 ^ 62) (hi:i ≤ 9223372036854775807) (H:Heap):R (T k) F.ζk [vwB b,.int .i64 i] H = orF (restS b i) vwB H :=
 (Rest_run k (Sl.lv H 1 b) i hl hi).trans (ζgp (fun r hr => by rw [piece_lv (by rw [ζa0 b i hl hi]; exact hr)]) H)
theorem Rows_lv (k:Nat) (b:List Int) (i n s:Int) (hl:b.length < 2 ^ 62) (H:Heap):R (T k) F.ζl [vwB b,.int .i64 i,.int .i64 n,.int .i64 s] H = orF (rowsS b i n s) vwB H :=
 (Rows_run k (Sl.lv H 1 b) i n s hl).trans (ζgp (fun r hr => by rw [piece_lv (ζ1p hr)]) H)
theorem Of_lv (k:Nat) (b:List Int) (H:Heap):R (T k) F.view_Of [lv encB b] H = .ok (vwB b) H:=Of_run k (Sl.lv H 1 b)
theorem ζmp (k:Nat) {H:Heap} {v:Value} {b:List Int} (hv:Sl H 1 v encB b) (hl:b.length ≤ 2 ^ 30):R (T k) F.ζ37 [.agg #[v]] H = .ok (lv encB b) H:=by
 rw [ζck];have g:=(Star.nil H).push ⟨[v],1,false⟩;have g:=g.more_row (Ext.refl _) (OwnO.bare encB _ 1) (fun b hb => by cases hb);obtain ⟨s,o,H1,e1,g⟩:=g.append (bytes:=1) 1 encB_len rfl (b:=v) (l2:=b) (ζgh hv.lenL) ((hv.up g.ext).first encB_len) (by simp; omega) (by decide);simp only [List.nil_append,List.cons_append,List.set_cons_zero,List.set_cons_succ] at g;obtain ⟨L,hf⟩:=(g.own 1 rfl).freeze encB_len (fun n _ v hv => by simp at hv; subst hv; trivial) 6;refine nrm_fz (v:=s) (H':=H1) ?_ hf g.ext (Flat.B b).alive;simp -implicitDefEqProofs [ζ37,e1]
structure PTab where
 pairs:List Int
 vb:List Int
 rows:Option (Int × List Pt)
 cols:Option (Int × List Pt)
 step:Int
 size:Int
abbrev ptabC (t:PTab):List Value:=[lv encI t.pairs,lv encB t.vb,lookV t.rows,lookV t.cols,.int .i64 t.step,.int .i64 t.size]
abbrev ptabV (t:PTab):Value:=boxV (ptabC t).toArray
theorem Flat.ptab (t:PTab):Flat (ptabV t):=.boxV (.cons (Flat.I _) (.cons (Flat.B _) (.cons (ζho _) (.cons (ζho _) (.cons (.int _ _) (.cons (.int _ _) .nil))))))
def upS:List Int → Bool
 | [] => true
 | [_] => true
 | a :: b :: l => decide (a < b) && upS (b :: l)
theorem upS_snoc (x:Int):∀ l:List Int,upS (l ++ [x]) = (upS l && match l.getLast? with | some y => decide (y < x) | none => true)
 | [] => rfl
 | [a] => by simp [upS]
 | a :: b :: l => by
  have ih:=upS_snoc x (b :: l);simp only [List.cons_append] at ih ⊢;simp only [upS,ih,List.getLast?_cons_cons,Bool.and_assoc]
def keysS (r:List Int) (n:Int):List Int:=(cutRows r 6 n.toNat).map fun q => num (q.take 4)
def pListS (b:List Int):Option PTab :=
 (uS b 0 4).bind fun n => (pieceS b 0 16).bind fun _ => (rowsS b 16 n 6).bind fun r => if upS (keysS r n) then some ⟨keysS r n,r,none,none,0,2⟩ else none
def pTabS (b:List Int) (i g z step:Int):Option PTab :=
 (uS b i 4).bind fun p => (restS b p).bind fun rb => (lookS rb g z).bind fun rows => (uS b (i + 4) 4).bind fun q => (restS b q).bind fun cb => (lookS cb g z).bind fun cols =>
 (uS b (i + 8) 4).bind fun o => (restS b o).bind fun vb => (pieceS vb (step * (max (mostS rows.2) 0 + max (mostS cols.2) 0)) z).map fun _ => ⟨[],vb,some rows,some cols,step,z⟩
def pTakeS (kind:Int) (b:List Int) (g:Int):Option PTab :=
 if kind = 0 then pListS b else if kind = 2 then pTabS b 4 g 2 1 else if kind = 6 then (uS b 0 4).bind fun f => if f % 2 = 1 then pTabS b 8 g 4 4 else pTabS b 8 g 2 2 else none
theorem ζ97 {ps:List Pt} (hok:∀ p,p ∈ ps → p.ok):-1 ≤ mostS ps ∧ mostS ps < 4294967296:=by
 have inner:∀ (l:List Int) (m:Int),-1 ≤ m → m < 4294967296 → (∀ x,x ∈ l → 0 ≤ x ∧ x < 4294967296) → -1 ≤ l.foldl max m ∧ l.foldl max m < 4294967296:=by
  intro l
  induction l with
  | nil => intro m h0 h1 _; exact ⟨h0,h1⟩
  | cons x l ih => intro m h0 h1 h; have:=h x (by simp); exact ih (max m x) (by omega) (by omega) fun y hy => h y (by simp [hy])
 have:∀ (ps:List Pt) (m:Int),-1 ≤ m → m < 4294967296 → (∀ p,p ∈ ps → p.ok) → -1 ≤ ps.foldl (fun m p => p.vals.foldl max m) m ∧ ps.foldl (fun m p => p.vals.foldl max m) m < 4294967296:=by
  intro ps
  induction ps with
  | nil => intro m h0 h1 _; exact ⟨h0,h1⟩
  | cons p ps ih =>
   intro m h0 h1 h;have:=inner p.vals m h0 h1 (h p (by simp)).2.2.2.2.2;exact ih _ this.1 this.2 fun q hq => h q (by simp [hq])
 exact this ps (-1) (by omega) (by omega) hok
theorem ζjb {ps:List Pt} {id x:Int} (h:getS ps id = some x):x ≤ mostS ps:=by
 have inner:∀ (l:List Int) (m:Int),m ≤ l.foldl max m ∧ ∀ y,y ∈ l → y ≤ l.foldl max m:=by
  intro l
  induction l with
  | nil => intro m; exact ⟨Int.le_refl _,fun y hy => by cases hy⟩
  | cons a l ih =>
   intro m;have:=ih (max m a);refine ⟨by simp only [List.foldl_cons]; omega,fun y hy => ?_⟩;rcases List.mem_cons.1 hy with rfl | hy
   ·simp only [List.foldl_cons]; omega
   ·exact this.2 y hy
 have outer:∀ (ps:List Pt) (m:Int),m ≤ ps.foldl (fun m p => p.vals.foldl max m) m ∧ ∀ p,p ∈ ps → ∀ y,y ∈ p.vals → y ≤ ps.foldl (fun m p => p.vals.foldl max m) m:=by
  intro ps
  induction ps with
  | nil => intro m; exact ⟨Int.le_refl _,fun y hy => by cases hy⟩
  | cons p ps ih =>
   intro m;have h1:=inner p.vals m;have h2:=ih (p.vals.foldl max m);refine ⟨Int.le_trans h1.1 h2.1,fun q hq y hy => ?_⟩;rcases List.mem_cons.1 hq with rfl | hq
   ·exact Int.le_trans (h1.2 y hy) h2.1
   ·exact h2.2 q hq y hy
 unfold getS at h;obtain ⟨p,hp,h⟩:=Option.bind_eq_some_iff.1 h;split at h
 ·exact (outer ps (-1)).2 p (List.mem_of_find?_eq_some hp) x (List.mem_of_getElem? h)
 ·cases h
theorem ζfd {ps:List Pt} (hok:∀ p,p ∈ ps → p.ok) {id x:Int} (h:getS ps id = some x):0 ≤ x:=by
 unfold getS at h;obtain ⟨p,hp,h⟩:=Option.bind_eq_some_iff.1 h;split at h
 ·exact ((hok p (List.mem_of_find?_eq_some hp)).2.2.2.2.2 x (List.mem_of_getElem? h)).1
 ·cases h
theorem and1 (P:Program) (t:TypeId) (H:Heap) {a:Int} (h0:0 ≤ a) (h1:a < 4294967296):binR P .and t (.int .i64 a) (.int .i64 1) H = .ok (.int .i64 (a % 2)) H:=by
 have e:(BitVec.ofInt 64 a &&& BitVec.ofInt 64 1).toNat = (a % 2).toNat:=by
  rw [BitVec.toNat_and,BitVec.toNat_ofInt,BitVec.toNat_ofInt];rw [show ((1:Int) % ((2 ^ 64:Nat):Int)).toNat = 2 ^ 1 - 1 from by decide,Nat.and_two_pow_sub_one_eq_mod];omega
 have e1:binV P .and t (.int .i64 a) (.int .i64 1) = some (.int .i64 (IntKind.i64.wrap (BitVec.ofInt 64 a &&& BitVec.ofInt 64 1).toNat)):=rfl;unfold binR;rw [e1,e,show (((a % 2).toNat:Nat):Int) = a % 2 by omega,wrap_i64 (by omega) (by omega)];rfl
theorem veq_Pt (l:List Pt):veq (lv encPt l) (lv encPt l) = true:=veq_lv fun p _ v hv => by
 simp [encPt] at hv;rcases hv with rfl | rfl | rfl <;> simp
theorem veq_tab (x:Int × List Pt):veq (boxV #[.int .i64 x.1,lv encPt x.2]) (boxV #[.int .i64 x.1,lv encPt x.2]) = true:=veq_boxV (l:=[.int .i64 x.1,lv encPt x.2]) fun v hv => by
 simp at hv;rcases hv with rfl | rfl
 ·simp
 ·exact veq_Pt _
theorem ζgq {α:Type} (a:α) (f:α → Value) (H:Heap):orF (some a) f H = .ok (f a) H:=rfl
theorem ζdz (k:Nat) (b:List Int) (hb:Byt b) (i g z step:Int) (hi:i = 4 ∨ i = 8) (hg:1 ≤ g ∧ g ≤ 65535) (hz:z = 2 ∨ z = 4) (hst:step = 1 ∨ step = 2 ∨ step = 4) (hl:b.length < 2 ^ 31) (H:Heap) :
  R (T k) F.ζ5m [vwB b,.int .i64 i,.int .i64 g,.int .i64 z,.int .i64 step] H = orF (pTabS b i g z step) ptabV H:=by
 rw [ζip];have hx:Ext H ((H.push ⟨[lv encB b],1,false⟩).push ⟨[.slice none 0 0,.slice none 0 0,.pointer none,.pointer none,.int .i64 step,.int .i64 z],1,false⟩):=((Ext.refl H).push _).push _;have hU:=fun j H' => U32_run k (Sl.lv H' 1 b) hb j (by omega);have hR:=fun j hj H' => Rest_lv k b j (by omega) hj H';have hT:=fun tb htb hl H' => ζdp k (Sl.lv H' 1 tb) htb g z hg.1 hg.2 hz hl;refine fz_orF ?_ fun _ _ => (Flat.ptab _).alive;simp -implicitDefEqProofs (disch:=omega) [ζ5m];unfold pTabS;refine Cp.callT (hU i _) (fun _ => ⟨_,rfl,hx⟩) fun p hp => ?_;have hp:=uS_four hb hp;refine Cp.callT (hR p (by omega) _) (fun _ => ⟨_,by simp -implicitDefEqProofs (disch:=omega),hx⟩) fun rb hrb => ?_;have lrb:=ζ3v hrb;refine Cp.callT (hT rb (hb.rest hrb) (by omega) _) (fun _ => ⟨_,by simp -implicitDefEqProofs (disch:=omega),hx⟩) fun rows hrows => ?_;have ok1:=lookS_ok (hb.rest hrb) hg.1 hg.2 hz hrows;have len1:=ζas (hb.rest hrb) hrows;have hx2:Ext H ((H.push ⟨[lv encB b],1,false⟩).push ⟨[.slice none 0 0,.slice none 0 0,tabV rows,.pointer none,.int .i64 step,.int .i64 z],1,false⟩):=((Ext.refl H).push _).push _;simp -implicitDefEqProofs (disch:=omega);refine Cp.callT (hU (i + 4) _) (fun _ => ⟨_,rfl,hx2⟩) fun q hq => ?_;have hq:=uS_four hb hq;refine Cp.callT (hR q (by omega) _) (fun _ => ⟨_,by simp -implicitDefEqProofs (disch:=omega),hx2⟩) fun cb hcb => ?_;have lcb:=ζ3v hcb;refine Cp.callT (hT cb (hb.rest hcb) (by omega) _) (fun _ => ⟨_,by simp -implicitDefEqProofs (disch:=omega),hx2⟩) fun cols hcols => ?_;have ok2:=lookS_ok (hb.rest hcb) hg.1 hg.2 hz hcols;have len2:=ζas (hb.rest hcb) hcols;have hx3:Ext H ((H.push ⟨[lv encB b],1,false⟩).push ⟨[.slice none 0 0,.slice none 0 0,tabV rows,tabV cols,.int .i64 step,.int .i64 z],1,false⟩):=((Ext.refl H).push _).push _;simp -implicitDefEqProofs (disch:=omega);refine Cp.callT (hU (i + 8) _) (fun _ => ⟨_,rfl,hx3⟩) fun o ho => ?_;have ho:=uS_four hb ho;refine Cp.callT (hR o (by omega) _) (fun _ => ⟨_,by simp -implicitDefEqProofs (disch:=omega),hx3⟩) fun vb hvb => ?_;have lvb:=ζ3v hvb;have hx4:Ext H ((H.push ⟨[lv encB b],1,false⟩).push ⟨[.slice none 0 0,lv encB vb,tabV rows,tabV cols,.int .i64 step,.int .i64 z],1,false⟩):=((Ext.refl H).push _).push _;have m1:=fun H' => Most_run k rows ok1.2.1 len1 H';have m2:=fun H' => Most_run k cols ok2.2.1 len2 H';have b1:=ζ97 ok1.2.1;have b2:=ζ97 ok2.2.1;obtain ⟨y1,hy1⟩:∃ y1,y1 = max (mostS rows.2) 0:=⟨_,rfl⟩
 obtain ⟨y2,hy2⟩:∃ y2,y2 = max (mostS cols.2) 0:=⟨_,rfl⟩
 have e1:(if 0 > mostS rows.2 then 0 else mostS rows.2) = y1:=by rw [hy1]; split <;> omega
 have e2:(if 0 > mostS cols.2 then 0 else mostS cols.2) = y2:=by rw [hy2]; split <;> omega
 rw [← hy1,← hy2];have s0:0 ≤ step * (y1 + y2):=Int.mul_nonneg (by omega) (by omega);have s1:step * (y1 + y2) ≤ 4 * 8589934592:=Int.mul_le_mul (by omega) (by omega) (by omega) (by omega);simp -implicitDefEqProofs (disch:=omega);simp -implicitDefEqProofs (disch:=omega) [m1,m2,e1,e2];have t2:=veq_tab cols;simp -implicitDefEqProofs (disch:=omega) [t2];refine Cp.callM (Cut_lv k vb (step * (y1 + y2)) z (by omega) _) hx4 fun r hr => ?_;exact .ok hx4 ⟨_,fz_box (by omega) (ζa _ _ _ (by simp)) (ζ1z (v:=.slice none 0 0) (u:=lv encI []) (L1:=[]) rfl (ζau (fun v hv => by
  simp at hv;rcases hv with rfl | rfl | rfl | rfl | rfl <;> trivial)))⟩
theorem upS_take:∀ (l:List Int) (m:Nat),upS l = true → upS (l.take m) = true
 | [],m,_ => by simp [upS]
 | [a],0,_ => rfl
 | [a],m + 1,_ => by simp [upS]
 | a :: b :: l,0,_ => rfl
 | a :: b :: l,1,_ => rfl
 | a :: b :: l,m + 2,h => by
  simp only [upS,Bool.and_eq_true] at h;have:=upS_take (b :: l) (m + 1) h.2;simp only [List.take_succ_cons] at this ⊢;simp only [upS,h.1,this,Bool.and_self]
theorem keys_at {r:List Int} {n j:Nat} (hr:r.length = n * 6) (hj:j < n):uS r (6 * (j:Int)) 4 = some (num ((((r.drop (6 * j)).take 6)).take 4)):=by
 have:6 * j + 6 ≤ r.length:=by omega
 unfold uS;rw [pieceS,if_pos (by omega),show (6 * (j:Int)).toNat = 6 * j by omega,List.take_take];rfl
theorem ζo0 (k:Nat) (b:List Int) (hb:Byt b) (hl:b.length < 2 ^ 31) (H:Heap):R (T k) F.ζ67 [vwB b] H = orF (pListS b) ptabV H:=by
 rw [ζkk];have hx:Ext H (H.push ⟨[lv encB b],1,false⟩):=(Ext.refl H).push _;refine fz_orF ?_ fun _ _ => (Flat.ptab _).alive;simp -implicitDefEqProofs (disch:=omega) [ζ67];unfold pListS;refine Cp.call (U32_run k (Sl.lv _ 1 b) hb 0 (by omega)) hx fun n hn => ?_;simp -implicitDefEqProofs (disch:=omega);refine Cp.call (Cut_lv k b 0 16 (by omega) _) hx fun c hc => ?_;simp -implicitDefEqProofs (disch:=omega);refine Cp.call (Rows_lv k b 16 n 6 (by omega) _) hx fun r hr => ?_;have hn:=rowsS_n hr;have hrb:=(hb.piece (ζ1p hr)).1;have hrl:=ζ2s (ζ1p hr);obtain ⟨n,rfl⟩:=Int.eq_ofNat_of_zero_le hn.1;have hrl:r.length = n * 6:=by exact_mod_cast hrl
 unfold keysS;simp only [Int.toNat_natCast];obtain ⟨ks,hks⟩:∃ ks,ks = (cutRows r 6 n).map fun q => num (q.take 4):=⟨_,rfl⟩
 rw [← hks];have hkl:ks.length = n:=by rw [hks]; simp
 simp -implicitDefEqProofs (disch:=omega);have g:=(Star.nil H).rest hx;have g:=g.push ⟨[.slice none 0 0,lv encB r,.pointer none,.pointer none,.int .i64 0,.int .i64 2],1,false⟩;have g:=g.more_row (Ext.refl _) (OwnO.nil encI _ 1) (fun b hb => by cases hb);simp only [List.cons_append,List.nil_append,hn_push] at g;have hU:=fun (j:Nat) (hj:j < n) H' => U32_run k (Sl.lv H' 1 r) hrb (6 * (j:Int)) (by omega)
 have hlp:Cp failV (Ext H) (loopN (ζ81 k (R (T k))) loopFuel [(4,ptrV (H.n + 1)),(15,.int .i64 n),(16,.int .i64 0)] ((H.push ⟨[lv encB b],1,false⟩).push ⟨[.slice none 0 0,lv encB r,.pointer none,.pointer none,.int .i64 0,.int .i64 2],1,false⟩))
   (if upS ks = true then some () else none) fun _ xe H' => xe = (.exit 0,[(4,ptrV (H.n + 1)),(15,.int .i64 n),(16,.int .i64 n),(17,.bool false)]) ∧ ∃ s o,Star H H' [itBlk (H.n + 1) ⟨[s,lv encB r,.pointer none,.pointer none,.int .i64 0,.int .i64 2],1,false⟩,itRow o 1 s encI ks]:=by
  rcases loop_upP (body:=ζ81 k (R (T k))) n
   (fun j e H' => e = [(4,ptrV (H.n + 1)),(15,.int .i64 n),(16,.int .i64 j)] ∧ upS (ks.take j) = true ∧ ∃ s o,Star H H' [itBlk (H.n + 1) ⟨[s,lv encB r,.pointer none,.pointer none,.int .i64 0,.int .i64 2],1,false⟩,itRow o 1 s encI (ks.take j)])
   (fun x e H' => x = .exit 0 ∧ e = [(4,ptrV (H.n + 1)),(15,.int .i64 n),(16,.int .i64 n),(17,.bool false)] ∧ upS ks = true ∧ ∃ s o,Star H H' [itBlk (H.n + 1) ⟨[s,lv encB r,.pointer none,.pointer none,.int .i64 0,.int .i64 2],1,false⟩,itRow o 1 s encI ks])
   (fun v H' => v = failV ∧ Ext H H' ∧ upS ks = false)
   (fun j e H' hj ⟨he,hup,s,o,g⟩ => by
    subst he;have hlt:(j:Int) < n:=by omega
    have hM:=g.get 0 rfl;have hu:=hU j hj;simp only [keys_at hrl hj,ζgq] at hu;have hy:ks[j]? = some (num ((((r.drop (6 * j)).take 6)).take 4)):=by rw [hks,List.getElem?_map,ζ6c _ _ _ _ hj]; rfl
    obtain ⟨y,hyd⟩:∃ y,y = num ((((r.drop (6 * j)).take 6)).take 4):=⟨_,rfl⟩
    rw [← hyd] at hy hu;have hvq:=(g.row 1 rfl).veq;have hne:¬ H.n + 1 = H'.n:=by have:=Heap.get_lt hM; omega
    obtain ⟨s',o',H2,e2,g⟩:=g.append1 (bytes:=8) 1 encI_len rfl y (by simp; omega) (by decide);simp only [List.set_cons_zero,List.set_cons_succ] at g;obtain ⟨H3,e3,g,_⟩:=g.stCell 0 rfl 0 (g.row 1 rfl).storable (g.row 1 rfl).cells (by simp);simp only [List.set_cons_zero,List.set_cons_succ] at g;rw [← ζ53 hy] at g;have hM3:=g.get 0 rfl;simp only [encI] at e2;have hups:upS (ks.take (j + 1)) = (upS (ks.take j) && match (ks.take j).getLast? with | some z => decide (z < y) | none => true):=by rw [ζ53 hy,upS_snoc]
    rw [hup,Bool.true_and] at hups;cases j with
    | zero =>
     refine .inl ⟨_,H3,?_,rfl,by simpa using hups,s',o',g⟩;rw [ζ5j];simp -implicitDefEqProofs (disch:=omega) at hu hlt;simp -implicitDefEqProofs (disch:=omega) [-stR_ptr,hlt,hM,hu,hne,hvq,e2,e3]
    | succ i =>
     obtain ⟨x,hxi⟩:∃ x,ks[i]? = some x:=⟨_,List.getElem?_eq_getElem (by omega)⟩
     have hlast:(ks.take (i + 1)).getLast? = some x:=by rw [ζ53 hxi]; simp
     rw [hlast] at hups;dsimp only at hups;obtain ⟨c,hc,hgc,i1⟩:=g.ix 1 rfl .i64 i (by simp; omega);obtain ⟨c2,hc2,hgc2,i2⟩:=g.ix 1 rfl .i64 (i + 1) (by simp; omega);have l1:=ld1_row encI_len hgc (i:=i) (c:=0) (x:=x) (by rw [List.getElem?_take,if_pos (by omega),hxi]) (by decide) rfl;have l2:=ld1_row encI_len hgc2 (i:=i + 1) (c:=0) (x:=y) (by rw [List.getElem?_take,if_pos (by omega),hy]) (by decide) rfl;simp -implicitDefEqProofs [-ld1_ptr] at i1 i2 l1 l2;simp -implicitDefEqProofs (disch:=omega) at hu hlt;have hj0:((i:Int) + 1 == 0) = false:=by simp; omega
     by_cases hxy:x < y
     ·refine .inl ⟨_,H3,?_,rfl,by rw [hups]; simpa using hxy,s',o',g⟩;rw [ζ5j];simp -implicitDefEqProofs (disch:=omega) [-stR_ptr,-ld1_ptr,ld1_ptr (H.n + 1),hlt,hM,hM3,hu,hne,hvq,e2,e3,hj0,i1,i2,l1,l2,hxy]
     ·refine .inr (.inr ⟨failV,H3,?_,rfl,g.ext,?_⟩)
      ·rw [ζ5j];simp -implicitDefEqProofs (disch:=omega) [-stR_ptr,-ld1_ptr,ld1_ptr (H.n + 1),hlt,hM,hM3,hu,hne,hvq,e2,e3,hj0,i1,i2,l1,l2,hxy]
      ·cases hall:upS ks with
       | false => rfl
       | true =>
        have:=upS_take ks (i + 1 + 1) hall;rw [hups] at this;exact absurd (by simpa using this) hxy)
   (fun e H' ⟨he,hup,s,o,g⟩ => by
    subst he;rw [List.take_of_length_le (by omega)] at hup g;refine .inl ⟨.exit 0,_,H',?_,by simp,rfl,rfl,hup,s,o,g⟩;rw [ζ5j];simp -implicitDefEqProofs) loopFuel 0 _ _ (Nat.zero_le _) (fuel_big (by omega)) ⟨rfl,rfl,.slice none 0 0,none,by simpa using g⟩ with ⟨x,e',H',h1,rfl,rfl,h2,s,o,g⟩ | ⟨v,H',h1,rfl,h2,h3⟩
  ·rw [if_pos h2];exact ⟨_,H',h1,g.ext,rfl,s,o,g⟩
  ·rw [if_neg (by simp [h3])];exact ⟨H',h1,h2⟩
 have e0:(if upS ks = true then some (⟨ks,r,none,none,0,2⟩:PTab) else none) = (if upS ks = true then some () else none).map fun _ => ⟨ks,r,none,none,0,2⟩:=by split <;> rfl
 rw [e0];refine Cp.bindM hlp ?_;rintro ⟨⟩ ⟨x,e⟩ H' _ hx' ⟨he,s,o,g⟩;obtain ⟨rfl,rfl⟩:=Prod.mk.inj he;simp only [ζdv];obtain ⟨L,hf⟩:=(g.own 1 rfl).freeze encI_len (ζak _) 5;exact .ok hx' ⟨_,fz_box (by omega) (g.get 0 rfl) (ζ1z hf (ζau (fun v hv => by
  simp at hv;rcases hv with rfl | rfl | rfl | rfl | rfl <;> trivial)))⟩
theorem ζnx (k:Nat) (kind:Int) (b:List Int) (hb:Byt b) (g:Int) (hg:1 ≤ g ∧ g ≤ 65535) (hl:b.length < 2 ^ 31) (H:Heap):R (T k) F.ζ66 [.int .i64 kind,vwB b,.int .i64 g] H = orF (pTakeS kind b g) ptabV H:=by
 rw [ζkj];have hx:Ext H (H.push ⟨[lv encB b],1,false⟩):=(Ext.refl H).push _;have fzp:∀ (t:PTab) (H':Heap),∃ L,fzV H.n H' fzDepth (ptabV t) = some (ptabV t,L):=fun t H' => ⟨[],rfl⟩
 refine fz_orF ?_ fun _ _ => (Flat.ptab _).alive;unfold pTakeS;by_cases h0:kind = 0
 ·subst h0;rw [if_pos rfl];simp -implicitDefEqProofs (disch:=omega) [ζ66];exact Cp.callL (ζo0 k b hb hl _) hx fun t _ => .ok hx (fzp t _)
 rw [if_neg h0];have h0':(kind == 0) = false:=by simpa using h0
 by_cases h2:kind = 2
 ·subst h2;rw [if_pos rfl];simp -implicitDefEqProofs (disch:=omega) [ζ66];exact Cp.callL (ζdz k b hb 4 g 2 1 (by omega) hg (by omega) (by omega) hl _) hx fun t _ => .ok hx (fzp t _)
 rw [if_neg h2];have h2':(kind == 2) = false:=by simpa using h2
 by_cases h6:kind = 6
 ·subst h6;rw [if_pos rfl];simp -implicitDefEqProofs (disch:=omega) [ζ66];refine Cp.call (U32_run k (Sl.lv _ 1 b) hb 0 (by omega)) hx fun f hf => ?_;have hf:=uS_four hb hf;rw [and1 Prog 3 _ hf.1 hf.2];by_cases hodd:f % 2 = 1
  ·rw [if_pos hodd];simp -implicitDefEqProofs (disch:=omega) [hodd];exact Cp.callL (ζdz k b hb 8 g 4 4 (by omega) hg (by omega) (by omega) hl _) hx fun t _ => .ok hx (fzp t _)
  ·rw [if_neg hodd];have hodd':(f % 2 == 1) = false:=by simpa using hodd
   simp -implicitDefEqProofs (disch:=omega) [hodd'];exact Cp.callL (ζdz k b hb 8 g 2 2 (by omega) hg (by omega) (by omega) hl _) hx fun t _ => .ok hx (fzp t _)
 rw [if_neg h6];have h6':(kind == 6) = false:=by simpa using h6
 simp -implicitDefEqProofs (disch:=omega) [ζ66,h0',h2',h6'];exact .throw hx
end Go.Sw
end
section
set_option maxRecDepth 100000
set_option linter.unusedVariables false
namespace Go.Sw
noncomputable section
end
end Go.Sw
end
section
namespace Go.Sw
open Go.RowKit
theorem ζgb {b:List Int} {i n:Int}:(pieceS b i n).isSome = inS b.length i n:=by
 unfold pieceS inS;split
 ·rename_i h; rw [decide_eq_true h]; rfl
 ·rename_i h; rw [decide_eq_false h]; rfl
theorem uS_of_in {b:List Int} {i n:Int} (h:inS b.length i n = true):∃ x,uS b i n = some x:=by
 rw [← ζgb,Option.isSome_iff_exists] at h;obtain ⟨r,hr⟩:=h;exact ⟨num r,by unfold uS; rw [hr]; rfl⟩
end Go.Sw
end
section
set_option maxRecDepth 100000
set_option linter.unusedVariables false
namespace Go.Sw
noncomputable section
end
end Go.Sw
end
section
namespace Go.Sw
open Go.RowKit
end Go.Sw
end
section
namespace Go.Sw
open Go.RowKit
end Go.Sw
end
section
namespace Go.Sw
open Go.RowKit
def RP.ok (r:RP):Prop:=-1 ≤ r.first ∧ r.first ≤ 65536 ∧ -1 ≤ r.last ∧ r.last ≤ 65536 ∧ -1 ≤ r.pos ∧ r.pos < 2 ^ 35 ∧ 0 ≤ r.step ∧ r.step ≤ 4 ∧ 0 ≤ r.size ∧ r.size ≤ 4
end Go.Sw
end
section
namespace Go.Sw
open Go.RowKit
def placeS (l:List Int) (x:Int):Option Nat:=l.findIdx? fun y => decide (y = x)
theorem upS_get:∀ {l:List Int},upS l = true → ∀ (i j:Nat) (a b:Int),i < j → l[i]? = some a → l[j]? = some b → a < b
 | [],_,i,j,a,b,_,h,_ => by simp at h
 | [_],_,i,j,a,b,hij,ha,hb => by
  have:=(List.getElem?_eq_some_iff.1 hb).1;simp at this; omega
 | x :: y :: l,h,i,j,a,b,hij,ha,hb => by
  simp only [upS,Bool.and_eq_true,decide_eq_true_eq] at h;obtain ⟨j,rfl⟩:∃ j',j = j' + 1:=⟨j - 1,by omega⟩
  have hb:(y :: l)[j]? = some b:=by simpa using hb
  cases i with
  | succ i => exact upS_get h.2 i j a b (by omega) (by simpa using ha) hb
  | zero =>
   simp at ha;subst ha;cases j with
   | zero => simp at hb; subst hb; exact h.1
   | succ j => have:=upS_get h.2 0 (j + 1) y b (by omega) (by simp) hb; omega
theorem ζnz {l:List Int} {x:Int} {i:Nat} (h:l[i]? = some x) (hup:upS l = true):placeS l x = some i:=by
 unfold placeS;obtain ⟨hi,hg⟩:=List.getElem?_eq_some_iff.1 h;rw [List.findIdx?_eq_some_iff_getElem];refine ⟨hi,by simpa using hg,fun j hj => ?_⟩;have hjl:j < l.length:=by omega
 have:=upS_get hup j i l[j] x hj (List.getElem?_eq_getElem hjl) h;simp; omega
theorem ζfo {l:List Int} {x:Int} (h:∀ y,y ∈ l → y ≠ x):placeS l x = none:=by
 unfold placeS;rw [List.findIdx?_eq_none_iff];intro y hy;simpa using h y hy
theorem ζgz (k:Nat) {H:Heap} (l:List Int) (x:Int) (p1 p2:Nat) (h1:H.get p1 = some ⟨[lv encI l],1,false⟩) (h2:H.get p2 = some ⟨[.int .i64 x],1,false⟩) (j:Nat) (y:Int) (hj:l[j]? = some y) :
  R (T k) F.ζ30 [.int .i64 j,ptrV p1,ptrV p2] H = .ok (.bool (decide (x ≤ y))) H:=by
 rw [ζe8];refine nrm_gc (Pure.of ?_) (.bool _);have i1:=fun H' => ixS_lvN encI_len l .i64 j y hj H';simp -implicitDefEqProofs (disch:=omega) [ζ30,h1,h2,i1]
theorem ζms (k:Nat) (l:List Int) (hup:upS l = true) (hl:l.length < 2 ^ 31) (x:Int) (H:Heap) :
  R (T k) F.ζ5p [lv encI l,.int .i64 x] H = .ok (.tuple #[.int .i64 (((placeS l x).getD 0:Nat):Int),.bool (placeS l x).isSome]) H:=by
 rw [ζis];have hx:Ext H ((H.push ⟨[lv encI l],1,false⟩).push ⟨[.int .i64 x],1,false⟩):=((Ext.refl H).push _).push _;have fl:∀ (n:Int) b,Flat (.tuple #[.int .i64 n,.bool b]):=fun n b => .tupleL (.cons (.int _ _) (.cons (.bool _) .nil));have hmono:∀ i j:Nat,i ≤ j → j < l.length → (l[i]?).elim false (fun y => decide (x ≤ y)) = true → (l[j]?).elim false (fun y => decide (x ≤ y)) = true:=by
  intro i j hij hj hi;by_cases he:i = j
  ·subst he; exact hi
  ·obtain ⟨p,hp⟩:∃ p,l[i]? = some p:=⟨_,List.getElem?_eq_getElem (by omega)⟩
   obtain ⟨q,hq⟩:∃ q,l[j]? = some q:=⟨_,List.getElem?_eq_getElem hj⟩
   have:=upS_get hup i j p q (by omega) hp hq;rw [hp] at hi;rw [hq];simp at hi ⊢;omega
 obtain ⟨i,hfi⟩:=ζhh l.length (fun j => (l[j]?).elim false fun y => decide (x ≤ y)) hmono
 have hfirst:=ζiy k l.length (.func (.func F.ζ30) #[] #[ptrV H.n,ptrV (H.n + 1)]) (fun j => (l[j]?).elim false fun y => decide (x ≤ y)) ((H.push ⟨[lv encI l],1,false⟩).push ⟨[.int .i64 x],1,false⟩) (by omega)
  (fun j hj => by
   obtain ⟨y,hy⟩:∃ y,l[j]? = some y:=⟨_,List.getElem?_eq_getElem hj⟩
   have:=ζgz k (H:=(H.push ⟨[lv encI l],1,false⟩).push ⟨[.int .i64 x],1,false⟩) l x H.n (H.n + 1) (by simp) (by simp) j y hy;simp only [callV,List.nil_append,List.cons_append];rw [hy];simpa using this)
  hmono i hfi
 by_cases hil:i < l.length
 ·obtain ⟨y,hy⟩:∃ y,l[i]? = some y:=⟨_,List.getElem?_eq_getElem hil⟩
  have hne:((i:Int) == (l.length:Int)) = false:=by simp; omega
  have i1:=fun H' => ixS_lvN encI_len l .i64 i y hy H';have hxy:x ≤ y:=by
   have:=hfi.2.2 i (Nat.le_refl _) hil;simp only [hy] at this;simpa using this
  by_cases he:y = x
  ·subst he;rw [ζnz hy hup];refine nrm_gc ⟨_,?_,hx⟩ (fl _ _).alive;simp -implicitDefEqProofs (disch:=omega) [ζ5p,hfirst,hne,i1,bne]
  ·have hno:placeS l x = none:=ζfo fun z hz e => by
    subst e;obtain ⟨j,hj⟩:=List.getElem?_of_mem hz;have hjl:=(List.getElem?_eq_some_iff.1 hj).1;by_cases hji:j < i
    ·have:=hfi.2.1 j hji;simp [hj] at this
    ·by_cases hji2:j = i
     ·subst hji2; rw [hj] at hy; injection hy with hy; exact he hy.symm
     ·have:=upS_get hup i j y z (by omega) hy hj; omega
   rw [hno];have he':(y == x) = false:=by simpa using he
   refine nrm_gc ⟨_,?_,hx⟩ (fl _ _).alive;simp -implicitDefEqProofs (disch:=omega) [ζ5p,hfirst,hne,i1,bne,he']
 ·have hie:i = l.length:=by have:=hfi.1; omega
  have hno:placeS l x = none:=ζfo fun z hz e => by
   subst e;obtain ⟨j,hj⟩:=List.getElem?_of_mem hz;have hjl:=(List.getElem?_eq_some_iff.1 hj).1;have:=hfi.2.1 j (by omega);simp [hj] at this
  rw [hno];subst hie;refine nrm_gc ⟨_,?_,hx⟩ (fl _ _).alive;simp -implicitDefEqProofs (disch:=omega) [ζ5p,hfirst,bne]
structure PTab.ok (t:PTab):Prop where
 byt:Byt t.vb
 len:t.vb.length < 2 ^ 31
 body:(t.rows = none ∧ t.cols = none ∧ t.size = 2 ∧ t.vb.length = t.pairs.length * 6 ∧ upS t.pairs = true ∧ t.pairs.length < 2 ^ 31) ∨
  ∃ r c,t.rows = some r ∧ t.cols = some c ∧ ((∀ p,p ∈ r.2 → p.ok) ∧ risesS r.2 = true ∧ r.2.length < 2 ^ 31) ∧ ((∀ p,p ∈ c.2 → p.ok) ∧ risesS c.2 = true ∧ c.2.length < 2 ^ 31) ∧
   (t.size = 2 ∨ t.size = 4) ∧ (t.step = 1 ∨ t.step = 2 ∨ t.step = 4) ∧ (pieceS t.vb (t.step * (max (mostS r.2) 0 + max (mostS c.2) 0)) t.size).isSome = true
theorem pTabS_ok {b:List Int} (hb:Byt b) (hl:b.length < 2 ^ 31) {i g z step:Int} (hg:1 ≤ g ∧ g ≤ 65535) (hz:z = 2 ∨ z = 4) (hst:step = 1 ∨ step = 2 ∨ step = 4) {t:PTab} (h:pTabS b i g z step = some t):t.ok:=by
 unfold pTabS at h;obtain ⟨p,_,h⟩:=Option.bind_eq_some_iff.1 h;obtain ⟨rb,hrb,h⟩:=Option.bind_eq_some_iff.1 h;obtain ⟨rows,hrows,h⟩:=Option.bind_eq_some_iff.1 h;obtain ⟨q,_,h⟩:=Option.bind_eq_some_iff.1 h;obtain ⟨cb,hcb,h⟩:=Option.bind_eq_some_iff.1 h;obtain ⟨cols,hcols,h⟩:=Option.bind_eq_some_iff.1 h;obtain ⟨o,_,h⟩:=Option.bind_eq_some_iff.1 h;obtain ⟨vb,hvb,h⟩:=Option.bind_eq_some_iff.1 h;obtain ⟨r,hr,rfl⟩:=Option.map_eq_some_iff.1 h;have ok1:=lookS_ok (hb.rest hrb) hg.1 hg.2 hz hrows;have ok2:=lookS_ok (hb.rest hcb) hg.1 hg.2 hz hcols;have:=ζ3v hvb;exact ⟨hb.rest hvb,by dsimp only; omega,.inr ⟨rows,cols,rfl,rfl,⟨ok1.2.1,ok1.2.2,ζas (hb.rest hrb) hrows⟩,⟨ok2.2.1,ok2.2.2,ζas (hb.rest hcb) hcols⟩,hz,hst,by dsimp only; rw [hr]; rfl⟩⟩
theorem ζnv {b:List Int} (hb:Byt b) (hl:b.length < 2 ^ 31) {t:PTab} (h:pListS b = some t):t.ok:=by
 unfold pListS at h;obtain ⟨n,_,h⟩:=Option.bind_eq_some_iff.1 h;obtain ⟨c,_,h⟩:=Option.bind_eq_some_iff.1 h;obtain ⟨r,hr,h⟩:=Option.bind_eq_some_iff.1 h;split at h
 ·rename_i hup;injection h with h;subst h;have hn:=rowsS_n hr;have hrl:=ζ2s (ζ1p hr);have hkl:(keysS r n).length = n.toNat:=by unfold keysS; simp
  exact ⟨(hb.piece (ζ1p hr)).1,by dsimp only; omega,.inl ⟨rfl,rfl,rfl,by dsimp only; omega,hup,by dsimp only; omega⟩⟩
 ·cases h
theorem ζnw {kind:Int} {b:List Int} (hb:Byt b) (hl:b.length < 2 ^ 31) {g:Int} (hg:1 ≤ g ∧ g ≤ 65535) {t:PTab} (h:pTakeS kind b g = some t):t.ok:=by
 unfold pTakeS at h;split at h
 ·exact ζnv hb hl h
 split at h
 ·exact pTabS_ok hb hl hg (by omega) (by omega) h
 split at h
 ·obtain ⟨f,_,h⟩:=Option.bind_eq_some_iff.1 h;split at h
  ·exact pTabS_ok hb hl hg (by omega) (by omega) h
  ·exact pTabS_ok hb hl hg (by omega) (by omega) h
 ·cases h
def pvalS (t:PTab) (i:Int):Int:=if t.size = 4 then s32 (gU t.vb i 4) else s16 (gU t.vb i 2)
def pgetS (t:PTab) (l r:Int):Int :=
 match t.rows,t.cols with
 | some a,some c => pvalS t (t.step * ((getS a.2 l).getD 0 + (getS c.2 r).getD 0))
 | _,_ => if l < 0 ∨ l > 65535 ∨ r < 0 ∨ r > 65535 then 0 else match placeS t.pairs (l * 65536 + r) with | some i => pvalS t (6 * (i:Int) + 4) | none => 0
theorem pval_run (k:Nat) (t:PTab) (hb:Byt t.vb) (hl:t.vb.length < 2 ^ 31) (hz:t.size = 2 ∨ t.size = 4) (i:Int) (h:(pieceS t.vb i t.size).isSome = true) (H:Heap):R (T k) F.ζ20 [ptabV t,.int .i64 i] H = .ok (.int .i64 (pvalS t i)) H:=by
 rw [ζbj];refine nrm_gc (Pure.of ?_) (.int _ _);obtain ⟨r,hr⟩:=Option.isSome_iff_exists.1 h;unfold pvalS;rcases hz with hz | hz
 ·rw [hz] at hr ⊢;have hu:uS t.vb i 2 = some (num r):=by unfold uS; rw [hr]; rfl
  have h16:=I16_run k (Sl.lv H 1 t.vb) hb i (by omega);rw [hu,Option.map_some,ζgq] at h16;rw [gU_some hu];simp -implicitDefEqProofs (disch:=omega) [ζ20,hz,h16]
 ·rw [hz] at hr ⊢;have hu:uS t.vb i 4 = some (num r):=by unfold uS; rw [hr]; rfl
  have h32:=I32_run k (Sl.lv H 1 t.vb) hb i (by omega);rw [hu,Option.map_some,ζgq] at h32;rw [gU_some hu];simp -implicitDefEqProofs (disch:=omega) [ζ20,hz,h32]
theorem ζm0 {vb:List Int} {i j z:Int} (h0:0 ≤ i) (hij:i ≤ j) (h:(pieceS vb j z).isSome = true):(pieceS vb i z).isSome = true:=by
 rw [ζgb] at h ⊢;unfold inS at h ⊢;rw [decide_eq_true_eq] at h ⊢;omega
theorem pGet_run (k:Nat) (t:PTab) (ht:t.ok) (l r:Int) (H:Heap):R (T k) F.ζ1d [ptabV t,.int .i64 l,.int .i64 r] H = .ok (.int .i64 (pgetS t l r)) H:=by
 rw [ζdu];refine nrm_gc (Pure.of ?_) (.int _ _);have hval:=fun hz i h H => pval_run k t ht.byt ht.len hz i h H;obtain ⟨pairs,vb,rows,cols,step,size⟩:=t;obtain ⟨hb,hl,hbody⟩:=ht;dsimp only at hb hl hbody hval;rcases hbody with ⟨rfl,rfl,hz,hvl,hup,hpl⟩ | ⟨a,c,rfl,rfl,ha,hc,hz,hst,hp⟩
 ·unfold pgetS;dsimp only;by_cases c1:l < 0
  ·rw [if_pos (.inl c1)];simp -implicitDefEqProofs (disch:=omega) [ζ1d,lookV,c1]
  by_cases c2:l > 65535
  ·rw [if_pos (.inr (.inl c2))];simp -implicitDefEqProofs (disch:=omega) [ζ1d,lookV,c1,c2]
  by_cases c3:r < 0
  ·rw [if_pos (.inr (.inr (.inl c3)))];simp -implicitDefEqProofs (disch:=omega) [ζ1d,lookV,c1,c2,c3]
  by_cases c4:r > 65535
  ·rw [if_pos (.inr (.inr (.inr c4)))];simp -implicitDefEqProofs (disch:=omega) [ζ1d,lookV,c1,c2,c3,c4]
  rw [if_neg (by omega)];have hor:=fun H => bin_or Prog 3 H (l * 65536) r 16 (by omega) (by omega) (by omega) (by omega) (by omega);have hpl2:=fun H => ζms k pairs hup hpl (l * 65536 + r) H;cases hpp:placeS pairs (l * 65536 + r) with
  | none =>
   rw [hpp] at hpl2;simp at hpl2;simp -implicitDefEqProofs (disch:=omega) [ζ1d,lookV,c1,c2,c3,c4,hor,hpl2]
  | some i =>
   rw [hpp] at hpl2;simp at hpl2;have hi:i < pairs.length:=by
    unfold placeS at hpp;obtain ⟨h,_⟩:=List.findIdx?_eq_some_iff_getElem.1 hpp;exact h
   have hv:=fun H => hval (.inl hz) (6 * (i:Int) + 4) (by rw [hz,ζgb]; unfold inS; rw [decide_eq_true_eq]; omega) H;simp -implicitDefEqProofs (disch:=omega) [ζ1d,lookV,c1,c2,c3,c4,hor,hpl2,hv]
 ·have g1:=fun H => Get_run k a ha.1 ha.2.1 l ha.2.2 H;have g2:=fun H => Get_run k c hc.1 hc.2.1 r hc.2.2 H;unfold pgetS;dsimp only;have b1:=ζ97 ha.1;have b2:=ζ97 hc.1;have x1:0 ≤ (getS a.2 l).getD 0 ∧ (getS a.2 l).getD 0 ≤ max (mostS a.2) 0:=by
   cases h:getS a.2 l with
   | none => simp; omega
   | some x => have:=ζjb h; have:=ζfd ha.1 h; simp; omega
  have x2:0 ≤ (getS c.2 r).getD 0 ∧ (getS c.2 r).getD 0 ≤ max (mostS c.2) 0:=by
   cases h:getS c.2 r with
   | none => simp; omega
   | some x => have:=ζjb h; have:=ζfd hc.1 h; simp; omega
  generalize (getS a.2 l).getD 0 = u at g1 x1 ⊢;generalize (getS c.2 r).getD 0 = v at g2 x2 ⊢;have s0:0 ≤ step * (u + v):=Int.mul_nonneg (by omega) (by omega);have s1:step * (u + v) ≤ step * (max (mostS a.2) 0 + max (mostS c.2) 0):=Int.mul_le_mul_of_nonneg_left (by omega) (by omega);have s2:step * (u + v) ≤ 4 * 8589934592:=Int.mul_le_mul (by omega) (by omega) (by omega) (by omega);have hv:=fun H => hval hz (step * (u + v)) (ζm0 s0 s1 hp) H;simp -implicitDefEqProofs (disch:=omega) [ζ1d,lookV,g1,g2,hv]
end Go.Sw
end
section
namespace Go.Sw
open Go.RowKit
theorem ζmq (k:Nat) (m:Mach) (hm:m.ok) (id:Int) (H:Heap):R (T k) F.ζw [machV m,.int .i64 id] H = .ok (.int .i64 (classS m id)) H:=by
 rw [ζ9j];refine nrm_gc (Pure.of ?_) (.int _ _);have hget:=fun H => Get_run k m.tab hm.pts hm.rise id hm.plen H;unfold classS;by_cases h:id = 65535
 ·subst h;simp -implicitDefEqProofs (disch:=omega) [ζw]
 ·have h':(id == 65535) = false:=by simpa using h
  rw [if_neg h];cases hg:getS m.tab.2 id with
  | none =>
   rw [hg] at hget;simp -implicitDefEqProofs (disch:=omega) [ζw,h',hget]
  | some x =>
   rw [hg] at hget;dsimp only;by_cases hx:x < m.classes
   ·simp -implicitDefEqProofs (disch:=omega) [ζw,h',hget,hx]
   ·simp -implicitDefEqProofs (disch:=omega) [ζw,h',hget,hx]
def encEA (o:Option En):Value:=.agg (encEn (o.getD ⟨0,0,0,0⟩)).toArray
theorem ζli (o:Option En):Flat (encEA o):=Flat.ofEn _
theorem ζia {m:Mach} (hm:m.ok) {s c:Int} (h:0 ≤ s ∧ s < m.rows.length ∧ 0 ≤ c ∧ c < m.classes) :
  ∃ r x e,m.rows[s.toNat]? = some r ∧ r[c.toNat]? = some x ∧ 0 ≤ x ∧ m.ents[x.toNat]? = some e ∧ stepS m s c = some e:=by
 obtain ⟨r,hr⟩:∃ r,m.rows[s.toNat]? = some r:=⟨_,List.getElem?_eq_getElem (by omega)⟩
 have hrm:=hm.row r (List.mem_of_getElem? hr);obtain ⟨x,hx⟩:∃ x,r[c.toNat]? = some x:=⟨_,List.getElem?_eq_getElem (by omega)⟩
 have hxm:=hrm.2 x (List.mem_of_getElem? hx);obtain ⟨e,he⟩:∃ e,m.ents[x.toNat]? = some e:=⟨_,List.getElem?_eq_getElem (by omega)⟩
 refine ⟨r,x,e,hr,hx,hxm.1,he,?_⟩;unfold stepS;rw [if_pos h,hr,Option.bind_some,hx,Option.bind_some,he]
theorem Step_run (k:Nat) (m:Mach) (hm:m.ok) (s c:Int) (H:Heap):R (T k) F.ζu [machV m,.int .i64 s,.int .i64 c] H = .ok (.tuple #[encEA (stepS m s c),.bool (stepS m s c).isSome]) H:=by
 rw [ζaf];have fl:Flat (.tuple #[encEA (stepS m s c),.bool (stepS m s c).isSome]):=.tupleL (.cons (ζli _) (.cons (.bool _) .nil));have no:¬ (0 ≤ s ∧ s < m.rows.length ∧ 0 ≤ c ∧ c < m.classes) → stepS m s c = none:=fun h => by unfold stepS; rw [if_neg h]
 have hx:Ext H (H.push ⟨[.int .i64 0,.int .i64 0,.int .i64 0,.int .i64 0],1,false⟩):=(Ext.refl H).push _;by_cases h1:s < 0
 ·rw [no (by omega)] at fl ⊢;refine nrm_gc ⟨_,?_,hx⟩ fl.alive;simp -implicitDefEqProofs (disch:=omega) [ζu,h1,encEA]
 by_cases h2:s ≥ m.rows.length
 ·rw [no (by omega)] at fl ⊢;refine nrm_gc ⟨_,?_,hx⟩ fl.alive;simp -implicitDefEqProofs (disch:=omega) [ζu,h1,h2,encEA]
 by_cases h3:c < 0
 ·rw [no (by omega)] at fl ⊢;refine nrm_gc ⟨_,?_,hx⟩ fl.alive;simp -implicitDefEqProofs (disch:=omega) [ζu,h1,h2,h3,encEA]
 by_cases h4:c ≥ m.classes
 ·rw [no (by omega)] at fl ⊢;refine nrm_gc ⟨_,?_,hx⟩ fl.alive;simp -implicitDefEqProofs (disch:=omega) [ζu,h1,h2,h3,h4,encEA]
 obtain ⟨r,x,e,hr,hxx,hx0,he,hs⟩:=ζia hm (s:=s) (c:=c) (by omega);rw [hs] at fl ⊢;have i1:=fun H' => ixS_lv ζlk m.rows .i64 s r (by omega) hr H';have i2:=fun H' => ixS_lv encI_len r .i64 c x (by omega) hxx H';have i3:=fun H' => ixS_lv ζ75 m.ents .i64 x e hx0 he H';refine nrm_gc ⟨H.push ⟨encEn e,1,false⟩,?_,(Ext.refl H).push _⟩ fl.alive;simp -implicitDefEqProofs (disch:=omega) [ζu,h1,h2,h3,h4,i1,i2,i3,encEA]
theorem ζf4 (k:Nat) (hk:k < 1000000) (m:Mach) (hl:m.ents.length ≤ 65536) (H:Heap):R (T k) F.ζ16 [machV m] H = .ok (lv encEn m.ents) H:=by
 have ho:own k = .fz:=by unfold own; rw [show Nat.blt k 1000000 = true from Nat.ble_eq_true_of_le hk]; rfl
 rw [ζ8g,ho];have g:=(Star.nil H).more_row (Ext.refl _) (OwnO.bare encEn _ 4) (fun b hb => by cases hb);obtain ⟨s,o,H1,e1,g⟩:=g.append (bytes:=32) 0 ζ75 rfl (b:=lv encEn m.ents) (l2:=m.ents) rfl (lv_first ζ75 m.ents H) (by simp; omega) (by decide);simp only [List.nil_append,List.set_cons_zero] at g;obtain ⟨L,hf⟩:=(g.own 0 rfl).freeze ζ75 (ζf9 _) 6;refine nrm_fz (v:=s) (H':=H1) ?_ hf g.ext (Flat.Ens _).alive;simp -implicitDefEqProofs (disch:=omega) [ζ16,e1]
end Go.Sw
end
section
set_option maxRecDepth 100000
set_option linter.unusedVariables false
namespace Go.Sw
noncomputable section
def ζa9 (k:Nat) (call:Caller):Env → Heap → Res (AExit × Env):=loopB (C k) call F.ζ5k [1,1,0,1,0,0]
def ζbz (k:Nat) (call:Caller):Kont Value:=kBlock 0 (kSeq (pieceK (C k) call F.ζ5k [1,1,1]) (kDone Prog (resOf Prog F.ζ5k)))
def ζ5k (k:Nat) (call:Caller) (a0 a1:Value) (h:Heap):Res Value :=
 (binR Prog .eql 3 a0 (.int .i64 2) h).bind fun v1 h2 =>
 (buildR Prog 145 [(0,v1)] h2).bind fun v3 h4 =>
 (boxR v3 h4).bind fun v5 h6 =>
 (builtinV Prog .len [30] [a1] h6).bind fun v7 h8 =>
 (loopN (ζa9 k call) loopFuel [(5,v5),(12,a1),(13,v7),(14,(.int .i64 0))] h8).bind fun r9 h10 =>
 ζbz k call r9.1 r9.2 h10
theorem ζkm (k:Nat) (a0 a1:Value) (h:Heap):R (T k) F.ζ5k [a0,a1] h = nrm .no h (ζ5k k (R (T k)) a0 a1 h) :=
 (R_body (t:=T k) (T_scott k) (by kernel_rfl) (by kernel_rfl) _ _).trans (by kernel_rfl)
theorem ζ9v (k:Nat) (call:Caller) (a5 a12 a13 a14:Value) (h:Heap):ζa9 k call [(5,a5),(12,a12),(13,a13),(14,a14)] h =
 (binR Prog .lss 3 a14 a13 h).bind fun v11 h12 =>
 condV (some v11) (
 (indexAddrR Prog 30 a12 a14 h12).bind fun v13 h14 =>
 (loadR Prog 3 v13 h14).bind fun v15 h16 =>
 (nilR a5 h16).bindN fun v17 h18 =>
 (fieldAddrR Prog 145 v17 1 h18).bindN fun v19 h20 =>
 (loadR Prog 56 v19 h20).bindN fun v21 h22 =>
 (call F.ζ4k [v15] h22).bindT (fun p25 h26 => .panic p25 h26) fun v23 h24 =>
 (buildR Prog 93 [(0,v23)] h24).bindN fun v27 h28 =>
 (buildSliceR Prog 56 1 [(0,v27)] h28).bindN fun v29 h30 =>
 (builtinV Prog .append [56,56] [v21,v29] h30).bindN fun v31 h32 =>
 (nilR a5 h32).bindN fun v33 h34 =>
 (fieldAddrR Prog 145 v33 1 h34).bindN fun v35 h36 =>
 (storeR Prog 56 v35 v31 h36).bindN fun _v37 h38 =>
 chkR ((okVal (loadR Prog 56 v19 h24) v21 && (okVal (loadR Prog 56 v19 h30) v21 && true)) && true) (
 (binR Prog .add 3 a14 (.int .i64 1) h38).bind fun v39 h40 =>
 .ok (.normal,[(5,a5),(12,a12),(13,a13),(14,v39)]) h40))
 (
 .ok ((.exit 0),[(5,a5),(12,a12),(13,a13),(14,a14),(15,v11)]) h12) :=
 (loopB_eq _ _).trans (by kernel_rfl)
theorem ζdy (k:Nat) (call:Caller) (a5 a12 a13 a14 a15:Value) (h:Heap):ζbz k call (.exit 0) [(5,a5),(12,a12),(13,a13),(14,a14),(15,a15)] h =
 .ok a5 h:=by kernel_rfl
def ζ1t (k:Nat) (call:Caller) (a0 a1 a2 a3:Value) (h:Heap):Res Value :=
 (call F.ζ1j [a0,a1] h).bind fun v1 h2 =>
 (nilR v1 h2).bindN fun v3 h4 =>
 (fieldAddrR Prog 93 v3 1 h4).bindN fun v5 h6 =>
 (loadR Prog 21 v5 h6).bindN fun v7 h8 =>
 (call F.ζ68 [v7,a2] h8).bindT (fun p11 h12 => (nilR v1 h8).bindN fun v13 h14 => (fieldAddrR Prog 93 v13 2 h14).bindN fun v15 h16 => (loadR Prog 21 v15 h16).bindN fun v17 h18 => chkR ((okVal (loadR Prog 21 v15 h2) v17 && true) && true) (.panic p11 h12)) fun v9 h10 =>
 (nilR v1 h10).bindN fun v19 h20 =>
 (fieldAddrR Prog 93 v19 2 h20).bindN fun v21 h22 =>
 (loadR Prog 21 v21 h22).bindN fun v23 h24 =>
 (call F.ζ68 [v23,a3] h24).bindT (fun p27 h28 => chkR ((okVal (loadR Prog 21 v21 h2) v23 && true) && true) (.panic p27 h28)) fun v25 h26 =>
 (nilR v1 h26).bindN fun v29 h30 =>
 (fieldAddrR Prog 93 v29 1 h30).bindN fun v31 h32 =>
 (storeR Prog 21 v31 v9 h32).bindN fun _v33 h34 =>
 (nilR v1 h34).bindN fun v35 h36 =>
 (fieldAddrR Prog 93 v35 2 h36).bindN fun v37 h38 =>
 (storeR Prog 21 v37 v25 h38).bindN fun _v39 h40 =>
 chkR ((okVal (loadR Prog 21 v21 h2) v23 && true) && true) (
 .ok (.tuple #[]) h40)
theorem ζac (k:Nat) (a0 a1 a2 a3:Value) (h:Heap):R (T k) F.ζ1t [a0,a1,a2,a3] h = nrm .no h (ζ1t k (R (T k)) a0 a1 a2 a3 h) :=
 (R_body (t:=T k) (T_scott k) (by kernel_rfl) (by kernel_rfl) _ _).trans (by kernel_rfl)
def ζ2c (k:Nat) (call:Caller) (a0:Value) (h:Heap):Res Value :=
 (nilR a0 h).bind fun v1 h2 =>
 (fieldAddrR Prog 145 v1 1 h2).bind fun v3 h4 =>
 (loadR Prog 56 v3 h4).bind fun v5 h6 =>
 (call F.ζ9 [v5] h6).bind fun v7 h8 =>
 .ok v7 h8
theorem ζbl (k:Nat) (a0:Value) (h:Heap):R (T k) F.ζ2c [a0] h = nrm (own k) h (ζ2c k (R (T k)) a0 h) :=
 (R_body (t:=T k) (T_scott k) (by kernel_rfl) (by kernel_rfl) _ _).trans (by kernel_rfl)
def ζ4k (k:Nat) (call:Caller) (a0:Value) (h:Heap):Res Value :=
 (builtinV Prog .max [3,3] [a0,(.int .i64 (-2147483648))] h).bind fun v1 h2 =>
 (builtinV Prog .min [3,3] [v1,(.int .i64 2147483647)] h2).bind fun v3 h4 =>
 (convR Prog 3 21 v3 h4).bind fun v5 h6 =>
 .ok v5 h6
theorem ζi1 (k:Nat) (a0:Value) (h:Heap):R (T k) F.ζ4k [a0] h = nrm .gc h (ζ4k k (R (T k)) a0 h) :=
 (R_body (t:=T k) (T_scott k) (by kernel_rfl) (by kernel_rfl) _ _).trans (by kernel_rfl)
def ζ1j (k:Nat) (call:Caller) (a0 a1:Value) (h:Heap):Res Value :=
 (binR Prog .lss 3 a1 (.int .i64 0) h).bind fun v1 h2 =>
 ((bif wantVal v1 false then Res.ok a1 h2 else Res.ok undef h2)).bind fun v3 h4 =>
 ((bif wantVal v1 false then Res.ok a0 h4 else Res.ok undef h4)).bind fun v5 h6 =>
 ((bif wantVal v1 false then nilR v5 h6 else Res.ok undef h6)).bind fun v7 h8 =>
 ((bif wantVal v1 false then fieldAddrR Prog 145 v7 1 h8 else Res.ok undef h8)).bind fun v9 h10 =>
 ((bif wantVal v1 false then loadR Prog 56 v9 h10 else Res.ok undef h10)).bind fun v11 h12 =>
 ((bif wantVal v1 false then builtinV Prog .len [56] [v11] h12 else Res.ok undef h12)).bind fun v13 h14 =>
 ((bif wantVal v1 false then binR Prog .geq 3 v3 v13 h14 else Res.ok undef h14)).bind fun v15 h16 =>
 (condV (some v1) (Res.ok (.bool true) h16) (Res.ok v15 h16)).bind fun v17 h18 =>
 condV (some v17) (
 (allocR Prog 93 h18).bind fun v19 h20 =>
 .ok v19 h20)
 (
 (nilR a0 h18).bind fun v21 h22 =>
 (fieldAddrR Prog 145 v21 1 h22).bind fun v23 h24 =>
 (loadR Prog 56 v23 h24).bind fun v25 h26 =>
 (indexAddrR Prog 56 v25 a1 h26).bind fun v27 h28 =>
 .ok v27 h28)
theorem ζca (k:Nat) (a0 a1:Value) (h:Heap):R (T k) F.ζ1j [a0,a1] h = nrm .no h (ζ1j k (R (T k)) a0 a1 h) :=
 (R_body (t:=T k) (T_scott k) (by kernel_rfl) (by kernel_rfl) _ _).trans (by kernel_rfl)
def ζ68 (k:Nat) (call:Caller) (a0 a1:Value) (h:Heap):Res Value :=
 (convR Prog 21 3 a0 h).bind fun v1 h2 =>
 (call F.ζ4k [a1] h2).bind fun v3 h4 =>
 (convR Prog 21 3 v3 h4).bind fun v5 h6 =>
 (binR Prog .add 3 v1 v5 h6).bind fun v7 h8 =>
 (call F.ζ4k [v7] h8).bind fun v9 h10 =>
 .ok v9 h10
theorem ζkl (k:Nat) (a0 a1:Value) (h:Heap):R (T k) F.ζ68 [a0,a1] h = nrm .gc h (ζ68 k (R (T k)) a0 a1 h) :=
 (R_body (t:=T k) (T_scott k) (by kernel_rfl) (by kernel_rfl) _ _).trans (by kernel_rfl)
def ζ13 (k:Nat) (call:Caller) (a0 a1 a2:Value) (h:Heap):Res Value :=
 (call F.ζ1j [a0,a1] h).bind fun v1 h2 =>
 (nilR v1 h2).bind fun v3 h4 =>
 (fieldAddrR Prog 93 v3 0 h4).bind fun v5 h6 =>
 (loadR Prog 21 v5 h6).bind fun v7 h8 =>
 (call F.ζ68 [v7,a2] h8).bind fun v9 h10 =>
 (nilR v1 h10).bind fun v11 h12 =>
 (fieldAddrR Prog 93 v11 0 h12).bind fun v13 h14 =>
 (storeR Prog 21 v13 v9 h14).bind fun _v15 h16 =>
 .ok (.tuple #[]) h16
theorem ζaa (k:Nat) (a0 a1 a2:Value) (h:Heap):R (T k) F.ζ13 [a0,a1,a2] h = nrm .no h (ζ13 k (R (T k)) a0 a1 a2 h) :=
 (R_body (t:=T k) (T_scott k) (by kernel_rfl) (by kernel_rfl) _ _).trans (by kernel_rfl)
def ζ14 (k:Nat) (call:Caller) (a0 a1:Value) (h:Heap):Res Value :=
 (call F.ζ26 [a0,a1] h).bind fun v1 h2 =>
 (nilR v1 h2).bind fun v3 h4 =>
 (storeR Prog 21 v3 (.int .i32 0) h4).bind fun _v5 h6 =>
 .ok (.tuple #[]) h6
theorem ζab (k:Nat) (a0 a1:Value) (h:Heap):R (T k) F.ζ14 [a0,a1] h = nrm .no h (ζ14 k (R (T k)) a0 a1 h) :=
 (R_body (t:=T k) (T_scott k) (by kernel_rfl) (by kernel_rfl) _ _).trans (by kernel_rfl)
def ζo (k:Nat) (call:Caller) (a0 a1 a2:Value) (h:Heap):Res Value :=
 (call F.ζ26 [a0,a1] h).bind fun v1 h2 =>
 (nilR v1 h2).bind fun v3 h4 =>
 (loadR Prog 21 v3 h4).bind fun v5 h6 =>
 (call F.ζ68 [v5,a2] h6).bind fun v7 h8 =>
 (nilR v1 h8).bind fun v9 h10 =>
 (storeR Prog 21 v9 v7 h10).bind fun _v11 h12 =>
 .ok (.tuple #[]) h12
theorem ζ9g (k:Nat) (a0 a1 a2:Value) (h:Heap):R (T k) F.ζo [a0,a1,a2] h = nrm .no h (ζo k (R (T k)) a0 a1 a2 h) :=
 (R_body (t:=T k) (T_scott k) (by kernel_rfl) (by kernel_rfl) _ _).trans (by kernel_rfl)
def ζg (k:Nat) (call:Caller) (a0:Value) (h:Heap):Res Value :=
 (nilR a0 h).bind fun v1 h2 =>
 (fieldAddrR Prog 145 v1 1 h2).bind fun v3 h4 =>
 (loadR Prog 56 v3 h4).bind fun v5 h6 =>
 (call F.ζ3 [v5] h6).bind fun v7 h8 =>
 .ok (.tuple #[]) h8
theorem ζ77 (k:Nat) (a0:Value) (h:Heap):R (T k) F.ζg [a0] h = nrm .no h (ζg k (R (T k)) a0 h) :=
 (R_body (t:=T k) (T_scott k) (by kernel_rfl) (by kernel_rfl) _ _).trans (by kernel_rfl)
def ζ26 (k:Nat) (call:Caller) (a0 a1:Value) (h:Heap):Res Value :=
 (call F.ζ1j [a0,a1] h).bind fun v1 h2 =>
 (nilR a0 h2).bind fun v3 h4 =>
 (fieldAddrR Prog 145 v3 0 h4).bind fun v5 h6 =>
 (loadR Prog 4 v5 h6).bind fun v7 h8 =>
 condV (some v7) (
 (nilR v1 h8).bind fun v9 h10 =>
 (fieldAddrR Prog 93 v9 1 h10).bind fun v11 h12 =>
 .ok v11 h12)
 (
 (nilR v1 h8).bind fun v13 h14 =>
 (fieldAddrR Prog 93 v13 2 h14).bind fun v15 h16 =>
 .ok v15 h16)
theorem ζaz (k:Nat) (a0 a1:Value) (h:Heap):R (T k) F.ζ26 [a0,a1] h = nrm .no h (ζ26 k (R (T k)) a0 a1 h) :=
 (R_body (t:=T k) (T_scott k) (by kernel_rfl) (by kernel_rfl) _ _).trans (by kernel_rfl)
end
end Go.Sw
end
section
set_option maxRecDepth 100000
set_option linter.unusedVariables false
namespace Go.Sw
noncomputable section
def ζ5x (k:Nat) (call:Caller):Env → Heap → Res (AExit × Env):=loopB (C k) call F.ζ29 [1,1,0,1,0,0]
def ζ7q (k:Nat) (call:Caller):Kont Value:=kBlock 0 (kSeq (pieceK (C k) call F.ζ29 [1,1,1]) (kDone Prog (resOf Prog F.ζ29)))
def ζ29 (k:Nat) (call:Caller) (a0:Value) (h:Heap):Res Value :=
 (buildSliceR Prog 56 0 [] h).bind fun v1 h2 =>
 (loopN (ζ5x k call) loopFuel [(0,a0),(3,v1),(4,(.int .i64 0))] h2).bind fun r3 h4 =>
 ζ7q k call r3.1 r3.2 h4
theorem ζef (k:Nat) (a0:Value) (h:Heap):R (T k) F.ζ29 [a0] h = nrm .fz h (ζ29 k (R (T k)) a0 h) :=
 (R_body (t:=T k) (T_scott k) (by kernel_rfl) (by kernel_rfl) _ _).trans (by kernel_rfl)
theorem ζ70 (k:Nat) (call:Caller) (a0 a3 a4:Value) (h:Heap):ζ5x k call [(0,a0),(3,a3),(4,a4)] h =
 (builtinV Prog .len [30] [a0] h).bind fun v5 h6 =>
 (binR Prog .lss 3 a4 v5 h6).bind fun v7 h8 =>
 condV (some v7) (
 (indexAddrR Prog 30 a0 a4 h8).bind fun v9 h10 =>
 (loadR Prog 3 v9 h10).bind fun v11 h12 =>
 (call F.ζ2w [v11] h12).bind fun v13 h14 =>
 (convR Prog 3 21 v13 h14).bind fun v15 h16 =>
 (buildR Prog 93 [(0,v15)] h16).bind fun v17 h18 =>
 (buildSliceR Prog 56 1 [(0,v17)] h18).bind fun v19 h20 =>
 (builtinV Prog .append [56,56] [a3,v19] h20).bind fun v21 h22 =>
 (binR Prog .add 3 a4 (.int .i64 1) h22).bind fun v23 h24 =>
 .ok (.normal,[(0,a0),(3,v21),(4,v23)]) h24)
 (
 .ok ((.exit 0),[(0,a0),(3,a3),(4,a4),(9,v7)]) h8) :=
 (loopB_eq _ _).trans (by kernel_rfl)
theorem ζ9p (k:Nat) (call:Caller) (a0 a3 a4 a9:Value) (h:Heap):ζ7q k call (.exit 0) [(0,a0),(3,a3),(4,a4),(9,a9)] h =
 .ok a3 h:=by kernel_rfl
def ζ5f (k:Nat) (call:Caller):Env → Heap → Res (AExit × Env):=loopB (C k) call F.ζ12 [1,1,0,1,0,0]
def ζ51 (k:Nat) (call:Caller):Kont Value:=kBlock 0 (kSeq (pieceK (C k) call F.ζ12 [1,1,1]) (kDone Prog (resOf Prog F.ζ12)))
def ζ12 (k:Nat) (call:Caller) (a0 a1:Value) (h:Heap):Res Value :=
 (builtinV Prog .len [56] [a0] h).bind fun v1 h2 =>
 (builtinV Prog .len [56] [a1] h2).bind fun v3 h4 =>
 (binR Prog .neq 3 v1 v3 h4).bind fun v5 h6 =>
 condV (some v5) (
 .ok (.bool false) h6)
 (
 (loopN (ζ5f k call) loopFuel [(0,a0),(1,a1),(5,(.int .i64 0))] h6).bind fun r7 h8 =>
 ζ51 k call r7.1 r7.2 h8)
theorem ζcj (k:Nat) (a0 a1:Value) (h:Heap):R (T k) F.ζ12 [a0,a1] h = nrm .gc h (ζ12 k (R (T k)) a0 a1 h) :=
 (R_body (t:=T k) (T_scott k) (by kernel_rfl) (by kernel_rfl) _ _).trans (by kernel_rfl)
theorem ζ64 (k:Nat) (call:Caller) (a0 a1 a5:Value) (h:Heap):ζ5f k call [(0,a0),(1,a1),(5,a5)] h =
 (builtinV Prog .len [56] [a0] h).bind fun v9 h10 =>
 (binR Prog .lss 3 a5 v9 h10).bind fun v11 h12 =>
 condV (some v11) (
 (indexAddrR Prog 56 a0 a5 h12).bindN fun v13 h14 =>
 (loadR Prog 93 v13 h14).bindN fun v15 h16 =>
 (indexAddrR Prog 56 a1 a5 h16).bindN fun v17 h18 =>
 (loadR Prog 93 v17 h18).bindN fun v19 h20 =>
 (binR Prog .neq 93 v15 v19 h20).bindN fun v21 h22 =>
 condV (some v21) (
 .ok (.ret,[(4,(.bool false))]) h22)
 (
 (binR Prog .add 3 a5 (.int .i64 1) h22).bind fun v23 h24 =>
 .ok (.normal,[(0,a0),(1,a1),(5,v23)]) h24))
 (
 .ok ((.exit 0),[(0,a0),(1,a1),(5,a5),(14,v11)]) h12) :=
 (loopB_eq _ _).trans (by kernel_rfl)
theorem ζ9q (k:Nat) (call:Caller) (a4:Value) (h:Heap):ζ51 k call .ret [(4,a4)] h =
 .ok a4 h:=by kernel_rfl
theorem ζ90 (k:Nat) (call:Caller) (a0 a1 a5 a14:Value) (h:Heap):ζ51 k call (.exit 0) [(0,a0),(1,a1),(5,a5),(14,a14)] h =
 .ok (.bool true) h:=by kernel_rfl
def ζ2w (k:Nat) (call:Caller) (a0:Value) (h:Heap):Res Value :=
 (binR Prog .gtr 3 a0 (.int .i64 2147483647) h).bind fun v1 h2 =>
 condV (some v1) (
 .ok (.int .i64 2147483647) h2)
 (
 (binR Prog .lss 3 a0 (.int .i64 (-2147483648)) h2).bind fun v3 h4 =>
 condV (some v3) (
 .ok (.int .i64 (-2147483648)) h4)
 (
 .ok a0 h4))
theorem ζbs (k:Nat) (a0:Value) (h:Heap):R (T k) F.ζ2w [a0] h = nrm .gc h (ζ2w k (R (T k)) a0 h) :=
 (R_body (t:=T k) (T_scott k) (by kernel_rfl) (by kernel_rfl) _ _).trans (by kernel_rfl)
end
end Go.Sw
end
section
namespace Go.Sw
def clampI (n:Int):Int:=if n > 2147483647 then 2147483647 else if n < -2147483648 then -2147483648 else n
theorem ζco (n:Int):-2147483648 ≤ clampI n:=by unfold clampI; omega
theorem ζcn (n:Int):clampI n ≤ 2147483647:=by unfold clampI; omega
@[simp] theorem ζpi (k:Nat) (x:Int) (H:Heap):R (T k) F.ζ4k [.int .i64 x] H = .ok (.int .i32 (clampI x)) H:=by
 rw [ζi1];refine nrm_gc (Pure.of ?_) (.int _ _);simp only [ζ4k,max_int,min_int,Res.bind_ok,cv_3_21,cvK_int];congr 2;unfold clampI;rw [wrap_i32] <;> omega
@[simp] theorem ζot (k:Nat) (x:Int) (H:Heap):R (T k) F.ζ2w [.int .i64 x] H = .ok (.int .i64 (clampI x)) H:=by
 rw [ζbs];refine nrm_gc (Pure.of ?_) (.int _ _);simp only [ζ2w,bin_gtr,bin_lss,Res.bind_ok,ζd1,clampI];by_cases h1:x > 2147483647
 ·simp [h1]
 ·by_cases h2:x < -2147483648 <;> simp [h1,h2]
def addI (a n:Int):Int:=clampI (a + clampI n)
theorem addI_lo (a n:Int):-2147483648 ≤ addI a n:=ζco _
theorem addI_hi (a n:Int):addI a n ≤ 2147483647:=ζcn _
theorem Add_run (k:Nat) (a x:Int) (h1:-2147483648 ≤ a) (h2:a ≤ 2147483647) (H:Heap):R (T k) F.ζ68 [.int .i32 a,.int .i64 x] H = .ok (.int .i32 (addI a x)) H:=by
 have:=ζco x;have:=ζcn x;rw [ζkl];refine nrm_gc (Pure.of ?_) (.int _ _);simp (disch:=omega) [ζ68,addI]
structure Pl where
 adv:Int
 x:Int
 y:Int
 deriving DecidableEq
def Pl.ok (p:Pl):Prop:=(-2147483648 ≤ p.adv ∧ p.adv ≤ 2147483647) ∧ (-2147483648 ≤ p.x ∧ p.x ≤ 2147483647) ∧ (-2147483648 ≤ p.y ∧ p.y ≤ 2147483647)
abbrev encP (p:Pl):List Value:=[.int .i32 p.adv,.int .i32 p.x,.int .i32 p.y]
theorem encP_len (p:Pl):(encP p).length = 3:=rfl
theorem ζhb (l:List Pl):∀ p,p ∈ l → ∀ v,v ∈ encP p → Still v:=by
 intro p _ v hv;simp [encP] at hv;rcases hv with rfl | rfl | rfl <;> trivial
theorem ζj6 (l:List Pl):∀ p,p ∈ l → Flats (encP p):=fun p _ => .cons (.int _ _) (.cons (.int _ _) (.cons (.int _ _) .nil))
end Go.Sw
end
section
namespace Go.Sw
def newPl (l:List Int):List Pl:=l.map fun n => ⟨clampI n,0,0⟩
theorem Pl.eqb (p q:Pl):([p.adv,p.x,p.y] == [q.adv,q.x,q.y]) = decide (p = q):=by
 obtain ⟨a,b,c⟩:=p;obtain ⟨d,e,f⟩:=q;by_cases h:a = d <;> by_cases h1:b = e <;> by_cases h2:c = f <;> simp [h,h1,h2]
theorem ζm4 (k:Nat) {H:Heap} {sa sb:Value} {a b:List Pl} (ra:Rd H 3 sa encP a) (rb:Rd H 3 sb encP b) (ha:a.length ≤ 2 ^ 31):R (T k) F.ζ12 [sa,sb] H = .ok (.bool (decide (a = b))) H:=by
 rw [ζcj];refine nrm_gc (Pure.of ?_) (.bool _);by_cases hl:a.length = b.length
 ·obtain ⟨x,e',H1,hr,rfl,hq⟩:=loop_up (body:=ζ5f k (R (T k))) a.length
   (fun i e H' => e = [(0,sa),(1,sb),(5,.int .i64 i)] ∧ H' = H ∧ a.take i = b.take i)
   (fun x e H' => H' = H ∧ ((x = .ret ∧ e = [(4,.bool false)] ∧ a ≠ b) ∨ ∃ v,x = .exit 0 ∧ e = [(0,sa),(1,sb),(5,.int .i64 a.length),(14,v)] ∧ a = b))
   (e0:=[(0,sa),(1,sb),(5,.int .i64 0)]) (H0:=H) ⟨rfl,rfl,by simp⟩ (by omega)
   (fun i e H' hi ⟨he,hH,ht⟩ => by
    subst he hH;obtain ⟨p,hp⟩:∃ p,a[i]? = some p:=⟨a[i],List.getElem?_eq_getElem hi⟩
    obtain ⟨q,hq⟩:∃ q,b[i]? = some q:=⟨b[i],List.getElem?_eq_getElem (by omega)⟩
    have hlt:(i:Int) < a.length:=by omega
    obtain ⟨pa,x1,y1⟩:=ra.2 i p hp;obtain ⟨pb,x2,y2⟩:=rb.2 i q hq;have x1:=x1 .i64;have x2:=x2 .i64;rw [ζ64];by_cases hpq:p = q
    ·subst hpq;exact .inl ⟨_,H',by simp -implicitDefEqProofs (disch:=omega) [hlt,ra.1,x1,x2,y1,y2],rfl,rfl,by rw [List.take_add_one,List.take_add_one,ht,hp,hq]⟩
    ·refine .inr ⟨.ret,_,H',by simp -implicitDefEqProofs (disch:=omega) [hlt,ra.1,x1,x2,y1,y2,Pl.eqb,hpq,-List.cons_beq_cons,-List.cons.injEq],by simp,rfl,.inl ⟨rfl,rfl,?_⟩⟩;intro hab;subst hab;rw [hp] at hq;exact hpq (Option.some.inj hq))
   (fun e H' ⟨he,hH,ht⟩ => by
    subst he hH;rw [ζ64];refine ⟨.exit 0,_,H',by simp [ra.1]; rfl,by simp,rfl,.inr ⟨_,rfl,rfl,?_⟩⟩;rw [List.take_length,hl,List.take_length] at ht;exact ht)
  have hbeq:((a.length:Int) != (b.length:Int)) = false:=by simp [hl]
  rcases hq with ⟨rfl,rfl,hne⟩ | ⟨v,rfl,rfl,heq⟩
  ·simp -implicitDefEqProofs [ζ12,ra.1,rb.1,hbeq,hr,ζ9q,hne]
  ·subst heq; simp -implicitDefEqProofs [ζ12,ra.1,rb.1,hr,ζ90]
 ·have hne:¬ a = b:=fun h => hl (by rw [h]);have:((a.length:Int) != (b.length:Int)) = true:=by simp; omega
  simp -implicitDefEqProofs [ζ12,ra.1,rb.1,this,hne]
theorem ζkp (k:Nat) (a b:List Pl) (ha:a.length ≤ 2 ^ 31) (H:Heap):R (T k) F.ζ12 [lv encP a,lv encP b] H = .ok (.bool (decide (a = b))) H :=
 ζm4 k (.lv encP_len H a) (.lv encP_len H b) ha
def updPl (l:List Pl) (i:Int) (f:Pl → Pl):List Pl:=if 0 ≤ i then l.modify i.toNat f else l
def levelPl (l:List Pl) (down:Bool) (i:Int):List Pl:=updPl l i fun p => if down then ⟨p.adv,0,p.y⟩ else ⟨p.adv,p.x,0⟩
end Go.Sw
end
