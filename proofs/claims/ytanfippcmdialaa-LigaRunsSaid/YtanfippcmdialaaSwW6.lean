/-
  Functions' forms, and what is proved of them, part 6.
-/
import Derived.Test.YtanfippcmdialaaSwCfg
import Derived.Test.YtanfippcmdialaaSwW2
import Derived.Test.YtanfippcmdialaaSwW3
set_option linter.unusedSimpArgs false
set_option linter.unusedVariables false
set_option linter.unusedSectionVars false
section
set_option maxRecDepth 100000
set_option linter.unusedVariables false
namespace Go.Sw
noncomputable section
def ζ60 (k:Nat) (call:Caller):Env → Heap → Res (AExit × Env):=loopB (C k) call F.ζ6 [1,1,1,1,0,1,0,0]
def ζ91 (k:Nat) (call:Caller):Kont Value:=kBlock 0 (kSeq (pieceK (C k) call F.ζ6 [1,1,1,1,1]) (kDone Prog (resOf Prog F.ζ6)))
def ζ9q (k:Nat) (call:Caller) (a0 a3 a11 a12 a13 a60:Value) (h:Heap):Res Value :=
 kSeq (pieceK (C k) call F.ζ6 [1,1,1,1,1,1]) (kDone Prog (resOf Prog F.ζ6)) .normal [(0,a0),(3,a3),(11,a11),(12,a12),(13,a13),(60,a60)] h
def ζ61 (k:Nat) (call:Caller):Env → Heap → Res (AExit × Env):=loopB (C k) call F.ζ6 [1,1,1,1,1,0,1,0,1,0,1,0,0]
def ζ92 (k:Nat) (call:Caller):Kont Value:=kBlock 2 (kSeq (pieceK (C k) call F.ζ6 [1,1,1,1,1,0,1,0,1,1]) (kSeq (pieceK (C k) call F.ζ6 [1,1,1,1,1,1]) (kDone Prog (resOf Prog F.ζ6))))
def ζ9r (k:Nat) (call:Caller) (a11 a13:Value) (h:Heap):Res Value :=
 kSeq (pieceK (C k) call F.ζ6 [1,1,1,1,1,1]) (kDone Prog (resOf Prog F.ζ6)) .normal [(11,a11),(13,a13)] h
def ζ9s (k:Nat) (call:Caller) (a11 a12 a13 a80:Value) (h:Heap):Res Value :=
 kSeq (pieceK (C k) call F.ζ6 [1,1,1,1,1,1]) (kDone Prog (resOf Prog F.ζ6)) .normal [(11,a11),(12,a12),(13,a13),(80,a80)] h
def ζ6 (k:Nat) (call:Caller) (a0 a1 a2 a3:Value) (h:Heap):Res Value :=
 (call F.ζ2 [a0,a1,(.int .i64 2)] h).bind fun v1 h2 =>
 (binR Prog .add 3 a1 (.int .i64 2) h2).bind fun v3 h4 =>
 (call F.ζ2 [a0,v3,(.int .i64 2)] h4).bind fun v5 h6 =>
 (builtinV Prog .len [31] [a0] h6).bind fun v7 h8 =>
 (call F.ζ2l [v7,a1,(.int .i64 10)] h8).bind fun v9 h10 =>
 (unR .not v9 h10).bind fun v11 h12 =>
 ((bif wantVal v11 false then Res.ok v1 h12 else Res.ok undef h12)).bind fun v13 h14 =>
 ((bif wantVal v11 false then Res.ok a2 h14 else Res.ok undef h14)).bind fun v15 h16 =>
 ((bif wantVal v11 false then binR Prog .lss 3 v13 v15 h16 else Res.ok undef h16)).bind fun v17 h18 =>
 (condV (some v11) (Res.ok (.bool true) h18) (Res.ok v17 h18)).bind fun v19 h20 =>
 ((bif wantVal v19 false then Res.ok a0 h20 else Res.ok undef h20)).bind fun v21 h22 =>
 ((bif wantVal v19 false then builtinV Prog .len [31] [v21] h22 else Res.ok undef h22)).bind fun v23 h24 =>
 ((bif wantVal v19 false then Res.ok a1 h24 else Res.ok undef h24)).bind fun v25 h26 =>
 ((bif wantVal v19 false then binR Prog .add 3 v25 (.int .i64 10) h26 else Res.ok undef h26)).bind fun v27 h28 =>
 ((bif wantVal v19 false then Res.ok v5 h28 else Res.ok undef h28)).bind fun v29 h30 =>
 ((bif wantVal v19 false then Res.ok v1 h30 else Res.ok undef h30)).bind fun v31 h32 =>
 ((bif wantVal v19 false then call F.ζn [v23,v27,v29,v31] h32 else Res.ok undef h32)).bind fun v33 h34 =>
 ((bif wantVal v19 false then unR .not v33 h34 else Res.ok undef h34)).bind fun v35 h36 =>
 (condV (some v19) (Res.ok (.bool true) h36) (Res.ok v35 h36)).bind fun v37 h38 =>
 condV (some v37) (
 .ok (.tuple #[(.slice none 0 0),(.int .i64 0),(.bool false)]) h38)
 (
 (buildSliceR Prog 23 0 [] h38).bind fun v39 h40 =>
 (loopN (ζ60 k call) loopFuel [(0,a0),(1,a1),(3,a3),(11,v1),(12,v5),(13,v39),(14,(.int .i64 0))] h40).bind fun r41 h42 =>
 ζ91 k call r41.1 r41.2 h42)
theorem ζic (k:Nat) (a0 a1 a2 a3:Value) (h:Heap):R (T k) F.ζ6 [a0,a1,a2,a3] h = nrm .fz h (ζ6 k (R (T k)) a0 a1 a2 a3 h) :=
 (R_body (t:=T k) (T_scott k) (by kernel_rfl) (by kernel_rfl) _ _).trans (by kernel_rfl)
theorem ζ7f (k:Nat) (call:Caller) (a0 a1 a3 a11 a12 a13 a14:Value) (h:Heap):ζ60 k call [(0,a0),(1,a1),(3,a3),(11,a11),(12,a12),(13,a13),(14,a14)] h =
 (binR Prog .lss 3 a14 a12 h).bind fun v43 h44 =>
 condV (some v43) (
 (binR Prog .add 3 a1 (.int .i64 10) h44).bind fun v45 h46 =>
 (binR Prog .mul 3 a14 a11 h46).bind fun v47 h48 =>
 (binR Prog .add 3 v45 v47 h48).bind fun v49 h50 =>
 (buildSliceR Prog 23 1 [(0,v49)] h50).bind fun v51 h52 =>
 (builtinV Prog .append [23,23] [a13,v51] h52).bind fun v53 h54 =>
 (binR Prog .add 3 a14 (.int .i64 1) h54).bind fun v55 h56 =>
 .ok (.normal,[(0,a0),(1,a1),(3,a3),(11,a11),(12,a12),(13,v53),(14,v55)]) h56)
 (
 .ok ((.exit 0),[(0,a0),(1,a1),(3,a3),(11,a11),(12,a12),(13,a13),(14,a14),(47,v43)]) h44) :=
 (loopB_eq _ _).trans (by kernel_rfl)
theorem ζ43 (k:Nat) (call:Caller) (a0 a1 a3 a11 a12 a13 a14 a47:Value) (h:Heap):ζ91 k call (.exit 0) [(0,a0),(1,a1),(3,a3),(11,a11),(12,a12),(13,a13),(14,a14),(47,a47)] h =
 (binR Prog .gtr 3 a12 (.int .i64 0) h).bind fun v57 h58 =>
 condV (some v57) (
 (loopN (ζ61 k call) loopFuel [(0,a0),(3,a3),(11,a11),(12,a12),(13,a13),(15,(.bool true)),(16,(.int .i64 0))] h58).bind fun r59 h60 =>
 ζ92 k call r59.1 r59.2 h60)
 (
 ζ9q k call a0 a3 a11 a12 a13 v57 h58):=by kernel_rfl
theorem ζf1 (k:Nat) (call:Caller) (a0 a3 a11 a12 a13 a60:Value) (h:Heap):ζ9q k call a0 a3 a11 a12 a13 a60 h =
 .ok (.tuple #[a13,a11,(.bool true)]) h:=by kernel_rfl
theorem ζ7g (k:Nat) (call:Caller) (a0 a3 a11 a12 a13 a15 a16:Value) (h:Heap):ζ61 k call [(0,a0),(3,a3),(11,a11),(12,a12),(13,a13),(15,a15),(16,a16)] h =
 (binR Prog .lss 3 a16 a3 h).bind fun v61 h62 =>
 condV (some v61) (
 ((bif wantVal a15 true then Res.ok a0 h62 else Res.ok undef h62)).bind fun v63 h64 =>
 ((bif wantVal a15 true then Res.ok a13 h64 else Res.ok undef h64)).bind fun v65 h66 =>
 ((bif wantVal a15 true then Res.ok a12 h66 else Res.ok undef h66)).bind fun v67 h68 =>
 ((bif wantVal a15 true then binR Prog .sub 3 v67 (.int .i64 1) h68 else Res.ok undef h68)).bind fun v69 h70 =>
 ((bif wantVal a15 true then indexAddrR Prog 23 v65 v69 h70 else Res.ok undef h70)).bind fun v71 h72 =>
 ((bif wantVal a15 true then loadR Prog 3 v71 h72 else Res.ok undef h72)).bind fun v73 h74 =>
 ((bif wantVal a15 true then Res.ok a16 h74 else Res.ok undef h74)).bind fun v75 h76 =>
 ((bif wantVal a15 true then binR Prog .mul 3 (.int .i64 2) v75 h76 else Res.ok undef h76)).bind fun v77 h78 =>
 ((bif wantVal a15 true then binR Prog .add 3 v73 v77 h78 else Res.ok undef h78)).bind fun v79 h80 =>
 ((bif wantVal a15 true then call F.ζ2 [v63,v79,(.int .i64 2)] h80 else Res.ok undef h80)).bind fun v81 h82 =>
 ((bif wantVal a15 true then binR Prog .eql 3 v81 (.int .i64 65535) h82 else Res.ok undef h82)).bind fun v83 h84 =>
 (condV (some a15) (Res.ok v83 h84) (Res.ok (.bool false) h84)).bind fun v85 h86 =>
 (binR Prog .add 3 a16 (.int .i64 1) h86).bind fun v87 h88 =>
 .ok (.normal,[(0,a0),(3,a3),(11,a11),(12,a12),(13,a13),(15,v85),(16,v87)]) h88)
 (
 .ok ((.exit 2),[(0,a0),(3,a3),(11,a11),(12,a12),(13,a13),(15,a15),(16,a16),(63,v61)]) h62) :=
 (loopB_eq _ _).trans (by kernel_rfl)
theorem ζ6q (k:Nat) (call:Caller) (a0 a3 a11 a12 a13 a15 a16 a63:Value) (h:Heap):ζ92 k call (.exit 2) [(0,a0),(3,a3),(11,a11),(12,a12),(13,a13),(15,a15),(16,a16),(63,a63)] h =
 condV (some a15) (
 (binR Prog .sub 3 a12 (.int .i64 1) h).bind fun v89 h90 =>
 (sliceR Prog 23 a13 none (some v89) none h90).bind fun v91 h92 =>
 ζ9r k call a11 v91 h92)
 (
 ζ9s k call a11 a12 a13 a15 h):=by kernel_rfl
theorem ζf2 (k:Nat) (call:Caller) (a11 a13:Value) (h:Heap):ζ9r k call a11 a13 h =
 .ok (.tuple #[a13,a11,(.bool true)]) h:=by kernel_rfl
theorem ζf3 (k:Nat) (call:Caller) (a11 a12 a13 a80:Value) (h:Heap):ζ9s k call a11 a12 a13 a80 h =
 .ok (.tuple #[a13,a11,(.bool true)]) h:=by kernel_rfl
end
end Go.Sw
end
section
namespace Go.Sw
open Go.RowKit
def rowsO (b:List Int) (i need:Int) (keys:Nat):Value:=match takeS b i need keys with
 | some rows => .tuple #[lv encI (posS i (gU b i 2) rows.length),.int .i64 (gU b i 2),.bool true]
 | none => .tuple #[lv encI [],.int .i64 0,.bool false]
theorem ζni (b:List Int) (i need:Int) (keys:Nat):Flat (rowsO b i need keys):=by
 unfold rowsO;split
 ·exact .tupleL (.cons (Flat.I _) (.cons (.int _ _) (.cons (.bool _) .nil)))
 ·exact .tupleL (.cons (Flat.I _) (.cons (.int _ _) (.cons (.bool _) .nil)))
theorem ζir {b:List Int} {i n:Int}:(pieceS b i n).isSome = inS b.length i n:=by
 unfold pieceS inS;split
 ·rename_i h; rw [decide_eq_true h]; rfl
 ·rename_i h; rw [decide_eq_false h]; rfl
theorem uS_of_in {b:List Int} {i n:Int} (h:inS b.length i n = true):∃ x,uS b i n = some x:=by
 rw [← ζir,Option.isSome_iff_exists] at h;obtain ⟨r,hr⟩:=h;exact ⟨num r,by unfold uS; rw [hr]; rfl⟩
theorem ζsy (i z:Int) (n j:Nat) (h:j ≤ n):(posS i z n).take j = posS i z j:=by
 unfold posS;rw [← List.map_take,List.take_range,Nat.min_eq_left h]
theorem ζsx (i z:Int) (n:Nat):posS i z (n + 1) = posS i z n ++ [i + 10 + z * (n:Nat)]:=by simp [posS,List.range_succ]
theorem ζnh (k:Nat) (b:List Int) (hb:Byt b) (i need:Int) (keys:Nat) (hl:b.length < 2 ^ 31) (hi0:0 ≤ i) (hi:i < 65536) (hneed:0 < need) (hk:2 * (keys:Int) ≤ need) (H:Heap) :
  R (T k) F.ζ6 [lv encB b,.int .i64 i,.int .i64 need,.int .i64 keys] H = .ok (rowsO b i need keys) H:=by
 rw [ζic];have hU:=fun j H' => refU_run k (H:=H') (Sl.lv H' 1 b) hb j 2 (by omega) (by omega);have hIn:=fun H' => ζp4 k b.length i 10 (by omega) (by omega) H';have hnil:∃ L,fzV H.n H fzDepth (.tuple #[.slice none 0 0,.int .i64 0,.bool false]) = some (.tuple #[lv encI [],.int .i64 0,.bool false],L):=⟨_,rfl⟩
 obtain ⟨L0,hnil⟩:=hnil;have hno:takeS b i need keys = none → ζ6 k (R (T k)) (lv encB b) (.int .i64 i) (.int .i64 need) (.int .i64 keys) H = .ok (.tuple #[.slice none 0 0,.int .i64 0,.bool false]) H → nrm .fz H (ζ6 k (R (T k)) (lv encB b) (.int .i64 i) (.int .i64 need) (.int .i64 keys) H) = .ok (rowsO b i need keys) H:=fun h1 h2 => by
  have fl:=ζni b i need keys;unfold rowsO at fl ⊢;rw [h1] at fl ⊢;exact nrm_fz h2 hnil (Ext.refl H) fl.alive
 cases hin:inS b.length i 10 with
 | false =>
  have hp:pieceS b i 10 = none:=by
   have:=ζir (b:=b) (i:=i) (n:=10);rw [hin] at this;simpa using this
  refine hno (by unfold takeS; rw [hp]; split <;> simp) ?_;rw [hin] at hIn;have hg1:-1 ≤ (uS b i 2).getD (-1) ∧ (uS b i 2).getD (-1) < 65536:=gU_two hb i;have hg2:-1 ≤ (uS b (i + 2) 2).getD (-1) ∧ (uS b (i + 2) 2).getD (-1) < 65536:=gU_two hb (i + 2);simp -implicitDefEqProofs (disch:=omega) [ζ6,hU,hIn]
 | true =>
  rw [hin] at hIn;have hin':0 ≤ i ∧ 0 ≤ (10:Int) ∧ i ≤ b.length ∧ 10 ≤ b.length - i:=of_decide_eq_true hin;obtain ⟨z,hz⟩:=uS_of_in (b:=b) (i:=i) (n:=2) (by unfold inS; exact decide_eq_true (by omega));obtain ⟨n,hn⟩:=uS_of_in (b:=b) (i:=i + 2) (n:=2) (by unfold inS; exact decide_eq_true (by omega));have hz2:=uS_two hb hz;have hn2:=uS_two hb hn;have hu1:=fun H' => hU i H';have hu2:=fun H' => hU (i + 2) H';rw [hz] at hu1;rw [hn] at hu2;simp only [Option.getD_some] at hu1 hu2;have hpc:(pieceS b i 10).isSome = true:=by rw [ζir]; exact hin
  by_cases hnz:need ≤ z;rotate_left
  ·refine hno (by unfold takeS; rw [hz,hn]; simp [hnz]) ?_;have:z < need:=by omega
   simp -implicitDefEqProofs (disch:=omega) [ζ6,hu1,hu2,hIn,this]
  have hnz':¬ z < need:=by omega
  have hRows:=fun H' => ζ9k k b.length (i + 10) n z (by omega) (by omega) H';cases hrb:rowsB b.length (i + 10) n z with
  | false =>
   have hrs:rowsS b (i + 10) n z = none:=by
    cases h:rowsS b (i + 10) n z with
    | none => rfl
    | some r =>
     have:=(ζet (by omega)).2 ((ζgw (by omega)).1 h).1;rw [hrb] at this; cases this
   rw [hrb] at hRows;refine hno (by unfold takeS; rw [hz,hn]; simp [hrs]) ?_;simp -implicitDefEqProofs (disch:=omega) [ζ6,hu1,hu2,hIn,hnz',hRows]
  | true =>
   rw [hrb] at hRows;have hrs:=(ζgw (r:=(b.drop (i + 10).toNat).take (n * z).toNat) (by omega)).2 ⟨(ζet (by omega)).1 hrb,rfl⟩;obtain ⟨r,hr⟩:∃ r,r = (b.drop (i + 10).toNat).take (n * z).toNat:=⟨_,rfl⟩
   rw [← hr] at hrs;have htake:takeS b i need keys = some (endRows r z.toNat n.toNat keys):=by unfold takeS; rw [hz,hn]; simp [hpc,hnz,hrs]
   obtain ⟨n,rfl⟩:=Int.eq_ofNat_of_zero_le hn2.1;have hzn:(z.toNat:Int) = z:=by omega
   -- the rows' places
   obtain ⟨x,e',H1,hr1,rfl,⟨a,s,rfl,ho⟩,hx⟩:=loop_up (body:=ζ60 k (R (T k))) n
    (fun j e H' => (∃ s,e = [(0,lv encB b),(1,.int .i64 i),(3,.int .i64 keys),(11,.int .i64 z),(12,.int .i64 n),(13,s),(14,.int .i64 j)] ∧ Own H H' 1 s encI (posS i z j)) ∧ Ext H H')
    (fun x e H' => x = .exit 0 ∧ (∃ a s,e = [(0,lv encB b),(1,.int .i64 i),(3,.int .i64 keys),(11,.int .i64 z),(12,.int .i64 n),(13,s),(14,.int .i64 n),(47,a)] ∧ Own H H' 1 s encI (posS i z n)) ∧ Ext H H')
    (e0:=[(0,lv encB b),(1,.int .i64 i),(3,.int .i64 keys),(11,.int .i64 z),(12,.int .i64 n),(13,bareV),(14,.int .i64 0)]) (H0:=H) ⟨⟨_,rfl,Own.bare _ _ _⟩,Ext.refl H⟩ (by omega)
    (fun j e H' hj ⟨⟨s,he,ho⟩,hx⟩ => by
     subst he;have hlt:(j:Int) < n:=by omega
     have hjz:(j:Int) * z ≤ 65536 * 65536:=Int.mul_le_mul (by omega) (by omega) (by omega) (by omega);have hjz0:0 ≤ (j:Int) * z:=Int.mul_nonneg (by omega) (by omega);obtain ⟨s2,H2,e2,o2,x2⟩:=ap1_own (bytes:=8) encI_len ho hx (i + 10 + z * (j:Nat)) (by simp; omega) (by decide);rw [← ζsx] at o2;rw [Int.mul_comm z] at e2;refine .inl ⟨_,H2,?_,⟨s2,rfl,o2⟩,x2⟩;rw [ζ7f];simp -implicitDefEqProofs (disch:=omega) [hlt,e2])
    (fun e H' ⟨⟨s,he,ho⟩,hx⟩ => by
     subst he;refine ⟨.exit 0,_,H',?_,by simp,rfl,⟨.bool false,s,rfl,ho⟩,hx⟩;rw [ζ7f];simp -implicitDefEqProofs)
   have hgu:gU b i 2 = z:=gU_some hz;have fl:=ζni b i need keys;unfold rowsO at fl ⊢;rw [htake,hgu] at fl ⊢;dsimp only at fl ⊢;by_cases hn0:n = 0
   ·subst hn0;obtain ⟨L,hf⟩:=ho.freeze encI_len (ζ6c _) 5;have e2:(endRows r z.toNat (Int.toNat ((0:Nat):Int)) keys).length = 0:=by simp [endRows]
    rw [e2] at fl ⊢;refine nrm_fz (v:=.tuple #[s,.int .i64 z,.bool true]) (H':=H1) ?_ (fz_tuple (l:=[s,.int .i64 z,.bool true]) (ζw hf (ζw (L1:=[]) rfl (mapF_one (L:=[]) rfl)))) hx fl.alive;simp at hr1 hRows;simp -implicitDefEqProofs (disch:=omega) [ζ6,hu1,hu2,hIn,hnz',hRows,hr1,ζ43,ζf1]
   ·have hgt:0 < n:=by omega
    obtain ⟨z,rfl⟩:=Int.eq_ofNat_of_zero_le hz2.1;simp only [Int.toNat_natCast] at *;have hrow:=ζt3 hrs (j:=n - 1) (by omega);obtain ⟨row,hrowd⟩:∃ row,row = (r.drop (z * (n - 1))).take z:=⟨_,rfl⟩
    rw [← hrowd] at hrow;have hlast:=posS_get i z n (n - 1) (by omega);obtain ⟨bk,hsk,hbk,hgk,_⟩:=ixS_own ho .i64 (n - 1) (by simp; omega) H1;rw [posS_len] at hsk;have hixk:∀ H'',ixS 1 s (.int .i64 ((n:Int) - 1)) H'' = .ok (.pointer (some ⟨bk,(n - 1) * 1,none⟩)) H'':=fun H'' => by
     rw [hsk,show ((n:Int) - 1) = ((n - 1:Nat):Int) by omega];have:=ζis 1 bk 0 n n .i64 (n - 1) H'' (by omega);simpa using this
    have hld:=ld1_row encI_len hgk (c:=0) hlast (by decide) rfl;simp only [Nat.add_zero,Nat.mul_one] at hld hixk;have hp0:0 ≤ i + 10 + (z:Int) * ((n - 1:Nat):Int) ∧ i + 10 + (z:Int) * ((n - 1:Nat):Int) < 2 ^ 34:=by
     have:=Int.mul_nonneg (show (0:Int) ≤ z by omega) (show (0:Int) ≤ ((n - 1:Nat):Int) by omega);have:(z:Int) * ((n - 1:Nat):Int) ≤ 65536 * 65536:=Int.mul_le_mul (by omega) (by omega) (by omega) (by omega);omega
    generalize i + 10 + (z:Int) * ((n - 1:Nat):Int) = p at hrow hld hp0
    obtain ⟨x,e',H2,hr2,rfl,rfl,a2,rfl⟩:=loop_up (body:=ζ61 k (R (T k))) keys
     (fun j e H' => H' = H1 ∧ e = [(0,lv encB b),(3,.int .i64 keys),(11,.int .i64 z),(12,.int .i64 n),(13,s),(15,.bool ((List.range j).all fun q => uS row (2 * q) 2 == some 65535)),(16,.int .i64 j)])
     (fun x e H' => H' = H1 ∧ x = .exit 2 ∧ ∃ a,e = [(0,lv encB b),(3,.int .i64 keys),(11,.int .i64 z),(12,.int .i64 n),(13,s),(15,.bool (noneS row keys)),(16,.int .i64 keys),(63,a)])
     (e0:=[(0,lv encB b),(3,.int .i64 keys),(11,.int .i64 z),(12,.int .i64 n),(13,s),(15,.bool true),(16,.int .i64 0)]) (H0:=H1) ⟨rfl,rfl⟩ (by omega)
     (fun j e H' hj ⟨hH,he⟩ => by
      subst he hH;have hlt:(j:Int) < keys:=by omega
      refine .inl ⟨_,_,?_,rfl,rfl⟩;rw [ζ7g,List.range_succ,List.all_append];cases hall:(List.range j).all fun q => uS row (2 * q) 2 == some 65535 with
      | false => simp -implicitDefEqProofs (disch:=omega) [hlt]
      | true =>
       have hsub:=uS_sub hrow (x:=2 * j) (y:=2) (by omega) (by omega) (by omega);have hu:=hU (p + 2 * j);rw [← hsub] at hu;obtain ⟨y,hy⟩:∃ y,uS row (2 * j) 2 = some y:=by
        obtain ⟨y,hy⟩:=(row_two hrow (x:=2 * j) (y:=2) (by omega) (by omega) (by omega)).2;exact ⟨y,by rw [hsub,hy]⟩
       rw [hy] at hu;simp -implicitDefEqProofs (disch:=omega) [hlt];rw [hixk];simp -implicitDefEqProofs (disch:=omega) [hlt,hld,hu,hy])
     (fun e H' ⟨hH,he⟩ => by
      subst he hH;refine ⟨.exit 2,_,_,?_,by simp,rfl,rfl,.bool false,rfl⟩;rw [ζ7g];simp -implicitDefEqProofs [noneS])
    obtain ⟨bf,L,hsf,hf⟩:=ho.ζpm encI_len (ζ6c _) 5 (endRows r z n keys).length (by unfold endRows; split <;> simp) (by simp; omega);rw [posS_len] at hsf;have hbf:bk = bf:=by rw [hsk] at hsf; simpa using hsf
    subst hbf;rw [ζsy _ _ _ _ (by unfold endRows; split <;> simp)] at hf;cases hno:noneS row keys with
    | false =>
     rw [hno] at hr2;have e2:(endRows r z n keys).length = n:=by unfold endRows; rw [← hrowd,hno]; simp
     rw [e2] at hf fl ⊢;refine nrm_fz (v:=.tuple #[s,.int .i64 z,.bool true]) (H':=H2) ?_ (fz_tuple (l:=[s,.int .i64 z,.bool true]) (ζw (by rw [hsk]; exact hf n) (ζw (L1:=[]) rfl (mapF_one (L:=[]) rfl)))) hx fl.alive;simp -implicitDefEqProofs (disch:=omega) [ζ6,hu1,hu2,hIn,hnz',hRows,hr1,ζ43,hgt,hr2,ζ6q,ζf3]
    | true =>
     rw [hno] at hr2;have e2:(endRows r z n keys).length = n - 1:=by unfold endRows; rw [← hrowd,hno,if_pos ⟨by omega,rfl⟩]; simp
     rw [e2] at hf fl ⊢;have hsl:=slS_own hgk .i64 (n - 1) (by simp);rw [posS_len,show (((n - 1:Nat)):Int) = (n:Int) - 1 by omega] at hsl;refine nrm_fz (v:=.tuple #[.slice (some ⟨bk,0,none⟩) (n - 1) n,.int .i64 z,.bool true]) (H':=H2) ?_ (fz_tuple (l:=[.slice (some ⟨bk,0,none⟩) (n - 1) n,.int .i64 z,.bool true]) (ζw (hf n) (ζw (L1:=[]) rfl (mapF_one (L:=[]) rfl)))) hx fl.alive;subst hsk;simp -implicitDefEqProofs (disch:=omega) [ζ6,hu1,hu2,hIn,hnz',hRows,hr1,ζ43,hgt,hr2,ζ6q,hsl,ζf2]
end Go.Sw
end
section
set_option maxRecDepth 100000
set_option linter.unusedVariables false
namespace Go.Sw
noncomputable section
def ζ63 (k:Nat) (call:Caller):Env → Heap → Res (AExit × Env):=loopB (C k) call F.ζx [1,1,0,1,0,0]
def ζ93 (k:Nat) (call:Caller):Kont Value:=kBlock 0 (kSeq (pieceK (C k) call F.ζx [1,1,1]) (kDone Prog (resOf Prog F.ζx)))
def ζ9t (k:Nat) (call:Caller) (a0 a6 a8 a9 a10:Value) (h:Heap):Res (AExit × Env) :=
 kSeq (pieceK (C k) call F.ζx [1,1,0,1,0,0,1,1]) (kRound (ownOf (C k) F.ζx [1,1,0,1,0,0])) .normal [(0,a0),(6,a6),(8,a8),(9,a9),(10,a10)] h
def ζ9u (k:Nat) (call:Caller) (a0 a6 a8 a9 a10 a52:Value) (h:Heap):Res (AExit × Env) :=
 kSeq (pieceK (C k) call F.ζx [1,1,0,1,0,0,1,1]) (kRound (ownOf (C k) F.ζx [1,1,0,1,0,0])) .normal [(0,a0),(6,a6),(8,a8),(9,a9),(10,a10),(52,a52)] h
def ζx (k:Nat) (call:Caller) (a0 a1 a2:Value) (h:Heap):Res Value :=
 (allocR Prog 38 h).bind fun v1 h2 =>
 (call F.ζh [a0,a1,a2] h2).bind fun v3 h4 =>
 (extractR v3 0 h4).bind fun v5 h6 =>
 (extractR v3 1 h6).bind fun v7 h8 =>
 (loopN (ζ63 k call) loopFuel [(0,a0),(6,v1),(8,v5),(9,v7),(10,(.int .i64 0))] h8).bind fun r9 h10 =>
 ζ93 k call r9.1 r9.2 h10
theorem ζid (k:Nat) (a0 a1 a2:Value) (h:Heap):R (T k) F.ζx [a0,a1,a2] h = nrm .fz h (ζx k (R (T k)) a0 a1 a2 h) :=
 (R_body (t:=T k) (T_scott k) (by kernel_rfl) (by kernel_rfl) _ _).trans (by kernel_rfl)
theorem ζ7j (k:Nat) (call:Caller) (a0 a6 a8 a9 a10:Value) (h:Heap):ζ63 k call [(0,a0),(6,a6),(8,a8),(9,a9),(10,a10)] h =
 (builtinV Prog .len [36] [a8] h).bind fun v11 h12 =>
 (binR Prog .lss 3 a10 v11 h12).bind fun v13 h14 =>
 condV (some v13) (
 (indexAddrR Prog 36 a8 a10 h14).bindN fun v15 h16 =>
 (fieldAddrR Prog 173 v15 0 h16).bindN fun v17 h18 =>
 (loadR Prog 3 v17 h18).bindN fun v19 h20 =>
 (indexAddrR Prog 36 a8 a10 h20).bindN fun v21 h22 =>
 (fieldAddrR Prog 173 v21 1 h22).bindN fun v23 h24 =>
 (loadR Prog 3 v23 h24).bindN fun v25 h26 =>
 (binR Prog .gtr 3 v19 v25 h26).bindN fun v27 h28 =>
 ((bif wantVal v27 false then Res.ok a10 h28 else Res.ok undef h28)).bindN fun v29 h30 =>
 ((bif wantVal v27 false then binR Prog .gtr 3 v29 (.int .i64 0) h30 else Res.ok undef h30)).bindN fun v31 h32 =>
 ((bif wantVal v27 false then Res.ok v31 h32 else Res.ok undef h32)).bindN fun v33 h34 =>
 ((bif wantVal v33 true then Res.ok a8 h34 else Res.ok undef h34)).bindN fun v35 h36 =>
 ((bif wantVal v33 true then Res.ok a10 h36 else Res.ok undef h36)).bindN fun v37 h38 =>
 ((bif wantVal v33 true then binR Prog .sub 3 v37 (.int .i64 1) h38 else Res.ok undef h38)).bindN fun v39 h40 =>
 ((bif wantVal v33 true then indexAddrR Prog 36 v35 v39 h40 else Res.ok undef h40)).bindN fun v41 h42 =>
 ((bif wantVal v33 true then fieldAddrR Prog 173 v41 1 h42 else Res.ok undef h42)).bindN fun v43 h44 =>
 ((bif wantVal v33 true then loadR Prog 3 v43 h44 else Res.ok undef h44)).bindN fun v45 h46 =>
 ((bif wantVal v33 true then Res.ok a8 h46 else Res.ok undef h46)).bindN fun v47 h48 =>
 ((bif wantVal v33 true then Res.ok a10 h48 else Res.ok undef h48)).bindN fun v49 h50 =>
 ((bif wantVal v33 true then indexAddrR Prog 36 v47 v49 h50 else Res.ok undef h50)).bindN fun v51 h52 =>
 ((bif wantVal v33 true then fieldAddrR Prog 173 v51 0 h52 else Res.ok undef h52)).bindN fun v53 h54 =>
 ((bif wantVal v33 true then loadR Prog 3 v53 h54 else Res.ok undef h54)).bindN fun v55 h56 =>
 ((bif wantVal v33 true then binR Prog .geq 3 v45 v55 h56 else Res.ok undef h56)).bindN fun v57 h58 =>
 ((bif wantVal v27 false then condV (some v33) (Res.ok v57 h58) (Res.ok (.bool false) h58) else Res.ok undef h58)).bindN fun v59 h60 =>
 (condV (some v27) (Res.ok (.bool true) h60) (Res.ok v59 h60)).bindN fun v61 h62 =>
 condV (some v61) (
 ζ9t k call a0 a6 a8 (.bool false) a10 h62)
 (
 ζ9u k call a0 a6 a8 a9 a10 v61 h62))
 (
 .ok ((.exit 0),[(0,a0),(6,a6),(8,a8),(9,a9),(10,a10),(21,v13)]) h14) :=
 (loopB_eq _ _).trans (by kernel_rfl)
theorem ζ7h (k:Nat) (call:Caller) (a0 a6 a8 a9 a10:Value) (h:Heap):ζ9t k call a0 a6 a8 a9 a10 h =
 (binR Prog .add 3 a10 (.int .i64 1) h).bind fun v63 h64 =>
 .ok (.normal,[(0,a0),(6,a6),(8,a8),(9,a9),(10,v63)]) h64:=by kernel_rfl
theorem ζ7i (k:Nat) (call:Caller) (a0 a6 a8 a9 a10 a52:Value) (h:Heap):ζ9u k call a0 a6 a8 a9 a10 a52 h =
 (binR Prog .add 3 a10 (.int .i64 1) h).bind fun v65 h66 =>
 .ok (.normal,[(0,a0),(6,a6),(8,a8),(9,a9),(10,v65)]) h66:=by kernel_rfl
theorem ζ6r (k:Nat) (call:Caller) (a0 a6 a8 a9 a10 a21:Value) (h:Heap):ζ93 k call (.exit 0) [(0,a0),(6,a6),(8,a8),(9,a9),(10,a10),(21,a21)] h =
 (unR .not a9 h).bind fun v67 h68 =>
 condV (some v67) (
 (buildR Prog 38 [] h68).bind fun v69 h70 =>
 (storeR Prog 38 a6 v69 h70).bind fun _v71 h72 =>
 (loadR Prog 38 a6 h72).bind fun v73 h74 =>
 .ok (.tuple #[v73,(.bool false)]) h74)
 (
 (buildR Prog 38 [(0,a0),(1,a8)] h68).bind fun v75 h76 =>
 (storeR Prog 38 a6 v75 h76).bind fun _v77 h78 =>
 (loadR Prog 38 a6 h78).bind fun v79 h80 =>
 .ok (.tuple #[v79,(.bool true)]) h80):=by kernel_rfl
def ζ5i (k:Nat) (call:Caller):Env → Heap → Res (AExit × Env):=loopB (C k) call F.ζh [1,0,1,0,1,1,1,1,1,1,1,0,1,1,0,1,0,0]
def ζ8h (k:Nat) (call:Caller):Kont Value:=kBlock 1 (kSeq (pieceK (C k) call F.ζh [1,0,1,0,1,1,1,1,1,1,1,0,1,1,1]) (kBlock 0 (kSeq (pieceK (C k) call F.ζh [1,1]) (kDone Prog (resOf Prog F.ζh)))))
def ζh (k:Nat) (call:Caller) (a0 a1 a2:Value) (h:Heap):Res Value :=
 (call F.ζ2 [a0,(.int .i64 0),(.int .i64 2)] h).bind fun v1 h2 =>
 (binR Prog .eql 3 v1 (.int .i64 0) h2).bind fun v3 h4 =>
 condV (some v3) (
 (binR Prog .sub 3 a1 (.int .i64 1) h4).bind fun v5 h6 =>
 (buildR Prog 173 [(0,(.int .i64 0)),(1,v5),(2,(.int .i64 2)),(3,a2),(4,a2)] h6).bind fun v7 h8 =>
 (buildSliceR Prog 36 1 [(0,v7)] h8).bind fun v9 h10 =>
 (builtinV Prog .len [31] [a0] h10).bind fun v11 h12 =>
 (call F.ζn [v11,(.int .i64 2),a1,a2] h12).bind fun v13 h14 =>
 .ok (.tuple #[v9,v13]) h14)
 (
 (binR Prog .eql 3 v1 (.int .i64 2) h4).bind fun v15 h16 =>
 condV (some v15) (
 (call F.ζ3 [a0,a2,(.bool false)] h16).bind fun v17 h18 =>
 (extractR v17 0 h18).bind fun v19 h20 =>
 (extractR v17 1 h20).bind fun v21 h22 =>
 .ok (.tuple #[v19,v21]) h22)
 (
 (binR Prog .eql 3 v1 (.int .i64 4) h16).bind fun v23 h24 =>
 condV (some v23) (
 (call F.ζ3 [a0,a2,(.bool true)] h24).bind fun v25 h26 =>
 (extractR v25 0 h26).bind fun v27 h28 =>
 (extractR v25 1 h28).bind fun v29 h30 =>
 .ok (.tuple #[v27,v29]) h30)
 (
 (binR Prog .eql 3 v1 (.int .i64 6) h24).bind fun v31 h32 =>
 condV (some v31) (
 (binR Prog .add 3 (.int .i64 2) a2 h32).bind fun v33 h34 =>
 (call F.ζ6 [a0,(.int .i64 2),v33,(.int .i64 1)] h34).bind fun v35 h36 =>
 (extractR v35 0 h36).bind fun v37 h38 =>
 (extractR v35 1 h38).bind fun v39 h40 =>
 (extractR v35 2 h40).bind fun v41 h42 =>
 (buildSliceR Prog 36 0 [] h42).bind fun v43 h44 =>
 (loopN (ζ5i k call) loopFuel [(0,a0),(2,a2),(8,v37),(10,v41),(11,v43),(12,(.int .i64 0))] h44).bind fun r45 h46 =>
 ζ8h k call r45.1 r45.2 h46)
 (
 (binR Prog .eql 3 v1 (.int .i64 8) h32).bind fun v47 h48 =>
 condV (some v47) (
 (call F.ζq [a0,(.int .i64 2),a2] h48).bind fun v49 h50 =>
 (extractR v49 0 h50).bind fun v51 h52 =>
 (extractR v49 1 h52).bind fun v53 h54 =>
 .ok (.tuple #[v51,v53]) h54)
 (
 (binR Prog .eql 3 v1 (.int .i64 10) h48).bind fun v55 h56 =>
 condV (some v55) (
 (call F.ζ2 [a0,(.int .i64 2),(.int .i64 2)] h56).bind fun v57 h58 =>
 (binR Prog .neq 3 v57 (.int .i64 1) h58).bind fun v59 h60 =>
 ((bif wantVal v59 true then Res.ok v57 h60 else Res.ok undef h60)).bind fun v61 h62 =>
 ((bif wantVal v59 true then binR Prog .neq 3 v61 (.int .i64 2) h62 else Res.ok undef h62)).bind fun v63 h64 =>
 (condV (some v59) (Res.ok v63 h64) (Res.ok (.bool false) h64)).bind fun v65 h66 =>
 ((bif wantVal v65 true then Res.ok v57 h66 else Res.ok undef h66)).bind fun v67 h68 =>
 ((bif wantVal v65 true then binR Prog .neq 3 v67 (.int .i64 4) h68 else Res.ok undef h68)).bind fun v69 h70 =>
 (condV (some v65) (Res.ok v69 h70) (Res.ok (.bool false) h70)).bind fun v71 h72 =>
 condV (some v71) (
 .ok (.tuple #[(.slice none 0 0),(.bool false)]) h72)
 (
 (call F.ζq [a0,(.int .i64 4),v57] h72).bind fun v73 h74 =>
 (extractR v73 0 h74).bind fun v75 h76 =>
 (extractR v73 1 h76).bind fun v77 h78 =>
 .ok (.tuple #[v75,v77]) h78))
 (
 .ok (.tuple #[(.slice none 0 0),(.bool false)]) h56))))))
theorem ζhp (k:Nat) (a0 a1 a2:Value) (h:Heap):R (T k) F.ζh [a0,a1,a2] h = nrm .fz h (ζh k (R (T k)) a0 a1 a2 h) :=
 (R_body (t:=T k) (T_scott k) (by kernel_rfl) (by kernel_rfl) _ _).trans (by kernel_rfl)
theorem ζ6s (k:Nat) (call:Caller) (a0 a2 a8 a10 a11 a12:Value) (h:Heap):ζ5i k call [(0,a0),(2,a2),(8,a8),(10,a10),(11,a11),(12,a12)] h =
 (builtinV Prog .len [23] [a8] h).bind fun v79 h80 =>
 (binR Prog .lss 3 a12 v79 h80).bind fun v81 h82 =>
 condV (some v81) (
 (indexAddrR Prog 23 a8 a12 h82).bind fun v83 h84 =>
 (loadR Prog 3 v83 h84).bind fun v85 h86 =>
 (call F.ζ2 [a0,v85,(.int .i64 2)] h86).bind fun v87 h88 =>
 (indexAddrR Prog 23 a8 a12 h88).bind fun v89 h90 =>
 (loadR Prog 3 v89 h90).bind fun v91 h92 =>
 (binR Prog .add 3 v91 (.int .i64 2) h92).bind fun v93 h94 =>
 (buildR Prog 173 [(0,v87),(1,v87),(2,v93),(3,a2)] h94).bind fun v95 h96 =>
 (buildSliceR Prog 36 1 [(0,v95)] h96).bind fun v97 h98 =>
 (builtinV Prog .append [36,36] [a11,v97] h98).bind fun v99 h100 =>
 (binR Prog .add 3 a12 (.int .i64 1) h100).bind fun v101 h102 =>
 .ok (.normal,[(0,a0),(2,a2),(8,a8),(10,a10),(11,v99),(12,v101)]) h102)
 (
 .ok ((.exit 1),[(0,a0),(2,a2),(8,a8),(10,a10),(11,a11),(12,a12),(58,v81)]) h82) :=
 (loopB_eq _ _).trans (by kernel_rfl)
theorem ζbb (k:Nat) (call:Caller) (a0 a2 a8 a10 a11 a12 a58:Value) (h:Heap):ζ8h k call (.exit 1) [(0,a0),(2,a2),(8,a8),(10,a10),(11,a11),(12,a12),(58,a58)] h =
 .ok (.tuple #[a11,a10]) h:=by kernel_rfl
def ζ6t (k:Nat) (call:Caller) (a0 a1 a2 a8:Value) (h:Heap):Res Value :=
 kSeq (pieceK (C k) call F.ζ3 [1,1,1]) (kDone Prog (resOf Prog F.ζ3)) .normal [(0,a0),(1,a1),(2,a2),(8,a8)] h
def ζ6u (k:Nat) (call:Caller) (a0 a1 a2 a8 a17:Value) (h:Heap):Res Value :=
 kSeq (pieceK (C k) call F.ζ3 [1,1,1]) (kDone Prog (resOf Prog F.ζ3)) .normal [(0,a0),(1,a1),(2,a2),(8,a8),(17,a17)] h
def ζ2w (k:Nat) (call:Caller):Env → Heap → Res (AExit × Env):=loopB (C k) call F.ζ3 [1,1,1,1,1,0,1,0,0]
def ζ3p (k:Nat) (call:Caller):Kont Value:=kBlock 0 (kSeq (pieceK (C k) call F.ζ3 [1,1,1,1,1,1]) (kDone Prog (resOf Prog F.ζ3)))
def ζ6v (k:Nat) (call:Caller) (a0 a1 a2 a9 a11 a12 a13 a14:Value) (h:Heap):Res (AExit × Env) :=
 kSeq (pieceK (C k) call F.ζ3 [1,1,1,1,1,0,1,0,0,1,0,0,1,1]) (kBlock 1 (kSeq (pieceK (C k) call F.ζ3 [1,1,1,1,1,0,1,0,0,1,1]) (kRound (ownOf (C k) F.ζ3 [1,1,1,1,1,0,1,0,0])))) .normal [(0,a0),(1,a1),(2,a2),(9,a9),(11,a11),(12,a12),(13,a13),(14,a14)] h
def ζ6w (k:Nat) (call:Caller) (a0 a1 a2 a9 a11 a12 a13 a14 a55:Value) (h:Heap):Res (AExit × Env) :=
 kSeq (pieceK (C k) call F.ζ3 [1,1,1,1,1,0,1,0,0,1,0,0,1,1]) (kBlock 1 (kSeq (pieceK (C k) call F.ζ3 [1,1,1,1,1,0,1,0,0,1,1]) (kRound (ownOf (C k) F.ζ3 [1,1,1,1,1,0,1,0,0])))) .normal [(0,a0),(1,a1),(2,a2),(9,a9),(11,a11),(12,a12),(13,a13),(14,a14),(55,a55)] h
def ζ3 (k:Nat) (call:Caller) (a0 a1 a2:Value) (h:Heap):Res Value :=
 (binR Prog .add 3 (.int .i64 4) a1 h).bind fun v1 h2 =>
 condV (some a2) (
 ζ6t k call a0 a1 a2 (.int .i64 6) h2)
 (
 ζ6u k call a0 a1 a2 v1 a2 h2)
theorem ζf5 (k:Nat) (a0 a1 a2:Value) (h:Heap):R (T k) F.ζ3 [a0,a1,a2] h = nrm .fz h (ζ3 k (R (T k)) a0 a1 a2 h) :=
 (R_body (t:=T k) (T_scott k) (by kernel_rfl) (by kernel_rfl) _ _).trans (by kernel_rfl)
theorem ζ9v (k:Nat) (call:Caller) (a0 a1 a2 a8:Value) (h:Heap):ζ6t k call a0 a1 a2 a8 h =
 (call F.ζ6 [a0,(.int .i64 2),a8,(.int .i64 2)] h).bind fun v3 h4 =>
 (extractR v3 0 h4).bind fun v5 h6 =>
 (extractR v3 1 h6).bind fun v7 h8 =>
 (extractR v3 2 h8).bind fun v9 h10 =>
 (buildSliceR Prog 36 0 [] h10).bind fun v11 h12 =>
 (loopN (ζ2w k call) loopFuel [(0,a0),(1,a1),(2,a2),(9,v5),(11,v9),(12,v11),(13,(.int .i64 0))] h12).bind fun r13 h14 =>
 ζ3p k call r13.1 r13.2 h14:=by kernel_rfl
theorem ζ9w (k:Nat) (call:Caller) (a0 a1 a2 a8 a17:Value) (h:Heap):ζ6u k call a0 a1 a2 a8 a17 h =
 (call F.ζ6 [a0,(.int .i64 2),a8,(.int .i64 2)] h).bind fun v15 h16 =>
 (extractR v15 0 h16).bind fun v17 h18 =>
 (extractR v15 1 h18).bind fun v19 h20 =>
 (extractR v15 2 h20).bind fun v21 h22 =>
 (buildSliceR Prog 36 0 [] h22).bind fun v23 h24 =>
 (loopN (ζ2w k call) loopFuel [(0,a0),(1,a1),(2,a2),(9,v17),(11,v21),(12,v23),(13,(.int .i64 0))] h24).bind fun r25 h26 =>
 ζ3p k call r25.1 r25.2 h26:=by kernel_rfl
theorem ζ3d (k:Nat) (call:Caller) (a0 a1 a2 a9 a11 a12 a13:Value) (h:Heap):ζ2w k call [(0,a0),(1,a1),(2,a2),(9,a9),(11,a11),(12,a12),(13,a13)] h =
 (builtinV Prog .len [23] [a9] h).bind fun v27 h28 =>
 (binR Prog .lss 3 a13 v27 h28).bind fun v29 h30 =>
 ((bif wantVal v29 true then Res.ok a11 h30 else Res.ok undef h30)).bind fun v31 h32 =>
 (condV (some v29) (Res.ok v31 h32) (Res.ok (.bool false) h32)).bind fun v33 h34 =>
 condV (some v33) (
 (indexAddrR Prog 23 a9 a13 h34).bindN fun v35 h36 =>
 (loadR Prog 3 v35 h36).bindN fun v37 h38 =>
 (binR Prog .add 3 v37 (.int .i64 2) h38).bindN fun v39 h40 =>
 (call F.ζ2 [a0,v39,(.int .i64 2)] h40).bindT (fun p43 h44 => (indexAddrR Prog 23 a9 a13 h40).bindN fun v45 h46 => (loadR Prog 3 v45 h46).bindN fun v47 h48 => (indexAddrR Prog 23 a9 a13 h48).bindN fun v49 h50 => (loadR Prog 3 v49 h50).bindN fun v51 h52 => (binR Prog .add 3 v51 (.int .i64 4) h52).bindN fun v53 h54 => (allocR Prog 173 h54).bindN fun v55 h56 => chkR ((okVal (loadR Prog 3 v45 h34) v47 && true) && ((okVal (loadR Prog 3 v49 h34) v51 && (okVal (loadR Prog 3 v49 h56) v51 && true)) && true)) (.panic p43 h44)) fun v41 h42 =>
 (indexAddrR Prog 23 a9 a13 h42).bindN fun v57 h58 =>
 (loadR Prog 3 v57 h58).bindN fun v59 h60 =>
 (call F.ζ2 [a0,v59,(.int .i64 2)] h60).bindT (fun p63 h64 => (indexAddrR Prog 23 a9 a13 h60).bindN fun v65 h66 => (loadR Prog 3 v65 h66).bindN fun v67 h68 => (binR Prog .add 3 v67 (.int .i64 4) h68).bindN fun v69 h70 => (allocR Prog 173 h70).bindN fun v71 h72 => chkR ((okVal (loadR Prog 3 v57 h34) v59 && true) && ((okVal (loadR Prog 3 v65 h34) v67 && (okVal (loadR Prog 3 v65 h42) v67 && (okVal (loadR Prog 3 v65 h72) v67 && true))) && true)) (.panic p63 h64)) fun v61 h62 =>
 (indexAddrR Prog 23 a9 a13 h62).bindN fun v73 h74 =>
 (loadR Prog 3 v73 h74).bindN fun v75 h76 =>
 (binR Prog .add 3 v75 (.int .i64 4) h76).bindN fun v77 h78 =>
 (buildR Prog 173 [(0,v41),(1,v61),(2,v77),(3,a1)] h78).bindN fun v79 h80 =>
 (allocR Prog 173 h80).bindN fun v81 h82 =>
 (storeR Prog 173 v81 v79 h82).bindN fun _v83 h84 =>
 chkR ((okVal (loadR Prog 3 v57 h34) v59 && true) && ((okVal (loadR Prog 3 v73 h34) v75 && (okVal (loadR Prog 3 v73 h42) v75 && (okVal (loadR Prog 3 v73 h82) v75 && true))) && true)) (
 condV (some a2) (
 (indexAddrR Prog 23 a9 a13 h84).bind fun v85 h86 =>
 (loadR Prog 3 v85 h86).bind fun v87 h88 =>
 (binR Prog .add 3 v87 (.int .i64 4) h88).bind fun v89 h90 =>
 (call F.ζ2 [a0,v89,(.int .i64 2)] h90).bind fun v91 h92 =>
 (fieldAddrR Prog 173 v81 2 h92).bind fun v93 h94 =>
 (storeR Prog 3 v93 v91 h94).bind fun _v95 h96 =>
 (fieldAddrR Prog 173 v81 4 h96).bind fun v97 h98 =>
 (storeR Prog 3 v97 a1 h98).bind fun _v99 h100 =>
 (builtinV Prog .len [31] [a0] h100).bind fun v101 h102 =>
 (fieldAddrR Prog 173 v81 2 h102).bind fun v103 h104 =>
 (loadR Prog 3 v103 h104).bind fun v105 h106 =>
 (fieldAddrR Prog 173 v81 1 h106).bind fun v107 h108 =>
 (loadR Prog 3 v107 h108).bind fun v109 h110 =>
 (fieldAddrR Prog 173 v81 0 h110).bind fun v111 h112 =>
 (loadR Prog 3 v111 h112).bind fun v113 h114 =>
 (binR Prog .sub 3 v109 v113 h114).bind fun v115 h116 =>
 (binR Prog .add 3 v115 (.int .i64 1) h116).bind fun v117 h118 =>
 (call F.ζn [v101,v105,v117,a1] h118).bind fun v119 h120 =>
 ζ6v k call a0 a1 a2 a9 v119 a12 a13 v81 h120)
 (
 ζ6w k call a0 a1 a2 a9 a11 a12 a13 v81 a2 h84)))
 (
 .ok ((.exit 0),[(0,a0),(1,a1),(2,a2),(9,a9),(11,a11),(12,a12),(13,a13),(32,v33)]) h34) :=
 (loopB_eq _ _).trans (by kernel_rfl)
theorem ζ9x (k:Nat) (call:Caller) (a0 a1 a2 a9 a11 a12 a13 a14:Value) (h:Heap):ζ6v k call a0 a1 a2 a9 a11 a12 a13 a14 h =
 (loadR Prog 173 a14 h).bind fun v121 h122 =>
 (buildSliceR Prog 36 1 [(0,v121)] h122).bind fun v123 h124 =>
 (builtinV Prog .append [36,36] [a12,v123] h124).bind fun v125 h126 =>
 (binR Prog .add 3 a13 (.int .i64 1) h126).bind fun v127 h128 =>
 .ok (.normal,[(0,a0),(1,a1),(2,a2),(9,a9),(11,a11),(12,v125),(13,v127)]) h128:=by kernel_rfl
theorem ζ9y (k:Nat) (call:Caller) (a0 a1 a2 a9 a11 a12 a13 a14 a55:Value) (h:Heap):ζ6w k call a0 a1 a2 a9 a11 a12 a13 a14 a55 h =
 (loadR Prog 173 a14 h).bind fun v129 h130 =>
 (buildSliceR Prog 36 1 [(0,v129)] h130).bind fun v131 h132 =>
 (builtinV Prog .append [36,36] [a12,v131] h132).bind fun v133 h134 =>
 (binR Prog .add 3 a13 (.int .i64 1) h134).bind fun v135 h136 =>
 .ok (.normal,[(0,a0),(1,a1),(2,a2),(9,a9),(11,a11),(12,v133),(13,v135)]) h136:=by kernel_rfl
theorem ζ4k (k:Nat) (call:Caller) (a0 a1 a2 a9 a11 a12 a13 a32:Value) (h:Heap):ζ3p k call (.exit 0) [(0,a0),(1,a1),(2,a2),(9,a9),(11,a11),(12,a12),(13,a13),(32,a32)] h =
 .ok (.tuple #[a12,a11]) h:=by kernel_rfl
def ζq (k:Nat) (call:Caller) (a0 a1 a2:Value) (h:Heap):Res Value :=
 (call F.ζ2 [a0,a1,(.int .i64 2)] h).bind fun v1 h2 =>
 (binR Prog .add 3 a1 (.int .i64 2) h2).bind fun v3 h4 =>
 (call F.ζ2 [a0,v3,(.int .i64 2)] h4).bind fun v5 h6 =>
 (binR Prog .lss 3 v1 (.int .i64 0) h6).bind fun v7 h8 =>
 ((bif wantVal v7 false then Res.ok v5 h8 else Res.ok undef h8)).bind fun v9 h10 =>
 ((bif wantVal v7 false then binR Prog .lss 3 v9 (.int .i64 0) h10 else Res.ok undef h10)).bind fun v11 h12 =>
 (condV (some v7) (Res.ok (.bool true) h12) (Res.ok v11 h12)).bind fun v13 h14 =>
 ((bif wantVal v13 false then Res.ok v1 h14 else Res.ok undef h14)).bind fun v15 h16 =>
 ((bif wantVal v13 false then Res.ok v5 h16 else Res.ok undef h16)).bind fun v17 h18 =>
 ((bif wantVal v13 false then binR Prog .add 3 v15 v17 h18 else Res.ok undef h18)).bind fun v19 h20 =>
 ((bif wantVal v13 false then binR Prog .gtr 3 v19 (.int .i64 65536) h20 else Res.ok undef h20)).bind fun v21 h22 =>
 (condV (some v13) (Res.ok (.bool true) h22) (Res.ok v21 h22)).bind fun v23 h24 =>
 ((bif wantVal v23 false then Res.ok a0 h24 else Res.ok undef h24)).bind fun v25 h26 =>
 ((bif wantVal v23 false then builtinV Prog .len [31] [v25] h26 else Res.ok undef h26)).bind fun v27 h28 =>
 ((bif wantVal v23 false then Res.ok a1 h28 else Res.ok undef h28)).bind fun v29 h30 =>
 ((bif wantVal v23 false then binR Prog .add 3 v29 (.int .i64 4) h30 else Res.ok undef h30)).bind fun v31 h32 =>
 ((bif wantVal v23 false then Res.ok v5 h32 else Res.ok undef h32)).bind fun v33 h34 =>
 ((bif wantVal v23 false then Res.ok a2 h34 else Res.ok undef h34)).bind fun v35 h36 =>
 ((bif wantVal v23 false then call F.ζn [v27,v31,v33,v35] h36 else Res.ok undef h36)).bind fun v37 h38 =>
 ((bif wantVal v23 false then unR .not v37 h38 else Res.ok undef h38)).bind fun v39 h40 =>
 (condV (some v23) (Res.ok (.bool true) h40) (Res.ok v39 h40)).bind fun v41 h42 =>
 condV (some v41) (
 .ok (.tuple #[(.slice none 0 0),(.bool false)]) h42)
 (
 (binR Prog .eql 3 v5 (.int .i64 0) h42).bind fun v43 h44 =>
 condV (some v43) (
 (buildSliceR Prog 36 0 [] h44).bind fun v45 h46 =>
 .ok (.tuple #[v45,(.bool true)]) h46)
 (
 (binR Prog .add 3 v1 v5 h44).bind fun v47 h48 =>
 (binR Prog .sub 3 v47 (.int .i64 1) h48).bind fun v49 h50 =>
 (binR Prog .add 3 a1 (.int .i64 4) h50).bind fun v51 h52 =>
 (buildR Prog 173 [(0,v1),(1,v49),(2,v51),(3,a2),(4,a2)] h52).bind fun v53 h54 =>
 (buildSliceR Prog 36 1 [(0,v53)] h54).bind fun v55 h56 =>
 .ok (.tuple #[v55,(.bool true)]) h56))
theorem ζgd (k:Nat) (a0 a1 a2:Value) (h:Heap):R (T k) F.ζq [a0,a1,a2] h = nrm .fz h (ζq k (R (T k)) a0 a1 a2 h) :=
 (R_body (t:=T k) (T_scott k) (by kernel_rfl) (by kernel_rfl) _ _).trans (by kernel_rfl)
def ζ74 (k:Nat) (call:Caller):Env → Heap → Res (AExit × Env):=loopB (C k) call F.ζ28 [1,0,1,0,0]
def ζ62 (k:Nat) (call:Caller):Kont Value:=kBlock 0 (kSeq (pieceK (C k) call F.ζ28 [1,1]) (kDone Prog (resOf Prog F.ζ28)))
def ζ28 (k:Nat) (call:Caller) (a0 a1:Value) (h:Heap):Res Value :=
 (boxR a0 h).bind fun v1 h2 =>
 (loopN (ζ74 k call) loopFuel [(1,a1),(2,v1),(6,(.int .i64 0))] h2).bind fun r3 h4 =>
 ζ62 k call r3.1 r3.2 h4
theorem ζkb (k:Nat) (a0 a1:Value) (h:Heap):R (T k) F.ζ28 [a0,a1] h = nrm .gc h (ζ28 k (R (T k)) a0 a1 h) :=
 (R_body (t:=T k) (T_scott k) (by kernel_rfl) (by kernel_rfl) _ _).trans (by kernel_rfl)
theorem ζ3k (k:Nat) (call:Caller) (a1 a2 a6:Value) (h:Heap):ζ74 k call [(1,a1),(2,a2),(6,a6)] h =
 (fieldAddrR Prog 38 a2 1 h).bind fun v5 h6 =>
 (loadR Prog 36 v5 h6).bind fun v7 h8 =>
 (builtinV Prog .len [36] [v7] h8).bind fun v9 h10 =>
 (binR Prog .lss 3 a6 v9 h10).bind fun v11 h12 =>
 condV (some v11) (
 (fieldAddrR Prog 38 a2 1 h12).bind fun v13 h14 =>
 (loadR Prog 36 v13 h14).bind fun v15 h16 =>
 (indexAddrR Prog 36 v15 a6 h16).bind fun v17 h18 =>
 (loadR Prog 173 v17 h18).bind fun v19 h20 =>
 (allocR Prog 173 h20).bind fun v21 h22 =>
 (storeR Prog 173 v21 v19 h22).bind fun _v23 h24 =>
 (fieldAddrR Prog 173 v21 0 h24).bind fun v25 h26 =>
 (loadR Prog 3 v25 h26).bind fun v27 h28 =>
 (binR Prog .geq 3 a1 v27 h28).bind fun v29 h30 =>
 ((bif wantVal v29 true then Res.ok a1 h30 else Res.ok undef h30)).bind fun v31 h32 =>
 ((bif wantVal v29 true then fieldAddrR Prog 173 v21 1 h32 else Res.ok undef h32)).bind fun v33 h34 =>
 ((bif wantVal v29 true then loadR Prog 3 v33 h34 else Res.ok undef h34)).bind fun v35 h36 =>
 ((bif wantVal v29 true then binR Prog .leq 3 v31 v35 h36 else Res.ok undef h36)).bind fun v37 h38 =>
 (condV (some v29) (Res.ok v37 h38) (Res.ok (.bool false) h38)).bind fun v39 h40 =>
 condV (some v39) (
 (fieldAddrR Prog 38 a2 0 h40).bind fun v41 h42 =>
 (loadR Prog 31 v41 h42).bind fun v43 h44 =>
 (fieldAddrR Prog 173 v21 2 h44).bind fun v45 h46 =>
 (loadR Prog 3 v45 h46).bind fun v47 h48 =>
 (fieldAddrR Prog 173 v21 0 h48).bind fun v49 h50 =>
 (loadR Prog 3 v49 h50).bind fun v51 h52 =>
 (binR Prog .sub 3 a1 v51 h52).bind fun v53 h54 =>
 (fieldAddrR Prog 173 v21 4 h54).bind fun v55 h56 =>
 (loadR Prog 3 v55 h56).bind fun v57 h58 =>
 (binR Prog .mul 3 v53 v57 h58).bind fun v59 h60 =>
 (binR Prog .add 3 v47 v59 h60).bind fun v61 h62 =>
 (fieldAddrR Prog 173 v21 3 h62).bind fun v63 h64 =>
 (loadR Prog 3 v63 h64).bind fun v65 h66 =>
 (call F.ζ2 [v43,v61,v65] h66).bind fun v67 h68 =>
 .ok (.ret,[(4,v67),(5,(.bool true))]) h68)
 (
 (binR Prog .add 3 a6 (.int .i64 1) h40).bind fun v69 h70 =>
 .ok (.normal,[(1,a1),(2,a2),(6,v69)]) h70))
 (
 .ok ((.exit 0),[(1,a1),(2,a2),(6,a6),(12,v11)]) h12) :=
 (loopB_eq _ _).trans (by kernel_rfl)
theorem ζgc (k:Nat) (call:Caller) (a4 a5:Value) (h:Heap):ζ62 k call .ret [(4,a4),(5,a5)] h =
 .ok (.tuple #[a4,a5]) h:=by kernel_rfl
theorem ζf4 (k:Nat) (call:Caller) (a1 a2 a6 a12:Value) (h:Heap):ζ62 k call (.exit 0) [(1,a1),(2,a2),(6,a6),(12,a12)] h =
 .ok (.tuple #[(.int .i64 0),(.bool false)]) h:=by kernel_rfl
end
end Go.Sw
end
section
namespace Go.Sw
open Go.RowKit
abbrev encRP (r:RP):List Value:=[.int .i64 r.first,.int .i64 r.last,.int .i64 r.pos,.int .i64 r.size,.int .i64 r.step]
theorem ζ7l (r:RP):(encRP r).length = 5:=rfl
theorem ζeo (l:List RP):∀ p,p ∈ l → ∀ v,v ∈ encRP p → Still v:=fun p _ v hv => by
 simp [encRP] at hv;rcases hv with rfl | rfl | rfl | rfl | rfl <;> trivial
theorem Flat.RPs (l:List RP):Flat (Go.Sw.lv encRP l):=.lv fun p _ => .cons (.int _ _) (.cons (.int _ _) (.cons (.int _ _) (.cons (.int _ _) (.cons (.int _ _) .nil))))
def PartsAre (o:Option (List RP)) (v:Value):Prop:=∃ l,v = .tuple #[lv encRP l,.bool o.isSome] ∧ (∀ x,o = some x → l = x) ∧ l.length ≤ 65536
theorem ζ81 (l:List RP) (x:Bool):Flat (.tuple #[lv encRP l,.bool x]):=.tupleL (.cons (Flat.RPs _) (.cons (.bool _) .nil))
def segE (b:List Int) (z:Int) (each:Bool) (p:Int):RP:=if each then ⟨gU b (p + 2) 2,gU b p 2,gU b (p + 4) 2,z,z⟩ else ⟨gU b (p + 2) 2,gU b p 2,p + 4,z,0⟩
def segB (b:List Int) (z:Int) (each:Bool) (p:Int):Bool:=if each then rowsB b.length (gU b (p + 4) 2) (gU b p 2 - gU b (p + 2) 2 + 1) z else true
theorem segR_eq (b:List Int) (z:Int) (each:Bool) (p:Int):segR b z each p = if segB b z each p then some (segE b z each p) else none:=by
 unfold segR segB segE;cases each <;> simp
theorem ζox {β:Type} {f:Int → Option β} {l:List Int} {j:Nat} {p:Int} (hp:l[j]? = some p):mapO f (l.take (j + 1)) = (mapO f (l.take j)).bind fun r => (f p).map fun y => r ++ [y]:=by
 have h:∀ (a:List Int),mapO f (a ++ [p]) = (mapO f a).bind fun r => (f p).map fun y => r ++ [y]:=by
  intro a
  induction a with
  | nil => simp [mapO]; cases f p <;> rfl
  | cons x a ih =>
   simp only [List.cons_append,mapO,ih];cases f x with
   | none => rfl
   | some y =>
    simp only [Option.bind_some];cases mapO f a with
    | none => rfl
    | some r => simp only [Option.bind_some,Option.map_some]; cases f p <;> rfl
 rw [ζ1v hp,h]
theorem ζm9 {β:Type} {f:Int → Option β} {l:List Int} {j:Nat} (h:mapO f (l.take j) = none):mapO f l = none:=by
 have:∀ (a b:List Int),mapO f a = none → mapO f (a ++ b) = none:=by
  intro a
  induction a with
  | nil => intro b h; cases h
  | cons x a ih =>
   intro b h;simp only [List.cons_append,mapO] at h ⊢;cases hx:f x with
   | none => rfl
   | some y =>
    rw [hx] at h;simp only [Option.bind_some,Option.map_eq_none_iff] at h ⊢;exact ih b h
 rw [← List.take_append_drop j l];exact this _ _ h
theorem ζnl (k:Nat) (b:List Int) (hb:Byt b) (z:Int) (hz:z = 2 ∨ z = 4) (each:Bool) (hl:b.length < 2 ^ 31) (H:Heap) :
  ∃ v,R (T k) F.ζ3 [lv encB b,.int .i64 z,.bool each] H = .ok v H ∧ PartsAre (refSegS b z each) v:=by
 have hU:=fun j H' => refU_run k (H:=H') (Sl.lv H' 1 b) hb j 2 (by omega) (by omega);have hRows:=fun i n H' => ζ9k k b.length i n z (by omega) (by omega) H';obtain ⟨need,hneed⟩:∃ need:Int,need = if each then 6 else 4 + z:=⟨_,rfl⟩
 have hr5:∀ H',R (T k) F.ζ6 [lv encB b,.int .i64 2,.int .i64 need,.int .i64 2] H' = .ok (rowsO b 2 need 2) H':=fun H' => ζnh k b hb 2 need 2 hl (by omega) (by omega) (by subst hneed; split <;> omega) (by subst hneed; split <;> omega) H'
 -- the rows
 obtain ⟨ps,ok,zz,hrow,hps,hok⟩:∃ (ps:List Int) (ok:Bool) (zz:Int),rowsO b 2 need 2 = .tuple #[lv encI ps,.int .i64 zz,.bool ok] ∧ (∀ p,p ∈ ps → 0 ≤ p ∧ p < 2 ^ 34) ∧
   ps.length < 65536 ∧ refSegS b z each = (if ok then mapO (segR b z each) ps else none) ∧ (ok = false → ps = []):=by
  unfold rowsO refSegS;rw [← hneed];cases ht:takeS b 2 need 2 with
  | none => exact ⟨[],false,0,rfl,(fun p h => by cases h),by simp,rfl,fun _ => rfl⟩
  | some rows =>
   obtain ⟨s,n,h1,h2,h3,h4,h5,h6⟩:=ζh8 ht;have hs:=uS_two hb h1;have hn:=uS_two hb h2;rw [gU_some h1];refine ⟨posS 2 s rows.length,true,s,rfl,fun p hp => ?_,by simp; omega,rfl,fun h => by cases h⟩;obtain ⟨i,hi⟩:=List.getElem?_of_mem hp;have hlt:=(List.getElem?_eq_some_iff.1 hi).1;simp at hlt;rw [posS_get _ _ _ _ hlt] at hi;injection hi with hi;have:=Int.mul_nonneg hs.1 (show (0:Int) ≤ (i:Nat) by omega);have:s * (i:Nat) ≤ 65536 * 65536:=Int.mul_le_mul (by omega) (by omega) (by omega) (by omega);omega
 obtain ⟨hplen,href,hoknil⟩:=hok;rw [href]
 obtain ⟨x,e',H1,hr,rfl,hx,a,s,out,fl,rfl,ho,hq⟩:=loop_up (body:=ζ2w k (R (T k))) ps.length
  (fun j e H' => Ext H H' ∧ ∃ s out fl,e = [(0,lv encB b),(1,.int .i64 z),(2,.bool each),(9,lv encI ps),(11,.bool fl),(12,s),(13,.int .i64 j)] ∧ Own H H' 5 s encRP out ∧
   out.length ≤ j ∧ ((ok = true ∧ fl = true ∧ mapO (segR b z each) (ps.take j) = some out) ∨ (fl = false ∧ (ok = false ∨ mapO (segR b z each) ps = none))))
  (fun x e H' => x = .exit 0 ∧ Ext H H' ∧ ∃ a s out fl,e = [(0,lv encB b),(1,.int .i64 z),(2,.bool each),(9,lv encI ps),(11,.bool fl),(12,s),(13,a),(32,.bool false)] ∧ Own H H' 5 s encRP out ∧
   out.length ≤ ps.length ∧ ((ok = true ∧ fl = true ∧ mapO (segR b z each) ps = some out) ∨ (fl = false ∧ (ok = false ∨ mapO (segR b z each) ps = none))))
  (e0:=[(0,lv encB b),(1,.int .i64 z),(2,.bool each),(9,lv encI ps),(11,.bool ok),(12,bareV),(13,.int .i64 0)]) (H0:=H)
  ⟨Ext.refl H,bareV,[],ok,rfl,Own.bare _ _ _,by simp,by cases ok; exact .inr ⟨rfl,.inl rfl⟩; exact .inl ⟨rfl,rfl,rfl⟩⟩ (by omega)
  (fun j e H' hj ⟨hx,s,out,fl,he,ho,hol,hq⟩ => by
   subst he;have hlt:(j:Int) < ps.length:=by omega
   rcases hq with ⟨hok,rfl,hm⟩ | ⟨rfl,hn⟩
   rotate_left
   ·refine .inr ⟨.exit 0,_,H',?_,by simp,rfl,hx,.int .i64 j,s,out,false,rfl,ho,by omega,.inr ⟨rfl,hn⟩⟩;rw [ζ3d];simp -implicitDefEqProofs (disch:=omega) [hlt]
   ·obtain ⟨p,hp⟩:∃ p,ps[j]? = some p:=⟨_,List.getElem?_eq_getElem hj⟩
    have hpb:=hps p (List.mem_of_getElem? hp);have i1:=fun H' => ixS_lvN encI_len ps .i64 j p hp H';have u0:=fun H' => hU p H';have u2:=fun H' => hU (p + 2) H';have u4:=fun H' => hU (p + 4) H';have g0:=gU_two hb p;have g2:=gU_two hb (p + 2);have g4:=gU_two hb (p + 4);obtain ⟨f,hf⟩:∃ f,gU b (p + 2) 2 = f:=⟨_,rfl⟩
    obtain ⟨l,hll⟩:∃ l,gU b p 2 = l:=⟨_,rfl⟩
    obtain ⟨q,hqq⟩:∃ q,gU b (p + 4) 2 = q:=⟨_,rfl⟩
    rw [hf] at g2;rw [hll] at g0;rw [hqq] at g4;have u0:∀ H',R (T k) F.ζ2 [lv encB b,.int .i64 p,.int .i64 2] H' = .ok (.int .i64 l) H':=fun H' => by rw [u0]; unfold gU at hll; rw [hll]
    have u2:∀ H',R (T k) F.ζ2 [lv encB b,.int .i64 (p + 2),.int .i64 2] H' = .ok (.int .i64 f) H':=fun H' => by rw [u2]; unfold gU at hf; rw [hf]
    have u4:∀ H',R (T k) F.ζ2 [lv encB b,.int .i64 (p + 4),.int .i64 2] H' = .ok (.int .i64 q) H':=fun H' => by rw [u4]; unfold gU at hqq; rw [hqq]
    have hE:segE b z each p = if each then ⟨f,l,q,z,z⟩ else ⟨f,l,p + 4,z,0⟩:=by unfold segE; rw [hf,hll,hqq]
    have hB:segB b z each p = if each then rowsB b.length q (l - f + 1) z else true:=by unfold segB; rw [hf,hll,hqq]
    have hx1:Ext H' (H'.push ⟨encRP (segE b z each p),1,false⟩):=(Ext.refl H').push _;obtain ⟨s2,H2,e2,o2,x2⟩:=ap1_own (bytes:=40) ζ7l (ho.up hx1) (hx.trans hx1) (segE b z each p) (by omega) (by decide);refine .inl ⟨_,H2,?_,x2,s2,out ++ [segE b z each p],segB b z each p,rfl,o2,by simp; omega,?_⟩
    ·rw [ζ3d];rw [hE] at e2;rw [hB];cases each with
     | false =>
      simp only [Bool.false_eq_true,if_false,hn_push,encRP] at e2 ⊢;simp -implicitDefEqProofs (disch:=omega) [hlt,i1,u0,u2,ζ9y,e2]
     | true =>
      simp only [if_true,hn_push,encRP] at e2 ⊢;simp -implicitDefEqProofs (disch:=omega) [hlt,i1,u0,u2,u4,hRows,ζ9x,e2]
    ·cases hsb:segB b z each p with
     | true =>
      refine .inl ⟨hok,rfl,?_⟩;rw [ζox hp,hm,segR_eq,hsb];rfl
     | false =>
      refine .inr ⟨rfl,.inr (ζm9 (j:=j + 1) ?_)⟩;rw [ζox hp,hm,segR_eq,hsb];rfl)
  (fun e H' ⟨hx,s,out,fl,he,ho,hol,hq⟩ => by
   subst he;refine ⟨.exit 0,_,H',?_,by simp,rfl,hx,.int .i64 ps.length,s,out,fl,rfl,ho,hol,by rw [List.take_length] at hq; exact hq⟩;rw [ζ3d];simp -implicitDefEqProofs)
 obtain ⟨L,hf⟩:=ho.freeze ζ7l (ζeo _) 5;have hall:ζ3 k (R (T k)) (lv encB b) (.int .i64 z) (.bool each) H = .ok (.tuple #[s,.bool fl]) H1:=by
  cases each with
  | false =>
   simp only [Bool.false_eq_true,if_false] at hneed;subst hneed;have hr5':=hr5;rw [hrow] at hr5';rcases hz with rfl | rfl <;> simp only [show (4:Int) + 2 = 6 from rfl,show (4:Int) + 4 = 8 from rfl] at hr5' <;> simp -implicitDefEqProofs (disch:=omega) [ζ3,ζ9w,hr5',hr,ζ4k]
  | true =>
   simp only [if_true] at hneed;subst hneed;have hr5':=hr5;rw [hrow] at hr5';rcases hz with rfl | rfl <;> simp -implicitDefEqProofs (disch:=omega) [ζ3,ζ9v,hr5',hr,ζ4k]
 refine ⟨.tuple #[lv encRP out,.bool fl],?_,?_⟩
 ·rw [ζf5];exact nrm_fz hall (fz_tuple (l:=[s,.bool fl]) (ζw hf (mapF_one (L:=[]) rfl))) hx (ζ81 _ _).alive
 ·rcases hq with ⟨hol,⟨rfl,rfl,hm⟩ | ⟨rfl,hn⟩⟩
  ·exact ⟨out,by simp [hm],fun x h => (by simp [hm] at h; exact h),by omega⟩
  ·have:(if ok = true then mapO (segR b z each) ps else none) = none:=by
    rcases hn with rfl | hn
    ·rfl
    ·rw [hn]; split <;> rfl
   rw [this];exact ⟨out,rfl,fun x h => (by cases h),by omega⟩
end Go.Sw
end
section
namespace Go.Sw
open Go.RowKit
theorem refNo {H:Heap} {r:Res Value} (h:r = .ok (.tuple #[.slice none 0 0,.bool false]) H):nrm .fz H r = .ok (.tuple #[lv encRP [],.bool false]) H :=
 nrm_fz (L:=[]) h rfl (Ext.refl H) (ζ81 [] false).alive
theorem PartsAre.no:PartsAre none (.tuple #[lv encRP [],.bool false]):=⟨[],rfl,fun x h => (by cases h),by simp⟩
theorem ζnq (k:Nat) (b:List Int) (hb:Byt b) (i z:Int) (hz:z = 1 ∨ z = 2 ∨ z = 4) (hi:0 ≤ i ∧ i ≤ 4) (hl:b.length < 2 ^ 31) (H:Heap) :
  ∃ v,R (T k) F.ζq [lv encB b,.int .i64 i,.int .i64 z] H = .ok v H ∧ PartsAre (refTrimS b i z) v:=by
 have hU:=fun j H' => refU_run k (H:=H') (Sl.lv H' 1 b) hb j 2 (by omega) (by omega);have hR:=fun n H' => ζ9k k b.length (i + 4) n z (by omega) (by omega) H';rw [ζgd];unfold refTrimS;cases h1:uS b i 2 with
 | none =>
  refine ⟨_,refNo ?_,.no⟩;have u1:=fun H' => hU i H';rw [h1] at u1;have g2:=gU_two hb (i + 2);unfold gU at g2;simp -implicitDefEqProofs (disch:=omega) [ζq,u1,hU]
 | some f =>
  have u1:=fun H' => hU i H';rw [h1] at u1;have hf:=uS_two hb h1;have hf':¬ f < 0:=by omega
  cases h2:uS b (i + 2) 2 with
  | none =>
   refine ⟨_,refNo ?_,.no⟩;have u2:=fun H' => hU (i + 2) H';rw [h2] at u2;simp -implicitDefEqProofs (disch:=omega) [ζq,u1,u2,hf']
  | some n =>
   have u2:=fun H' => hU (i + 2) H';rw [h2] at u2;have hn:=uS_two hb h2;have hn':¬ n < 0:=by omega
   simp only [Option.bind_some,Option.getD_some] at u1 u2 ⊢;by_cases h3:f + n ≤ 65536
   ·have h3':¬ f + n > 65536:=by omega
    cases h4:rowsB b.length (i + 4) n z with
    | false =>
     rw [if_neg (by simp)];refine ⟨_,refNo ?_,.no⟩;have hR4:=hR n;rw [h4] at hR4;simp -implicitDefEqProofs (disch:=omega) [ζq,u1,u2,hf',hn',h3',hR4]
    | true =>
     rw [if_pos ⟨h3,rfl⟩];have hR4:=hR n;rw [h4] at hR4;by_cases h0:n = 0
     ·subst h0;rw [if_pos rfl];have h3'':¬ 65536 < f:=by omega
      refine ⟨.tuple #[lv encRP [],.bool true],nrm_fz (v:=.tuple #[bareV,.bool true]) (H':=H) (L:=[]) ?_ rfl (Ext.refl H) (ζ81 [] true).alive,[],rfl,fun x h => (by injection h),by simp⟩;simp -implicitDefEqProofs (disch:=omega) [ζq,u1,u2,hf',h3'',hR4]
     ·rw [if_neg h0];have h0':(n == 0) = false:=by simpa using h0
      obtain ⟨r,hr⟩:∃ r:RP,r = ⟨f,f + n - 1,i + 4,z,z⟩:=⟨_,rfl⟩
      rw [← hr];have ho:Own H (H.push ⟨encRP r,5,false⟩) 5 (.slice (some ⟨H.n,0,none⟩) 1 1) encRP [r]:=.inr ⟨H.n,rfl,by omega,ζe _ _ _ rfl⟩;obtain ⟨L,hfz⟩:=ho.freeze ζ7l (ζeo _) 5;refine ⟨.tuple #[lv encRP [r],.bool true],nrm_fz (v:=.tuple #[.slice (some ⟨H.n,0,none⟩) 1 1,.bool true]) (H':=H.push ⟨encRP r,5,false⟩) ?_ (fz_tuple (l:=[.slice (some ⟨H.n,0,none⟩) 1 1,.bool true]) (ζw hfz (mapF_one (L:=[]) rfl))) ((Ext.refl H).push _) (ζ81 [r] true).alive,[r],rfl,fun x h => (by injection h),by simp⟩;subst hr;simp -implicitDefEqProofs (disch:=omega) [ζq,u1,u2,hf',hn',h3',hR4,h0']
   ·rw [if_neg (fun h => h3 h.1)];have h3':f + n > 65536:=by omega
    refine ⟨_,refNo ?_,.no⟩;simp -implicitDefEqProofs (disch:=omega) [ζq,u1,u2,hf',hn',h3']
theorem PartsAre.val {o:Option (List RP)} {v:Value} (h:PartsAre o v):∃ l ok,v = .tuple #[lv encRP l,.bool ok] ∧ o = (if ok then some l else none) ∧ l.length ≤ 65536:=by
 obtain ⟨l,rfl,h1,h2⟩:=h;cases o with
 | none => exact ⟨l,false,rfl,rfl,h2⟩
 | some x => exact ⟨l,true,rfl,by simp [h1 x rfl],h2⟩
theorem PartsAre.pass {o:Option (List RP)} {l:List RP} {ok:Bool} (h:o = (if ok then some l else none)) (hl:l.length ≤ 65536):PartsAre o (.tuple #[lv encRP l,.bool ok]):=by
 subst h;cases ok with
 | true => exact ⟨l,rfl,fun x h => (by injection h),hl⟩
 | false => exact ⟨l,rfl,fun x h => (by cases h),hl⟩
theorem ζiw {H:Heap} {r:Res Value} {l:List RP} {ok:Bool} (h:r = .ok (.tuple #[lv encRP l,.bool ok]) H):nrm .fz H r = .ok (.tuple #[lv encRP l,.bool ok]) H :=
 nrm_fz (L:=[]) h rfl (Ext.refl H) (ζ81 l ok).alive
theorem ζq2 (k:Nat) (b:List Int) (hb:Byt b) (g z:Int) (hg:1 ≤ g ∧ g ≤ 65535) (hz:z = 2 ∨ z = 4) (hl:b.length < 2 ^ 31) (H:Heap) :
  ∃ v,R (T k) F.ζh [lv encB b,.int .i64 g,.int .i64 z] H = .ok v H ∧ PartsAre (refPartsS b g z (gU b 0 2)) v:=by
 have hU:=fun j H' => refU_run k (H:=H') (Sl.lv H' 1 b) hb j 2 (by omega) (by omega);have hR:=fun H' => ζ9k k b.length 2 g z (by omega) (by omega) H';rw [ζhp];have hu0:∀ H',R (T k) F.ζ2 [lv encB b,.int .i64 0,.int .i64 2] H' = .ok (.int .i64 (gU b 0 2)) H':=fun H' => hU 0 H';have hu2:∀ H',R (T k) F.ζ2 [lv encB b,.int .i64 2,.int .i64 2] H' = .ok (.int .i64 (gU b 2 2)) H':=fun H' => hU 2 H';generalize gU b 0 2 = fmt at hu0 ⊢;unfold refPartsS;by_cases h0:fmt = 0
 ·subst h0;rw [if_pos rfl];obtain ⟨r,hr⟩:∃ r:RP,r = ⟨0,g - 1,2,z,z⟩:=⟨_,rfl⟩
  rw [← hr];have ho:Own H (H.push ⟨encRP r,5,false⟩) 5 (.slice (some ⟨H.n,0,none⟩) 1 1) encRP [r]:=.inr ⟨H.n,rfl,by omega,ζe _ _ _ rfl⟩;obtain ⟨L,hfz⟩:=ho.freeze ζ7l (ζeo _) 5;refine ⟨.tuple #[lv encRP [r],.bool (rowsB b.length 2 g z)],nrm_fz (v:=.tuple #[.slice (some ⟨H.n,0,none⟩) 1 1,.bool (rowsB b.length 2 g z)]) (H':=H.push ⟨encRP r,5,false⟩) ?_ (fz_tuple (l:=[.slice (some ⟨H.n,0,none⟩) 1 1,.bool (rowsB b.length 2 g z)]) (ζw hfz (mapF_one (L:=[]) rfl))) ((Ext.refl H).push _) (ζ81 [r] _).alive,.pass rfl (by simp)⟩;subst hr;simp -implicitDefEqProofs (disch:=omega) [ζh,hu0,hR]
 rw [if_neg h0];have h0':(fmt == 0) = false:=by simpa using h0
 by_cases h2:fmt = 2
 ·subst h2;rw [if_pos rfl];obtain ⟨v,e,hp⟩:=ζnl k b hb z hz false hl H;obtain ⟨l,ok,rfl,ho,hll⟩:=hp.val;refine ⟨_,ζiw (l:=l) (ok:=ok) ?_,.pass ho hll⟩;simp -implicitDefEqProofs (disch:=omega) [ζh,hu0,e]
 rw [if_neg h2];have h2':(fmt == 2) = false:=by simpa using h2
 by_cases h4:fmt = 4
 ·subst h4;rw [if_pos rfl];obtain ⟨v,e,hp⟩:=ζnl k b hb z hz true hl H;obtain ⟨l,ok,rfl,ho,hll⟩:=hp.val;refine ⟨_,ζiw (l:=l) (ok:=ok) ?_,.pass ho hll⟩;simp -implicitDefEqProofs (disch:=omega) [ζh,hu0,e]
 rw [if_neg h4];have h4':(fmt == 4) = false:=by simpa using h4
 by_cases h6:fmt = 6
 ·subst h6;rw [if_pos rfl];have hr5:=fun H' => ζnh k b hb 2 (2 + z) 1 hl (by omega) (by omega) (by omega) (by omega) H'
  obtain ⟨ps,ok,zz,hrow,hps,hpl,hok⟩:∃ (ps:List Int) (ok:Bool) (zz:Int),rowsO b 2 (2 + z) 1 = .tuple #[lv encI ps,.int .i64 zz,.bool ok] ∧ (∀ p,p ∈ ps → 0 ≤ p ∧ p < 2 ^ 34) ∧
    ps.length < 65536 ∧ refOneS b z = (if ok then some (ps.map (oneR b z)) else none):=by
   unfold rowsO refOneS;cases ht:takeS b 2 (2 + z) 1 with
   | none => exact ⟨[],false,0,rfl,(fun p h => by cases h),by simp,rfl⟩
   | some rows =>
    obtain ⟨s,n,h1,h2,h3,h4,h5,h6⟩:=ζh8 ht;have hs:=uS_two hb h1;have hn:=uS_two hb h2;rw [gU_some h1];refine ⟨posS 2 s rows.length,true,s,rfl,fun p hp => ?_,by simp; omega,by rw [Option.map_some]; rfl⟩;obtain ⟨j,hj⟩:=List.getElem?_of_mem hp;have hjl:=(List.getElem?_eq_some_iff.1 hj).1;rw [posS_len] at hjl;rw [posS_get _ _ _ _ hjl] at hj;injection hj with hj;have h7:=Int.mul_nonneg hs.1 (show (0:Int) ≤ (j:Int) by omega);have h8:s * (j:Int) ≤ 65536 * 65536:=Int.mul_le_mul (by omega) (by omega) (by omega) (by omega);omega
  rw [hrow] at hr5;rw [hok]
  obtain ⟨x,e',H1,hr,rfl,hx,a,s,rfl,ho⟩:=loop_up (body:=ζ5i k (R (T k))) ps.length
   (fun j e H' => Ext H H' ∧ ∃ s,e = [(0,lv encB b),(2,.int .i64 z),(8,lv encI ps),(10,.bool ok),(11,s),(12,.int .i64 j)] ∧ Own H H' 5 s encRP ((ps.take j).map (oneR b z)))
   (fun x e H' => x = .exit 1 ∧ Ext H H' ∧ ∃ a s,e = [(0,lv encB b),(2,.int .i64 z),(8,lv encI ps),(10,.bool ok),(11,s),(12,a),(58,.bool false)] ∧ Own H H' 5 s encRP (ps.map (oneR b z)))
   (e0:=[(0,lv encB b),(2,.int .i64 z),(8,lv encI ps),(10,.bool ok),(11,bareV),(12,.int .i64 0)]) (H0:=H) ⟨Ext.refl H,_,rfl,Own.bare _ _ _⟩ (by omega)
   (fun j e H' hj ⟨hx,s,he,ho⟩ => by
    subst he;have hlt:(j:Int) < ps.length:=by omega
    obtain ⟨p,hp⟩:∃ p,ps[j]? = some p:=⟨_,List.getElem?_eq_getElem hj⟩
    have hpb:=hps p (List.mem_of_getElem? hp);have i1:=fun H' => ixS_lvN encI_len ps .i64 j p hp H';have u0:∀ H',R (T k) F.ζ2 [lv encB b,.int .i64 p,.int .i64 2] H' = .ok (.int .i64 (gU b p 2)) H':=fun H' => hU p H';obtain ⟨s2,H2,e2,o2,x2⟩:=ap1_own (bytes:=40) ζ7l ho hx (oneR b z p) (by simp; omega) (by decide);refine .inl ⟨_,H2,?_,x2,s2,rfl,by rw [ζ1v hp,List.map_append]; exact o2⟩;rw [ζ6s];unfold encRP oneR at e2;simp -implicitDefEqProofs (disch:=omega) [hlt,i1,u0,e2])
   (fun e H' ⟨hx,s,he,ho⟩ => by
    subst he;refine ⟨.exit 1,_,H',?_,by simp,rfl,hx,.int .i64 ps.length,s,rfl,by rw [List.take_length] at ho; exact ho⟩;rw [ζ6s];simp -implicitDefEqProofs)
  obtain ⟨L,hf⟩:=ho.freeze ζ7l (ζeo _) 5;refine ⟨.tuple #[lv encRP (ps.map (oneR b z)),.bool ok],nrm_fz (v:=.tuple #[s,.bool ok]) (H':=H1) ?_ (fz_tuple (l:=[s,.bool ok]) (ζw hf (mapF_one (L:=[]) rfl))) hx (ζ81 _ _).alive,.pass rfl (by simp; omega)⟩;rcases hz with rfl | rfl <;> simp -implicitDefEqProofs (disch:=omega) at hr5 <;> simp -implicitDefEqProofs (disch:=omega) [ζh,hu0,hr5,hr,ζbb]
 rw [if_neg h6];have h6':(fmt == 6) = false:=by simpa using h6
 by_cases h8:fmt = 8
 ·subst h8;rw [if_pos rfl];obtain ⟨v,e,hp⟩:=ζnq k b hb 2 z (by omega) (by omega) hl H;obtain ⟨l,ok,rfl,ho,hll⟩:=hp.val;refine ⟨_,ζiw (l:=l) (ok:=ok) ?_,.pass ho hll⟩;simp -implicitDefEqProofs (disch:=omega) [ζh,hu0,e]
 rw [if_neg h8];have h8':(fmt == 8) = false:=by simpa using h8
 by_cases h10:fmt = 10
 ·subst h10;rw [if_pos rfl];have hno:¬ (gU b 2 2 = 1 ∨ gU b 2 2 = 2 ∨ gU b 2 2 = 4) → ζh k (R (T k)) (lv encB b) (.int .i64 g) (.int .i64 z) H = .ok (.tuple #[.slice none 0 0,.bool false]) H:=fun hu => by
   have u1:(gU b 2 2 == 1) = false:=by simpa using fun h => hu (.inl h)
   have u2:(gU b 2 2 == 2) = false:=by simpa using fun h => hu (.inr (.inl h))
   have u4:(gU b 2 2 == 4) = false:=by simpa using fun h => hu (.inr (.inr h))
   simp -implicitDefEqProofs (disch:=omega) [ζh,hu0,hu2,bne,u1,u2,u4]
  cases h:uS b 2 2 with
  | none =>
   have hg2:gU b 2 2 = -1:=by unfold gU; rw [h]; rfl
   exact ⟨_,refNo (hno (by rw [hg2]; decide)),.no⟩
  | some u =>
   have hg2:=gU_some h;rw [hg2] at hu2 hno;simp only [Option.bind_some];by_cases hu:u = 1 ∨ u = 2 ∨ u = 4
   ·rw [if_pos hu];obtain ⟨v,e,hp⟩:=ζnq k b hb 4 u hu (by omega) hl H;obtain ⟨l,ok,rfl,ho,hll⟩:=hp.val;refine ⟨_,ζiw (l:=l) (ok:=ok) ?_,.pass ho hll⟩;rcases hu with rfl | rfl | rfl <;> simp -implicitDefEqProofs (disch:=omega) [ζh,hu0,hu2,bne,e]
   ·rw [if_neg hu];exact ⟨_,refNo (hno hu),.no⟩
 rw [if_neg h10];have h10':(fmt == 10) = false:=by simpa using h10
 refine ⟨_,refNo ?_,.no⟩;simp -implicitDefEqProofs (disch:=omega) [ζh,hu0,h0',h2',h4',h6',h8',h10']
end Go.Sw
end
