/-
  Functions' forms, and what is proved of them, part 6.
-/
import Derived.Test.YtnaodjnimkndbabSwW5
import Derived.Test.YtnaodjnimkndbabSwCfg
set_option linter.unusedSimpArgs false
set_option linter.unusedVariables false
set_option linter.unusedSectionVars false
section
namespace Go.Sw
open Go.RowKit
variable {σ : Type}
theorem runD_inv (m : Mach) (hm : m.ok) (ln : σ → List Gl) (f : σ → Int → En → σ × Int × Int) (P : σ → Prop) (hf : ∀ s i e, P s → 0 ≤ i → e ∈ m.ents → P (f s i e).1) (most : Int) :
  ∀ (n : Nat) (x : σ × Drv), P x.1 → 0 ≤ x.2.pl → 0 ≤ x.2.st → x.2.st < m.rows.length → P (runD m ln f most n x).2.2
 | 0, x, h, _, _, _ => h
 | n + 1, x, h, hp, h0, h1 => by
  have hmem := entS_mem hm (ln x.1) x.2 ⟨h0, h1⟩
  have hent := hm.ent _ hmem
  have hP : P (stepD m ln f x).1.1 := by unfold stepD; split <;> exact hf _ _ _ h hp hmem
  have hst : 0 ≤ (stepD m ln f x).1.2.st ∧ (stepD m ln f x).1.2.st < m.rows.length := by unfold stepD; split <;> exact ⟨hent.1, hent.2.1⟩
  have hpl := stepD_pl m ln f x
  unfold runD
  split
  ·split
   ·exact hP
   ·split
    ·exact hP
    ·exact runD_inv m hm ln f P hf most n _ hP hpl hst.1 hst.2
  ·exact h
theorem clsS_over (m : Mach) (l : List Gl) (j : Nat) : (clsS m l j).2 = decide (l.length ≤ j) := by
 unfold clsS atG
 by_cases h2 : (j : Int) < l.length
 ·obtain ⟨g, hg⟩ : ∃ g, l[j]? = some g := ⟨_, List.getElem?_eq_getElem (by omega)⟩
  rw [if_pos ⟨by omega, h2⟩, Int.toNat_natCast, hg, decide_eq_false (by omega)]
 ·rw [if_neg (fun hc => h2 hc.2), decide_eq_true (by omega)]
theorem runD_go (m : Mach) (ln : σ → List Gl) (f : σ → Int → En → σ × Int × Int) (most : Int) (len : Nat) (hmost : (len : Int) < most) (P : Nat → σ → Int → Prop) (hlen : ∀ j s st, P j s st → (ln s).length = len)
  (hgo : ∀ (j : Nat) s st, j ≤ len → P j s st → ¬ (entS m (ln s) ⟨st, j, j, 0⟩).flags / 16384 % 2 = 1 ∧ (f s j (entS m (ln s) ⟨st, j, j, 0⟩)).2.2 = (j : Int) + 1 ∧ (j < len → P (j + 1) (f s j (entS m (ln s) ⟨st, j, j, 0⟩)).1 (entS m (ln s) ⟨st, j, j, 0⟩).next)) :
  ∀ (c j n : Nat) (z : Int) (s : σ) (st : Int), z = j → len = j + c → c < n → P j s st → ∃ s' st', P len s' st' ∧ runD m ln f most n (s, ⟨st, z, z, 0⟩) = ((len : Int) + 1, 0, (f s' len (entS m (ln s') ⟨st', len, len, 0⟩)).1)
 | c, j, 0, z, s, st, _, _, h, _ => by omega
 | 0, j, n + 1, z, s, st, hz, hj, hn, hP => by
  subst hz
  obtain ⟨g1, g2, _⟩ := hgo j s st (by omega) hP
  have hl := hlen j s st hP
  have hjl : j = len := by omega
  subst hjl
  refine ⟨s, st, hP, ?_⟩
  unfold runD
  rw [if_pos (by dsimp only; omega)]
  unfold stepD
  dsimp only
  rw [if_neg g1, clsS_over, hl, decide_eq_true (Nat.le_refl _)]
  rfl
 | c + 1, j, n + 1, z, s, st, hz, hj, hn, hP => by
  subst hz
  obtain ⟨g1, g2, g3⟩ := hgo j s st (by omega) hP
  have hl := hlen j s st hP
  have ih := runD_go m ln f most len hmost P hlen hgo c (j + 1) n _ _ _ rfl (by omega) (by omega) (g3 (by omega))
  unfold runD
  rw [if_pos (by dsimp only; omega)]
  unfold stepD
  dsimp only
  rw [if_neg g1, clsS_over, hl, decide_eq_false (by omega), g2]
  simp only [Bool.false_eq_true, if_false]
  rw [if_neg (by decide), show max ((j : Int) + 1) 0 = ((j + 1 : Nat) : Int) by omega, show (j : Int) + 1 = ((j + 1 : Nat) : Int) by omega]
  exact ih
end Go.Sw
end
section
namespace Go.Sw
open Go.RowKit
theorem planRoom_size (p : Plan) (w : Int) (rm rm' : List Int) (h : rm.length = rm'.length) : (planRoom p w rm).length = (planRoom p w rm').length := by
 unfold planRoom
 simp [h]
theorem get_nil (g : Int) : getS ([] : List Pt) g = none := rfl
theorem tab_get (s : List Int) (id : Int) : getS (tabOf s).2 id = if 0 ≤ id then s[id.toNat]? else none := by
 unfold tabOf
 by_cases hc : s = []
 ·subst hc; simp [get_nil]
 ·rw [if_neg hc]
  have hpos : 0 < s.length := List.length_pos_iff.2 hc
  unfold getS
  by_cases h1 : id ≤ (s.length : Int) - 1
  ·rw [show ([(⟨0, (s.length : Int) - 1, s⟩ : Pt)]).find? (fun p => decide (id ≤ p.last)) = some ⟨0, (s.length : Int) - 1, s⟩ by simp [List.find?, h1], Option.bind_some]
   by_cases h0 : 0 ≤ id
   ·rw [if_pos h0, if_pos h0]
    unfold Pt.num
    dsimp only
    rw [show (min (id - 0) ((s.length : Int) - 1)).toNat = id.toNat by omega]
   ·rw [if_neg h0, if_neg h0]
  ·rw [show ([(⟨0, (s.length : Int) - 1, s⟩ : Pt)]).find? (fun p => decide (id ≤ p.last)) = none by simp [List.find?, h1]]
   by_cases h0 : 0 ≤ id
   ·rw [if_pos h0, List.getElem?_eq_none (by omega)]; rfl
   ·rw [if_neg h0]; rfl
end Go.Sw
end
section
namespace Go.Sw
open Go.RowKit
theorem room_split (p : Plan) (w : Int) (n : Nat) : ∃ hd tl : List Int, hd.length = 16 ∧ ∀ rm : List Int, rm.length = n → planRoom p w rm = hd ++ (rm ++ tl) := by
 refine ⟨bytesOf (planN p : Int) 4 ++ (bytesOf (16 + n : Int) 4 ++ (bytesOf (16 + n + (ofS p.cls).length : Int) 4 ++ bytesOf (16 + n + (ofS p.cls).length + (rowsL (planN p) p.rows).length : Int) 4)), ofS p.cls ++ (rowsL (planN p) p.rows ++ entsB w p.ents), by simp, fun rm h => ?_⟩
 unfold planRoom
 rw [h]
 simp only [List.append_assoc]
theorem room_u (p : Plan) (w : Int) (pre post more : List Int) (n i : Int) (hi : i = 16 + pre.length) (h0 : 0 ≤ n) (hn : n < 4294967296) : uS (planRoom p w (pre ++ (bytesOf n 4 ++ post)) ++ more) i 4 = some n := by
 obtain ⟨hd, tl, h16, hs⟩ := room_split p w (pre ++ (bytesOf n 4 ++ post)).length
 rw [hs _ rfl]
 have := uS_at (hd ++ pre) (post ++ (tl ++ more)) (n := n) (k := 4) i 4 (by rw [hi]; simp; omega) rfl h0 (by omega)
 simpa only [List.append_assoc] using this
theorem room_rest (p : Plan) (w : Int) (rm a b : List Int) (i : Int) (hi : i = (planRoom p w rm).length + a.length) : restS (planRoom p w rm ++ (a ++ b)) i = some b := by
 unfold restS
 rw [if_pos ⟨by omega, by rw [List.length_append, List.length_append]; omega⟩]
 congr 1
 rw [show i.toNat = (planRoom p w rm ++ a).length by rw [List.length_append]; omega, ← List.append_assoc]
 exact List.drop_left
theorem twos_gU (l : List Int) {i : Nat} {x : Int} (hx : l[i]? = some x) (hb : 0 ≤ x ∧ x < 65536) : gU (twos l) (2 * (i : Int)) 2 = x := by
 have := twos_get l [] [] i x hx hb (2 * (i : Int)) (by simp)
 rw [List.nil_append, List.append_nil] at this
 exact gU_some this
theorem twos_byt (l : List Int) : Byt (twos l) := Byt.flat fun r hr => by
 obtain ⟨x, _, rfl⟩ := List.mem_map.1 hr
 exact bytesOf_byt _ _
def roomB (p : Plan) (w : Int) (hi : Int) (l : List Int) : List Int := planRoom p w (bytesOf (hi + (planRoom p w (List.replicate 4 0)).length : Int) 4) ++ twos l
theorem room4_size (p : Plan) (w n : Int) : (planRoom p w (bytesOf n 4)).length = (planRoom p w (List.replicate 4 0)).length := planRoom_size p w _ _ (by simp)
theorem roomB_u (p : Plan) (w : Int) (hi : Int) (l : List Int) (h0 : 0 ≤ hi) (hn : hi + (planRoom p w (List.replicate 4 0)).length < 4294967296) : uS (roomB p w hi l) 16 4 = some (hi + (planRoom p w (List.replicate 4 0)).length) := by
 unfold roomB
 have := room_u p w [] [] (twos l) (hi + (planRoom p w (List.replicate 4 0)).length) 16 rfl (by omega) hn
 simpa using this
theorem roomB_rest (p : Plan) (w : Int) (hi : Int) (l : List Int) : restS (roomB p w hi l) (planRoom p w (List.replicate 4 0)).length = some (twos l) := by
 have := room_rest p w (bytesOf (hi + (planRoom p w (List.replicate 4 0)).length : Int) 4) [] (twos l) ((planRoom p w (List.replicate 4 0)).length : Nat) (by rw [room4_size]; simp)
 simpa [roomB] using this
theorem roomB_byt {p : Plan} (hp : p.ok) (w hi : Int) (l : List Int) : Byt (roomB p w hi l) := (planRoom_byt hp w (bytesOf_byt _ _)).app (twos_byt l)
theorem roomB_len {p : Plan} (hp : p.ok) (w hi : Int) {l : List Int} (h1 : p.cls.length ≤ 1000) (h2 : p.rows.length ≤ 1000) (h3 : p.ents.length ≤ 1000) (h4 : l.length ≤ 1000) : (roomB p w hi l).length ≤ 102000 := by
 have := planRoom_len hp w (rm := List.replicate 4 0) (by simp) h1 h2 h3
 unfold roomB
 rw [List.length_append, room4_size, twos_len]
 omega
end Go.Sw
end
section
set_option maxRecDepth 100000
set_option linter.unusedVariables false
namespace Go.Sw
noncomputable section
def swashlaw23_StackLong_l1 (k : Nat) (call : Caller) : Env → Heap → Res (AExit × Env) := loopB (C k) call F.swashlaw23_StackLong [1, 1, 1, 1, 1, 0, 1, 0, 0]
def swashlaw23_StackLong_l1k (k : Nat) (call : Caller) : Kont Value := kBlock 0 (kSeq (pieceK (C k) call F.swashlaw23_StackLong [1, 1, 1, 1, 1, 1]) (kDone Prog (resOf Prog F.swashlaw23_StackLong)))
def swashlaw23_StackLong_j1 (k : Nat) (call : Caller) (a5 a6 a8 a10 a40 a41 : Value) (h : Heap) : Res (AExit × Env) :=
 kSeq (pieceK (C k) call F.swashlaw23_StackLong [1, 1, 1, 1, 1, 0, 1, 0, 0, 1, 1, 0, 0, 1, 1, 1]) (kBlock 1 (kSeq (pieceK (C k) call F.swashlaw23_StackLong [1, 1, 1, 1, 1, 0, 1, 0, 0, 1, 1, 1]) (kRound (ownOf (C k) F.swashlaw23_StackLong [1, 1, 1, 1, 1, 0, 1, 0, 0])))) .normal [(5, a5), (6, a6), (8, a8), (10, a10), (40, a40), (41, a41)] h
def swashlaw23_StackLong_j2 (k : Nat) (call : Caller) (a5 a6 a8 a10 a40 a41 a51 : Value) (h : Heap) : Res (AExit × Env) :=
 kSeq (pieceK (C k) call F.swashlaw23_StackLong [1, 1, 1, 1, 1, 0, 1, 0, 0, 1, 1, 0, 0, 1, 1, 1]) (kBlock 1 (kSeq (pieceK (C k) call F.swashlaw23_StackLong [1, 1, 1, 1, 1, 0, 1, 0, 0, 1, 1, 1]) (kRound (ownOf (C k) F.swashlaw23_StackLong [1, 1, 1, 1, 1, 0, 1, 0, 0])))) .normal [(5, a5), (6, a6), (8, a8), (10, a10), (40, a40), (41, a41), (51, a51)] h
def swashlaw23_StackLong_l2 (k : Nat) (call : Caller) : Env → Heap → Res (AExit × Env) := loopB (C k) call F.swashlaw23_StackLong [1, 1, 1, 1, 1, 1, 1, 1, 1, 1, 1, 1, 0, 1, 0, 0]
def swashlaw23_StackLong_l2k (k : Nat) (call : Caller) : Kont Value := kBlock 2 (kSeq (pieceK (C k) call F.swashlaw23_StackLong [1, 1, 1, 1, 1, 1, 1, 1, 1, 1, 1, 1, 1]) (kDone Prog (resOf Prog F.swashlaw23_StackLong)))
def swashlaw23_StackLong_j3 (k : Nat) (call : Caller) (a5 a6 a16 a18 a89 a90 a91 : Value) (h : Heap) : Res (AExit × Env) :=
 kSeq (pieceK (C k) call F.swashlaw23_StackLong [1, 1, 1, 1, 1, 1, 1, 1, 1, 1, 1, 1, 0, 1, 0, 0, 1, 1, 0, 0, 1, 1, 1]) (kBlock 3 (kSeq (pieceK (C k) call F.swashlaw23_StackLong [1, 1, 1, 1, 1, 1, 1, 1, 1, 1, 1, 1, 0, 1, 0, 0, 1, 1, 1]) (kRound (ownOf (C k) F.swashlaw23_StackLong [1, 1, 1, 1, 1, 1, 1, 1, 1, 1, 1, 1, 0, 1, 0, 0])))) .normal [(5, a5), (6, a6), (16, a16), (18, a18), (89, a89), (90, a90), (91, a91)] h
def swashlaw23_StackLong_j4 (k : Nat) (call : Caller) (a5 a6 a16 a17 a18 a89 a90 a91 a103 : Value) (h : Heap) : Res (AExit × Env) :=
 kSeq (pieceK (C k) call F.swashlaw23_StackLong [1, 1, 1, 1, 1, 1, 1, 1, 1, 1, 1, 1, 0, 1, 0, 0, 1, 1, 0, 0, 1, 1, 1]) (kBlock 3 (kSeq (pieceK (C k) call F.swashlaw23_StackLong [1, 1, 1, 1, 1, 1, 1, 1, 1, 1, 1, 1, 0, 1, 0, 0, 1, 1, 1]) (kRound (ownOf (C k) F.swashlaw23_StackLong [1, 1, 1, 1, 1, 1, 1, 1, 1, 1, 1, 1, 0, 1, 0, 0])))) .normal [(5, a5), (6, a6), (16, a16), (17, a17), (18, a18), (89, a89), (90, a90), (91, a91), (103, a103)] h
def swashlaw23_StackLong (k : Nat) (call : Caller) (a0 a1 : Value) (h : Heap) : Res Value :=
 (call F.swashlaw23_speaks [] h).bind fun v1 h2 =>
 (unR .not v1 h2).bind fun v3 h4 =>
 condV (some v3) (
 .ok (.bool false) h4)
 (
 (convR Prog 5 3 a0 h4).bind fun v5 h6 =>
 (binR Prog .rem 3 v5 (.int .i64 20) h6).bind fun v7 h8 =>
 (binR Prog .add 3 (.int .i64 1) v7 h8).bind fun v9 h10 =>
 (convR Prog 5 3 a1 h10).bind fun v11 h12 =>
 (binR Prog .rem 3 v11 (.int .i64 12) h12).bind fun v13 h14 =>
 (binR Prog .add 3 (.int .i64 1) v13 h14).bind fun v15 h16 =>
 (buildSliceR Prog 22 2 [(0, (.int .u8 4)), (1, (.int .u8 5))] h16).bind fun v17 h18 =>
 (buildSliceR Prog 22 6 [(0, (.int .u8 0)), (1, (.int .u8 0)), (2, (.int .u8 0)), (3, (.int .u8 0)), (4, (.int .u8 1)), (5, (.int .u8 2))] h18).bind fun v19 h20 =>
 (buildSliceR Prog 22 6 [(0, (.int .u8 0)), (1, (.int .u8 0)), (2, (.int .u8 0)), (3, (.int .u8 0)), (4, (.int .u8 1)), (5, (.int .u8 2))] h20).bind fun v21 h22 =>
 (buildSliceR Prog 23 2 [(0, v19), (1, v21)] h22).bind fun v23 h24 =>
 (buildR Prog 31 [(2, (.int .i64 65535))] h24).bind fun v25 h26 =>
 (buildR Prog 31 [(1, (.int .i64 32768)), (2, (.int .i64 65535))] h26).bind fun v27 h28 =>
 (buildR Prog 31 [(1, (.int .i64 32768))] h28).bind fun v29 h30 =>
 (buildSliceR Prog 24 3 [(0, v25), (1, v27), (2, v29)] h30).bind fun v31 h32 =>
 (buildR Prog 26 [(0, v17), (3, (.int .u8 2)), (1, v23), (2, v31)] h32).bind fun v33 h34 =>
 (allocR Prog 26 h34).bind fun v35 h36 =>
 (storeR Prog 26 v35 v33 h36).bind fun _v37 h38 =>
 (loadR Prog 26 v35 h38).bind fun v39 h40 =>
 (buildR Prog 87 [(0, v39)] h40).bind fun v41 h42 =>
 (allocR Prog 87 h42).bind fun v43 h44 =>
 (storeR Prog 87 v43 v41 h44).bind fun _v45 h46 =>
 (loopN (swashlaw23_StackLong_l1 k call) loopFuel [(5, v9), (6, v15), (8, v43), (40, v15), (41, (.int .i64 0))] h46).bind fun r47 h48 =>
 swashlaw23_StackLong_l1k k call r47.1 r47.2 h48)
theorem swashlaw23_StackLong_kSn {β : Type} (f : Env → Heap → Kont β → Res β) (K : Kont β) (e : Env) (h : Heap) : kSeq f K .normal e h = f e h K := rfl
theorem swashlaw23_StackLong_kSx {β : Type} (f : Env → Heap → Kont β → Res β) (K : Kont β) (i : Nat) (e : Env) (h : Heap) : kSeq f K (.exit i) e h = K (.exit i) e h := rfl
theorem swashlaw23_StackLong_kSr {β : Type} (f : Env → Heap → Kont β → Res β) (K : Kont β) (e : Env) (h : Heap) : kSeq f K .ret e h = K .ret e h := rfl
theorem swashlaw23_StackLong_kBn {β : Type} (j : Nat) (K : Kont β) (e : Env) (h : Heap) : kBlock j K .normal e h = K .normal e h := rfl
theorem swashlaw23_StackLong_kBx {β : Type} (j : Nat) (K : Kont β) (i : Nat) (e : Env) (h : Heap) : kBlock j K (.exit i) e h = bif i == j then K .normal e h else K (.exit i) e h := rfl
theorem swashlaw23_StackLong_kBr {β : Type} (j : Nat) (K : Kont β) (e : Env) (h : Heap) : kBlock j K .ret e h = K .ret e h := rfl
theorem swashlaw23_StackLong_kRx (ks : List Nat) (i : Nat) (e : Env) (h : Heap) : kRound ks (.exit i) e h = .ok (.exit i, e) h := rfl
theorem swashlaw23_StackLong_kRr (ks : List Nat) (e : Env) (h : Heap) : kRound ks .ret e h = .ok (.ret, e) h := rfl
theorem swashlaw23_StackLong_p1 {β : Type} (k : Nat) (call : Caller) (e : Env) (h : Heap) (K : Kont β) : pieceK (C k) call F.swashlaw23_StackLong [] e h K = pieceK (C k) call F.swashlaw23_StackLong [0] e h (kSeq (pieceK (C k) call F.swashlaw23_StackLong [1]) K) := by kernel_rfl
theorem swashlaw23_StackLong_p2 {β : Type} (k : Nat) (call : Caller) (a0 a1 : Value) (h : Heap) (K : Kont β) : pieceK (C k) call F.swashlaw23_StackLong [0] [(0, a0), (1, a1)] h K =
 (  K .normal [(0, a0), (1, a1)] h) := by kernel_rfl
theorem swashlaw23_StackLong_p3 {β : Type} (k : Nat) (call : Caller) (e : Env) (h : Heap) (K : Kont β) : pieceK (C k) call F.swashlaw23_StackLong [1] e h K = pieceK (C k) call F.swashlaw23_StackLong [1, 0] e h (kSeq (pieceK (C k) call F.swashlaw23_StackLong [1, 1]) K) := by kernel_rfl
theorem swashlaw23_StackLong_p4 {β : Type} (k : Nat) (call : Caller) (e : Env) (h : Heap) (K : Kont β) : pieceK (C k) call F.swashlaw23_StackLong [1, 0] e h K = pieceK (C k) call F.swashlaw23_StackLong [1, 0, 0] e h (kSeq (pieceK (C k) call F.swashlaw23_StackLong [1, 0, 1]) K) := by kernel_rfl
theorem swashlaw23_StackLong_p5 {β : Type} (k : Nat) (call : Caller) (a0 a1 : Value) (h : Heap) (K : Kont β) : pieceK (C k) call F.swashlaw23_StackLong [1, 0, 0] [(0, a0), (1, a1)] h K =
 (  (call F.swashlaw23_speaks [] h).bind fun v1 h2 =>
 (unR .not v1 h2).bind fun v3 h4 =>
 K .normal [(0, a0), (1, a1), (20, v3)] h4) := by kernel_rfl
theorem swashlaw23_StackLong_p6 {β : Type} (k : Nat) (call : Caller) (a0 a1 v3 : Value) (h4 : Heap) (K : Kont β) : pieceK (C k) call F.swashlaw23_StackLong [1, 0, 1] [(0, a0), (1, a1), (20, v3)] h4 K =
 (condV (some v3) (pieceK (C k) call F.swashlaw23_StackLong [1, 0, 1, 0] [(0, a0), (1, a1), (20, v3)] h4 K) (pieceK (C k) call F.swashlaw23_StackLong [1, 0, 1, 1] [(0, a0), (1, a1), (20, v3)] h4 K)) := by kernel_rfl
theorem swashlaw23_StackLong_p7 {β : Type} (k : Nat) (call : Caller) (e : Env) (h : Heap) (K : Kont β) : pieceK (C k) call F.swashlaw23_StackLong [1, 0, 1, 0] e h K = pieceK (C k) call F.swashlaw23_StackLong [1, 0, 1, 0, 0] e h (kSeq (pieceK (C k) call F.swashlaw23_StackLong [1, 0, 1, 0, 1]) K) := by kernel_rfl
theorem swashlaw23_StackLong_p8 {β : Type} (k : Nat) (call : Caller) (a0 a1 v3 : Value) (h4 : Heap) (K : Kont β) : pieceK (C k) call F.swashlaw23_StackLong [1, 0, 1, 0, 0] [(0, a0), (1, a1), (20, v3)] h4 K =
 (    K .normal [(4, (.bool false))] h4) := by kernel_rfl
theorem swashlaw23_StackLong_p9 {β : Type} (k : Nat) (call : Caller) (e : Env) (h : Heap) (K : Kont β) : pieceK (C k) call F.swashlaw23_StackLong [1, 0, 1, 0, 1] e h K = K .ret e h := by kernel_rfl
theorem swashlaw23_StackLong_p10 (h4 : Heap) : kDone Prog (resOf Prog F.swashlaw23_StackLong) .ret [(4, (.bool false))] h4 =
 (    .ok (.bool false) h4) := by kernel_rfl
theorem swashlaw23_StackLong_p11 {β : Type} (k : Nat) (call : Caller) (e : Env) (h : Heap) (K : Kont β) : pieceK (C k) call F.swashlaw23_StackLong [1, 0, 1, 1] e h K = K .normal e h := by kernel_rfl
theorem swashlaw23_StackLong_p12 {β : Type} (k : Nat) (call : Caller) (e : Env) (h : Heap) (K : Kont β) : pieceK (C k) call F.swashlaw23_StackLong [1, 1] e h K = pieceK (C k) call F.swashlaw23_StackLong [1, 1, 0] e h (kSeq (pieceK (C k) call F.swashlaw23_StackLong [1, 1, 1]) K) := by kernel_rfl
theorem swashlaw23_StackLong_p13 {β : Type} (k : Nat) (call : Caller) (a0 a1 v3 : Value) (h4 : Heap) (K : Kont β) : pieceK (C k) call F.swashlaw23_StackLong [1, 1, 0] [(0, a0), (1, a1), (20, v3)] h4 K =
 (    (convR Prog 5 3 a0 h4).bind fun v5 h6 =>
 (binR Prog .rem 3 v5 (.int .i64 20) h6).bind fun v7 h8 =>
 (binR Prog .add 3 (.int .i64 1) v7 h8).bind fun v9 h10 =>
 (convR Prog 5 3 a1 h10).bind fun v11 h12 =>
 (binR Prog .rem 3 v11 (.int .i64 12) h12).bind fun v13 h14 =>
 (binR Prog .add 3 (.int .i64 1) v13 h14).bind fun v15 h16 =>
 K .normal [(5, v9), (6, v15)] h16) := by kernel_rfl
theorem swashlaw23_StackLong_p14 {β : Type} (k : Nat) (call : Caller) (e : Env) (h : Heap) (K : Kont β) : pieceK (C k) call F.swashlaw23_StackLong [1, 1, 1] e h K = pieceK (C k) call F.swashlaw23_StackLong [1, 1, 1, 0] e h (kSeq (pieceK (C k) call F.swashlaw23_StackLong [1, 1, 1, 1]) K) := by kernel_rfl
theorem swashlaw23_StackLong_p15 {β : Type} (k : Nat) (call : Caller) (v9 v15 : Value) (h16 : Heap) (K : Kont β) : pieceK (C k) call F.swashlaw23_StackLong [1, 1, 1, 0] [(5, v9), (6, v15)] h16 K =
 (    (buildSliceR Prog 22 2 [(0, (.int .u8 4)), (1, (.int .u8 5))] h16).bind fun v17 h18 =>
 (buildSliceR Prog 22 6 [(0, (.int .u8 0)), (1, (.int .u8 0)), (2, (.int .u8 0)), (3, (.int .u8 0)), (4, (.int .u8 1)), (5, (.int .u8 2))] h18).bind fun v19 h20 =>
 (buildSliceR Prog 22 6 [(0, (.int .u8 0)), (1, (.int .u8 0)), (2, (.int .u8 0)), (3, (.int .u8 0)), (4, (.int .u8 1)), (5, (.int .u8 2))] h20).bind fun v21 h22 =>
 (buildSliceR Prog 23 2 [(0, v19), (1, v21)] h22).bind fun v23 h24 =>
 (buildR Prog 31 [(2, (.int .i64 65535))] h24).bind fun v25 h26 =>
 (buildR Prog 31 [(1, (.int .i64 32768)), (2, (.int .i64 65535))] h26).bind fun v27 h28 =>
 (buildR Prog 31 [(1, (.int .i64 32768))] h28).bind fun v29 h30 =>
 (buildSliceR Prog 24 3 [(0, v25), (1, v27), (2, v29)] h30).bind fun v31 h32 =>
 (buildR Prog 26 [(0, v17), (3, (.int .u8 2)), (1, v23), (2, v31)] h32).bind fun v33 h34 =>
 (allocR Prog 26 h34).bind fun v35 h36 =>
 (storeR Prog 26 v35 v33 h36).bind fun _v37 h38 =>
 K .normal [(5, v9), (6, v15), (7, v35)] h38) := by kernel_rfl
theorem swashlaw23_StackLong_p16 {β : Type} (k : Nat) (call : Caller) (e : Env) (h : Heap) (K : Kont β) : pieceK (C k) call F.swashlaw23_StackLong [1, 1, 1, 1] e h K = pieceK (C k) call F.swashlaw23_StackLong [1, 1, 1, 1, 0] e h (kSeq (pieceK (C k) call F.swashlaw23_StackLong [1, 1, 1, 1, 1]) K) := by kernel_rfl
theorem swashlaw23_StackLong_p17 {β : Type} (k : Nat) (call : Caller) (v9 v15 v35 : Value) (h38 : Heap) (K : Kont β) : pieceK (C k) call F.swashlaw23_StackLong [1, 1, 1, 1, 0] [(5, v9), (6, v15), (7, v35)] h38 K =
 (    (loadR Prog 26 v35 h38).bind fun v39 h40 =>
 (buildR Prog 87 [(0, v39)] h40).bind fun v41 h42 =>
 (allocR Prog 87 h42).bind fun v43 h44 =>
 (storeR Prog 87 v43 v41 h44).bind fun _v45 h46 =>
 K .normal [(5, v9), (6, v15), (8, v43)] h46) := by kernel_rfl
theorem swashlaw23_StackLong_p18 {β : Type} (k : Nat) (call : Caller) (e : Env) (h : Heap) (K : Kont β) : pieceK (C k) call F.swashlaw23_StackLong [1, 1, 1, 1, 1] e h K = pieceK (C k) call F.swashlaw23_StackLong [1, 1, 1, 1, 1, 0] e h (kSeq (pieceK (C k) call F.swashlaw23_StackLong [1, 1, 1, 1, 1, 1]) K) := by kernel_rfl
theorem swashlaw23_StackLong_p19 {β : Type} (k : Nat) (call : Caller) (e : Env) (h : Heap) (K : Kont β) : pieceK (C k) call F.swashlaw23_StackLong [1, 1, 1, 1, 1, 0] e h K = pieceK (C k) call F.swashlaw23_StackLong [1, 1, 1, 1, 1, 0, 0] e h (kSeq (pieceK (C k) call F.swashlaw23_StackLong [1, 1, 1, 1, 1, 0, 1]) K) := by kernel_rfl
theorem swashlaw23_StackLong_p20 {β : Type} (k : Nat) (call : Caller) (v9 v15 v43 : Value) (h46 : Heap) (K : Kont β) : pieceK (C k) call F.swashlaw23_StackLong [1, 1, 1, 1, 1, 0, 0] [(5, v9), (6, v15), (8, v43)] h46 K =
 (    K .normal [(5, v9), (6, v15), (8, v43), (40, v15), (41, (.int .i64 0))] h46) := by kernel_rfl
theorem swashlaw23_StackLong_p21 {β : Type} (k : Nat) (call : Caller) (e : Env) (h : Heap) (K : Kont β) : pieceK (C k) call F.swashlaw23_StackLong [1, 1, 1, 1, 1, 0, 1] e h K = pieceK (C k) call F.swashlaw23_StackLong [1, 1, 1, 1, 1, 0, 1, 0] e h (kBlock 0 K) := by kernel_rfl
theorem swashlaw23_StackLong_p22 {β : Type} (k : Nat) (call : Caller) (v9 v15 v43 : Value) (h46 : Heap) (K : Kont β) : pieceK (C k) call F.swashlaw23_StackLong [1, 1, 1, 1, 1, 0, 1, 0] [(5, v9), (6, v15), (8, v43), (40, v15), (41, (.int .i64 0))] h46 K =
 ((loopN (swashlaw23_StackLong_l1 k call) loopFuel [(5, v9), (6, v15), (8, v43), (40, v15), (41, (.int .i64 0))] h46).bind fun r47 h48 => K r47.1 r47.2 h48) := by kernel_rfl
theorem swashlaw23_StackLong_p23 {β : Type} (k : Nat) (call : Caller) (e : Env) (h : Heap) (K : Kont β) : pieceK (C k) call F.swashlaw23_StackLong [1, 1, 1, 1, 1, 0, 1, 0, 0] e h K = pieceK (C k) call F.swashlaw23_StackLong [1, 1, 1, 1, 1, 0, 1, 0, 0, 0] e h (kSeq (pieceK (C k) call F.swashlaw23_StackLong [1, 1, 1, 1, 1, 0, 1, 0, 0, 1]) K) := by kernel_rfl
theorem swashlaw23_StackLong_p24 {β : Type} (k : Nat) (call : Caller) (a5 a6 a8 a40 a41 : Value) (h : Heap) (K : Kont β) : pieceK (C k) call F.swashlaw23_StackLong [1, 1, 1, 1, 1, 0, 1, 0, 0, 0] [(5, a5), (6, a6), (8, a8), (40, a40), (41, a41)] h K =
 (  (binR Prog .lss 3 a41 a40 h).bind fun v49 h50 =>
 K .normal [(5, a5), (6, a6), (8, a8), (40, a40), (41, a41), (42, v49)] h50) := by kernel_rfl
theorem swashlaw23_StackLong_p25 {β : Type} (k : Nat) (call : Caller) (e : Env) (h : Heap) (K : Kont β) : pieceK (C k) call F.swashlaw23_StackLong [1, 1, 1, 1, 1, 0, 1, 0, 0, 1] e h K = pieceK (C k) call F.swashlaw23_StackLong [1, 1, 1, 1, 1, 0, 1, 0, 0, 1, 0] e h (kSeq (pieceK (C k) call F.swashlaw23_StackLong [1, 1, 1, 1, 1, 0, 1, 0, 0, 1, 1]) K) := by kernel_rfl
theorem swashlaw23_StackLong_p26 {β : Type} (k : Nat) (call : Caller) (a5 a6 a8 a40 a41 v49 : Value) (h50 : Heap) (K : Kont β) : pieceK (C k) call F.swashlaw23_StackLong [1, 1, 1, 1, 1, 0, 1, 0, 0, 1, 0] [(5, a5), (6, a6), (8, a8), (40, a40), (41, a41), (42, v49)] h50 K =
 (condV (some v49) (pieceK (C k) call F.swashlaw23_StackLong [1, 1, 1, 1, 1, 0, 1, 0, 0, 1, 0, 0] [(5, a5), (6, a6), (8, a8), (40, a40), (41, a41), (42, v49)] h50 K) (pieceK (C k) call F.swashlaw23_StackLong [1, 1, 1, 1, 1, 0, 1, 0, 0, 1, 0, 1] [(5, a5), (6, a6), (8, a8), (40, a40), (41, a41), (42, v49)] h50 K)) := by kernel_rfl
theorem swashlaw23_StackLong_p27 {β : Type} (k : Nat) (call : Caller) (e : Env) (h : Heap) (K : Kont β) : pieceK (C k) call F.swashlaw23_StackLong [1, 1, 1, 1, 1, 0, 1, 0, 0, 1, 0, 0] e h K = K .normal e h := by kernel_rfl
theorem swashlaw23_StackLong_p28 {β : Type} (k : Nat) (call : Caller) (e : Env) (h : Heap) (K : Kont β) : pieceK (C k) call F.swashlaw23_StackLong [1, 1, 1, 1, 1, 0, 1, 0, 0, 1, 1] e h K = pieceK (C k) call F.swashlaw23_StackLong [1, 1, 1, 1, 1, 0, 1, 0, 0, 1, 1, 0] e h (kSeq (pieceK (C k) call F.swashlaw23_StackLong [1, 1, 1, 1, 1, 0, 1, 0, 0, 1, 1, 1]) K) := by kernel_rfl
theorem swashlaw23_StackLong_p29 {β : Type} (k : Nat) (call : Caller) (e : Env) (h : Heap) (K : Kont β) : pieceK (C k) call F.swashlaw23_StackLong [1, 1, 1, 1, 1, 0, 1, 0, 0, 1, 1, 0] e h K = pieceK (C k) call F.swashlaw23_StackLong [1, 1, 1, 1, 1, 0, 1, 0, 0, 1, 1, 0, 0] e h (kBlock 1 K) := by kernel_rfl
theorem swashlaw23_StackLong_p30 {β : Type} (k : Nat) (call : Caller) (e : Env) (h : Heap) (K : Kont β) : pieceK (C k) call F.swashlaw23_StackLong [1, 1, 1, 1, 1, 0, 1, 0, 0, 1, 1, 0, 0] e h K = pieceK (C k) call F.swashlaw23_StackLong [1, 1, 1, 1, 1, 0, 1, 0, 0, 1, 1, 0, 0, 0] e h (kSeq (pieceK (C k) call F.swashlaw23_StackLong [1, 1, 1, 1, 1, 0, 1, 0, 0, 1, 1, 0, 0, 1]) K) := by kernel_rfl
theorem swashlaw23_StackLong_p31 {β : Type} (k : Nat) (call : Caller) (a5 a6 a8 a40 a41 v49 : Value) (h50 : Heap) (K : Kont β) : pieceK (C k) call F.swashlaw23_StackLong [1, 1, 1, 1, 1, 0, 1, 0, 0, 1, 1, 0, 0, 0] [(5, a5), (6, a6), (8, a8), (40, a40), (41, a41), (42, v49)] h50 K =
 (    K .normal [(5, a5), (6, a6), (8, a8), (9, a41), (40, a40), (41, a41)] h50) := by kernel_rfl
theorem swashlaw23_StackLong_p32 {β : Type} (k : Nat) (call : Caller) (e : Env) (h : Heap) (K : Kont β) : pieceK (C k) call F.swashlaw23_StackLong [1, 1, 1, 1, 1, 0, 1, 0, 0, 1, 1, 0, 0, 1] e h K = pieceK (C k) call F.swashlaw23_StackLong [1, 1, 1, 1, 1, 0, 1, 0, 0, 1, 1, 0, 0, 1, 0] e h (kSeq (pieceK (C k) call F.swashlaw23_StackLong [1, 1, 1, 1, 1, 0, 1, 0, 0, 1, 1, 0, 0, 1, 1]) K) := by kernel_rfl
theorem swashlaw23_StackLong_p33 {β : Type} (k : Nat) (call : Caller) (a5 a6 a8 a41 a40 : Value) (h50 : Heap) (K : Kont β) : pieceK (C k) call F.swashlaw23_StackLong [1, 1, 1, 1, 1, 0, 1, 0, 0, 1, 1, 0, 0, 1, 0] [(5, a5), (6, a6), (8, a8), (9, a41), (40, a40), (41, a41)] h50 K =
 (    (binR Prog .add 3 a41 (.int .i64 1) h50).bind fun v51 h52 =>
 (binR Prog .mul 3 (.int .i64 2) v51 h52).bind fun v53 h54 =>
 (convR Prog 3 88 v53 h54).bind fun v55 h56 =>
 K .normal [(5, a5), (6, a6), (8, a8), (9, a41), (10, v55), (40, a40), (41, a41)] h56) := by kernel_rfl
theorem swashlaw23_StackLong_p34 {β : Type} (k : Nat) (call : Caller) (e : Env) (h : Heap) (K : Kont β) : pieceK (C k) call F.swashlaw23_StackLong [1, 1, 1, 1, 1, 0, 1, 0, 0, 1, 1, 0, 0, 1, 1] e h K = pieceK (C k) call F.swashlaw23_StackLong [1, 1, 1, 1, 1, 0, 1, 0, 0, 1, 1, 0, 0, 1, 1, 0] e h (kSeq (pieceK (C k) call F.swashlaw23_StackLong [1, 1, 1, 1, 1, 0, 1, 0, 0, 1, 1, 0, 0, 1, 1, 1]) K) := by kernel_rfl
theorem swashlaw23_StackLong_p35 {β : Type} (k : Nat) (call : Caller) (e : Env) (h : Heap) (K : Kont β) : pieceK (C k) call F.swashlaw23_StackLong [1, 1, 1, 1, 1, 0, 1, 0, 0, 1, 1, 0, 0, 1, 1, 0] e h K = pieceK (C k) call F.swashlaw23_StackLong [1, 1, 1, 1, 1, 0, 1, 0, 0, 1, 1, 0, 0, 1, 1, 0, 0] e h (kSeq (pieceK (C k) call F.swashlaw23_StackLong [1, 1, 1, 1, 1, 0, 1, 0, 0, 1, 1, 0, 0, 1, 1, 0, 1]) K) := by kernel_rfl
theorem swashlaw23_StackLong_p36 {β : Type} (k : Nat) (call : Caller) (a5 a6 a8 a41 v55 a40 : Value) (h56 : Heap) (K : Kont β) : pieceK (C k) call F.swashlaw23_StackLong [1, 1, 1, 1, 1, 0, 1, 0, 0, 1, 1, 0, 0, 1, 1, 0, 0] [(5, a5), (6, a6), (8, a8), (9, a41), (10, v55), (40, a40), (41, a41)] h56 K =
 (    (binR Prog .sub 3 a6 (.int .i64 1) h56).bind fun v57 h58 =>
 (binR Prog .eql 3 a41 v57 h58).bind fun v59 h60 =>
 K .normal [(5, a5), (6, a6), (8, a8), (10, v55), (40, a40), (41, a41), (51, v59)] h60) := by kernel_rfl
theorem swashlaw23_StackLong_p37 {β : Type} (k : Nat) (call : Caller) (a5 a6 a8 v55 a40 a41 v59 : Value) (h60 : Heap) (K : Kont β) : pieceK (C k) call F.swashlaw23_StackLong [1, 1, 1, 1, 1, 0, 1, 0, 0, 1, 1, 0, 0, 1, 1, 0, 1] [(5, a5), (6, a6), (8, a8), (10, v55), (40, a40), (41, a41), (51, v59)] h60 K =
 (condV (some v59) (pieceK (C k) call F.swashlaw23_StackLong [1, 1, 1, 1, 1, 0, 1, 0, 0, 1, 1, 0, 0, 1, 1, 0, 1, 0] [(5, a5), (6, a6), (8, a8), (10, v55), (40, a40), (41, a41), (51, v59)] h60 K) (pieceK (C k) call F.swashlaw23_StackLong [1, 1, 1, 1, 1, 0, 1, 0, 0, 1, 1, 0, 0, 1, 1, 0, 1, 1] [(5, a5), (6, a6), (8, a8), (10, v55), (40, a40), (41, a41), (51, v59)] h60 K)) := by kernel_rfl
theorem swashlaw23_StackLong_p38 {β : Type} (k : Nat) (call : Caller) (a5 a6 a8 v55 a40 a41 v59 : Value) (h60 : Heap) (K : Kont β) : pieceK (C k) call F.swashlaw23_StackLong [1, 1, 1, 1, 1, 0, 1, 0, 0, 1, 1, 0, 0, 1, 1, 0, 1, 0] [(5, a5), (6, a6), (8, a8), (10, v55), (40, a40), (41, a41), (51, v59)] h60 K =
 (      (binR Prog .add 88 v55 (.int .i16 1) h60).bind fun v61 h62 =>
 K .normal [(5, a5), (6, a6), (8, a8), (10, v61), (40, a40), (41, a41)] h62) := by kernel_rfl
theorem swashlaw23_StackLong_p39 {β : Type} (k : Nat) (call : Caller) (e : Env) (h : Heap) (K : Kont β) : pieceK (C k) call F.swashlaw23_StackLong [1, 1, 1, 1, 1, 0, 1, 0, 0, 1, 1, 0, 0, 1, 1, 0, 1, 1] e h K = K .normal e h := by kernel_rfl
theorem swashlaw23_StackLong_p40 {β : Type} (k : Nat) (call : Caller) (e : Env) (h : Heap) (K : Kont β) : pieceK (C k) call F.swashlaw23_StackLong [1, 1, 1, 1, 1, 0, 1, 0, 0, 1, 0, 1] e h K = K (.exit 0) e h := by kernel_rfl
theorem swashlaw23_StackLong_p41 {β : Type} (k : Nat) (call : Caller) (a5 a6 a8 a10 a40 a41 : Value) (h : Heap) (K : Kont β) : pieceK (C k) call F.swashlaw23_StackLong [1, 1, 1, 1, 1, 0, 1, 0, 0, 1, 1, 0, 0, 1, 1, 1] [(5, a5), (6, a6), (8, a8), (10, a10), (40, a40), (41, a41)] h K =
 (  (fieldAddrR Prog 87 a8 1 h).bind fun v63 h64 =>
 (loadR Prog 85 v63 h64).bind fun v65 h66 =>
 (buildSliceR Prog 85 1 [(0, a10)] h66).bind fun v67 h68 =>
 (builtinV Prog .append [85, 85] [v65, v67] h68).bind fun v69 h70 =>
 (fieldAddrR Prog 87 a8 1 h70).bind fun v71 h72 =>
 (storeR Prog 85 v71 v69 h72).bind fun _v73 h74 =>
 K .normal [(5, a5), (6, a6), (8, a8), (40, a40), (41, a41)] h74) := by kernel_rfl
theorem swashlaw23_StackLong_p42 {β : Type} (k : Nat) (call : Caller) (a5 a6 a8 a40 a41 : Value) (h74 : Heap) (K : Kont β) : pieceK (C k) call F.swashlaw23_StackLong [1, 1, 1, 1, 1, 0, 1, 0, 0, 1, 1, 1] [(5, a5), (6, a6), (8, a8), (40, a40), (41, a41)] h74 K =
 (  (binR Prog .add 3 a41 (.int .i64 1) h74).bind fun v75 h76 =>
 K .normal [(5, a5), (6, a6), (8, a8), (40, a40), (41, v75)] h76) := by kernel_rfl
theorem swashlaw23_StackLong_p43 (k : Nat) (a5 a6 a8 a40 v75 : Value) (h76 : Heap) : kRound (ownOf (C k) F.swashlaw23_StackLong [1, 1, 1, 1, 1, 0, 1, 0, 0]) .normal [(5, a5), (6, a6), (8, a8), (40, a40), (41, v75)] h76 =
 (.ok (.normal, [(5, a5), (6, a6), (8, a8), (40, a40), (41, v75)]) h76) := by kernel_rfl
theorem swashlaw23_StackLong_p44 {β : Type} (k : Nat) (call : Caller) (a5 a6 a8 a10 a40 a41 a51 : Value) (h : Heap) (K : Kont β) : pieceK (C k) call F.swashlaw23_StackLong [1, 1, 1, 1, 1, 0, 1, 0, 0, 1, 1, 0, 0, 1, 1, 1] [(5, a5), (6, a6), (8, a8), (10, a10), (40, a40), (41, a41), (51, a51)] h K =
 (  (fieldAddrR Prog 87 a8 1 h).bind fun v77 h78 =>
 (loadR Prog 85 v77 h78).bind fun v79 h80 =>
 (buildSliceR Prog 85 1 [(0, a10)] h80).bind fun v81 h82 =>
 (builtinV Prog .append [85, 85] [v79, v81] h82).bind fun v83 h84 =>
 (fieldAddrR Prog 87 a8 1 h84).bind fun v85 h86 =>
 (storeR Prog 85 v85 v83 h86).bind fun _v87 h88 =>
 K .normal [(5, a5), (6, a6), (8, a8), (40, a40), (41, a41)] h88) := by kernel_rfl
theorem swashlaw23_StackLong_p45 {β : Type} (k : Nat) (call : Caller) (a5 a6 a8 a40 a41 : Value) (h88 : Heap) (K : Kont β) : pieceK (C k) call F.swashlaw23_StackLong [1, 1, 1, 1, 1, 0, 1, 0, 0, 1, 1, 1] [(5, a5), (6, a6), (8, a8), (40, a40), (41, a41)] h88 K =
 (  (binR Prog .add 3 a41 (.int .i64 1) h88).bind fun v89 h90 =>
 K .normal [(5, a5), (6, a6), (8, a8), (40, a40), (41, v89)] h90) := by kernel_rfl
theorem swashlaw23_StackLong_p46 (k : Nat) (a5 a6 a8 a40 v89 : Value) (h90 : Heap) : kRound (ownOf (C k) F.swashlaw23_StackLong [1, 1, 1, 1, 1, 0, 1, 0, 0]) .normal [(5, a5), (6, a6), (8, a8), (40, a40), (41, v89)] h90 =
 (.ok (.normal, [(5, a5), (6, a6), (8, a8), (40, a40), (41, v89)]) h90) := by kernel_rfl
theorem swashlaw23_StackLong_p47 {β : Type} (k : Nat) (call : Caller) (e : Env) (h : Heap) (K : Kont β) : pieceK (C k) call F.swashlaw23_StackLong [1, 1, 1, 1, 1, 1] e h K = pieceK (C k) call F.swashlaw23_StackLong [1, 1, 1, 1, 1, 1, 0] e h (kSeq (pieceK (C k) call F.swashlaw23_StackLong [1, 1, 1, 1, 1, 1, 1]) K) := by kernel_rfl
theorem swashlaw23_StackLong_p48 {β : Type} (k : Nat) (call : Caller) (a5 a6 a8 a40 a41 a42 : Value) (h : Heap) (K : Kont β) : pieceK (C k) call F.swashlaw23_StackLong [1, 1, 1, 1, 1, 1, 0] [(5, a5), (6, a6), (8, a8), (40, a40), (41, a41), (42, a42)] h K =
 (  (makeSliceV Prog 27 a5 a5 h).bind fun v91 h92 =>
 K .normal [(5, a5), (6, a6), (8, a8), (11, v91)] h92) := by kernel_rfl
theorem swashlaw23_StackLong_p49 {β : Type} (k : Nat) (call : Caller) (e : Env) (h : Heap) (K : Kont β) : pieceK (C k) call F.swashlaw23_StackLong [1, 1, 1, 1, 1, 1, 1] e h K = pieceK (C k) call F.swashlaw23_StackLong [1, 1, 1, 1, 1, 1, 1, 0] e h (kSeq (pieceK (C k) call F.swashlaw23_StackLong [1, 1, 1, 1, 1, 1, 1, 1]) K) := by kernel_rfl
theorem swashlaw23_StackLong_p50 {β : Type} (k : Nat) (call : Caller) (a5 a6 a8 v91 : Value) (h92 : Heap) (K : Kont β) : pieceK (C k) call F.swashlaw23_StackLong [1, 1, 1, 1, 1, 1, 1, 0] [(5, a5), (6, a6), (8, a8), (11, v91)] h92 K =
 (  (binR Prog .sub 3 a5 (.int .i64 1) h92).bind fun v93 h94 =>
 (indexAddrR Prog 27 v91 v93 h94).bind fun v95 h96 =>
 (storeR Prog 3 v95 (.int .i64 1) h96).bind fun _v97 h98 =>
 K .normal [(5, a5), (6, a6), (8, a8), (11, v91)] h98) := by kernel_rfl
theorem swashlaw23_StackLong_p51 {β : Type} (k : Nat) (call : Caller) (e : Env) (h : Heap) (K : Kont β) : pieceK (C k) call F.swashlaw23_StackLong [1, 1, 1, 1, 1, 1, 1, 1] e h K = pieceK (C k) call F.swashlaw23_StackLong [1, 1, 1, 1, 1, 1, 1, 1, 0] e h (kSeq (pieceK (C k) call F.swashlaw23_StackLong [1, 1, 1, 1, 1, 1, 1, 1, 1]) K) := by kernel_rfl
theorem swashlaw23_StackLong_p52 {β : Type} (k : Nat) (call : Caller) (a5 a6 a8 v91 : Value) (h98 : Heap) (K : Kont β) : pieceK (C k) call F.swashlaw23_StackLong [1, 1, 1, 1, 1, 1, 1, 1, 0] [(5, a5), (6, a6), (8, a8), (11, v91)] h98 K =
 (  (loadR Prog 87 a8 h98).bind fun v99 h100 =>
 (call F.swashlaw23_Write [v99] h100).bind fun v101 h102 =>
 (call F.stack_Read [v101, (.int .i64 9)] h102).bind fun v103 h104 =>
 (extractR v103 0 h104).bind fun v105 h106 =>
 (extractR v103 1 h106).bind fun v107 h108 =>
 K .normal [(5, a5), (6, a6), (11, v91), (12, v105), (13, v107)] h108) := by kernel_rfl
theorem swashlaw23_StackLong_p53 {β : Type} (k : Nat) (call : Caller) (e : Env) (h : Heap) (K : Kont β) : pieceK (C k) call F.swashlaw23_StackLong [1, 1, 1, 1, 1, 1, 1, 1, 1] e h K = pieceK (C k) call F.swashlaw23_StackLong [1, 1, 1, 1, 1, 1, 1, 1, 1, 0] e h (kSeq (pieceK (C k) call F.swashlaw23_StackLong [1, 1, 1, 1, 1, 1, 1, 1, 1, 1]) K) := by kernel_rfl
theorem swashlaw23_StackLong_p54 {β : Type} (k : Nat) (call : Caller) (e : Env) (h : Heap) (K : Kont β) : pieceK (C k) call F.swashlaw23_StackLong [1, 1, 1, 1, 1, 1, 1, 1, 1, 0] e h K = pieceK (C k) call F.swashlaw23_StackLong [1, 1, 1, 1, 1, 1, 1, 1, 1, 0, 0] e h (kSeq (pieceK (C k) call F.swashlaw23_StackLong [1, 1, 1, 1, 1, 1, 1, 1, 1, 0, 1]) K) := by kernel_rfl
theorem swashlaw23_StackLong_p55 {β : Type} (k : Nat) (call : Caller) (a5 a6 v91 v105 v107 : Value) (h108 : Heap) (K : Kont β) : pieceK (C k) call F.swashlaw23_StackLong [1, 1, 1, 1, 1, 1, 1, 1, 1, 0, 0] [(5, a5), (6, a6), (11, v91), (12, v105), (13, v107)] h108 K =
 (  (binR Prog .neq 34 v107 (.int .i64 0) h108).bind fun v109 h110 =>
 ((bif wantVal v109 false then Res.ok v105 h110 else Res.ok undef h110)).bind fun v111 h112 =>
 ((bif wantVal v109 false then binR Prog .eql 72 v111 (.pointer none) h112 else Res.ok undef h112)).bind fun v113 h114 =>
 (condV (some v109) (Res.ok (.bool true) h114) (Res.ok v113 h114)).bind fun v115 h116 =>
 K .normal [(5, a5), (6, a6), (11, v91), (12, v105), (78, v115)] h116) := by kernel_rfl
theorem swashlaw23_StackLong_p56 {β : Type} (k : Nat) (call : Caller) (a5 a6 v91 v105 v115 : Value) (h116 : Heap) (K : Kont β) : pieceK (C k) call F.swashlaw23_StackLong [1, 1, 1, 1, 1, 1, 1, 1, 1, 0, 1] [(5, a5), (6, a6), (11, v91), (12, v105), (78, v115)] h116 K =
 (condV (some v115) (pieceK (C k) call F.swashlaw23_StackLong [1, 1, 1, 1, 1, 1, 1, 1, 1, 0, 1, 0] [(5, a5), (6, a6), (11, v91), (12, v105), (78, v115)] h116 K) (pieceK (C k) call F.swashlaw23_StackLong [1, 1, 1, 1, 1, 1, 1, 1, 1, 0, 1, 1] [(5, a5), (6, a6), (11, v91), (12, v105), (78, v115)] h116 K)) := by kernel_rfl
theorem swashlaw23_StackLong_p57 {β : Type} (k : Nat) (call : Caller) (e : Env) (h : Heap) (K : Kont β) : pieceK (C k) call F.swashlaw23_StackLong [1, 1, 1, 1, 1, 1, 1, 1, 1, 0, 1, 0] e h K = pieceK (C k) call F.swashlaw23_StackLong [1, 1, 1, 1, 1, 1, 1, 1, 1, 0, 1, 0, 0] e h (kSeq (pieceK (C k) call F.swashlaw23_StackLong [1, 1, 1, 1, 1, 1, 1, 1, 1, 0, 1, 0, 1]) K) := by kernel_rfl
theorem swashlaw23_StackLong_p58 {β : Type} (k : Nat) (call : Caller) (a5 a6 v91 v105 v115 : Value) (h116 : Heap) (K : Kont β) : pieceK (C k) call F.swashlaw23_StackLong [1, 1, 1, 1, 1, 1, 1, 1, 1, 0, 1, 0, 0] [(5, a5), (6, a6), (11, v91), (12, v105), (78, v115)] h116 K =
 (    K .normal [(4, (.bool false))] h116) := by kernel_rfl
theorem swashlaw23_StackLong_p59 {β : Type} (k : Nat) (call : Caller) (e : Env) (h : Heap) (K : Kont β) : pieceK (C k) call F.swashlaw23_StackLong [1, 1, 1, 1, 1, 1, 1, 1, 1, 0, 1, 0, 1] e h K = K .ret e h := by kernel_rfl
theorem swashlaw23_StackLong_p60 (h116 : Heap) : kDone Prog (resOf Prog F.swashlaw23_StackLong) .ret [(4, (.bool false))] h116 =
 (    .ok (.bool false) h116) := by kernel_rfl
theorem swashlaw23_StackLong_p61 {β : Type} (k : Nat) (call : Caller) (e : Env) (h : Heap) (K : Kont β) : pieceK (C k) call F.swashlaw23_StackLong [1, 1, 1, 1, 1, 1, 1, 1, 1, 0, 1, 1] e h K = K .normal e h := by kernel_rfl
theorem swashlaw23_StackLong_p62 {β : Type} (k : Nat) (call : Caller) (e : Env) (h : Heap) (K : Kont β) : pieceK (C k) call F.swashlaw23_StackLong [1, 1, 1, 1, 1, 1, 1, 1, 1, 1] e h K = pieceK (C k) call F.swashlaw23_StackLong [1, 1, 1, 1, 1, 1, 1, 1, 1, 1, 0] e h (kSeq (pieceK (C k) call F.swashlaw23_StackLong [1, 1, 1, 1, 1, 1, 1, 1, 1, 1, 1]) K) := by kernel_rfl
theorem swashlaw23_StackLong_p63 {β : Type} (k : Nat) (call : Caller) (a5 a6 v91 v105 v115 : Value) (h116 : Heap) (K : Kont β) : pieceK (C k) call F.swashlaw23_StackLong [1, 1, 1, 1, 1, 1, 1, 1, 1, 1, 0] [(5, a5), (6, a6), (11, v91), (12, v105), (78, v115)] h116 K =
 (    (makeSliceV Prog 27 a5 a5 h116).bind fun v117 h118 =>
 (call F.place_New [(.int .i64 0), v117] h118).bind fun v119 h120 =>
 K .normal [(5, a5), (6, a6), (11, v91), (12, v105), (14, v119)] h120) := by kernel_rfl
theorem swashlaw23_StackLong_p64 {β : Type} (k : Nat) (call : Caller) (e : Env) (h : Heap) (K : Kont β) : pieceK (C k) call F.swashlaw23_StackLong [1, 1, 1, 1, 1, 1, 1, 1, 1, 1, 1] e h K = pieceK (C k) call F.swashlaw23_StackLong [1, 1, 1, 1, 1, 1, 1, 1, 1, 1, 1, 0] e h (kSeq (pieceK (C k) call F.swashlaw23_StackLong [1, 1, 1, 1, 1, 1, 1, 1, 1, 1, 1, 1]) K) := by kernel_rfl
theorem swashlaw23_StackLong_p65 {β : Type} (k : Nat) (call : Caller) (e : Env) (h : Heap) (K : Kont β) : pieceK (C k) call F.swashlaw23_StackLong [1, 1, 1, 1, 1, 1, 1, 1, 1, 1, 1, 0] e h K = pieceK (C k) call F.swashlaw23_StackLong [1, 1, 1, 1, 1, 1, 1, 1, 1, 1, 1, 0, 0] e h (kSeq (pieceK (C k) call F.swashlaw23_StackLong [1, 1, 1, 1, 1, 1, 1, 1, 1, 1, 1, 0, 1]) K) := by kernel_rfl
theorem swashlaw23_StackLong_p66 {β : Type} (k : Nat) (call : Caller) (a5 a6 v91 v105 v119 : Value) (h120 : Heap) (K : Kont β) : pieceK (C k) call F.swashlaw23_StackLong [1, 1, 1, 1, 1, 1, 1, 1, 1, 1, 1, 0, 0] [(5, a5), (6, a6), (11, v91), (12, v105), (14, v119)] h120 K =
 (    (call F.line_New [v91] h120).bind fun v121 h122 =>
 (call F.stack_Table_Run [v105, v121, v119, (.bool false)] h122).bind fun v123 h124 =>
 (binR Prog .neq 34 v123 (.int .i64 0) h124).bind fun v125 h126 =>
 K .normal [(5, a5), (6, a6), (14, v119), (87, v125)] h126) := by kernel_rfl
theorem swashlaw23_StackLong_p67 {β : Type} (k : Nat) (call : Caller) (a5 a6 v119 v125 : Value) (h126 : Heap) (K : Kont β) : pieceK (C k) call F.swashlaw23_StackLong [1, 1, 1, 1, 1, 1, 1, 1, 1, 1, 1, 0, 1] [(5, a5), (6, a6), (14, v119), (87, v125)] h126 K =
 (condV (some v125) (pieceK (C k) call F.swashlaw23_StackLong [1, 1, 1, 1, 1, 1, 1, 1, 1, 1, 1, 0, 1, 0] [(5, a5), (6, a6), (14, v119), (87, v125)] h126 K) (pieceK (C k) call F.swashlaw23_StackLong [1, 1, 1, 1, 1, 1, 1, 1, 1, 1, 1, 0, 1, 1] [(5, a5), (6, a6), (14, v119), (87, v125)] h126 K)) := by kernel_rfl
theorem swashlaw23_StackLong_p68 {β : Type} (k : Nat) (call : Caller) (e : Env) (h : Heap) (K : Kont β) : pieceK (C k) call F.swashlaw23_StackLong [1, 1, 1, 1, 1, 1, 1, 1, 1, 1, 1, 0, 1, 0] e h K = pieceK (C k) call F.swashlaw23_StackLong [1, 1, 1, 1, 1, 1, 1, 1, 1, 1, 1, 0, 1, 0, 0] e h (kSeq (pieceK (C k) call F.swashlaw23_StackLong [1, 1, 1, 1, 1, 1, 1, 1, 1, 1, 1, 0, 1, 0, 1]) K) := by kernel_rfl
theorem swashlaw23_StackLong_p69 {β : Type} (k : Nat) (call : Caller) (a5 a6 v119 v125 : Value) (h126 : Heap) (K : Kont β) : pieceK (C k) call F.swashlaw23_StackLong [1, 1, 1, 1, 1, 1, 1, 1, 1, 1, 1, 0, 1, 0, 0] [(5, a5), (6, a6), (14, v119), (87, v125)] h126 K =
 (      K .normal [(4, (.bool false))] h126) := by kernel_rfl
theorem swashlaw23_StackLong_p70 {β : Type} (k : Nat) (call : Caller) (e : Env) (h : Heap) (K : Kont β) : pieceK (C k) call F.swashlaw23_StackLong [1, 1, 1, 1, 1, 1, 1, 1, 1, 1, 1, 0, 1, 0, 1] e h K = K .ret e h := by kernel_rfl
theorem swashlaw23_StackLong_p71 (h126 : Heap) : kDone Prog (resOf Prog F.swashlaw23_StackLong) .ret [(4, (.bool false))] h126 =
 (      .ok (.bool false) h126) := by kernel_rfl
theorem swashlaw23_StackLong_p72 {β : Type} (k : Nat) (call : Caller) (e : Env) (h : Heap) (K : Kont β) : pieceK (C k) call F.swashlaw23_StackLong [1, 1, 1, 1, 1, 1, 1, 1, 1, 1, 1, 0, 1, 1] e h K = K .normal e h := by kernel_rfl
theorem swashlaw23_StackLong_p73 {β : Type} (k : Nat) (call : Caller) (e : Env) (h : Heap) (K : Kont β) : pieceK (C k) call F.swashlaw23_StackLong [1, 1, 1, 1, 1, 1, 1, 1, 1, 1, 1, 1] e h K = pieceK (C k) call F.swashlaw23_StackLong [1, 1, 1, 1, 1, 1, 1, 1, 1, 1, 1, 1, 0] e h (kSeq (pieceK (C k) call F.swashlaw23_StackLong [1, 1, 1, 1, 1, 1, 1, 1, 1, 1, 1, 1, 1]) K) := by kernel_rfl
theorem swashlaw23_StackLong_p74 {β : Type} (k : Nat) (call : Caller) (e : Env) (h : Heap) (K : Kont β) : pieceK (C k) call F.swashlaw23_StackLong [1, 1, 1, 1, 1, 1, 1, 1, 1, 1, 1, 1, 0] e h K = pieceK (C k) call F.swashlaw23_StackLong [1, 1, 1, 1, 1, 1, 1, 1, 1, 1, 1, 1, 0, 0] e h (kSeq (pieceK (C k) call F.swashlaw23_StackLong [1, 1, 1, 1, 1, 1, 1, 1, 1, 1, 1, 1, 0, 1]) K) := by kernel_rfl
theorem swashlaw23_StackLong_p75 {β : Type} (k : Nat) (call : Caller) (a5 a6 v119 v125 : Value) (h126 : Heap) (K : Kont β) : pieceK (C k) call F.swashlaw23_StackLong [1, 1, 1, 1, 1, 1, 1, 1, 1, 1, 1, 1, 0, 0] [(5, a5), (6, a6), (14, v119), (87, v125)] h126 K =
 (      (call F.place_Places_All [v119] h126).bind fun v127 h128 =>
 (builtinV Prog .len [70] [v127] h128).bind fun v129 h130 =>
 K .normal [(5, a5), (6, a6), (89, v127), (90, v129), (91, (.int .i64 0))] h130) := by kernel_rfl
theorem swashlaw23_StackLong_p76 {β : Type} (k : Nat) (call : Caller) (e : Env) (h : Heap) (K : Kont β) : pieceK (C k) call F.swashlaw23_StackLong [1, 1, 1, 1, 1, 1, 1, 1, 1, 1, 1, 1, 0, 1] e h K = pieceK (C k) call F.swashlaw23_StackLong [1, 1, 1, 1, 1, 1, 1, 1, 1, 1, 1, 1, 0, 1, 0] e h (kBlock 2 K) := by kernel_rfl
theorem swashlaw23_StackLong_p77 {β : Type} (k : Nat) (call : Caller) (a5 a6 v127 v129 : Value) (h130 : Heap) (K : Kont β) : pieceK (C k) call F.swashlaw23_StackLong [1, 1, 1, 1, 1, 1, 1, 1, 1, 1, 1, 1, 0, 1, 0] [(5, a5), (6, a6), (89, v127), (90, v129), (91, (.int .i64 0))] h130 K =
 ((loopN (swashlaw23_StackLong_l2 k call) loopFuel [(5, a5), (6, a6), (89, v127), (90, v129), (91, (.int .i64 0))] h130).bind fun r131 h132 => K r131.1 r131.2 h132) := by kernel_rfl
theorem swashlaw23_StackLong_p78 {β : Type} (k : Nat) (call : Caller) (e : Env) (h : Heap) (K : Kont β) : pieceK (C k) call F.swashlaw23_StackLong [1, 1, 1, 1, 1, 1, 1, 1, 1, 1, 1, 1, 0, 1, 0, 0] e h K = pieceK (C k) call F.swashlaw23_StackLong [1, 1, 1, 1, 1, 1, 1, 1, 1, 1, 1, 1, 0, 1, 0, 0, 0] e h (kSeq (pieceK (C k) call F.swashlaw23_StackLong [1, 1, 1, 1, 1, 1, 1, 1, 1, 1, 1, 1, 0, 1, 0, 0, 1]) K) := by kernel_rfl
theorem swashlaw23_StackLong_p79 {β : Type} (k : Nat) (call : Caller) (a5 a6 a89 a90 a91 : Value) (h : Heap) (K : Kont β) : pieceK (C k) call F.swashlaw23_StackLong [1, 1, 1, 1, 1, 1, 1, 1, 1, 1, 1, 1, 0, 1, 0, 0, 0] [(5, a5), (6, a6), (89, a89), (90, a90), (91, a91)] h K =
 (  (binR Prog .lss 3 a91 a90 h).bind fun v133 h134 =>
 K .normal [(5, a5), (6, a6), (89, a89), (90, a90), (91, a91), (92, v133)] h134) := by kernel_rfl
theorem swashlaw23_StackLong_p80 {β : Type} (k : Nat) (call : Caller) (e : Env) (h : Heap) (K : Kont β) : pieceK (C k) call F.swashlaw23_StackLong [1, 1, 1, 1, 1, 1, 1, 1, 1, 1, 1, 1, 0, 1, 0, 0, 1] e h K = pieceK (C k) call F.swashlaw23_StackLong [1, 1, 1, 1, 1, 1, 1, 1, 1, 1, 1, 1, 0, 1, 0, 0, 1, 0] e h (kSeq (pieceK (C k) call F.swashlaw23_StackLong [1, 1, 1, 1, 1, 1, 1, 1, 1, 1, 1, 1, 0, 1, 0, 0, 1, 1]) K) := by kernel_rfl
theorem swashlaw23_StackLong_p81 {β : Type} (k : Nat) (call : Caller) (a5 a6 a89 a90 a91 v133 : Value) (h134 : Heap) (K : Kont β) : pieceK (C k) call F.swashlaw23_StackLong [1, 1, 1, 1, 1, 1, 1, 1, 1, 1, 1, 1, 0, 1, 0, 0, 1, 0] [(5, a5), (6, a6), (89, a89), (90, a90), (91, a91), (92, v133)] h134 K =
 (condV (some v133) (pieceK (C k) call F.swashlaw23_StackLong [1, 1, 1, 1, 1, 1, 1, 1, 1, 1, 1, 1, 0, 1, 0, 0, 1, 0, 0] [(5, a5), (6, a6), (89, a89), (90, a90), (91, a91), (92, v133)] h134 K) (pieceK (C k) call F.swashlaw23_StackLong [1, 1, 1, 1, 1, 1, 1, 1, 1, 1, 1, 1, 0, 1, 0, 0, 1, 0, 1] [(5, a5), (6, a6), (89, a89), (90, a90), (91, a91), (92, v133)] h134 K)) := by kernel_rfl
theorem swashlaw23_StackLong_p82 {β : Type} (k : Nat) (call : Caller) (e : Env) (h : Heap) (K : Kont β) : pieceK (C k) call F.swashlaw23_StackLong [1, 1, 1, 1, 1, 1, 1, 1, 1, 1, 1, 1, 0, 1, 0, 0, 1, 0, 0] e h K = K .normal e h := by kernel_rfl
theorem swashlaw23_StackLong_p83 {β : Type} (k : Nat) (call : Caller) (e : Env) (h : Heap) (K : Kont β) : pieceK (C k) call F.swashlaw23_StackLong [1, 1, 1, 1, 1, 1, 1, 1, 1, 1, 1, 1, 0, 1, 0, 0, 1, 1] e h K = pieceK (C k) call F.swashlaw23_StackLong [1, 1, 1, 1, 1, 1, 1, 1, 1, 1, 1, 1, 0, 1, 0, 0, 1, 1, 0] e h (kSeq (pieceK (C k) call F.swashlaw23_StackLong [1, 1, 1, 1, 1, 1, 1, 1, 1, 1, 1, 1, 0, 1, 0, 0, 1, 1, 1]) K) := by kernel_rfl
theorem swashlaw23_StackLong_p84 {β : Type} (k : Nat) (call : Caller) (e : Env) (h : Heap) (K : Kont β) : pieceK (C k) call F.swashlaw23_StackLong [1, 1, 1, 1, 1, 1, 1, 1, 1, 1, 1, 1, 0, 1, 0, 0, 1, 1, 0] e h K = pieceK (C k) call F.swashlaw23_StackLong [1, 1, 1, 1, 1, 1, 1, 1, 1, 1, 1, 1, 0, 1, 0, 0, 1, 1, 0, 0] e h (kBlock 3 K) := by kernel_rfl
theorem swashlaw23_StackLong_p85 {β : Type} (k : Nat) (call : Caller) (e : Env) (h : Heap) (K : Kont β) : pieceK (C k) call F.swashlaw23_StackLong [1, 1, 1, 1, 1, 1, 1, 1, 1, 1, 1, 1, 0, 1, 0, 0, 1, 1, 0, 0] e h K = pieceK (C k) call F.swashlaw23_StackLong [1, 1, 1, 1, 1, 1, 1, 1, 1, 1, 1, 1, 0, 1, 0, 0, 1, 1, 0, 0, 0] e h (kSeq (pieceK (C k) call F.swashlaw23_StackLong [1, 1, 1, 1, 1, 1, 1, 1, 1, 1, 1, 1, 0, 1, 0, 0, 1, 1, 0, 0, 1]) K) := by kernel_rfl
theorem swashlaw23_StackLong_p86 {β : Type} (k : Nat) (call : Caller) (a5 a6 a89 a90 a91 v133 : Value) (h134 : Heap) (K : Kont β) : pieceK (C k) call F.swashlaw23_StackLong [1, 1, 1, 1, 1, 1, 1, 1, 1, 1, 1, 1, 0, 1, 0, 0, 1, 1, 0, 0, 0] [(5, a5), (6, a6), (89, a89), (90, a90), (91, a91), (92, v133)] h134 K =
 (    (indexAddrR Prog 70 a89 a91 h134).bind fun v135 h136 =>
 (loadR Prog 91 v135 h136).bind fun v137 h138 =>
 (allocR Prog 91 h138).bind fun v139 h140 =>
 (storeR Prog 91 v139 v137 h140).bind fun _v141 h142 =>
 K .normal [(5, a5), (6, a6), (15, a91), (16, v139), (89, a89), (90, a90), (91, a91)] h142) := by kernel_rfl
theorem swashlaw23_StackLong_p87 {β : Type} (k : Nat) (call : Caller) (e : Env) (h : Heap) (K : Kont β) : pieceK (C k) call F.swashlaw23_StackLong [1, 1, 1, 1, 1, 1, 1, 1, 1, 1, 1, 1, 0, 1, 0, 0, 1, 1, 0, 0, 1] e h K = pieceK (C k) call F.swashlaw23_StackLong [1, 1, 1, 1, 1, 1, 1, 1, 1, 1, 1, 1, 0, 1, 0, 0, 1, 1, 0, 0, 1, 0] e h (kSeq (pieceK (C k) call F.swashlaw23_StackLong [1, 1, 1, 1, 1, 1, 1, 1, 1, 1, 1, 1, 0, 1, 0, 0, 1, 1, 0, 0, 1, 1]) K) := by kernel_rfl
theorem swashlaw23_StackLong_p88 {β : Type} (k : Nat) (call : Caller) (a5 a6 a91 v139 a89 a90 : Value) (h142 : Heap) (K : Kont β) : pieceK (C k) call F.swashlaw23_StackLong [1, 1, 1, 1, 1, 1, 1, 1, 1, 1, 1, 1, 0, 1, 0, 0, 1, 1, 0, 0, 1, 0] [(5, a5), (6, a6), (15, a91), (16, v139), (89, a89), (90, a90), (91, a91)] h142 K =
 (    (binR Prog .sub 3 a5 (.int .i64 1) h142).bind fun v143 h144 =>
 (binR Prog .sub 3 v143 a91 h144).bind fun v145 h146 =>
 K .normal [(5, a5), (6, a6), (16, v139), (17, v145), (18, (.int .i64 0)), (89, a89), (90, a90), (91, a91)] h146) := by kernel_rfl
theorem swashlaw23_StackLong_p89 {β : Type} (k : Nat) (call : Caller) (e : Env) (h : Heap) (K : Kont β) : pieceK (C k) call F.swashlaw23_StackLong [1, 1, 1, 1, 1, 1, 1, 1, 1, 1, 1, 1, 0, 1, 0, 0, 1, 1, 0, 0, 1, 1] e h K = pieceK (C k) call F.swashlaw23_StackLong [1, 1, 1, 1, 1, 1, 1, 1, 1, 1, 1, 1, 0, 1, 0, 0, 1, 1, 0, 0, 1, 1, 0] e h (kSeq (pieceK (C k) call F.swashlaw23_StackLong [1, 1, 1, 1, 1, 1, 1, 1, 1, 1, 1, 1, 0, 1, 0, 0, 1, 1, 0, 0, 1, 1, 1]) K) := by kernel_rfl
theorem swashlaw23_StackLong_p90 {β : Type} (k : Nat) (call : Caller) (e : Env) (h : Heap) (K : Kont β) : pieceK (C k) call F.swashlaw23_StackLong [1, 1, 1, 1, 1, 1, 1, 1, 1, 1, 1, 1, 0, 1, 0, 0, 1, 1, 0, 0, 1, 1, 0] e h K = pieceK (C k) call F.swashlaw23_StackLong [1, 1, 1, 1, 1, 1, 1, 1, 1, 1, 1, 1, 0, 1, 0, 0, 1, 1, 0, 0, 1, 1, 0, 0] e h (kSeq (pieceK (C k) call F.swashlaw23_StackLong [1, 1, 1, 1, 1, 1, 1, 1, 1, 1, 1, 1, 0, 1, 0, 0, 1, 1, 0, 0, 1, 1, 0, 1]) K) := by kernel_rfl
theorem swashlaw23_StackLong_p91 {β : Type} (k : Nat) (call : Caller) (a5 a6 v139 v145 a89 a90 a91 : Value) (h146 : Heap) (K : Kont β) : pieceK (C k) call F.swashlaw23_StackLong [1, 1, 1, 1, 1, 1, 1, 1, 1, 1, 1, 1, 0, 1, 0, 0, 1, 1, 0, 0, 1, 1, 0, 0] [(5, a5), (6, a6), (16, v139), (17, v145), (18, (.int .i64 0)), (89, a89), (90, a90), (91, a91)] h146 K =
 (    (builtinV Prog .min [3, 3] [a6, (.int .i64 8)] h146).bind fun v147 h148 =>
 (binR Prog .lss 3 v145 v147 h148).bind fun v149 h150 =>
 K .normal [(5, a5), (6, a6), (16, v139), (17, v145), (18, (.int .i64 0)), (89, a89), (90, a90), (91, a91), (103, v149)] h150) := by kernel_rfl
theorem swashlaw23_StackLong_p92 {β : Type} (k : Nat) (call : Caller) (a5 a6 v139 v145 a89 a90 a91 v149 : Value) (h150 : Heap) (K : Kont β) : pieceK (C k) call F.swashlaw23_StackLong [1, 1, 1, 1, 1, 1, 1, 1, 1, 1, 1, 1, 0, 1, 0, 0, 1, 1, 0, 0, 1, 1, 0, 1] [(5, a5), (6, a6), (16, v139), (17, v145), (18, (.int .i64 0)), (89, a89), (90, a90), (91, a91), (103, v149)] h150 K =
 (condV (some v149) (pieceK (C k) call F.swashlaw23_StackLong [1, 1, 1, 1, 1, 1, 1, 1, 1, 1, 1, 1, 0, 1, 0, 0, 1, 1, 0, 0, 1, 1, 0, 1, 0] [(5, a5), (6, a6), (16, v139), (17, v145), (18, (.int .i64 0)), (89, a89), (90, a90), (91, a91), (103, v149)] h150 K) (pieceK (C k) call F.swashlaw23_StackLong [1, 1, 1, 1, 1, 1, 1, 1, 1, 1, 1, 1, 0, 1, 0, 0, 1, 1, 0, 0, 1, 1, 0, 1, 1] [(5, a5), (6, a6), (16, v139), (17, v145), (18, (.int .i64 0)), (89, a89), (90, a90), (91, a91), (103, v149)] h150 K)) := by kernel_rfl
theorem swashlaw23_StackLong_p93 {β : Type} (k : Nat) (call : Caller) (a5 a6 v139 v145 a89 a90 a91 v149 : Value) (h150 : Heap) (K : Kont β) : pieceK (C k) call F.swashlaw23_StackLong [1, 1, 1, 1, 1, 1, 1, 1, 1, 1, 1, 1, 0, 1, 0, 0, 1, 1, 0, 0, 1, 1, 0, 1, 0] [(5, a5), (6, a6), (16, v139), (17, v145), (18, (.int .i64 0)), (89, a89), (90, a90), (91, a91), (103, v149)] h150 K =
 (      (binR Prog .add 3 v145 (.int .i64 1) h150).bind fun v151 h152 =>
 (binR Prog .mul 3 (.int .i64 2) v151 h152).bind fun v153 h154 =>
 K .normal [(5, a5), (6, a6), (16, v139), (18, v153), (89, a89), (90, a90), (91, a91)] h154) := by kernel_rfl
theorem swashlaw23_StackLong_p94 {β : Type} (k : Nat) (call : Caller) (e : Env) (h : Heap) (K : Kont β) : pieceK (C k) call F.swashlaw23_StackLong [1, 1, 1, 1, 1, 1, 1, 1, 1, 1, 1, 1, 0, 1, 0, 0, 1, 1, 0, 0, 1, 1, 0, 1, 1] e h K = K .normal e h := by kernel_rfl
theorem swashlaw23_StackLong_p95 {β : Type} (k : Nat) (call : Caller) (e : Env) (h : Heap) (K : Kont β) : pieceK (C k) call F.swashlaw23_StackLong [1, 1, 1, 1, 1, 1, 1, 1, 1, 1, 1, 1, 0, 1, 0, 0, 1, 0, 1] e h K = K (.exit 2) e h := by kernel_rfl
theorem swashlaw23_StackLong_p96 {β : Type} (k : Nat) (call : Caller) (e : Env) (h : Heap) (K : Kont β) : pieceK (C k) call F.swashlaw23_StackLong [1, 1, 1, 1, 1, 1, 1, 1, 1, 1, 1, 1, 0, 1, 0, 0, 1, 1, 0, 0, 1, 1, 1] e h K = pieceK (C k) call F.swashlaw23_StackLong [1, 1, 1, 1, 1, 1, 1, 1, 1, 1, 1, 1, 0, 1, 0, 0, 1, 1, 0, 0, 1, 1, 1, 0] e h (kSeq (pieceK (C k) call F.swashlaw23_StackLong [1, 1, 1, 1, 1, 1, 1, 1, 1, 1, 1, 1, 0, 1, 0, 0, 1, 1, 0, 0, 1, 1, 1, 1]) K) := by kernel_rfl
theorem swashlaw23_StackLong_p97 {β : Type} (k : Nat) (call : Caller) (a5 a6 a16 a18 a89 a90 a91 : Value) (h : Heap) (K : Kont β) : pieceK (C k) call F.swashlaw23_StackLong [1, 1, 1, 1, 1, 1, 1, 1, 1, 1, 1, 1, 0, 1, 0, 0, 1, 1, 0, 0, 1, 1, 1, 0] [(5, a5), (6, a6), (16, a16), (18, a18), (89, a89), (90, a90), (91, a91)] h K =
 (  (loadR Prog 91 a16 h).bind fun v155 h156 =>
 (convR Prog 3 21 a18 h156).bind fun v157 h158 =>
 (buildR Prog 91 [(0, v157)] h158).bind fun v159 h160 =>
 (binR Prog .neq 91 v155 v159 h160).bind fun v161 h162 =>
 K .normal [(5, a5), (6, a6), (89, a89), (90, a90), (91, a91), (111, v161)] h162) := by kernel_rfl
theorem swashlaw23_StackLong_p98 {β : Type} (k : Nat) (call : Caller) (a5 a6 a89 a90 a91 v161 : Value) (h162 : Heap) (K : Kont β) : pieceK (C k) call F.swashlaw23_StackLong [1, 1, 1, 1, 1, 1, 1, 1, 1, 1, 1, 1, 0, 1, 0, 0, 1, 1, 0, 0, 1, 1, 1, 1] [(5, a5), (6, a6), (89, a89), (90, a90), (91, a91), (111, v161)] h162 K =
 (condV (some v161) (pieceK (C k) call F.swashlaw23_StackLong [1, 1, 1, 1, 1, 1, 1, 1, 1, 1, 1, 1, 0, 1, 0, 0, 1, 1, 0, 0, 1, 1, 1, 1, 0] [(5, a5), (6, a6), (89, a89), (90, a90), (91, a91), (111, v161)] h162 K) (pieceK (C k) call F.swashlaw23_StackLong [1, 1, 1, 1, 1, 1, 1, 1, 1, 1, 1, 1, 0, 1, 0, 0, 1, 1, 0, 0, 1, 1, 1, 1, 1] [(5, a5), (6, a6), (89, a89), (90, a90), (91, a91), (111, v161)] h162 K)) := by kernel_rfl
theorem swashlaw23_StackLong_p99 {β : Type} (k : Nat) (call : Caller) (e : Env) (h : Heap) (K : Kont β) : pieceK (C k) call F.swashlaw23_StackLong [1, 1, 1, 1, 1, 1, 1, 1, 1, 1, 1, 1, 0, 1, 0, 0, 1, 1, 0, 0, 1, 1, 1, 1, 0] e h K = pieceK (C k) call F.swashlaw23_StackLong [1, 1, 1, 1, 1, 1, 1, 1, 1, 1, 1, 1, 0, 1, 0, 0, 1, 1, 0, 0, 1, 1, 1, 1, 0, 0] e h (kSeq (pieceK (C k) call F.swashlaw23_StackLong [1, 1, 1, 1, 1, 1, 1, 1, 1, 1, 1, 1, 0, 1, 0, 0, 1, 1, 0, 0, 1, 1, 1, 1, 0, 1]) K) := by kernel_rfl
theorem swashlaw23_StackLong_p100 {β : Type} (k : Nat) (call : Caller) (a5 a6 a89 a90 a91 v161 : Value) (h162 : Heap) (K : Kont β) : pieceK (C k) call F.swashlaw23_StackLong [1, 1, 1, 1, 1, 1, 1, 1, 1, 1, 1, 1, 0, 1, 0, 0, 1, 1, 0, 0, 1, 1, 1, 1, 0, 0] [(5, a5), (6, a6), (89, a89), (90, a90), (91, a91), (111, v161)] h162 K =
 (    K .normal [(4, (.bool false))] h162) := by kernel_rfl
theorem swashlaw23_StackLong_p101 {β : Type} (k : Nat) (call : Caller) (e : Env) (h : Heap) (K : Kont β) : pieceK (C k) call F.swashlaw23_StackLong [1, 1, 1, 1, 1, 1, 1, 1, 1, 1, 1, 1, 0, 1, 0, 0, 1, 1, 0, 0, 1, 1, 1, 1, 0, 1] e h K = K .ret e h := by kernel_rfl
theorem swashlaw23_StackLong_p102 {β : Type} (k : Nat) (call : Caller) (e : Env) (h : Heap) (K : Kont β) : pieceK (C k) call F.swashlaw23_StackLong [1, 1, 1, 1, 1, 1, 1, 1, 1, 1, 1, 1, 0, 1, 0, 0, 1, 1, 0, 0, 1, 1, 1, 1, 1] e h K = K .normal e h := by kernel_rfl
theorem swashlaw23_StackLong_p103 {β : Type} (k : Nat) (call : Caller) (a5 a6 a89 a90 a91 v161 : Value) (h162 : Heap) (K : Kont β) : pieceK (C k) call F.swashlaw23_StackLong [1, 1, 1, 1, 1, 1, 1, 1, 1, 1, 1, 1, 0, 1, 0, 0, 1, 1, 1] [(5, a5), (6, a6), (89, a89), (90, a90), (91, a91), (111, v161)] h162 K =
 (    (binR Prog .add 3 a91 (.int .i64 1) h162).bind fun v163 h164 =>
 K .normal [(5, a5), (6, a6), (89, a89), (90, a90), (91, v163)] h164) := by kernel_rfl
theorem swashlaw23_StackLong_p104 (k : Nat) (a5 a6 a89 a90 v163 : Value) (h164 : Heap) : kRound (ownOf (C k) F.swashlaw23_StackLong [1, 1, 1, 1, 1, 1, 1, 1, 1, 1, 1, 1, 0, 1, 0, 0]) .normal [(5, a5), (6, a6), (89, a89), (90, a90), (91, v163)] h164 =
 (.ok (.normal, [(5, a5), (6, a6), (89, a89), (90, a90), (91, v163)]) h164) := by kernel_rfl
theorem swashlaw23_StackLong_p105 {β : Type} (k : Nat) (call : Caller) (e : Env) (h : Heap) (K : Kont β) : pieceK (C k) call F.swashlaw23_StackLong [1, 1, 1, 1, 1, 1, 1, 1, 1, 1, 1, 1, 0, 1, 0, 0, 1, 1, 0, 0, 1, 1, 1] e h K = pieceK (C k) call F.swashlaw23_StackLong [1, 1, 1, 1, 1, 1, 1, 1, 1, 1, 1, 1, 0, 1, 0, 0, 1, 1, 0, 0, 1, 1, 1, 0] e h (kSeq (pieceK (C k) call F.swashlaw23_StackLong [1, 1, 1, 1, 1, 1, 1, 1, 1, 1, 1, 1, 0, 1, 0, 0, 1, 1, 0, 0, 1, 1, 1, 1]) K) := by kernel_rfl
theorem swashlaw23_StackLong_p106 {β : Type} (k : Nat) (call : Caller) (a5 a6 a16 a17 a18 a89 a90 a91 a103 : Value) (h : Heap) (K : Kont β) : pieceK (C k) call F.swashlaw23_StackLong [1, 1, 1, 1, 1, 1, 1, 1, 1, 1, 1, 1, 0, 1, 0, 0, 1, 1, 0, 0, 1, 1, 1, 0] [(5, a5), (6, a6), (16, a16), (17, a17), (18, a18), (89, a89), (90, a90), (91, a91), (103, a103)] h K =
 (  (loadR Prog 91 a16 h).bind fun v165 h166 =>
 (convR Prog 3 21 a18 h166).bind fun v167 h168 =>
 (buildR Prog 91 [(0, v167)] h168).bind fun v169 h170 =>
 (binR Prog .neq 91 v165 v169 h170).bind fun v171 h172 =>
 K .normal [(5, a5), (6, a6), (89, a89), (90, a90), (91, a91), (111, v171)] h172) := by kernel_rfl
theorem swashlaw23_StackLong_p107 {β : Type} (k : Nat) (call : Caller) (a5 a6 a89 a90 a91 v171 : Value) (h172 : Heap) (K : Kont β) : pieceK (C k) call F.swashlaw23_StackLong [1, 1, 1, 1, 1, 1, 1, 1, 1, 1, 1, 1, 0, 1, 0, 0, 1, 1, 0, 0, 1, 1, 1, 1] [(5, a5), (6, a6), (89, a89), (90, a90), (91, a91), (111, v171)] h172 K =
 (condV (some v171) (pieceK (C k) call F.swashlaw23_StackLong [1, 1, 1, 1, 1, 1, 1, 1, 1, 1, 1, 1, 0, 1, 0, 0, 1, 1, 0, 0, 1, 1, 1, 1, 0] [(5, a5), (6, a6), (89, a89), (90, a90), (91, a91), (111, v171)] h172 K) (pieceK (C k) call F.swashlaw23_StackLong [1, 1, 1, 1, 1, 1, 1, 1, 1, 1, 1, 1, 0, 1, 0, 0, 1, 1, 0, 0, 1, 1, 1, 1, 1] [(5, a5), (6, a6), (89, a89), (90, a90), (91, a91), (111, v171)] h172 K)) := by kernel_rfl
theorem swashlaw23_StackLong_p108 {β : Type} (k : Nat) (call : Caller) (e : Env) (h : Heap) (K : Kont β) : pieceK (C k) call F.swashlaw23_StackLong [1, 1, 1, 1, 1, 1, 1, 1, 1, 1, 1, 1, 0, 1, 0, 0, 1, 1, 0, 0, 1, 1, 1, 1, 0] e h K = pieceK (C k) call F.swashlaw23_StackLong [1, 1, 1, 1, 1, 1, 1, 1, 1, 1, 1, 1, 0, 1, 0, 0, 1, 1, 0, 0, 1, 1, 1, 1, 0, 0] e h (kSeq (pieceK (C k) call F.swashlaw23_StackLong [1, 1, 1, 1, 1, 1, 1, 1, 1, 1, 1, 1, 0, 1, 0, 0, 1, 1, 0, 0, 1, 1, 1, 1, 0, 1]) K) := by kernel_rfl
theorem swashlaw23_StackLong_p109 {β : Type} (k : Nat) (call : Caller) (a5 a6 a89 a90 a91 v171 : Value) (h172 : Heap) (K : Kont β) : pieceK (C k) call F.swashlaw23_StackLong [1, 1, 1, 1, 1, 1, 1, 1, 1, 1, 1, 1, 0, 1, 0, 0, 1, 1, 0, 0, 1, 1, 1, 1, 0, 0] [(5, a5), (6, a6), (89, a89), (90, a90), (91, a91), (111, v171)] h172 K =
 (    K .normal [(4, (.bool false))] h172) := by kernel_rfl
theorem swashlaw23_StackLong_p110 {β : Type} (k : Nat) (call : Caller) (e : Env) (h : Heap) (K : Kont β) : pieceK (C k) call F.swashlaw23_StackLong [1, 1, 1, 1, 1, 1, 1, 1, 1, 1, 1, 1, 0, 1, 0, 0, 1, 1, 0, 0, 1, 1, 1, 1, 0, 1] e h K = K .ret e h := by kernel_rfl
theorem swashlaw23_StackLong_p111 {β : Type} (k : Nat) (call : Caller) (e : Env) (h : Heap) (K : Kont β) : pieceK (C k) call F.swashlaw23_StackLong [1, 1, 1, 1, 1, 1, 1, 1, 1, 1, 1, 1, 0, 1, 0, 0, 1, 1, 0, 0, 1, 1, 1, 1, 1] e h K = K .normal e h := by kernel_rfl
theorem swashlaw23_StackLong_p112 {β : Type} (k : Nat) (call : Caller) (a5 a6 a89 a90 a91 v171 : Value) (h172 : Heap) (K : Kont β) : pieceK (C k) call F.swashlaw23_StackLong [1, 1, 1, 1, 1, 1, 1, 1, 1, 1, 1, 1, 0, 1, 0, 0, 1, 1, 1] [(5, a5), (6, a6), (89, a89), (90, a90), (91, a91), (111, v171)] h172 K =
 (    (binR Prog .add 3 a91 (.int .i64 1) h172).bind fun v173 h174 =>
 K .normal [(5, a5), (6, a6), (89, a89), (90, a90), (91, v173)] h174) := by kernel_rfl
theorem swashlaw23_StackLong_p113 (k : Nat) (a5 a6 a89 a90 v173 : Value) (h174 : Heap) : kRound (ownOf (C k) F.swashlaw23_StackLong [1, 1, 1, 1, 1, 1, 1, 1, 1, 1, 1, 1, 0, 1, 0, 0]) .normal [(5, a5), (6, a6), (89, a89), (90, a90), (91, v173)] h174 =
 (.ok (.normal, [(5, a5), (6, a6), (89, a89), (90, a90), (91, v173)]) h174) := by kernel_rfl
theorem swashlaw23_StackLong_p114 {β : Type} (k : Nat) (call : Caller) (e : Env) (h : Heap) (K : Kont β) : pieceK (C k) call F.swashlaw23_StackLong [1, 1, 1, 1, 1, 1, 1, 1, 1, 1, 1, 1, 1] e h K = pieceK (C k) call F.swashlaw23_StackLong [1, 1, 1, 1, 1, 1, 1, 1, 1, 1, 1, 1, 1, 0] e h (kSeq (pieceK (C k) call F.swashlaw23_StackLong [1, 1, 1, 1, 1, 1, 1, 1, 1, 1, 1, 1, 1, 1]) K) := by kernel_rfl
theorem swashlaw23_StackLong_p115 {β : Type} (k : Nat) (call : Caller) (a5 a6 a89 a90 a91 a92 : Value) (h : Heap) (K : Kont β) : pieceK (C k) call F.swashlaw23_StackLong [1, 1, 1, 1, 1, 1, 1, 1, 1, 1, 1, 1, 1, 0] [(5, a5), (6, a6), (89, a89), (90, a90), (91, a91), (92, a92)] h K =
 (  K .normal [(4, (.bool true))] h) := by kernel_rfl
theorem swashlaw23_StackLong_p116 {β : Type} (k : Nat) (call : Caller) (e : Env) (h : Heap) (K : Kont β) : pieceK (C k) call F.swashlaw23_StackLong [1, 1, 1, 1, 1, 1, 1, 1, 1, 1, 1, 1, 1, 1] e h K = K .ret e h := by kernel_rfl
theorem swashlaw23_StackLong_p117 (h : Heap) : kDone Prog (resOf Prog F.swashlaw23_StackLong) .ret [(4, (.bool true))] h =
 (  .ok (.bool true) h) := by kernel_rfl
theorem swashlaw23_StackLong_body (k : Nat) (call : Caller) (a0 a1 : Value) (h : Heap) : bodyK (C k) call F.swashlaw23_StackLong [a0, a1] h = pieceK (C k) call F.swashlaw23_StackLong [] [(0, a0), (1, a1)] h (kDone Prog (resOf Prog F.swashlaw23_StackLong)) := by kernel_rfl
theorem swashlaw23_StackLong_bd (k : Nat) (call : Caller) (a0 a1 : Value) (h : Heap) : bodyK (C k) call F.swashlaw23_StackLong [a0, a1] h = swashlaw23_StackLong k call a0 a1 h := by
 rw [swashlaw23_StackLong_body]
 simp only [swashlaw23_StackLong_l1k, swashlaw23_StackLong_p1, swashlaw23_StackLong_p2, swashlaw23_StackLong_p3, swashlaw23_StackLong_p4, swashlaw23_StackLong_p5, swashlaw23_StackLong_p6, swashlaw23_StackLong_p7, swashlaw23_StackLong_p8, swashlaw23_StackLong_p9, swashlaw23_StackLong_p10, swashlaw23_StackLong_p11, swashlaw23_StackLong_p12, swashlaw23_StackLong_p13, swashlaw23_StackLong_p14, swashlaw23_StackLong_p15, swashlaw23_StackLong_p16, swashlaw23_StackLong_p17, swashlaw23_StackLong_p18, swashlaw23_StackLong_p19, swashlaw23_StackLong_p20, swashlaw23_StackLong_p21, swashlaw23_StackLong_p22, swashlaw23_StackLong, swashlaw23_StackLong_kSn, swashlaw23_StackLong_kSx, swashlaw23_StackLong_kSr, swashlaw23_StackLong_kBn, swashlaw23_StackLong_kBx, swashlaw23_StackLong_kBr, swashlaw23_StackLong_kRx, swashlaw23_StackLong_kRr, Nat.reduceBEq, cond_true, cond_false]
theorem swashlaw23_StackLong_R (k : Nat) (a0 a1 : Value) (h : Heap) : R (T k) F.swashlaw23_StackLong [a0, a1] h = nrm .gc h (swashlaw23_StackLong k (R (T k)) a0 a1 h) :=
 (R_body (t := T k) (T_scott k) (by kernel_rfl) (by kernel_rfl) _ _).trans (congrArg (nrm .gc h) (swashlaw23_StackLong_bd k (R (T k)) a0 a1 h))
theorem swashlaw23_StackLong_l1_eq (k : Nat) (call : Caller) (a5 a6 a8 a40 a41 : Value) (h : Heap) : swashlaw23_StackLong_l1 k call [(5, a5), (6, a6), (8, a8), (40, a40), (41, a41)] h =
 (binR Prog .lss 3 a41 a40 h).bind fun v49 h50 =>
 condV (some v49) (
 (binR Prog .add 3 a41 (.int .i64 1) h50).bind fun v51 h52 =>
 (binR Prog .mul 3 (.int .i64 2) v51 h52).bind fun v53 h54 =>
 (convR Prog 3 88 v53 h54).bind fun v55 h56 =>
 (binR Prog .sub 3 a6 (.int .i64 1) h56).bind fun v57 h58 =>
 (binR Prog .eql 3 a41 v57 h58).bind fun v59 h60 =>
 condV (some v59) (
 (binR Prog .add 88 v55 (.int .i16 1) h60).bind fun v61 h62 =>
 swashlaw23_StackLong_j1 k call a5 a6 a8 v61 a40 a41 h62)
 (
 swashlaw23_StackLong_j2 k call a5 a6 a8 v55 a40 a41 v59 h60))
 (
 .ok ((.exit 0), [(5, a5), (6, a6), (8, a8), (40, a40), (41, a41), (42, v49)]) h50) :=
 (loopB_eq _ _).trans (by simp only [swashlaw23_StackLong_j2, swashlaw23_StackLong_j1, swashlaw23_StackLong_l1k, swashlaw23_StackLong_p23, swashlaw23_StackLong_p24, swashlaw23_StackLong_p25, swashlaw23_StackLong_p26, swashlaw23_StackLong_p27, swashlaw23_StackLong_p28, swashlaw23_StackLong_p29, swashlaw23_StackLong_p30, swashlaw23_StackLong_p31, swashlaw23_StackLong_p32, swashlaw23_StackLong_p33, swashlaw23_StackLong_p34, swashlaw23_StackLong_p35, swashlaw23_StackLong_p36, swashlaw23_StackLong_p37, swashlaw23_StackLong_p38, swashlaw23_StackLong_p39, swashlaw23_StackLong_p40, swashlaw23_StackLong, swashlaw23_StackLong_kSn, swashlaw23_StackLong_kSx, swashlaw23_StackLong_kSr, swashlaw23_StackLong_kBn, swashlaw23_StackLong_kBx, swashlaw23_StackLong_kBr, swashlaw23_StackLong_kRx, swashlaw23_StackLong_kRr, Nat.reduceBEq, cond_true, cond_false])
theorem swashlaw23_StackLong_j1_eq (k : Nat) (call : Caller) (a5 a6 a8 a10 a40 a41 : Value) (h : Heap) : swashlaw23_StackLong_j1 k call a5 a6 a8 a10 a40 a41 h =
 (fieldAddrR Prog 87 a8 1 h).bind fun v63 h64 =>
 (loadR Prog 85 v63 h64).bind fun v65 h66 =>
 (buildSliceR Prog 85 1 [(0, a10)] h66).bind fun v67 h68 =>
 (builtinV Prog .append [85, 85] [v65, v67] h68).bind fun v69 h70 =>
 (fieldAddrR Prog 87 a8 1 h70).bind fun v71 h72 =>
 (storeR Prog 85 v71 v69 h72).bind fun _v73 h74 =>
 (binR Prog .add 3 a41 (.int .i64 1) h74).bind fun v75 h76 =>
 .ok (.normal, [(5, a5), (6, a6), (8, a8), (40, a40), (41, v75)]) h76 := by simp only [swashlaw23_StackLong_j2, swashlaw23_StackLong_j1, swashlaw23_StackLong_l1k, swashlaw23_StackLong_p41, swashlaw23_StackLong_p42, swashlaw23_StackLong_p43, swashlaw23_StackLong, swashlaw23_StackLong_kSn, swashlaw23_StackLong_kSx, swashlaw23_StackLong_kSr, swashlaw23_StackLong_kBn, swashlaw23_StackLong_kBx, swashlaw23_StackLong_kBr, swashlaw23_StackLong_kRx, swashlaw23_StackLong_kRr, Nat.reduceBEq, cond_true, cond_false]
theorem swashlaw23_StackLong_j2_eq (k : Nat) (call : Caller) (a5 a6 a8 a10 a40 a41 a51 : Value) (h : Heap) : swashlaw23_StackLong_j2 k call a5 a6 a8 a10 a40 a41 a51 h =
 (fieldAddrR Prog 87 a8 1 h).bind fun v77 h78 =>
 (loadR Prog 85 v77 h78).bind fun v79 h80 =>
 (buildSliceR Prog 85 1 [(0, a10)] h80).bind fun v81 h82 =>
 (builtinV Prog .append [85, 85] [v79, v81] h82).bind fun v83 h84 =>
 (fieldAddrR Prog 87 a8 1 h84).bind fun v85 h86 =>
 (storeR Prog 85 v85 v83 h86).bind fun _v87 h88 =>
 (binR Prog .add 3 a41 (.int .i64 1) h88).bind fun v89 h90 =>
 .ok (.normal, [(5, a5), (6, a6), (8, a8), (40, a40), (41, v89)]) h90 := by simp only [swashlaw23_StackLong_j2, swashlaw23_StackLong_j1, swashlaw23_StackLong_l1k, swashlaw23_StackLong_p44, swashlaw23_StackLong_p45, swashlaw23_StackLong_p46, swashlaw23_StackLong, swashlaw23_StackLong_kSn, swashlaw23_StackLong_kSx, swashlaw23_StackLong_kSr, swashlaw23_StackLong_kBn, swashlaw23_StackLong_kBx, swashlaw23_StackLong_kBr, swashlaw23_StackLong_kRx, swashlaw23_StackLong_kRr, Nat.reduceBEq, cond_true, cond_false]
theorem swashlaw23_StackLong_l1k_x0 (k : Nat) (call : Caller) (a5 a6 a8 a40 a41 a42 : Value) (h : Heap) : swashlaw23_StackLong_l1k k call (.exit 0) [(5, a5), (6, a6), (8, a8), (40, a40), (41, a41), (42, a42)] h =
 (makeSliceV Prog 27 a5 a5 h).bind fun v91 h92 =>
 (binR Prog .sub 3 a5 (.int .i64 1) h92).bind fun v93 h94 =>
 (indexAddrR Prog 27 v91 v93 h94).bind fun v95 h96 =>
 (storeR Prog 3 v95 (.int .i64 1) h96).bind fun _v97 h98 =>
 (loadR Prog 87 a8 h98).bind fun v99 h100 =>
 (call F.swashlaw23_Write [v99] h100).bind fun v101 h102 =>
 (call F.stack_Read [v101, (.int .i64 9)] h102).bind fun v103 h104 =>
 (extractR v103 0 h104).bind fun v105 h106 =>
 (extractR v103 1 h106).bind fun v107 h108 =>
 (binR Prog .neq 34 v107 (.int .i64 0) h108).bind fun v109 h110 =>
 ((bif wantVal v109 false then Res.ok v105 h110 else Res.ok undef h110)).bind fun v111 h112 =>
 ((bif wantVal v109 false then binR Prog .eql 72 v111 (.pointer none) h112 else Res.ok undef h112)).bind fun v113 h114 =>
 (condV (some v109) (Res.ok (.bool true) h114) (Res.ok v113 h114)).bind fun v115 h116 =>
 condV (some v115) (
 .ok (.bool false) h116)
 (
 (makeSliceV Prog 27 a5 a5 h116).bind fun v117 h118 =>
 (call F.place_New [(.int .i64 0), v117] h118).bind fun v119 h120 =>
 (call F.line_New [v91] h120).bind fun v121 h122 =>
 (call F.stack_Table_Run [v105, v121, v119, (.bool false)] h122).bind fun v123 h124 =>
 (binR Prog .neq 34 v123 (.int .i64 0) h124).bind fun v125 h126 =>
 condV (some v125) (
 .ok (.bool false) h126)
 (
 (call F.place_Places_All [v119] h126).bind fun v127 h128 =>
 (builtinV Prog .len [70] [v127] h128).bind fun v129 h130 =>
 (loopN (swashlaw23_StackLong_l2 k call) loopFuel [(5, a5), (6, a6), (89, v127), (90, v129), (91, (.int .i64 0))] h130).bind fun r131 h132 =>
 swashlaw23_StackLong_l2k k call r131.1 r131.2 h132)) := by simp only [swashlaw23_StackLong_j2, swashlaw23_StackLong_j1, swashlaw23_StackLong_l2k, swashlaw23_StackLong_l1k, swashlaw23_StackLong_p47, swashlaw23_StackLong_p48, swashlaw23_StackLong_p49, swashlaw23_StackLong_p50, swashlaw23_StackLong_p51, swashlaw23_StackLong_p52, swashlaw23_StackLong_p53, swashlaw23_StackLong_p54, swashlaw23_StackLong_p55, swashlaw23_StackLong_p56, swashlaw23_StackLong_p57, swashlaw23_StackLong_p58, swashlaw23_StackLong_p59, swashlaw23_StackLong_p60, swashlaw23_StackLong_p61, swashlaw23_StackLong_p62, swashlaw23_StackLong_p63, swashlaw23_StackLong_p64, swashlaw23_StackLong_p65, swashlaw23_StackLong_p66, swashlaw23_StackLong_p67, swashlaw23_StackLong_p68, swashlaw23_StackLong_p69, swashlaw23_StackLong_p70, swashlaw23_StackLong_p71, swashlaw23_StackLong_p72, swashlaw23_StackLong_p73, swashlaw23_StackLong_p74, swashlaw23_StackLong_p75, swashlaw23_StackLong_p76, swashlaw23_StackLong_p77, swashlaw23_StackLong, swashlaw23_StackLong_kSn, swashlaw23_StackLong_kSx, swashlaw23_StackLong_kSr, swashlaw23_StackLong_kBn, swashlaw23_StackLong_kBx, swashlaw23_StackLong_kBr, swashlaw23_StackLong_kRx, swashlaw23_StackLong_kRr, Nat.reduceBEq, cond_true, cond_false]
theorem swashlaw23_StackLong_l2_eq (k : Nat) (call : Caller) (a5 a6 a89 a90 a91 : Value) (h : Heap) : swashlaw23_StackLong_l2 k call [(5, a5), (6, a6), (89, a89), (90, a90), (91, a91)] h =
 (binR Prog .lss 3 a91 a90 h).bind fun v133 h134 =>
 condV (some v133) (
 (indexAddrR Prog 70 a89 a91 h134).bind fun v135 h136 =>
 (loadR Prog 91 v135 h136).bind fun v137 h138 =>
 (allocR Prog 91 h138).bind fun v139 h140 =>
 (storeR Prog 91 v139 v137 h140).bind fun _v141 h142 =>
 (binR Prog .sub 3 a5 (.int .i64 1) h142).bind fun v143 h144 =>
 (binR Prog .sub 3 v143 a91 h144).bind fun v145 h146 =>
 (builtinV Prog .min [3, 3] [a6, (.int .i64 8)] h146).bind fun v147 h148 =>
 (binR Prog .lss 3 v145 v147 h148).bind fun v149 h150 =>
 condV (some v149) (
 (binR Prog .add 3 v145 (.int .i64 1) h150).bind fun v151 h152 =>
 (binR Prog .mul 3 (.int .i64 2) v151 h152).bind fun v153 h154 =>
 swashlaw23_StackLong_j3 k call a5 a6 v139 v153 a89 a90 a91 h154)
 (
 swashlaw23_StackLong_j4 k call a5 a6 v139 v145 (.int .i64 0) a89 a90 a91 v149 h150))
 (
 .ok ((.exit 2), [(5, a5), (6, a6), (89, a89), (90, a90), (91, a91), (92, v133)]) h134) :=
 (loopB_eq _ _).trans (by simp only [swashlaw23_StackLong_j4, swashlaw23_StackLong_j3, swashlaw23_StackLong_j2, swashlaw23_StackLong_j1, swashlaw23_StackLong_l2k, swashlaw23_StackLong_l1k, swashlaw23_StackLong_p78, swashlaw23_StackLong_p79, swashlaw23_StackLong_p80, swashlaw23_StackLong_p81, swashlaw23_StackLong_p82, swashlaw23_StackLong_p83, swashlaw23_StackLong_p84, swashlaw23_StackLong_p85, swashlaw23_StackLong_p86, swashlaw23_StackLong_p87, swashlaw23_StackLong_p88, swashlaw23_StackLong_p89, swashlaw23_StackLong_p90, swashlaw23_StackLong_p91, swashlaw23_StackLong_p92, swashlaw23_StackLong_p93, swashlaw23_StackLong_p94, swashlaw23_StackLong_p95, swashlaw23_StackLong, swashlaw23_StackLong_kSn, swashlaw23_StackLong_kSx, swashlaw23_StackLong_kSr, swashlaw23_StackLong_kBn, swashlaw23_StackLong_kBx, swashlaw23_StackLong_kBr, swashlaw23_StackLong_kRx, swashlaw23_StackLong_kRr, Nat.reduceBEq, cond_true, cond_false])
theorem swashlaw23_StackLong_j3_eq (k : Nat) (call : Caller) (a5 a6 a16 a18 a89 a90 a91 : Value) (h : Heap) : swashlaw23_StackLong_j3 k call a5 a6 a16 a18 a89 a90 a91 h =
 (loadR Prog 91 a16 h).bind fun v155 h156 =>
 (convR Prog 3 21 a18 h156).bind fun v157 h158 =>
 (buildR Prog 91 [(0, v157)] h158).bind fun v159 h160 =>
 (binR Prog .neq 91 v155 v159 h160).bind fun v161 h162 =>
 condV (some v161) (
 .ok (.ret, [(4, (.bool false))]) h162)
 (
 (binR Prog .add 3 a91 (.int .i64 1) h162).bind fun v163 h164 =>
 .ok (.normal, [(5, a5), (6, a6), (89, a89), (90, a90), (91, v163)]) h164) := by simp only [swashlaw23_StackLong_j4, swashlaw23_StackLong_j3, swashlaw23_StackLong_j2, swashlaw23_StackLong_j1, swashlaw23_StackLong_l2k, swashlaw23_StackLong_l1k, swashlaw23_StackLong_p96, swashlaw23_StackLong_p97, swashlaw23_StackLong_p98, swashlaw23_StackLong_p99, swashlaw23_StackLong_p100, swashlaw23_StackLong_p101, swashlaw23_StackLong_p102, swashlaw23_StackLong_p103, swashlaw23_StackLong_p104, swashlaw23_StackLong, swashlaw23_StackLong_kSn, swashlaw23_StackLong_kSx, swashlaw23_StackLong_kSr, swashlaw23_StackLong_kBn, swashlaw23_StackLong_kBx, swashlaw23_StackLong_kBr, swashlaw23_StackLong_kRx, swashlaw23_StackLong_kRr, Nat.reduceBEq, cond_true, cond_false]
theorem swashlaw23_StackLong_j4_eq (k : Nat) (call : Caller) (a5 a6 a16 a17 a18 a89 a90 a91 a103 : Value) (h : Heap) : swashlaw23_StackLong_j4 k call a5 a6 a16 a17 a18 a89 a90 a91 a103 h =
 (loadR Prog 91 a16 h).bind fun v165 h166 =>
 (convR Prog 3 21 a18 h166).bind fun v167 h168 =>
 (buildR Prog 91 [(0, v167)] h168).bind fun v169 h170 =>
 (binR Prog .neq 91 v165 v169 h170).bind fun v171 h172 =>
 condV (some v171) (
 .ok (.ret, [(4, (.bool false))]) h172)
 (
 (binR Prog .add 3 a91 (.int .i64 1) h172).bind fun v173 h174 =>
 .ok (.normal, [(5, a5), (6, a6), (89, a89), (90, a90), (91, v173)]) h174) := by simp only [swashlaw23_StackLong_j4, swashlaw23_StackLong_j3, swashlaw23_StackLong_j2, swashlaw23_StackLong_j1, swashlaw23_StackLong_l2k, swashlaw23_StackLong_l1k, swashlaw23_StackLong_p105, swashlaw23_StackLong_p106, swashlaw23_StackLong_p107, swashlaw23_StackLong_p108, swashlaw23_StackLong_p109, swashlaw23_StackLong_p110, swashlaw23_StackLong_p111, swashlaw23_StackLong_p112, swashlaw23_StackLong_p113, swashlaw23_StackLong, swashlaw23_StackLong_kSn, swashlaw23_StackLong_kSx, swashlaw23_StackLong_kSr, swashlaw23_StackLong_kBn, swashlaw23_StackLong_kBx, swashlaw23_StackLong_kBr, swashlaw23_StackLong_kRx, swashlaw23_StackLong_kRr, Nat.reduceBEq, cond_true, cond_false]
theorem swashlaw23_StackLong_l2k_x2 (k : Nat) (call : Caller) (a5 a6 a89 a90 a91 a92 : Value) (h : Heap) : swashlaw23_StackLong_l2k k call (.exit 2) [(5, a5), (6, a6), (89, a89), (90, a90), (91, a91), (92, a92)] h =
 .ok (.bool true) h := by simp only [swashlaw23_StackLong_j4, swashlaw23_StackLong_j3, swashlaw23_StackLong_j2, swashlaw23_StackLong_j1, swashlaw23_StackLong_l2k, swashlaw23_StackLong_l1k, swashlaw23_StackLong_p114, swashlaw23_StackLong_p115, swashlaw23_StackLong_p116, swashlaw23_StackLong_p117, swashlaw23_StackLong, swashlaw23_StackLong_kSn, swashlaw23_StackLong_kSx, swashlaw23_StackLong_kSr, swashlaw23_StackLong_kBn, swashlaw23_StackLong_kBx, swashlaw23_StackLong_kBr, swashlaw23_StackLong_kRx, swashlaw23_StackLong_kRr, Nat.reduceBEq, cond_true, cond_false]
def swashlaw23_Write_l1 (k : Nat) (call : Caller) : Env → Heap → Res (AExit × Env) := loopB (C k) call F.swashlaw23_Write [1, 1, 1, 0, 1, 0, 0]
def swashlaw23_Write_l1k (k : Nat) (call : Caller) : Kont Value := kBlock 0 (kSeq (pieceK (C k) call F.swashlaw23_Write [1, 1, 1, 1]) (kDone Prog (resOf Prog F.swashlaw23_Write)))
def swashlaw23_Write (k : Nat) (call : Caller) (a0 : Value) (h : Heap) : Res Value :=
 (boxR a0 h).bind fun v1 h2 =>
 (fieldAddrR Prog 87 v1 0 h2).bind fun v3 h4 =>
 (loadR Prog 26 v3 h4).bind fun v5 h6 =>
 (call F.swashlaw07_Write [v5, (.int .i64 1), (.int .i64 4)] h6).bind fun v7 h8 =>
 (sliceR Prog 22 v7 (some (.int .i64 16)) (some (.int .i64 20)) none h8).bindN fun v9 h10 =>
 (builtinV Prog .len [22] [v7] h10).bindN fun v11 h12 =>
 (call F.swashref02_Put [(.slice none 0 0), v11, (.int .i64 4)] h12).bindT (fun p15 h16 => .panic p15 h16) fun v13 h14 =>
 (builtinV Prog .copy [22, 22] [v9, v13] h14).bindN fun v17 h18 =>
 chkR ((okVal (sliceR Prog 22 v7 (some (.int .i64 16)) (some (.int .i64 20)) none h14) v9 && true) && true) (
 (fieldAddrR Prog 87 v1 1 h18).bind fun v19 h20 =>
 (loadR Prog 85 v19 h20).bind fun v21 h22 =>
 (builtinV Prog .len [85] [v21] h22).bind fun v23 h24 =>
 (loopN (swashlaw23_Write_l1 k call) loopFuel [(3, v7), (16, v21), (17, v23), (18, (.int .i64 0))] h24).bind fun r25 h26 =>
 swashlaw23_Write_l1k k call r25.1 r25.2 h26)
theorem swashlaw23_Write_R (k : Nat) (a0 : Value) (h : Heap) : R (T k) F.swashlaw23_Write [a0] h = nrm (own k) h (swashlaw23_Write k (R (T k)) a0 h) :=
 (R_body (t := T k) (T_scott k) (by kernel_rfl) (by kernel_rfl) _ _).trans (by kernel_rfl)
theorem swashlaw23_Write_l1_eq (k : Nat) (call : Caller) (a3 a16 a17 a18 : Value) (h : Heap) : swashlaw23_Write_l1 k call [(3, a3), (16, a16), (17, a17), (18, a18)] h =
 (binR Prog .lss 3 a18 a17 h).bind fun v27 h28 =>
 condV (some v27) (
 (indexAddrR Prog 85 a16 a18 h28).bind fun v29 h30 =>
 (loadR Prog 88 v29 h30).bind fun v31 h32 =>
 (convR Prog 88 154 v31 h32).bind fun v33 h34 =>
 (convR Prog 154 3 v33 h34).bind fun v35 h36 =>
 (call F.swashref02_Put [a3, v35, (.int .i64 2)] h36).bind fun v37 h38 =>
 (binR Prog .add 3 a18 (.int .i64 1) h38).bind fun v39 h40 =>
 .ok (.normal, [(3, v37), (16, a16), (17, a17), (18, v39)]) h40)
 (
 .ok ((.exit 0), [(3, a3), (16, a16), (17, a17), (18, a18), (19, v27)]) h28) :=
 (loopB_eq _ _).trans (by kernel_rfl)
theorem swashlaw23_Write_l1k_x0 (k : Nat) (call : Caller) (a3 a16 a17 a18 a19 : Value) (h : Heap) : swashlaw23_Write_l1k k call (.exit 0) [(3, a3), (16, a16), (17, a17), (18, a18), (19, a19)] h =
 .ok a3 h := by kernel_rfl
end
end Go.Sw
end
