/-
  Functions' forms, and what is proved of them, part 3.
-/
import Derived.Test.YtanfippcmdialaaSwW2
import Derived.Test.YtanfippcmdialaaSwLib9
import Derived.Test.YtanfippcmdialaaSwCfg
import Derived.Test.YtanfippcmdialaaSwLib8
set_option linter.unusedSimpArgs false
set_option linter.unusedVariables false
set_option linter.unusedSectionVars false
section
namespace Go.Sw
open Go.RowKit
theorem tryV_np {short:TypeId} {call:Caller} {args:List Value} {H:Heap} {v:Value} {H':Heap}:tryV short call args H ≠ .panic v H':=by
 unfold tryV;split
 ·rename_i g f c;cases call g (f.toList ++ c.toList) H with
  | stuck => simp [Res.bindP]
  | ok a H => simp [Res.bindP]
  | panic a H =>
   simp only [Res.bindP];split
   ·rename_i t xs;cases Nat.beq t short && Nat.beq xs.size 0 <;> simp
   ·simp
 ·simp
theorem Try_R (k:Nat) (f:Value) (H:Heap):R (T k) F.view_Try [f] H = tryV shortT (R (T k)) [f] H :=
 ((R_sp (t:=T k) (T_scott k) (s:=tryV shortT) (by kernel_rfl) [f] H).trans (by
  show nrm Mode.no H _ = _;cases h:tryV shortT (R (T k)) [f] H with
  | ok a H => rfl
  | stuck => rfl
  | panic a H => exact absurd h tryV_np))
theorem Try_ok (k:Nat) (g:FuncId) (cap:Array Value) {H H':Heap} {v:Value} (h:R (T k) g cap.toList H = .ok v H'):R (T k) F.view_Try [.func (.func g) #[] cap] H = .ok (.bool true) H':=by
 rw [Try_R];unfold tryV;simp [h,Res.bindP]
theorem Try_no (k:Nat) (g:FuncId) (cap:Array Value) {H H':Heap} (h:R (T k) g cap.toList H = .panic failV H'):R (T k) F.view_Try [.func (.func g) #[] cap] H = .ok (.bool false) H':=by
 rw [Try_R];unfold tryV;simp [h,Res.bindP]
end Go.Sw
end
section
namespace Go.Sw
open Go.RowKit
theorem at_run (k:Nat) (p:Pt) (hp:p.ok) (id:Int) (hf:p.first ≤ id) (hi:id ≤ p.last) (H:Heap):R (T k) F.ζ49 [.agg #[.int .i64 p.first,.int .i64 p.last,lv encI p.vals],.int .i64 id] H = .ok (.int .i64 ((p.num id).getD 0)) H:=by
 rw [ζjf];obtain ⟨x,hx,_⟩:=Pt.num_some hp hf;obtain ⟨h1,h2,h3,h4,h5,h6⟩:=hp;have hl:0 < p.vals.length:=List.length_pos_iff.2 h4;refine nrm_gc ⟨_,?_,(Ext.refl H).push ⟨[.int .i64 p.first,.int .i64 p.last,lv encI p.vals],1,false⟩⟩ (.int _ _);unfold Pt.num at hx ⊢;obtain ⟨m,hm⟩:∃ m:Int,m = (if (p.vals.length:Int) - 1 < id - p.first then (p.vals.length:Int) - 1 else id - p.first):=⟨_,rfl⟩
 have hm2:min (id - p.first) ((p.vals.length:Int) - 1) = m:=by rw [hm]; split <;> omega
 rw [hm2] at hx ⊢;have hm0:0 ≤ m:=by rw [hm]; split <;> omega
 have hix:=fun H' => ixS_lv encI_len p.vals .i64 m x hm0 hx H';simp only [hx,Option.getD_some];simp -implicitDefEqProofs (disch:=omega) [ζ49,← hm,hix]
theorem ζrk (k:Nat) {H:Heap} (x:Int × List Pt) (id:Int) (p1 p2:Nat) (h1:H.get p1 = some ⟨[tabV x],1,false⟩) (h2:H.get p2 = some ⟨[.int .i64 id],1,false⟩) (j:Nat) (p:Pt) (hj:x.2[j]? = some p) :
  R (T k) F.ζ23 [.int .i64 j,.pointer (some ⟨p1,0,none⟩),.pointer (some ⟨p2,0,none⟩)] H = .ok (.bool (decide (id ≤ p.last))) H:=by
 rw [ζd4];refine nrm_gc (Pure.of ?_) (.bool _);have i1:=fun H' => ixS_lvN ζds x.2 .i64 j p hj H';simp -implicitDefEqProofs (disch:=omega) [ζ23,h1,h2,i1]
theorem Get_run (k:Nat) (x:Int × List Pt) (hok:∀ p,p ∈ x.2 → p.ok) (hr:risesS x.2 = true) (id:Int) (hl:x.2.length < 2 ^ 31) (H:Heap) :
  R (T k) F.ζ2k [tabV x,.int .i64 id] H = .ok (.tuple #[.int .i64 ((getS x.2 id).getD 0),.bool (getS x.2 id).isSome]) H:=by
 rw [ζfq];obtain ⟨fmt,ps⟩:=x;dsimp only at hok hr hl ⊢;have hx:Ext H ((H.push ⟨[tabV (fmt,ps)],1,false⟩).push ⟨[.int .i64 id],1,false⟩):=((Ext.refl H).push _).push _;have hmono:∀ i j:Nat,i ≤ j → j < ps.length → (ps[i]?).elim false (fun p => decide (id ≤ p.last)) = true → (ps[j]?).elim false (fun p => decide (id ≤ p.last)) = true:=by
  intro i j hij hj hi;by_cases he:i = j
  ·subst he; exact hi
  ·obtain ⟨p,hp⟩:∃ p,ps[i]? = some p:=⟨_,List.getElem?_eq_getElem (by omega)⟩
   obtain ⟨q,hq⟩:∃ q,ps[j]? = some q:=⟨_,List.getElem?_eq_getElem hj⟩
   have h1:=ζjo hr hok i j p q (by omega) hp hq;have h2:=(hok q (List.mem_of_getElem? hq)).2.1;rw [hp] at hi;rw [hq];simp at hi ⊢;omega
 obtain ⟨i,hfi⟩:=ζt9 ps.length (fun j => (ps[j]?).elim false fun p => decide (id ≤ p.last)) hmono
 have hfirst:=ζu0 k ps.length (.func (.func F.ζ23) #[] #[.pointer (some ⟨H.n,0,none⟩),.pointer (some ⟨H.n + 1,0,none⟩)]) (fun j => (ps[j]?).elim false fun p => decide (id ≤ p.last)) ((H.push ⟨[tabV (fmt,ps)],1,false⟩).push ⟨[.int .i64 id],1,false⟩) (by omega)
  (fun j hj => by
   obtain ⟨p,hp⟩:∃ p,ps[j]? = some p:=⟨_,List.getElem?_eq_getElem hj⟩
   have:=ζrk k (H:=(H.push ⟨[tabV (fmt,ps)],1,false⟩).push ⟨[.int .i64 id],1,false⟩) (fmt,ps) id H.n (H.n + 1) (by simp) (by simp) j p hp;simp only [callV,List.nil_append,List.cons_append];rw [hp];simpa using this)
  hmono i hfi
 rw [ζsy id i hfi];have hle:=hfi.1;by_cases hil:i < ps.length
 ·obtain ⟨p,hp⟩:∃ p,ps[i]? = some p:=⟨_,List.getElem?_eq_getElem hil⟩
  have hpok:=hok p (List.mem_of_getElem? hp);have hne:((i:Int) == (ps.length:Int)) = false:=by simp; omega
  have i1:=fun H' => ixS_lvN ζds ps .i64 i p hp H';have hlast:id ≤ p.last:=by
   have:=hfi.2.2 i (Nat.le_refl _) hil;simp only [hp] at this;simpa using this
  rw [hp];by_cases hf:p.first ≤ id
  ·have hgt:¬ p.first > id:=by omega
   obtain ⟨y,hy,_⟩:=Pt.num_some hpok hf;have hat:=at_run k p hpok id hf hlast ((H.push ⟨[tabV (fmt,ps)],1,false⟩).push ⟨[.int .i64 id],1,false⟩);refine nrm_gc ⟨_,?_,hx⟩ (Flat.tupleL (l:=[_,_]) (.cons (.int _ _) (.cons (.bool _) .nil))).alive;simp only [Option.bind_some,if_pos hf];rw [hy] at hat ⊢;simp -implicitDefEqProofs (disch:=omega) [ζ2k,hfirst,hne,i1,hgt,hat]
  ·have hgt:p.first > id:=by omega
   refine nrm_gc ⟨_,?_,hx⟩ (Flat.tupleL (l:=[_,_]) (.cons (.int _ _) (.cons (.bool _) .nil))).alive;simp only [Option.bind_some,if_neg hf];simp -implicitDefEqProofs (disch:=omega) [ζ2k,hfirst,hne,i1,hgt]
 ·have e:i = ps.length:=by omega
  subst e;refine nrm_gc ⟨_,?_,hx⟩ (Flat.tupleL (l:=[_,_]) (.cons (.int _ _) (.cons (.bool _) .nil))).alive;simp -implicitDefEqProofs (disch:=omega) [ζ2k,hfirst]
end Go.Sw
end
section
namespace Go.Sw
open Go.RowKit
theorem iv1_get {len:Nat} {cs:Array Value} {k:IntKind} {j:Nat} {v:Value} (hj:j < len) (h:cs[j]? = some v) (H:Heap):iv1 len 1 (.agg cs) (.int k (j:Nat)) H = .ok v H:=by
 unfold iv1;dsimp only;rw [if_pos ⟨by omega,by omega⟩,Int.toNat_natCast,Nat.mul_one,h];rfl
section
variable {α:Type} {enc:α → List Value}
theorem Star.stBox {H0 H:Heap} {L:List It} (h:Star H0 H L) (i:Nat) {p b m:Nat} {pre:List Value} {l:List α} (hi:L[i]? = some (itBox p pre (some b) m enc l)) (he:∀ x,(enc x).length = m) {j c n:Nat} {x:α} (y:α) {v:Value} (hx:l[j]? = some x)
  (hn:v.cells.size = n) (hs:storable v = true) (hc:c + n ≤ m) (hy:enc y = splice (enc x) c v.cells.toList) :
  ∃ H',stR n (.pointer (some ⟨b,j * m + c,none⟩)) v H = .ok undef H' ∧ Star H0 H' (L.set i (itBox p pre (some b) m enc (l.set j y))) ∧ H'.n = H.n:=by
 obtain ⟨hne,s,g1,g2⟩:=h.box i hi;rcases g2 with ⟨h0,_⟩ | ⟨b',h0,h1,h2⟩
 ·cases h0
 ·injection h0 with h0;subst h0;obtain ⟨H',e1,e2,e3,e4⟩:=st_row he h2 y hx hn hs hc hy;refine ⟨H',e1,h.step i hi (by omega) (fun d _ hd => e3 d fun e => hd (show d ∈ [p,b] from by rw [e]; simp)) _ ⟨hne,s,?_,.inr ⟨b,rfl,by rw [List.length_set]; exact h1,e2⟩⟩ (fun b hb => .inl hb),e4⟩;rw [e3 p fun e => hne (by rw [e])];exact g1
end
section
variable {α:Type} {enc:α → List Value}
theorem Sl.lenL {H:Heap} {m:Nat} {v:Value} {l:List α} (h:Sl H m v enc l):Go.Sw.lenL v = some l.length:=by
 rcases h with rfl | ⟨rfl,rfl | rfl | rfl⟩ | ⟨b,off,cap,k,rfl,_⟩ <;> rfl
theorem Sl.first {H:Heap} {m:Nat} {v:Value} {l:List α} (he:∀ x,(enc x).length = m) (h:Sl H m v enc l):firstV m l.length v H = some (rows enc l):=by
 rcases h with rfl | ⟨rfl,rfl | rfl | rfl⟩ | ⟨b,off,cap,k,rfl,hc,hk,hr⟩
 ·exact lv_first he l H
 ·rfl
 ·rfl
 ·rfl
 ·unfold firstV;dsimp only;have hl:=ζf he l;split
  ·rename_i h0;rw [List.length_eq_zero_iff.1 (hl.trans h0)]
  ·rename_i h0;rw [ζ85,hk,Option.bind_some,hr,if_pos];have:=congrArg List.length hr;rw [hl] at this;simp at this;omega
theorem Sl.rd {H:Heap} {m:Nat} (hm:0 < m) {v:Value} {l:List α} (he:∀ x,(enc x).length = m) (h:Sl H m v enc l):Rd H m v enc l:=by
 have hlen:=h.len;rcases h with rfl | ⟨rfl,_⟩ | ⟨b,off,cap,k,rfl,hc,hk,hr⟩
 ·exact Rd.lv he H l
 ·exact ⟨hlen,fun i x hx => by simp at hx⟩
 ·refine ⟨hlen,fun i x hx => ?_⟩;have hi:=(List.getElem?_eq_some_iff.1 hx).1;refine ⟨.pointer (some ⟨b,off + i * m,none⟩),fun k H' => ζgp m b off l.length cap k i H' hi,?_⟩;have hl:=ζf he l;have hle:i * m + m ≤ l.length * m:=by rw [← Nat.succ_mul]; exact Nat.mul_le_mul_right _ hi
  have hkl:=congrArg List.length hr;rw [hl] at hkl;have hpos:0 < l.length * m:=Nat.mul_pos (by omega) hm;rw [List.length_take,List.length_drop] at hkl;have hfit:off + i * m + m ≤ k.cells.length:=by omega
  simp only [ldA_ptr,hk,Option.bind_some];rw [if_pos hfit];have:=rows_at he l i x hx;rw [← hr,List.drop_take,List.take_take,List.drop_drop] at this;rw [show min m (l.length * m - i * m) = m by omega] at this;rw [this];rfl
theorem clone_sl {m bytes:Nat} (he:∀ x,(enc x).length = m) {H:Heap} {v:Value} {l:List α} (h:Sl H m v enc l) (h31:l.length ≤ 2 ^ 31) (hby:bytes ≤ 2 ^ 10) :
  ∃ s' H',cloneV m bytes [v] H = .ok s' H' ∧ Own H H' m s' enc l ∧ Ext H H':=by
 unfold cloneV;dsimp only;rw [h.lenL];cases hl:l.length with
 | zero =>
  have:=List.length_eq_zero_iff.1 hl;subst this;exact ⟨_,_,rfl,.inl ⟨rfl,.inr (.inr rfl)⟩,Ext.refl H⟩
 | succ n =>
  obtain ⟨s',H',h1,h2,h3,_⟩:=apR_own (bytes:=bytes) he (Own.bare H H m) (Ext.refl H) (b:=v) (l2:=l) (ζf0 h.lenL) (h.first he) (by simp; omega) hby;exact ⟨s',H',h1,by simpa using h2,h3⟩
theorem Star.more_own {H0 H H':Heap} {L:List It} (h:Star H0 H L) {m:Nat} {s:Value} {l:List α} (ho:Own H H' m s enc l) (he:Ext H H'):∃ o,Star H0 H' (L ++ [itRow o m s enc l]):=by
 obtain ⟨o,h1,h2⟩:=ho.toO;exact ⟨o,h.more_row he h1 fun b hb => ⟨h2 b hb,h1.lt b hb⟩⟩
end
theorem at2_0 (L:List It) (a b:It):(L ++ [a,b])[L.length]? = some a:=by simp
theorem at2_1 (L:List It) (a b:It):(L ++ [a,b])[L.length + 1]? = some b:=by rw [List.getElem?_append_right (by omega)]; simp
theorem set2_0 (L:List It) (a b x:It):(L ++ [a,b]).set L.length x = L ++ [x,b]:=by rw [List.set_append_right _ _ (by omega)]; simp
theorem set2_1 (L:List It) (a b x:It):(L ++ [a,b]).set (L.length + 1) x = L ++ [a,x]:=by rw [List.set_append_right _ _ (by omega)]; simp
theorem ζ1x {α:Type} {l:List α} {j:Nat} {p:α} (h:l[j]? = some p):l.take (j + 1) = l.take j ++ [p]:=by
 rw [List.take_add_one,h]; rfl
theorem nrm_of {H H':Heap} {r:Res Value} {v:Value} (h:r = .ok v H'):nrm .no H r = .ok v H':=by rw [h]; rfl
theorem Star.join2 {α:Type} {enc:α → List Value} {H0 H:Heap} {L:List It} {o:Option Nat} {m c:Nat} {s:Value} {l:List α} (pre:List Value) (h:Star H0 H (L ++ [itRow o m s enc l,itBlk c ⟨pre ++ [s],1,false⟩])):Star H0 H (L ++ [itBox c pre o m enc l]):=by
 have g:=h.join L.length (L.length + 1) (L.length + 1) (by omega) (by omega) (at2_0 _ _ _) (at2_1 _ _ _);rw [show L ++ [itRow o m s enc l,itBlk c ⟨pre ++ [s],1,false⟩] = (L ++ [itRow o m s enc l]) ++ [itBlk c ⟨pre ++ [s],1,false⟩] by simp,List.take_left' (by simp),ζtm] at g;exact g
theorem fz_box {n0:Nat} {H:Heap} {d c e:Nat} {cells r:List Value} {L:List Nat} (hn:n0 ≤ c) (hc:H.get c = some ⟨cells,e,false⟩) (h:mapF (fzV n0 H d) cells = some (r,L)):fzV n0 H (d + 1) (.pointer (some ⟨c,0,none⟩)) = some (boxV r.toArray,c :: L):=by
 have h1:Nat.blt c n0 = false:=by
  cases hb:Nat.blt c n0 with
  | false => rfl
  | true => exact absurd (Nat.le_of_ble_eq_true hb) (by omega)
 simp only [fzV,h1,cond_false,hc,List.drop_zero,h];rfl
theorem mapF_one {f:Value → Option (Value × List Nat)} {v u:Value} {L:List Nat} (h:f v = some (u,L)):mapF f [v] = some ([u],L):=by
 have:=ζ4a (f:=f) h mapF_nil;simpa using this
end Go.Sw
end
section
set_option maxRecDepth 100000
set_option linter.unusedVariables false
namespace Go.Sw
noncomputable section
def ζ2u (k:Nat) (call:Caller) (a0:Value) (h:Heap):Res Value :=
 (nilR a0 h).bind fun v1 h2 =>
 (fieldAddrR Prog 164 v1 0 h2).bind fun v3 h4 =>
 (loadR Prog 22 v3 h4).bind fun v5 h6 =>
 (call F.ζ7 [v5] h6).bind fun v7 h8 =>
 .ok v7 h8
theorem ζfn (k:Nat) (a0:Value) (h:Heap):R (T k) F.ζ2u [a0] h = nrm (own k) h (ζ2u k (R (T k)) a0 h) :=
 (R_body (t:=T k) (T_scott k) (by kernel_rfl) (by kernel_rfl) _ _).trans (by kernel_rfl)
def ζ37 (k:Nat) (call:Caller) (a0:Value) (h:Heap):Res Value :=
 (nilR a0 h).bind fun v1 h2 =>
 (fieldAddrR Prog 164 v1 0 h2).bind fun v3 h4 =>
 (loadR Prog 22 v3 h4).bind fun v5 h6 =>
 (call F.ζ2 [v5,(.func (.func F.ζ29) #[] #[])] h6).bind fun v7 h8 =>
 (nilR a0 h8).bind fun v9 h10 =>
 (fieldAddrR Prog 164 v9 0 h10).bind fun v11 h12 =>
 (storeR Prog 22 v11 v7 h12).bind fun _v13 h14 =>
 .ok (.tuple #[]) h14
theorem ζgb (k:Nat) (a0:Value) (h:Heap):R (T k) F.ζ37 [a0] h = nrm .no h (ζ37 k (R (T k)) a0 h) :=
 (R_body (t:=T k) (T_scott k) (by kernel_rfl) (by kernel_rfl) _ _).trans (by kernel_rfl)
def ζ7q (k:Nat) (call:Caller) (a0 a1 a2 a7:Value) (h:Heap):Res Value :=
 kSeq (pieceK (C k) call F.ζg [1,1,1,1]) (kDone Prog (resOf Prog F.ζg)) .normal [(0,a0),(1,a1),(2,a2),(7,a7)] h
def ζ7r (k:Nat) (call:Caller) (a0 a1 a2 a7 a30:Value) (h:Heap):Res Value :=
 kSeq (pieceK (C k) call F.ζg [1,1,1,1]) (kDone Prog (resOf Prog F.ζg)) .normal [(0,a0),(1,a1),(2,a2),(7,a7),(30,a30)] h
def ζ32 (k:Nat) (call:Caller):Env → Heap → Res (AExit × Env):=loopB (C k) call F.ζg [1,1,1,1,1,0,1,0,0]
def ζ3o (k:Nat) (call:Caller):Kont Value:=kBlock 0 (kSeq (pieceK (C k) call F.ζg [1,1,1,1,1,1]) (kDone Prog (resOf Prog F.ζg)))
def ζg (k:Nat) (call:Caller) (a0 a1 a2:Value) (h:Heap):Res Value :=
 (binR Prog .lss 3 a1 (.int .i64 0) h).bind fun v1 h2 =>
 ((bif wantVal v1 false then Res.ok a1 h2 else Res.ok undef h2)).bind fun v3 h4 =>
 ((bif wantVal v1 false then Res.ok a0 h4 else Res.ok undef h4)).bind fun v5 h6 =>
 ((bif wantVal v1 false then nilR v5 h6 else Res.ok undef h6)).bind fun v7 h8 =>
 ((bif wantVal v1 false then fieldAddrR Prog 164 v7 0 h8 else Res.ok undef h8)).bind fun v9 h10 =>
 ((bif wantVal v1 false then loadR Prog 22 v9 h10 else Res.ok undef h10)).bind fun v11 h12 =>
 ((bif wantVal v1 false then builtinV Prog .len [22] [v11] h12 else Res.ok undef h12)).bind fun v13 h14 =>
 ((bif wantVal v1 false then binR Prog .gtr 3 v3 v13 h14 else Res.ok undef h14)).bind fun v15 h16 =>
 (condV (some v1) (Res.ok (.bool true) h16) (Res.ok v15 h16)).bind fun v17 h18 =>
 condV (some v17) (
 .ok (.bool false) h18)
 (
 (call F.ζ2t [a0,a1] h18).bind fun v19 h20 =>
 (extractR v19 0 h20).bind fun v21 h22 =>
 (extractR v19 1 h22).bind fun v23 h24 =>
 (allocR Prog 57 h24).bind fun v25 h26 =>
 (storeR Prog 57 v25 v21 h26).bind fun _v27 h28 =>
 (unR .not v23 h28).bind fun v29 h30 =>
 condV (some v29) (
 (binR Prog .sub 3 a1 (.int .i64 1) h30).bind fun v31 h32 =>
 (call F.ζ2t [a0,v31] h32).bind fun v33 h34 =>
 (extractR v33 0 h34).bind fun v35 h36 =>
 (extractR v33 1 h36).bind fun v37 h38 =>
 (storeR Prog 57 v25 v35 h38).bind fun _v39 h40 =>
 ζ7q k call a0 a1 a2 v25 h40)
 (
 ζ7r k call a0 a1 a2 v25 v29 h30))
theorem ζfo (k:Nat) (a0 a1 a2:Value) (h:Heap):R (T k) F.ζg [a0,a1,a2] h = nrm .no h (ζg k (R (T k)) a0 a1 a2 h) :=
 (R_body (t:=T k) (T_scott k) (by kernel_rfl) (by kernel_rfl) _ _).trans (by kernel_rfl)
theorem ζd2 (k:Nat) (call:Caller) (a0 a1 a2 a7:Value) (h:Heap):ζ7q k call a0 a1 a2 a7 h =
 (builtinV Prog .len [23] [a2] h).bind fun v41 h42 =>
 (loopN (ζ32 k call) loopFuel [(0,a0),(1,a1),(7,a7),(9,(.slice none 0 0)),(38,a2),(39,v41),(40,(.int .i64 0))] h42).bind fun r43 h44 =>
 ζ3o k call r43.1 r43.2 h44:=by kernel_rfl
theorem ζd3 (k:Nat) (call:Caller) (a0 a1 a2 a7 a30:Value) (h:Heap):ζ7r k call a0 a1 a2 a7 a30 h =
 (builtinV Prog .len [23] [a2] h).bind fun v45 h46 =>
 (loopN (ζ32 k call) loopFuel [(0,a0),(1,a1),(7,a7),(9,(.slice none 0 0)),(38,a2),(39,v45),(40,(.int .i64 0))] h46).bind fun r47 h48 =>
 ζ3o k call r47.1 r47.2 h48:=by kernel_rfl
theorem ζ5z (k:Nat) (call:Caller) (a0 a1 a7 a9 a38 a39 a40:Value) (h:Heap):ζ32 k call [(0,a0),(1,a1),(7,a7),(9,a9),(38,a38),(39,a39),(40,a40)] h =
 (binR Prog .lss 3 a40 a39 h).bind fun v49 h50 =>
 condV (some v49) (
 (indexAddrR Prog 23 a38 a40 h50).bind fun v51 h52 =>
 (loadR Prog 3 v51 h52).bind fun v53 h54 =>
 (fieldAddrR Prog 57 a7 1 h54).bind fun v55 h56 =>
 (loadR Prog 3 v55 h56).bind fun v57 h58 =>
 (buildR Prog 57 [(0,v53),(1,v57)] h58).bind fun v59 h60 =>
 (buildSliceR Prog 22 1 [(0,v59)] h60).bind fun v61 h62 =>
 (builtinV Prog .append [22,22] [a9,v61] h62).bind fun v63 h64 =>
 (binR Prog .add 3 a40 (.int .i64 1) h64).bind fun v65 h66 =>
 .ok (.normal,[(0,a0),(1,a1),(7,a7),(9,v63),(38,a38),(39,a39),(40,v65)]) h66)
 (
 .ok ((.exit 0),[(0,a0),(1,a1),(7,a7),(9,a9),(38,a38),(39,a39),(40,a40),(41,v49)]) h50) :=
 (loopB_eq _ _).trans (by kernel_rfl)
theorem ζ9y (k:Nat) (call:Caller) (a0 a1 a7 a9 a38 a39 a40 a41:Value) (h:Heap):ζ3o k call (.exit 0) [(0,a0),(1,a1),(7,a7),(9,a9),(38,a38),(39,a39),(40,a40),(41,a41)] h =
 (nilR a0 h).bind fun v67 h68 =>
 (fieldAddrR Prog 164 v67 0 h68).bind fun v69 h70 =>
 (loadR Prog 22 v69 h70).bind fun v71 h72 =>
 (call F.ζh [v71,a1,a9] h72).bind fun v73 h74 =>
 (nilR a0 h74).bind fun v75 h76 =>
 (fieldAddrR Prog 164 v75 0 h76).bind fun v77 h78 =>
 (storeR Prog 22 v77 v73 h78).bind fun _v79 h80 =>
 .ok (.bool true) h80:=by kernel_rfl
def ζfp (k:Nat) (call:Caller):Env → Heap → Res (AExit × Env):=loopB (C k) call F.line_New [1,1,0,1,0,0]
def ζjd (k:Nat) (call:Caller):Kont Value:=kBlock 0 (kSeq (pieceK (C k) call F.line_New [1,1,1]) (kDone Prog (resOf Prog F.line_New)))
def line_New (k:Nat) (call:Caller) (a0:Value) (h:Heap):Res Value :=
 (buildR Prog 164 [] h).bind fun v1 h2 =>
 (boxR v1 h2).bind fun v3 h4 =>
 (builtinV Prog .len [23] [a0] h4).bind fun v5 h6 =>
 (loopN (ζfp k call) loopFuel [(3,v3),(8,a0),(9,v5),(10,(.int .i64 0))] h6).bind fun r7 h8 =>
 ζjd k call r7.1 r7.2 h8
theorem ζte (k:Nat) (a0:Value) (h:Heap):R (T k) F.line_New [a0] h = nrm .no h (line_New k (R (T k)) a0 h) :=
 (R_body (t:=T k) (T_scott k) (by kernel_rfl) (by kernel_rfl) _ _).trans (by kernel_rfl)
theorem ζf1 (k:Nat) (call:Caller) (a3 a8 a9 a10:Value) (h:Heap):ζfp k call [(3,a3),(8,a8),(9,a9),(10,a10)] h =
 (binR Prog .lss 3 a10 a9 h).bind fun v9 h10 =>
 condV (some v9) (
 (indexAddrR Prog 23 a8 a10 h10).bind fun v11 h12 =>
 (loadR Prog 3 v11 h12).bind fun v13 h14 =>
 (nilR a3 h14).bind fun v15 h16 =>
 (fieldAddrR Prog 164 v15 0 h16).bind fun v17 h18 =>
 (loadR Prog 22 v17 h18).bind fun v19 h20 =>
 (buildR Prog 57 [(0,v13),(1,a10)] h20).bind fun v21 h22 =>
 (buildSliceR Prog 22 1 [(0,v21)] h22).bind fun v23 h24 =>
 (builtinV Prog .append [22,22] [v19,v23] h24).bind fun v25 h26 =>
 (nilR a3 h26).bind fun v27 h28 =>
 (fieldAddrR Prog 164 v27 0 h28).bind fun v29 h30 =>
 (storeR Prog 22 v29 v25 h30).bind fun _v31 h32 =>
 (binR Prog .add 3 a10 (.int .i64 1) h32).bind fun v33 h34 =>
 .ok (.normal,[(3,a3),(8,a8),(9,a9),(10,v33)]) h34)
 (
 .ok ((.exit 0),[(3,a3),(8,a8),(9,a9),(10,a10),(11,v9)]) h10) :=
 (loopB_eq _ _).trans (by kernel_rfl)
theorem ζn0 (k:Nat) (call:Caller) (a3 a8 a9 a10 a11:Value) (h:Heap):ζjd k call (.exit 0) [(3,a3),(8,a8),(9,a9),(10,a10),(11,a11)] h =
 .ok a3 h:=by kernel_rfl
def ζd (k:Nat) (call:Caller) (a0:Value) (h:Heap):Res Value :=
 (nilR a0 h).bind fun v1 h2 =>
 (fieldAddrR Prog 164 v1 0 h2).bind fun v3 h4 =>
 (loadR Prog 22 v3 h4).bind fun v5 h6 =>
 (builtinV Prog .len [22] [v5] h6).bind fun v7 h8 =>
 .ok v7 h8
theorem ζmy (k:Nat) (a0:Value) (h:Heap):R (T k) F.ζd [a0] h = nrm .gc h (ζd k (R (T k)) a0 h) :=
 (R_body (t:=T k) (T_scott k) (by kernel_rfl) (by kernel_rfl) _ _).trans (by kernel_rfl)
def ζ2t (k:Nat) (call:Caller) (a0 a1:Value) (h:Heap):Res Value :=
 (allocR Prog 57 h).bind fun v1 h2 =>
 (call F.ζ3p [a0,a1] h2).bind fun v3 h4 =>
 (unR .not v3 h4).bind fun v5 h6 =>
 condV (some v5) (
 (buildR Prog 57 [] h6).bind fun v7 h8 =>
 (storeR Prog 57 v1 v7 h8).bind fun _v9 h10 =>
 (loadR Prog 57 v1 h10).bind fun v11 h12 =>
 .ok (.tuple #[v11,(.bool false)]) h12)
 (
 (nilR a0 h6).bind fun v13 h14 =>
 (fieldAddrR Prog 164 v13 0 h14).bind fun v15 h16 =>
 (loadR Prog 22 v15 h16).bind fun v17 h18 =>
 (indexAddrR Prog 22 v17 a1 h18).bind fun v19 h20 =>
 (loadR Prog 57 v19 h20).bind fun v21 h22 =>
 (storeR Prog 57 v1 v21 h22).bind fun _v23 h24 =>
 (loadR Prog 57 v1 h24).bind fun v25 h26 =>
 .ok (.tuple #[v25,(.bool true)]) h26)
theorem ζor (k:Nat) (a0 a1:Value) (h:Heap):R (T k) F.ζ2t [a0,a1] h = nrm .gc h (ζ2t k (R (T k)) a0 a1 h) :=
 (R_body (t:=T k) (T_scott k) (by kernel_rfl) (by kernel_rfl) _ _).trans (by kernel_rfl)
def ζ29 (k:Nat) (call:Caller) (a0:Value) (h:Heap):Res Value :=
 (boxR a0 h).bind fun v1 h2 =>
 (fieldAddrR Prog 57 v1 0 h2).bind fun v3 h4 =>
 (loadR Prog 3 v3 h4).bind fun v5 h6 =>
 (binR Prog .eql 3 v5 (.int .i64 65535) h6).bind fun v7 h8 =>
 .ok v7 h8
theorem ζdx (k:Nat) (a0:Value) (h:Heap):R (T k) F.ζ29 [a0] h = nrm .no h (ζ29 k (R (T k)) a0 h) :=
 (R_body (t:=T k) (T_scott k) (by kernel_rfl) (by kernel_rfl) _ _).trans (by kernel_rfl)
def ζ3l (k:Nat) (call:Caller) (a0 a1 a2:Value) (h:Heap):Res Value :=
 (call F.ζ3p [a0,a1] h).bind fun v1 h2 =>
 (unR .not v1 h2).bind fun v3 h4 =>
 condV (some v3) (
 .ok (.bool false) h4)
 (
 (nilR a0 h4).bind fun v5 h6 =>
 (fieldAddrR Prog 164 v5 0 h6).bind fun v7 h8 =>
 (loadR Prog 22 v7 h8).bind fun v9 h10 =>
 (indexAddrR Prog 22 v9 a1 h10).bind fun v11 h12 =>
 (fieldAddrR Prog 57 v11 0 h12).bind fun v13 h14 =>
 (storeR Prog 3 v13 a2 h14).bind fun _v15 h16 =>
 .ok (.bool true) h16)
theorem ζmz (k:Nat) (a0 a1 a2:Value) (h:Heap):R (T k) F.ζ3l [a0,a1,a2] h = nrm .no h (ζ3l k (R (T k)) a0 a1 a2 h) :=
 (R_body (t:=T k) (T_scott k) (by kernel_rfl) (by kernel_rfl) _ _).trans (by kernel_rfl)
def ζ6h (k:Nat) (call:Caller):Env → Heap → Res (AExit × Env):=loopB (C k) call F.ζ1q [1,1,0,0]
def ζ8d (k:Nat) (call:Caller):Kont Value:=kBlock 0 (kDone Prog (resOf Prog F.ζ1q))
def ζ9s (k:Nat) (call:Caller) (a0 a1 a14 a15 a16:Value) (h:Heap):Res (AExit × Env) :=
 kSeq (pieceK (C k) call F.ζ1q [1,1,0,0,1,1,1]) (kRound (ownOf (C k) F.ζ1q [1,1,0,0])) .normal [(0,a0),(1,a1),(14,a14),(15,a15),(16,a16)] h
def ζ9t (k:Nat) (call:Caller) (a0 a1 a8 a14 a15 a16 a26:Value) (h:Heap):Res (AExit × Env) :=
 kSeq (pieceK (C k) call F.ζ1q [1,1,0,0,1,1,1]) (kRound (ownOf (C k) F.ζ1q [1,1,0,0])) .normal [(0,a0),(1,a1),(8,a8),(14,a14),(15,a15),(16,a16),(26,a26)] h
def ζ1q (k:Nat) (call:Caller) (a0 a1 a2:Value) (h:Heap):Res Value :=
 (call F.ζ3p [a0,a1] h).bind fun v1 h2 =>
 (unR .not v1 h2).bind fun v3 h4 =>
 condV (some v3) (
 .ok (.tuple #[]) h4)
 (
 (builtinV Prog .len [23] [a2] h4).bind fun v5 h6 =>
 (loopN (ζ6h k call) loopFuel [(0,a0),(1,a1),(14,a2),(15,v5),(16,(.int .i64 0))] h6).bind fun r7 h8 =>
 ζ8d k call r7.1 r7.2 h8)
theorem ζjc (k:Nat) (a0 a1 a2:Value) (h:Heap):R (T k) F.ζ1q [a0,a1,a2] h = nrm .no h (ζ1q k (R (T k)) a0 a1 a2 h) :=
 (R_body (t:=T k) (T_scott k) (by kernel_rfl) (by kernel_rfl) _ _).trans (by kernel_rfl)
theorem ζ4p (k:Nat) (call:Caller) (a0 a1 a14 a15 a16:Value) (h:Heap):ζ6h k call [(0,a0),(1,a1),(14,a14),(15,a15),(16,a16)] h =
 (binR Prog .lss 3 a16 a15 h).bind fun v9 h10 =>
 condV (some v9) (
 (indexAddrR Prog 23 a14 a16 h10).bind fun v11 h12 =>
 (loadR Prog 3 v11 h12).bind fun v13 h14 =>
 (call F.ζ2t [a0,v13] h14).bind fun v15 h16 =>
 (extractR v15 0 h16).bind fun v17 h18 =>
 (extractR v15 1 h18).bind fun v19 h20 =>
 (allocR Prog 57 h20).bind fun v21 h22 =>
 (storeR Prog 57 v21 v17 h22).bind fun _v23 h24 =>
 condV (some v19) (
 (nilR a0 h24).bindN fun v25 h26 =>
 (fieldAddrR Prog 164 v25 0 h26).bindN fun v27 h28 =>
 (loadR Prog 22 v27 h28).bindN fun v29 h30 =>
 (nilR a0 h30).bindN fun v31 h32 =>
 (fieldAddrR Prog 164 v31 0 h32).bindN fun v33 h34 =>
 (loadR Prog 22 v33 h34).bindN fun v35 h36 =>
 (indexAddrR Prog 22 v35 a1 h36).bindN fun v37 h38 =>
 (fieldAddrR Prog 57 v37 1 h38).bindN fun v39 h40 =>
 (loadR Prog 3 v39 h40).bindN fun v41 h42 =>
 (fieldAddrR Prog 57 v21 1 h42).bindN fun v43 h44 =>
 (loadR Prog 3 v43 h44).bindN fun v45 h46 =>
 (builtinV Prog .min [3,3] [v41,v45] h46).bindN fun v47 h48 =>
 (indexAddrR Prog 22 v29 a1 h48).bindN fun v49 h50 =>
 (fieldAddrR Prog 57 v49 1 h50).bindN fun v51 h52 =>
 (storeR Prog 3 v51 v47 h52).bindN fun _v53 h54 =>
 ζ9s k call a0 a1 a14 a15 a16 h54)
 (
 ζ9t k call a0 a1 v21 a14 a15 a16 v19 h24))
 (
 .ok ((.exit 0),[(0,a0),(1,a1),(14,a14),(15,a15),(16,a16),(17,v9)]) h10) :=
 (loopB_eq _ _).trans (by kernel_rfl)
theorem ζef (k:Nat) (call:Caller) (a0 a1 a14 a15 a16:Value) (h:Heap):ζ9s k call a0 a1 a14 a15 a16 h =
 (binR Prog .add 3 a16 (.int .i64 1) h).bind fun v55 h56 =>
 .ok (.normal,[(0,a0),(1,a1),(14,a14),(15,a15),(16,v55)]) h56:=by kernel_rfl
theorem ζeg (k:Nat) (call:Caller) (a0 a1 a8 a14 a15 a16 a26:Value) (h:Heap):ζ9t k call a0 a1 a8 a14 a15 a16 a26 h =
 (binR Prog .add 3 a16 (.int .i64 1) h).bind fun v57 h58 =>
 .ok (.normal,[(0,a0),(1,a1),(14,a14),(15,a15),(16,v57)]) h58:=by kernel_rfl
theorem ζdy (k:Nat) (call:Caller) (a0 a1 a14 a15 a16 a17:Value) (h:Heap):ζ8d k call (.exit 0) [(0,a0),(1,a1),(14,a14),(15,a15),(16,a16),(17,a17)] h =
 .ok (.tuple #[]) h:=by kernel_rfl
def ζ3p (k:Nat) (call:Caller) (a0 a1:Value) (h:Heap):Res Value :=
 (binR Prog .geq 3 a1 (.int .i64 0) h).bind fun v1 h2 =>
 ((bif wantVal v1 true then Res.ok a1 h2 else Res.ok undef h2)).bind fun v3 h4 =>
 ((bif wantVal v1 true then Res.ok a0 h4 else Res.ok undef h4)).bind fun v5 h6 =>
 ((bif wantVal v1 true then nilR v5 h6 else Res.ok undef h6)).bind fun v7 h8 =>
 ((bif wantVal v1 true then fieldAddrR Prog 164 v7 0 h8 else Res.ok undef h8)).bind fun v9 h10 =>
 ((bif wantVal v1 true then loadR Prog 22 v9 h10 else Res.ok undef h10)).bind fun v11 h12 =>
 ((bif wantVal v1 true then builtinV Prog .len [22] [v11] h12 else Res.ok undef h12)).bind fun v13 h14 =>
 ((bif wantVal v1 true then binR Prog .lss 3 v3 v13 h14 else Res.ok undef h14)).bind fun v15 h16 =>
 (condV (some v1) (Res.ok v15 h16) (Res.ok (.bool false) h16)).bind fun v17 h18 =>
 .ok v17 h18
theorem ζos (k:Nat) (a0 a1:Value) (h:Heap):R (T k) F.ζ3p [a0,a1] h = nrm .gc h (ζ3p k (R (T k)) a0 a1 h) :=
 (R_body (t:=T k) (T_scott k) (by kernel_rfl) (by kernel_rfl) _ _).trans (by kernel_rfl)
end
end Go.Sw
end
section
set_option maxRecDepth 100000
set_option linter.unusedVariables false
namespace Go.Sw
noncomputable section
def ζ7 (k:Nat) (call:Caller) (a0:Value) (h:Heap):Res Value :=
 (binR Prog .eql 22 a0 (.slice none 0 0) h).bind fun v1 h2 =>
 condV (some v1) (
 .ok (.slice none 0 0) h2)
 (
 (buildSliceR Prog 22 0 [] h2).bind fun v3 h4 =>
 (builtinV Prog .append [22,22] [v3,a0] h4).bind fun v5 h6 =>
 .ok v5 h6)
theorem ζ46 (k:Nat) (sp:FuncId → Option Sp) (call:Caller) (a0:Value) (h:Heap):bodyK { P:=Prog,kp:=kpS,sp:=sp } call F.ζ7 [a0] h = ζ7 k call a0 h:=by kernel_rfl
def ζ1a (k:Nat) (call:Caller):Env → Heap → Res (AExit × Env):=loopB (C k) call F.ζ2 [1,1,1,0,1,0,0]
def ζ2a (k:Nat) (call:Caller):Kont Value:=kBlock 0 (kSeq (pieceK (C k) call F.ζ2 [1,1,1,1]) (kDone Prog (resOf Prog F.ζ2)))
def ζ2c (k:Nat) (call:Caller) (a0 a1 a5 a6:Value) (h:Heap):Res (AExit × Env) :=
 kSeq (pieceK (C k) call F.ζ2 [1,1,1,0,1,0,0,1,1]) (kRound (ownOf (C k) F.ζ2 [1,1,1,0,1,0,0])) .normal [(0,a0),(1,a1),(5,a5),(6,a6)] h
def ζ2d (k:Nat) (call:Caller) (a0 a1 a5 a6 a7 a29:Value) (h:Heap):Res (AExit × Env) :=
 kSeq (pieceK (C k) call F.ζ2 [1,1,1,0,1,0,0,1,1]) (kRound (ownOf (C k) F.ζ2 [1,1,1,0,1,0,0])) .normal [(0,a0),(1,a1),(5,a5),(6,a6),(7,a7),(29,a29)] h
def ζ2 (k:Nat) (call:Caller) (a0 a1:Value) (h:Heap):Res Value :=
 (call F.ζ4 [a0,a1] h).bind fun v1 h2 =>
 (binR Prog .eql 3 v1 (.int .i64 (-1)) h2).bind fun v3 h4 =>
 condV (some v3) (
 .ok a0 h4)
 (
 (binR Prog .add 3 v1 (.int .i64 1) h4).bind fun v5 h6 =>
 (loopN (ζ1a k call) loopFuel [(0,a0),(1,a1),(5,v1),(6,v5)] h6).bind fun r7 h8 =>
 ζ2a k call r7.1 r7.2 h8)
theorem ζ3j (k:Nat) (sp:FuncId → Option Sp) (call:Caller) (a0 a1:Value) (h:Heap):bodyK { P:=Prog,kp:=kpS,sp:=sp } call F.ζ2 [a0,a1] h = ζ2 k call a0 a1 h:=by kernel_rfl
theorem ζ14 (k:Nat) (call:Caller) (a0 a1 a5 a6:Value) (h:Heap):ζ1a k call [(0,a0),(1,a1),(5,a5),(6,a6)] h =
 (builtinV Prog .len [22] [a0] h).bind fun v9 h10 =>
 (binR Prog .lss 3 a6 v9 h10).bind fun v11 h12 =>
 condV (some v11) (
 (indexAddrR Prog 22 a0 a6 h12).bind fun v13 h14 =>
 (loadR Prog 57 v13 h14).bind fun v15 h16 =>
 (allocR Prog 57 h16).bind fun v17 h18 =>
 (storeR Prog 57 v17 v15 h18).bind fun _v19 h20 =>
 (loadR Prog 57 v17 h20).bind fun v21 h22 =>
 (callV call a1 [v21] h22).bind fun v23 h24 =>
 (unR .not v23 h24).bind fun v25 h26 =>
 condV (some v25) (
 (loadR Prog 57 v17 h26).bind fun v27 h28 =>
 (indexAddrR Prog 22 a0 a5 h28).bind fun v29 h30 =>
 (storeR Prog 57 v29 v27 h30).bind fun _v31 h32 =>
 (binR Prog .add 3 a5 (.int .i64 1) h32).bind fun v33 h34 =>
 ζ2c k call a0 a1 v33 a6 h34)
 (
 ζ2d k call a0 a1 a5 a6 v17 v25 h26))
 (
 .ok ((.exit 0),[(0,a0),(1,a1),(5,a5),(6,a6),(19,v11)]) h12) :=
 (loopB_eq _ _).trans (by kernel_rfl)
theorem ζ3g (k:Nat) (call:Caller) (a0 a1 a5 a6:Value) (h:Heap):ζ2c k call a0 a1 a5 a6 h =
 (binR Prog .add 3 a6 (.int .i64 1) h).bind fun v35 h36 =>
 .ok (.normal,[(0,a0),(1,a1),(5,a5),(6,v35)]) h36:=by kernel_rfl
theorem ζ3h (k:Nat) (call:Caller) (a0 a1 a5 a6 a7 a29:Value) (h:Heap):ζ2d k call a0 a1 a5 a6 a7 a29 h =
 (binR Prog .add 3 a6 (.int .i64 1) h).bind fun v37 h38 =>
 .ok (.normal,[(0,a0),(1,a1),(5,a5),(6,v37)]) h38:=by kernel_rfl
theorem ζ3a (k:Nat) (call:Caller) (a0 a1 a5 a6 a19:Value) (h:Heap):ζ2a k call (.exit 0) [(0,a0),(1,a1),(5,a5),(6,a6),(19,a19)] h =
 (sliceR Prog 22 a0 (some a5) none none h).bind fun v39 h40 =>
 (builtinV Prog .clear [22] [v39] h40).bind fun _v41 h42 =>
 (sliceR Prog 22 a0 none (some a5) none h42).bind fun v43 h44 =>
 .ok v43 h44:=by kernel_rfl
def ζn (k:Nat) (call:Caller) (a0:Value) (h:Heap):Res Value :=
 (binR Prog .eql 98 a0 (.slice none 0 0) h).bind fun v1 h2 =>
 condV (some v1) (
 .ok (.slice none 0 0) h2)
 (
 (buildSliceR Prog 98 0 [] h2).bind fun v3 h4 =>
 (builtinV Prog .append [98,98] [v3,a0] h4).bind fun v5 h6 =>
 .ok v5 h6)
theorem ζ47 (k:Nat) (sp:FuncId → Option Sp) (call:Caller) (a0:Value) (h:Heap):bodyK { P:=Prog,kp:=kpS,sp:=sp } call F.ζn [a0] h = ζn k call a0 h:=by kernel_rfl
def ζo (k:Nat) (call:Caller) (a0:Value) (h:Heap):Res Value :=
 (binR Prog .eql 142 a0 (.slice none 0 0) h).bind fun v1 h2 =>
 condV (some v1) (
 .ok (.slice none 0 0) h2)
 (
 (buildSliceR Prog 142 0 [] h2).bind fun v3 h4 =>
 (builtinV Prog .append [142,142] [v3,a0] h4).bind fun v5 h6 =>
 .ok v5 h6)
theorem ζ48 (k:Nat) (sp:FuncId → Option Sp) (call:Caller) (a0:Value) (h:Heap):bodyK { P:=Prog,kp:=kpS,sp:=sp } call F.ζo [a0] h = ζo k call a0 h:=by kernel_rfl
def ζ1g (k:Nat) (call:Caller):Env → Heap → Res (AExit × Env):=loopB (C k) call F.ζ4 [1,0,1,0,0]
def ζ1b (k:Nat) (call:Caller):Kont Value:=kBlock 0 (kSeq (pieceK (C k) call F.ζ4 [1,1]) (kDone Prog (resOf Prog F.ζ4)))
def ζ4 (k:Nat) (call:Caller) (a0 a1:Value) (h:Heap):Res Value :=
 (builtinV Prog .len [22] [a0] h).bind fun v1 h2 =>
 (loopN (ζ1g k call) loopFuel [(0,a0),(1,a1),(7,v1),(8,(.int .i64 0))] h2).bind fun r3 h4 =>
 ζ1b k call r3.1 r3.2 h4
theorem ζ42 (k:Nat) (a0 a1:Value) (h:Heap):R (T k) F.ζ4 [a0,a1] h = nrm .no h (ζ4 k (R (T k)) a0 a1 h) :=
 (R_body (t:=T k) (T_scott k) (by kernel_rfl) (by kernel_rfl) _ _).trans (by kernel_rfl)
theorem ζ16 (k:Nat) (call:Caller) (a0 a1 a7 a8:Value) (h:Heap):ζ1g k call [(0,a0),(1,a1),(7,a7),(8,a8)] h =
 (binR Prog .lss 3 a8 a7 h).bind fun v5 h6 =>
 condV (some v5) (
 (indexAddrR Prog 22 a0 a8 h6).bind fun v7 h8 =>
 (loadR Prog 57 v7 h8).bind fun v9 h10 =>
 (callV call a1 [v9] h10).bind fun v11 h12 =>
 condV (some v11) (
 .ok (.ret,[(4,a8)]) h12)
 (
 (binR Prog .add 3 a8 (.int .i64 1) h12).bind fun v13 h14 =>
 .ok (.normal,[(0,a0),(1,a1),(7,a7),(8,v13)]) h14))
 (
 .ok ((.exit 0),[(0,a0),(1,a1),(7,a7),(8,a8),(9,v5)]) h6) :=
 (loopB_eq _ _).trans (by kernel_rfl)
theorem ζ3k (k:Nat) (call:Caller) (a4:Value) (h:Heap):ζ1b k call .ret [(4,a4)] h =
 .ok a4 h:=by kernel_rfl
theorem ζ3i (k:Nat) (call:Caller) (a0 a1 a7 a8 a9:Value) (h:Heap):ζ1b k call (.exit 0) [(0,a0),(1,a1),(7,a7),(8,a8),(9,a9)] h =
 .ok (.int .i64 (-1)) h:=by kernel_rfl
end
end Go.Sw
end
section
set_option maxRecDepth 100000
set_option linter.unusedVariables false
namespace Go.Sw
noncomputable section
end
end Go.Sw
end
section
namespace Go.Sw
open Go.RowKit
structure Gl where
 id:Int
 cl:Int
deriving DecidableEq
abbrev encG (g:Gl):List Value:=[.int .i64 g.id,.int .i64 g.cl]
theorem encG_len (g:Gl):(encG g).length = 2:=rfl
theorem ζss (l:List Gl):∀ p,p ∈ l → ∀ v,v ∈ encG p → Still v:=fun p _ v hv => by
 simp [encG] at hv;rcases hv with rfl | rfl <;> trivial
theorem Flat.Gls (l:List Gl):Flat (Go.Sw.lv encG l):=.lv fun p _ => .cons (.int _ _) (.cons (.int _ _) .nil)
abbrev itLine (c:Nat) (o:Option Nat) (l:List Gl):It:=itBox c [] o 2 encG l
abbrev ptrV (c:Nat):Value:=.pointer (some ⟨c,0,none⟩)
theorem cloneG_R (k:Nat) {v s:Value} {H H':Heap} (h:cloneV 2 16 [v] H = .ok s H'):R (T k) F.ζ7 [v] H = .ok s H' :=
 (R_sp (t:=T k) (T_scott k) (s:=fun _ args H => cloneV 2 16 args H) (by kernel_rfl) [v] H).trans (by
  show nrm (mdS k F.ζ7 H.n) H _ = _;rw [show mdS k F.ζ7 H.n = .no from by kernel_rfl];exact nrm_of h)
theorem ζ8c (k:Nat) {H0 H:Heap} {L:List It} (h:Star H0 H L) (i:Nat) {c:Nat} {o:Option Nat} {l:List Gl} (hi:L[i]? = some (itLine c o l)):R (T k) F.ζd [ptrV c] H = .ok (.int .i64 l.length) H:=by
 obtain ⟨_,s,h1,h2⟩:=h.box i hi;rw [ζmy];refine nrm_gc ⟨H,?_,Ext.refl H⟩ (.int _ _);simp at h1;simp -implicitDefEqProofs [ζd,h1,h2.len]
theorem ζj9 (k:Nat) {H0 H:Heap} {L:List It} (h:Star H0 H L) (i:Nat) {c:Nat} {o:Option Nat} {l:List Gl} (hi:L[i]? = some (itLine c o l)) {H':Heap} (hx:Ext H H') (j:Int) :
  R (T k) F.ζ3p [ptrV c,.int .i64 j] H' = .ok (.bool (decide (0 ≤ j ∧ j < l.length))) H':=by
 obtain ⟨_,s,h1,h2⟩:=h.box i hi;simp at h1;have h1:=hx.get h1;rw [ζos];refine nrm_gc ⟨H',?_,Ext.refl H'⟩ (.bool _);by_cases hj:j ≥ 0
 ·simp -implicitDefEqProofs [ζ3p,h1,h2.len,hj]
 ·simp -implicitDefEqProofs [ζ3p,hj]
def atG (l:List Gl) (j:Int):Option Gl:=if 0 ≤ j ∧ j < l.length then l[j.toNat]? else none
def encA (o:Option Gl):Value:=.agg (encG (o.getD ⟨0,0⟩)).toArray
theorem ζd1 (k:Nat) {H0 H:Heap} {L:List It} (h:Star H0 H L) (i:Nat) {c:Nat} {o:Option Nat} {l:List Gl} (hi:L[i]? = some (itLine c o l)) (j:Int) :
  R (T k) F.ζ2t [ptrV c,.int .i64 j] H = .ok (.tuple #[encA (atG l j),.bool (atG l j).isSome]) H:=by
 obtain ⟨_,s,h1,h2⟩:=h.box i hi;simp at h1;have hx:Ext H (H.push ⟨[.int .i64 0,.int .i64 0],1,false⟩):=(Ext.refl H).push _;have hin:=ζj9 k h i hi hx j;have hcn:¬ c = H.n:=by have:=Heap.get_lt h1; omega
 rw [ζor];have hfl:∀ o,Flat (.tuple #[encA o,.bool o.isSome]):=fun o => .tupleL (.cons (.aggL (.cons (.int _ _) (.cons (.int _ _) .nil))) (.cons (.bool _) .nil));unfold atG;by_cases hj:0 ≤ j ∧ j < l.length
 ·obtain ⟨n,rfl⟩:=Int.eq_ofNat_of_zero_le hj.1;obtain ⟨g,hg⟩:∃ g,l[n]? = some g:=⟨_,List.getElem?_eq_getElem (by omega)⟩
  obtain ⟨b,rfl,hs,hb,i1⟩:=h2.ix .i64 n (by omega);have hbn:¬ b = H.n:=by have:=Heap.get_lt hb; omega
  have hld:=fun (H':Heap) (hH:H'.get b = some ⟨rows encG l,2,false⟩) => ldA_row encG_len hH hg;rw [if_pos hj,Int.toNat_natCast,hg];refine nrm_gc ⟨H.push ⟨encG g,1,false⟩,?_,(Ext.refl H).push _⟩ (hfl (some g)).alive;have e2:ldA 2 (.pointer (some ⟨H.n,0,none⟩)) (H.push ⟨encG g,1,false⟩) = .ok (.agg (encG g).toArray) (H.push ⟨encG g,1,false⟩):=by simp
  rw [decide_eq_true hj] at hin;have e1:=hld (H.push ⟨[.int .i64 0,.int .i64 0],1,false⟩) (by rw [ζ6r _ _ _ hbn]; exact hb);simp -implicitDefEqProofs [-ldA_ptr,ζ2t,hin,h1,hcn,i1,e1,e2];rfl
 ·rw [if_neg hj];refine nrm_gc ⟨_,?_,hx⟩ (hfl none).alive;rw [decide_eq_false hj] at hin;simp -implicitDefEqProofs [ζ2t,hin];rfl
theorem ζop (k:Nat) (hk:k < 1000000) {H0 H:Heap} {L:List It} (h:Star H0 H L) (i:Nat) {c:Nat} {o:Option Nat} {l:List Gl} (hi:L[i]? = some (itLine c o l)) (hl:l.length ≤ 2 ^ 31):R (T k) F.ζ2u [ptrV c] H = .ok (lv encG l) H:=by
 obtain ⟨_,s,h1,h2⟩:=h.box i hi;simp at h1;have ho:own k = .fz:=by unfold own; rw [show Nat.blt k 1000000 = true from Nat.ble_eq_true_of_le hk]; rfl
 obtain ⟨s',H1,e1,o1,x1⟩:=clone_sl (bytes:=16) encG_len (h2.sl encG_len) hl (by decide);obtain ⟨M,hf⟩:=o1.freeze encG_len (ζss _) 6;rw [ζfn,ho];refine nrm_fz (v:=s') (H':=H1) ?_ hf x1 (Flat.Gls l).alive;simp -implicitDefEqProofs [ζ2u,h1,cloneG_R k e1]
def setG (l:List Gl) (j id:Int):List Gl:=if 0 ≤ j ∧ j < l.length then l.modify j.toNat fun g => ⟨id,g.cl⟩ else l
theorem ζjb (k:Nat) {H0 H:Heap} {L:List It} (h:Star H0 H L) (i:Nat) {c:Nat} {o:Option Nat} {l:List Gl} (hi:L[i]? = some (itLine c o l)) (j id:Int) :
  ∃ H',R (T k) F.ζ3l [ptrV c,.int .i64 j,.int .i64 id] H = .ok (.bool (decide (0 ≤ j ∧ j < l.length))) H' ∧ Star H0 H' (L.set i (itLine c o (setG l j id))):=by
 obtain ⟨_,s,h1,h2⟩:=h.box i hi;simp at h1;have hin:=ζj9 k h i hi (Ext.refl H) j;rw [ζmz];unfold setG;by_cases hj:0 ≤ j ∧ j < l.length
 ·obtain ⟨n,rfl⟩:=Int.eq_ofNat_of_zero_le hj.1;obtain ⟨g,hg⟩:∃ g,l[n]? = some g:=⟨_,List.getElem?_eq_getElem (by omega)⟩
  obtain ⟨b,rfl,hs,hb,i1⟩:=h2.ix .i64 n (by omega);obtain ⟨H',e1,g1,_⟩:=h.stBox i hi encG_len (c:=0) (n:=1) (⟨id,g.cl⟩:Gl) (v:=.int .i64 id) hg rfl rfl (by decide) rfl;rw [if_pos hj,Int.toNat_natCast,ζjh _ _ _ _ hg,decide_eq_true hj];rw [decide_eq_true hj] at hin;rw [Nat.add_zero] at e1;refine ⟨H',nrm_of ?_,g1⟩;simp -implicitDefEqProofs [-stR_ptr,ζ3l,hin,h1,i1,e1]
 ·rw [if_neg hj,decide_eq_false hj];rw [decide_eq_false hj] at hin;refine ⟨H,nrm_of ?_,?_⟩
  ·simp -implicitDefEqProofs [ζ3l,hin]
  ·obtain ⟨hlt,hx⟩:=List.getElem?_eq_some_iff.1 hi;rw [← hx,List.set_getElem_self];exact h
def newG (ids:List Int):List Gl:=ids.zipIdx.map fun x => ⟨x.1,(x.2:Nat)⟩
@[simp] theorem newG_len (ids:List Int):(newG ids).length = ids.length:=by simp [newG]
theorem ζv3 (ids:List Int) (x:Int):newG (ids ++ [x]) = newG ids ++ [⟨x,(ids.length:Nat)⟩]:=by simp [newG,List.zipIdx_append]
end Go.Sw
end
section
set_option maxRecDepth 100000
set_option linter.unusedVariables false
namespace Go.Sw
noncomputable section
def ζ4v (k:Nat) (call:Caller):Env → Heap → Res (AExit × Env):=loopB (C k) call F.ζ2v [1,1,1,1,1,1,0,0,0]
def ζff (k:Nat) (call:Caller):Kont Value:=kBlock 0 (kSeq (pieceK (C k) call F.ζ2v [1,1,1,1,1,1,1]) (kDone Prog (resOf Prog F.ζ2v)))
def ζ4w (k:Nat) (call:Caller):Env → Heap → Res (AExit × Env):=loopB (C k) call F.ζ2v [1,1,1,1,1,1,0,0,0,1,0,0,0,0]
def ζ8r (k:Nat) (call:Caller):Kont (AExit × Env):=kBlock 2 (kSeq (pieceK (C k) call F.ζ2v [1,1,1,1,1,1,0,0,0,1,0,1]) (kBlock 1 (kRound (ownOf (C k) F.ζ2v [1,1,1,1,1,1,0,0,0]))))
def ζ4x (k:Nat) (call:Caller):Env → Heap → Res (AExit × Env):=loopB (C k) call F.ζ2v [1,1,1,1,1,1,0,0,0,1,0,1,0,0]
def ζ8s (k:Nat) (call:Caller):Kont (AExit × Env):=kBlock 4 (kBlock 1 (kRound (ownOf (C k) F.ζ2v [1,1,1,1,1,1,0,0,0])))
def ζ2v (k:Nat) (call:Caller) (a0 a1 a2:Value) (h:Heap):Res Value :=
 (boxR a0 h).bind fun v1 h2 =>
 (loadR Prog 75 v1 h2).bind fun v3 h4 =>
 (call F.ζ17 [v3,(.int .i64 0)] h4).bind fun v5 h6 =>
 (binR Prog .geq 3 v5 (.int .i64 4) h6).bind fun v7 h8 =>
 ((bif wantVal v7 true then Res.ok v5 h8 else Res.ok undef h8)).bind fun v9 h10 =>
 ((bif wantVal v7 true then binR Prog .leq 3 v9 (.int .i64 65535) h10 else Res.ok undef h10)).bind fun v11 h12 =>
 (condV (some v7) (Res.ok v11 h12) (Res.ok (.bool false) h12)).bind fun v13 h14 =>
 (call F.ζ35 [v13] h14).bind fun v15 h16 =>
 (loadR Prog 75 v1 h16).bindN fun v17 h18 =>
 (loadR Prog 75 v1 h18).bindN fun v19 h20 =>
 (call F.ζ17 [v19,(.int .i64 4)] h20).bindT (fun p23 h24 => .panic p23 h24) fun v21 h22 =>
 (call F.ζ1s [v17,v21] h22).bindT (fun p27 h28 => chkR ((okVal (loadR Prog 75 v1 h22) v17 && true) && true) (.panic p27 h28)) fun v25 h26 =>
 (call F.ζ3d [v25,a1,(.int .i64 2)] h26).bindT (fun p31 h32 => chkR ((okVal (loadR Prog 75 v1 h22) v17 && true) && true) (.panic p31 h32)) fun v29 h30 =>
 (buildR Prog 276 [(0,v5),(1,v29)] h30).bindN fun v33 h34 =>
 (boxR v33 h34).bindN fun v35 h36 =>
 chkR ((okVal (loadR Prog 75 v1 h22) v17 && true) && true) (
 (loadR Prog 75 v1 h36).bindN fun v37 h38 =>
 (loadR Prog 75 v1 h38).bindN fun v39 h40 =>
 (call F.ζ17 [v39,(.int .i64 8)] h40).bindT (fun p43 h44 => (loadR Prog 75 v1 h40).bindN fun v45 h46 => (loadR Prog 75 v1 h46).bindN fun v47 h48 => (allocR Prog 278 h48).bindN fun v49 h50 => chkR ((okVal (loadR Prog 75 v1 h36) v45 && true) && ((okVal (loadR Prog 75 v1 h36) v47 && true) && true)) (.panic p43 h44)) fun v41 h42 =>
 (call F.ζ1s [v37,v41] h42).bindT (fun p53 h54 => (loadR Prog 75 v1 h42).bindN fun v55 h56 => (loadR Prog 75 v1 h56).bindN fun v57 h58 => (allocR Prog 278 h58).bindN fun v59 h60 => chkR ((okVal (loadR Prog 75 v1 h42) v37 && true) && ((okVal (loadR Prog 75 v1 h36) v55 && (okVal (loadR Prog 75 v1 h42) v55 && true)) && ((okVal (loadR Prog 75 v1 h36) v57 && (okVal (loadR Prog 75 v1 h42) v57 && true)) && true))) (.panic p53 h54)) fun v51 h52 =>
 (loadR Prog 75 v1 h52).bindN fun v61 h62 =>
 (loadR Prog 75 v1 h62).bindN fun v63 h64 =>
 (call F.ζ17 [v63,(.int .i64 12)] h64).bindT (fun p67 h68 => (allocR Prog 278 h64).bindN fun v69 h70 => chkR ((okVal (loadR Prog 75 v1 h42) v37 && true) && ((okVal (loadR Prog 75 v1 h36) v61 && (okVal (loadR Prog 75 v1 h42) v61 && true)) && ((okVal (loadR Prog 75 v1 h36) v63 && (okVal (loadR Prog 75 v1 h42) v63 && true)) && true))) (.panic p67 h68)) fun v65 h66 =>
 (call F.ζ1s [v61,v65] h66).bindT (fun p73 h74 => (allocR Prog 278 h66).bindN fun v75 h76 => chkR ((okVal (loadR Prog 75 v1 h42) v37 && true) && ((okVal (loadR Prog 75 v1 h36) v61 && (okVal (loadR Prog 75 v1 h42) v61 && (okVal (loadR Prog 75 v1 h66) v61 && true))) && ((okVal (loadR Prog 75 v1 h36) v63 && (okVal (loadR Prog 75 v1 h42) v63 && true)) && true))) (.panic p73 h74)) fun v71 h72 =>
 (buildR Prog 278 [(0,v35),(1,v51),(2,v71),(3,a2)] h72).bindN fun v77 h78 =>
 (allocR Prog 278 h78).bindN fun v79 h80 =>
 (storeR Prog 278 v79 v77 h80).bindN fun _v81 h82 =>
 chkR ((okVal (loadR Prog 75 v1 h42) v37 && true) && ((okVal (loadR Prog 75 v1 h36) v61 && (okVal (loadR Prog 75 v1 h42) v61 && (okVal (loadR Prog 75 v1 h66) v61 && true))) && ((okVal (loadR Prog 75 v1 h36) v63 && (okVal (loadR Prog 75 v1 h42) v63 && true)) && true))) (
 (loopN (ζ4v k call) loopFuel [(8,v35),(9,v79),(10,(.int .i64 2)),(11,(.int .i64 0))] h82).bind fun r83 h84 =>
 ζff k call r83.1 r83.2 h84))
theorem ζqj (k:Nat) (a0 a1 a2:Value) (h:Heap):R (T k) F.ζ2v [a0,a1,a2] h = nrm .fz h (ζ2v k (R (T k)) a0 a1 a2 h) :=
 (R_body (t:=T k) (T_scott k) (by kernel_rfl) (by kernel_rfl) _ _).trans (by kernel_rfl)
theorem ζd9 (k:Nat) (call:Caller) (a8 a9 a10 a11:Value) (h:Heap):ζ4v k call [(8,a8),(9,a9),(10,a10),(11,a11)] h =
 (nilR a8 h).bind fun v85 h86 =>
 (fieldAddrR Prog 276 v85 2 h86).bind fun v87 h88 =>
 (loadR Prog 274 v87 h88).bind fun v89 h90 =>
 (builtinV Prog .len [274] [v89] h90).bind fun v91 h92 =>
 (binR Prog .lss 3 v91 a10 h92).bind fun v93 h94 =>
 ((bif wantVal v93 false then Res.ok a8 h94 else Res.ok undef h94)).bind fun v95 h96 =>
 ((bif wantVal v93 false then nilR v95 h96 else Res.ok undef h96)).bind fun v97 h98 =>
 ((bif wantVal v93 false then fieldAddrR Prog 276 v97 3 h98 else Res.ok undef h98)).bind fun v99 h100 =>
 ((bif wantVal v93 false then loadR Prog 102 v99 h100 else Res.ok undef h100)).bind fun v101 h102 =>
 ((bif wantVal v93 false then builtinV Prog .len [102] [v101] h102 else Res.ok undef h102)).bind fun v103 h104 =>
 ((bif wantVal v93 false then Res.ok a11 h104 else Res.ok undef h104)).bind fun v105 h106 =>
 ((bif wantVal v93 false then binR Prog .lss 3 v103 v105 h106 else Res.ok undef h106)).bind fun v107 h108 =>
 (condV (some v93) (Res.ok (.bool true) h108) (Res.ok v107 h108)).bind fun v109 h110 =>
 condV (some v109) (
 (loopN (ζ4w k call) loopFuel [(8,a8),(9,a9),(10,a10),(11,a11)] h110).bind fun r111 h112 =>
 ζ8r k call r111.1 r111.2 h112)
 (
 .ok ((.exit 0),[(8,a8),(9,a9),(10,a10),(11,a11),(56,v109)]) h110) :=
 (loopB_eq _ _).trans (by kernel_rfl)
theorem ζ76 (k:Nat) (call:Caller) (a8 a9 a10 a11:Value) (h:Heap):ζ4w k call [(8,a8),(9,a9),(10,a10),(11,a11)] h =
 (nilR a8 h).bind fun v113 h114 =>
 (fieldAddrR Prog 276 v113 2 h114).bind fun v115 h116 =>
 (loadR Prog 274 v115 h116).bind fun v117 h118 =>
 (builtinV Prog .len [274] [v117] h118).bind fun v119 h120 =>
 (binR Prog .lss 3 v119 a10 h120).bind fun v121 h122 =>
 condV (some v121) (
 (loadR Prog 278 a9 h122).bind fun v123 h124 =>
 (call F.ζ1u [v123] h124).bind fun v125 h126 =>
 (builtinV Prog .max [3,3] [a11,v125] h126).bind fun v127 h128 =>
 .ok (.normal,[(8,a8),(9,a9),(10,a10),(11,v127)]) h128)
 (
 .ok ((.exit 2),[(8,a8),(9,a9),(10,a10),(11,a11),(63,v121)]) h122) :=
 (loopB_eq _ _).trans (by kernel_rfl)
theorem ζge (k:Nat) (call:Caller) (a8 a9 a10 a11 a56:Value) (h:Heap):ζff k call (.exit 0) [(8,a8),(9,a9),(10,a10),(11,a11),(56,a56)] h =
 .ok a8 h:=by kernel_rfl
theorem ζgf (k:Nat) (call:Caller) (a8 a9 a10 a11 a63:Value) (h:Heap):ζ8r k call (.exit 2) [(8,a8),(9,a9),(10,a10),(11,a11),(63,a63)] h =
 (loopN (ζ4x k call) loopFuel [(8,a8),(9,a9),(10,a10),(11,a11)] h).bind fun r129 h130 =>
 ζ8s k call r129.1 r129.2 h130:=by kernel_rfl
theorem ζ77 (k:Nat) (call:Caller) (a8 a9 a10 a11:Value) (h:Heap):ζ4x k call [(8,a8),(9,a9),(10,a10),(11,a11)] h =
 (nilR a8 h).bind fun v131 h132 =>
 (fieldAddrR Prog 276 v131 3 h132).bind fun v133 h134 =>
 (loadR Prog 102 v133 h134).bind fun v135 h136 =>
 (builtinV Prog .len [102] [v135] h136).bind fun v137 h138 =>
 (binR Prog .lss 3 v137 a11 h138).bind fun v139 h140 =>
 condV (some v139) (
 (loadR Prog 278 a9 h140).bind fun v141 h142 =>
 (call F.ζ9 [v141] h142).bind fun v143 h144 =>
 (builtinV Prog .max [3,3] [a10,v143] h144).bind fun v145 h146 =>
 .ok (.normal,[(8,a8),(9,a9),(10,v145),(11,a11)]) h146)
 (
 .ok ((.exit 4),[(8,a8),(9,a9),(10,a10),(11,a11),(74,v139)]) h140) :=
 (loopB_eq _ _).trans (by kernel_rfl)
theorem ζgg (k:Nat) (call:Caller) (a8 a9 a10 a11 a74:Value) (h:Heap):ζ8s k call (.exit 4) [(8,a8),(9,a9),(10,a10),(11,a11),(74,a74)] h =
 .ok (.normal,[(8,a8),(9,a9),(10,a10),(11,a11)]) h:=by kernel_rfl
def ζ1z (k:Nat) (call:Caller) (a0:Value) (h:Heap):Res Value :=
 (buildSliceR Prog 102 0 [] h).bind fun v1 h2 =>
 (nilR a0 h2).bind fun v3 h4 =>
 (fieldAddrR Prog 276 v3 3 h4).bind fun v5 h6 =>
 (loadR Prog 102 v5 h6).bind fun v7 h8 =>
 (builtinV Prog .append [102,102] [v1,v7] h8).bind fun v9 h10 =>
 .ok v9 h10
theorem ζa0 (k:Nat) (a0:Value) (h:Heap):R (T k) F.ζ1z [a0] h = nrm (own k) h (ζ1z k (R (T k)) a0 h) :=
 (R_body (t:=T k) (T_scott k) (by kernel_rfl) (by kernel_rfl) _ _).trans (by kernel_rfl)
def ζ5d (k:Nat) (call:Caller):Env → Heap → Res (AExit × Env):=loopB (C k) call F.ζ1u [1,1,1,1,1,0,1,0,0]
def ζ78 (k:Nat) (call:Caller):Kont Value:=kBlock 0 (kSeq (pieceK (C k) call F.ζ1u [1,1,1,1,1,1]) (kDone Prog (resOf Prog F.ζ1u)))
def ζ1u (k:Nat) (call:Caller) (a0:Value) (h:Heap):Res Value :=
 (boxR a0 h).bind fun v1 h2 =>
 (fieldAddrR Prog 278 v1 0 h2).bind fun v3 h4 =>
 (loadR Prog 196 v3 h4).bind fun v5 h6 =>
 (nilR v5 h6).bind fun v7 h8 =>
 (fieldAddrR Prog 276 v7 0 h8).bind fun v9 h10 =>
 (loadR Prog 3 v9 h10).bind fun v11 h12 =>
 (fieldAddrR Prog 278 v1 1 h12).bindN fun v13 h14 =>
 (loadR Prog 75 v13 h14).bindN fun v15 h16 =>
 (binR Prog .mul 3 (.int .i64 2) v11 h16).bindN fun v17 h18 =>
 (fieldAddrR Prog 278 v1 0 h18).bindN fun v19 h20 =>
 (loadR Prog 196 v19 h20).bindN fun v21 h22 =>
 (nilR v21 h22).bindN fun v23 h24 =>
 (fieldAddrR Prog 276 v23 2 h24).bindN fun v25 h26 =>
 (loadR Prog 274 v25 h26).bindN fun v27 h28 =>
 (builtinV Prog .len [274] [v27] h28).bindN fun v29 h30 =>
 (binR Prog .mul 3 v17 v29 h30).bindN fun v31 h32 =>
 (call F.ζm [v15,v31,v11,(.int .i64 2)] h32).bindT (fun p35 h36 => (allocR Prog 75 h32).bindN fun v37 h38 => .panic p35 h36) fun v33 h34 =>
 (allocR Prog 75 h34).bindN fun v39 h40 =>
 (storeR Prog 75 v39 v33 h40).bindN fun _v41 h42 =>
 (makeSliceV Prog 23 v11 v11 h42).bind fun v43 h44 =>
 (builtinV Prog .len [23] [v43] h44).bind fun v45 h46 =>
 (loopN (ζ5d k call) loopFuel [(1,v1),(4,v39),(5,v43),(6,(.int .i64 0)),(29,v45),(30,(.int .i64 0))] h46).bind fun r47 h48 =>
 ζ78 k call r47.1 r47.2 h48
theorem ζfv (k:Nat) (a0:Value) (h:Heap):R (T k) F.ζ1u [a0] h = nrm .no h (ζ1u k (R (T k)) a0 h) :=
 (R_body (t:=T k) (T_scott k) (by kernel_rfl) (by kernel_rfl) _ _).trans (by kernel_rfl)
theorem ζ61 (k:Nat) (call:Caller) (a1 a4 a5 a6 a29 a30:Value) (h:Heap):ζ5d k call [(1,a1),(4,a4),(5,a5),(6,a6),(29,a29),(30,a30)] h =
 (binR Prog .lss 3 a30 a29 h).bind fun v49 h50 =>
 condV (some v49) (
 (loadR Prog 75 a4 h50).bind fun v51 h52 =>
 (binR Prog .mul 3 (.int .i64 2) a30 h52).bind fun v53 h54 =>
 (call F.ζb [v51,v53] h54).bind fun v55 h56 =>
 (indexAddrR Prog 23 a5 a30 h56).bind fun v57 h58 =>
 (storeR Prog 3 v57 v55 h58).bind fun _v59 h60 =>
 (indexAddrR Prog 23 a5 a30 h60).bind fun v61 h62 =>
 (loadR Prog 3 v61 h62).bind fun v63 h64 =>
 (binR Prog .add 3 v63 (.int .i64 1) h64).bind fun v65 h66 =>
 (builtinV Prog .max [3,3] [a6,v65] h66).bind fun v67 h68 =>
 (binR Prog .add 3 a30 (.int .i64 1) h68).bind fun v69 h70 =>
 .ok (.normal,[(1,a1),(4,a4),(5,a5),(6,v67),(29,a29),(30,v69)]) h70)
 (
 .ok ((.exit 0),[(1,a1),(4,a4),(5,a5),(6,a6),(29,a29),(30,a30),(31,v49)]) h50) :=
 (loopB_eq _ _).trans (by kernel_rfl)
theorem ζa1 (k:Nat) (call:Caller) (a1 a4 a5 a6 a29 a30 a31:Value) (h:Heap):ζ78 k call (.exit 0) [(1,a1),(4,a4),(5,a5),(6,a6),(29,a29),(30,a30),(31,a31)] h =
 (fieldAddrR Prog 278 a1 0 h).bindN fun v71 h72 =>
 (loadR Prog 196 v71 h72).bindN fun v73 h74 =>
 (fieldAddrR Prog 278 a1 0 h74).bindN fun v75 h76 =>
 (loadR Prog 196 v75 h76).bindN fun v77 h78 =>
 (nilR v77 h78).bindN fun v79 h80 =>
 (fieldAddrR Prog 276 v79 2 h80).bindN fun v81 h82 =>
 (loadR Prog 274 v81 h82).bindN fun v83 h84 =>
 (buildSliceR Prog 274 1 [(0,a5)] h84).bindN fun v85 h86 =>
 (builtinV Prog .append [274,274] [v83,v85] h86).bindN fun v87 h88 =>
 (nilR v73 h88).bindN fun v89 h90 =>
 (fieldAddrR Prog 276 v89 2 h90).bindN fun v91 h92 =>
 (storeR Prog 274 v91 v87 h92).bindN fun _v93 h94 =>
 chkR ((okVal (loadR Prog 196 v71 h86) v73 && (okVal (loadR Prog 196 v71 h88) v73 && true)) && ((okVal (loadR Prog 196 v75 h86) v77 && true) && ((okVal (loadR Prog 274 v81 h86) v83 && true) && true))) (
 .ok a6 h94):=by kernel_rfl
def ζ6l (k:Nat) (call:Caller) (a1 a4 a5:Value) (h:Heap):Res Value :=
 kSeq (pieceK (C k) call F.ζ9 [1,1,1,1,1]) (kDone Prog (resOf Prog F.ζ9)) .normal [(1,a1),(4,a4),(5,a5)] h
def ζ6m (k:Nat) (call:Caller) (a1 a4 a5 a29:Value) (h:Heap):Res Value :=
 kSeq (pieceK (C k) call F.ζ9 [1,1,1,1,1]) (kDone Prog (resOf Prog F.ζ9)) .normal [(1,a1),(4,a4),(5,a5),(29,a29)] h
def ζ3b (k:Nat) (call:Caller) (a1 a5:Value) (h:Heap):Res Value :=
 kSeq (pieceK (C k) call F.ζ9 [1,1,1,1,1,1]) (kDone Prog (resOf Prog F.ζ9)) .normal [(1,a1),(5,a5)] h
def ζ3c (k:Nat) (call:Caller) (a1 a4 a5 a35:Value) (h:Heap):Res Value :=
 kSeq (pieceK (C k) call F.ζ9 [1,1,1,1,1,1]) (kDone Prog (resOf Prog F.ζ9)) .normal [(1,a1),(4,a4),(5,a5),(35,a35)] h
def ζ9 (k:Nat) (call:Caller) (a0:Value) (h:Heap):Res Value :=
 (boxR a0 h).bind fun v1 h2 =>
 (fieldAddrR Prog 278 v1 3 h2).bind fun v3 h4 =>
 (loadR Prog 3 v3 h4).bind fun v5 h6 =>
 (binR Prog .mul 3 (.int .i64 2) v5 h6).bind fun v7 h8 =>
 (binR Prog .add 3 (.int .i64 4) v7 h8).bind fun v9 h10 =>
 (fieldAddrR Prog 278 v1 2 h10).bindN fun v11 h12 =>
 (loadR Prog 75 v11 h12).bindN fun v13 h14 =>
 (fieldAddrR Prog 278 v1 0 h14).bindN fun v15 h16 =>
 (loadR Prog 196 v15 h16).bindN fun v17 h18 =>
 (nilR v17 h18).bindN fun v19 h20 =>
 (fieldAddrR Prog 276 v19 3 h20).bindN fun v21 h22 =>
 (loadR Prog 102 v21 h22).bindN fun v23 h24 =>
 (builtinV Prog .len [102] [v23] h24).bindN fun v25 h26 =>
 (binR Prog .mul 3 v9 v25 h26).bindN fun v27 h28 =>
 (call F.ζ2r [v13,v27,v9] h28).bindT (fun p31 h32 => (allocR Prog 75 h28).bindN fun v33 h34 => .panic p31 h32) fun v29 h30 =>
 (allocR Prog 75 h30).bindN fun v35 h36 =>
 (storeR Prog 75 v35 v29 h36).bindN fun _v37 h38 =>
 (loadR Prog 75 v35 h38).bindN fun v39 h40 =>
 (call F.ζb [v39,(.int .i64 0)] h40).bindT (fun p43 h44 => (loadR Prog 75 v35 h40).bindN fun v45 h46 => (allocR Prog 130 h46).bindN fun v47 h48 => chkR ((okVal (loadR Prog 75 v35 h38) v45 && true) && true) (.panic p43 h44)) fun v41 h42 =>
 (loadR Prog 75 v35 h42).bindN fun v49 h50 =>
 (call F.ζb [v49,(.int .i64 2)] h50).bindT (fun p53 h54 => (allocR Prog 130 h50).bindN fun v55 h56 => chkR ((okVal (loadR Prog 75 v35 h38) v49 && true) && true) (.panic p53 h54)) fun v51 h52 =>
 (buildR Prog 130 [(0,v41),(1,v51)] h52).bindN fun v57 h58 =>
 (allocR Prog 130 h58).bindN fun v59 h60 =>
 (storeR Prog 130 v59 v57 h60).bindN fun _v61 h62 =>
 chkR ((okVal (loadR Prog 75 v35 h38) v49 && true) && true) (
 (fieldAddrR Prog 278 v1 3 h62).bind fun v63 h64 =>
 (loadR Prog 3 v63 h64).bind fun v65 h66 =>
 (binR Prog .gtr 3 v65 (.int .i64 0) h66).bind fun v67 h68 =>
 condV (some v67) (
 (loadR Prog 75 v35 h68).bind fun v69 h70 =>
 (call F.ζb [v69,(.int .i64 4)] h70).bind fun v71 h72 =>
 (fieldAddrR Prog 130 v59 2 h72).bind fun v73 h74 =>
 (storeR Prog 3 v73 v71 h74).bind fun _v75 h76 =>
 ζ6l k call v1 v35 v59 h76)
 (
 ζ6m k call v1 v35 v59 v67 h68))
theorem ζel (k:Nat) (a0:Value) (h:Heap):R (T k) F.ζ9 [a0] h = nrm .no h (ζ9 k (R (T k)) a0 h) :=
 (R_body (t:=T k) (T_scott k) (by kernel_rfl) (by kernel_rfl) _ _).trans (by kernel_rfl)
theorem ζ5c (k:Nat) (call:Caller) (a1 a4 a5:Value) (h:Heap):ζ6l k call a1 a4 a5 h =
 (fieldAddrR Prog 278 a1 3 h).bind fun v77 h78 =>
 (loadR Prog 3 v77 h78).bind fun v79 h80 =>
 (binR Prog .gtr 3 v79 (.int .i64 1) h80).bind fun v81 h82 =>
 condV (some v81) (
 (loadR Prog 75 a4 h82).bind fun v83 h84 =>
 (call F.ζb [v83,(.int .i64 6)] h84).bind fun v85 h86 =>
 (fieldAddrR Prog 130 a5 3 h86).bind fun v87 h88 =>
 (storeR Prog 3 v87 v85 h88).bind fun _v89 h90 =>
 ζ3b k call a1 a5 h90)
 (
 ζ3c k call a1 a4 a5 v81 h82):=by kernel_rfl
theorem ζ8t (k:Nat) (call:Caller) (a1 a4 a5 a29:Value) (h:Heap):ζ6m k call a1 a4 a5 a29 h =
 (fieldAddrR Prog 278 a1 3 h).bind fun v91 h92 =>
 (loadR Prog 3 v91 h92).bind fun v93 h94 =>
 (binR Prog .gtr 3 v93 (.int .i64 1) h94).bind fun v95 h96 =>
 condV (some v95) (
 (loadR Prog 75 a4 h96).bind fun v97 h98 =>
 (call F.ζb [v97,(.int .i64 6)] h98).bind fun v99 h100 =>
 (fieldAddrR Prog 130 a5 3 h100).bind fun v101 h102 =>
 (storeR Prog 3 v101 v99 h102).bind fun _v103 h104 =>
 ζ3b k call a1 a5 h104)
 (
 ζ3c k call a1 a4 a5 v95 h96):=by kernel_rfl
theorem ζ8u (k:Nat) (call:Caller) (a1 a5:Value) (h:Heap):ζ3b k call a1 a5 h =
 (fieldAddrR Prog 278 a1 0 h).bindN fun v105 h106 =>
 (loadR Prog 196 v105 h106).bindN fun v107 h108 =>
 (fieldAddrR Prog 278 a1 0 h108).bindN fun v109 h110 =>
 (loadR Prog 196 v109 h110).bindN fun v111 h112 =>
 (nilR v111 h112).bindN fun v113 h114 =>
 (fieldAddrR Prog 276 v113 3 h114).bindN fun v115 h116 =>
 (loadR Prog 102 v115 h116).bindN fun v117 h118 =>
 (loadR Prog 130 a5 h118).bindN fun v119 h120 =>
 (buildSliceR Prog 102 1 [(0,v119)] h120).bindN fun v121 h122 =>
 (builtinV Prog .append [102,102] [v117,v121] h122).bindN fun v123 h124 =>
 (nilR v107 h124).bindN fun v125 h126 =>
 (fieldAddrR Prog 276 v125 3 h126).bindN fun v127 h128 =>
 (storeR Prog 102 v127 v123 h128).bindN fun _v129 h130 =>
 chkR ((okVal (loadR Prog 196 v105 h122) v107 && (okVal (loadR Prog 196 v105 h124) v107 && true)) && ((okVal (loadR Prog 196 v109 h122) v111 && true) && ((okVal (loadR Prog 102 v115 h122) v117 && true) && true))) (
 (fieldAddrR Prog 130 a5 0 h130).bind fun v131 h132 =>
 (loadR Prog 3 v131 h132).bind fun v133 h134 =>
 (binR Prog .add 3 v133 (.int .i64 1) h134).bind fun v135 h136 =>
 .ok v135 h136):=by kernel_rfl
theorem ζ8v (k:Nat) (call:Caller) (a1 a4 a5 a35:Value) (h:Heap):ζ3c k call a1 a4 a5 a35 h =
 (fieldAddrR Prog 278 a1 0 h).bindN fun v137 h138 =>
 (loadR Prog 196 v137 h138).bindN fun v139 h140 =>
 (fieldAddrR Prog 278 a1 0 h140).bindN fun v141 h142 =>
 (loadR Prog 196 v141 h142).bindN fun v143 h144 =>
 (nilR v143 h144).bindN fun v145 h146 =>
 (fieldAddrR Prog 276 v145 3 h146).bindN fun v147 h148 =>
 (loadR Prog 102 v147 h148).bindN fun v149 h150 =>
 (loadR Prog 130 a5 h150).bindN fun v151 h152 =>
 (buildSliceR Prog 102 1 [(0,v151)] h152).bindN fun v153 h154 =>
 (builtinV Prog .append [102,102] [v149,v153] h154).bindN fun v155 h156 =>
 (nilR v139 h156).bindN fun v157 h158 =>
 (fieldAddrR Prog 276 v157 3 h158).bindN fun v159 h160 =>
 (storeR Prog 102 v159 v155 h160).bindN fun _v161 h162 =>
 chkR ((okVal (loadR Prog 196 v137 h154) v139 && (okVal (loadR Prog 196 v137 h156) v139 && true)) && ((okVal (loadR Prog 196 v141 h154) v143 && true) && ((okVal (loadR Prog 102 v147 h154) v149 && true) && true))) (
 (fieldAddrR Prog 130 a5 0 h162).bind fun v163 h164 =>
 (loadR Prog 3 v163 h164).bind fun v165 h166 =>
 (binR Prog .add 3 v165 (.int .i64 1) h166).bind fun v167 h168 =>
 .ok v167 h168):=by kernel_rfl
def ζ1f (k:Nat) (call:Caller) (a0 a1 a2:Value) (h:Heap):Res Value :=
 (allocR Prog 130 h).bind fun v1 h2 =>
 (binR Prog .lss 3 a1 (.int .i64 0) h2).bind fun v3 h4 =>
 ((bif wantVal v3 false then Res.ok a1 h4 else Res.ok undef h4)).bind fun v5 h6 =>
 ((bif wantVal v3 false then Res.ok a0 h6 else Res.ok undef h6)).bind fun v7 h8 =>
 ((bif wantVal v3 false then nilR v7 h8 else Res.ok undef h8)).bind fun v9 h10 =>
 ((bif wantVal v3 false then fieldAddrR Prog 276 v9 2 h10 else Res.ok undef h10)).bind fun v11 h12 =>
 ((bif wantVal v3 false then loadR Prog 274 v11 h12 else Res.ok undef h12)).bind fun v13 h14 =>
 ((bif wantVal v3 false then builtinV Prog .len [274] [v13] h14 else Res.ok undef h14)).bind fun v15 h16 =>
 ((bif wantVal v3 false then binR Prog .geq 3 v5 v15 h16 else Res.ok undef h16)).bind fun v17 h18 =>
 (condV (some v3) (Res.ok (.bool true) h18) (Res.ok v17 h18)).bind fun v19 h20 =>
 ((bif wantVal v19 false then Res.ok a2 h20 else Res.ok undef h20)).bind fun v21 h22 =>
 ((bif wantVal v19 false then binR Prog .lss 3 v21 (.int .i64 0) h22 else Res.ok undef h22)).bind fun v23 h24 =>
 (condV (some v19) (Res.ok (.bool true) h24) (Res.ok v23 h24)).bind fun v25 h26 =>
 ((bif wantVal v25 false then Res.ok a2 h26 else Res.ok undef h26)).bind fun v27 h28 =>
 ((bif wantVal v25 false then Res.ok a0 h28 else Res.ok undef h28)).bind fun v29 h30 =>
 ((bif wantVal v25 false then nilR v29 h30 else Res.ok undef h30)).bind fun v31 h32 =>
 ((bif wantVal v25 false then fieldAddrR Prog 276 v31 0 h32 else Res.ok undef h32)).bind fun v33 h34 =>
 ((bif wantVal v25 false then loadR Prog 3 v33 h34 else Res.ok undef h34)).bind fun v35 h36 =>
 ((bif wantVal v25 false then binR Prog .geq 3 v27 v35 h36 else Res.ok undef h36)).bind fun v37 h38 =>
 (condV (some v25) (Res.ok (.bool true) h38) (Res.ok v37 h38)).bind fun v39 h40 =>
 condV (some v39) (
 (buildR Prog 130 [] h40).bind fun v41 h42 =>
 (storeR Prog 130 v1 v41 h42).bind fun _v43 h44 =>
 (loadR Prog 130 v1 h44).bind fun v45 h46 =>
 .ok (.tuple #[v45,(.bool false)]) h46)
 (
 (nilR a0 h40).bindN fun v47 h48 =>
 (fieldAddrR Prog 276 v47 3 h48).bindN fun v49 h50 =>
 (loadR Prog 102 v49 h50).bindN fun v51 h52 =>
 (nilR a0 h52).bindN fun v53 h54 =>
 (fieldAddrR Prog 276 v53 2 h54).bindN fun v55 h56 =>
 (loadR Prog 274 v55 h56).bindN fun v57 h58 =>
 (indexAddrR Prog 274 v57 a1 h58).bindN fun v59 h60 =>
 (loadR Prog 23 v59 h60).bindN fun v61 h62 =>
 (indexAddrR Prog 23 v61 a2 h62).bindN fun v63 h64 =>
 (loadR Prog 3 v63 h64).bindN fun v65 h66 =>
 (indexAddrR Prog 102 v51 v65 h66).bindN fun v67 h68 =>
 (loadR Prog 130 v67 h68).bindN fun v69 h70 =>
 (storeR Prog 130 v1 v69 h70).bindN fun _v71 h72 =>
 (loadR Prog 130 v1 h72).bind fun v73 h74 =>
 .ok (.tuple #[v73,(.bool true)]) h74)
theorem ζek (k:Nat) (a0 a1 a2:Value) (h:Heap):R (T k) F.ζ1f [a0,a1,a2] h = nrm .gc h (ζ1f k (R (T k)) a0 a1 a2 h) :=
 (R_body (t:=T k) (T_scott k) (by kernel_rfl) (by kernel_rfl) _ _).trans (by kernel_rfl)
def ζ1r (k:Nat) (call:Caller) (a0 a1:Value) (h:Heap):Res Value :=
 (binR Prog .eql 3 a1 (.int .i64 65535) h).bind fun v1 h2 =>
 condV (some v1) (
 .ok (.int .i64 2) h2)
 (
 (nilR a0 h2).bind fun v3 h4 =>
 (fieldAddrR Prog 276 v3 1 h4).bind fun v5 h6 =>
 (loadR Prog 32 v5 h6).bind fun v7 h8 =>
 (call F.ζ2k [v7,a1] h8).bind fun v9 h10 =>
 (extractR v9 0 h10).bind fun v11 h12 =>
 (extractR v9 1 h12).bind fun v13 h14 =>
 ((bif wantVal v13 true then Res.ok v11 h14 else Res.ok undef h14)).bind fun v15 h16 =>
 ((bif wantVal v13 true then Res.ok a0 h16 else Res.ok undef h16)).bind fun v17 h18 =>
 ((bif wantVal v13 true then nilR v17 h18 else Res.ok undef h18)).bind fun v19 h20 =>
 ((bif wantVal v13 true then fieldAddrR Prog 276 v19 0 h20 else Res.ok undef h20)).bind fun v21 h22 =>
 ((bif wantVal v13 true then loadR Prog 3 v21 h22 else Res.ok undef h22)).bind fun v23 h24 =>
 ((bif wantVal v13 true then binR Prog .lss 3 v15 v23 h24 else Res.ok undef h24)).bind fun v25 h26 =>
 (condV (some v13) (Res.ok v25 h26) (Res.ok (.bool false) h26)).bind fun v27 h28 =>
 condV (some v27) (
 .ok v11 h28)
 (
 .ok (.int .i64 1) h28))
theorem ζdz (k:Nat) (a0 a1:Value) (h:Heap):R (T k) F.ζ1r [a0,a1] h = nrm .gc h (ζ1r k (R (T k)) a0 a1 h) :=
 (R_body (t:=T k) (T_scott k) (by kernel_rfl) (by kernel_rfl) _ _).trans (by kernel_rfl)
end
end Go.Sw
end
