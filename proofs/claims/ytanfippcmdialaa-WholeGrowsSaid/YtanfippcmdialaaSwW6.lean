/-
  Functions' forms, and what is proved of them, part 6.
-/
import Derived.Test.YtanfippcmdialaaSwW5
import Derived.Test.YtanfippcmdialaaSwW1
import Derived.Test.YtanfippcmdialaaSwW4
import Derived.Test.YtanfippcmdialaaSwCfg
import Derived.Test.YtanfippcmdialaaSwLib9
import Derived.Laws.IdiomCopy
set_option linter.unusedSimpArgs false
set_option linter.unusedVariables false
set_option linter.unusedSectionVars false
section
namespace Go.Sw
open Go.RowKit
theorem and_pow (n k:Nat):n &&& 2 ^ k = if n.testBit k then 2 ^ k else 0:=by
 apply Nat.eq_of_testBit_eq;intro i;rw [Nat.testBit_and,Nat.testBit_two_pow];by_cases h:k = i
 ·subst h;cases hb:n.testBit k
  ·simp
  ·simp
 ·cases hb:n.testBit k
  ·simp [h]
  ·simp only [h,decide_false,Bool.and_false,if_true,Nat.testBit_two_pow]
theorem bin_andP (P:Program) (t:TypeId) (H:Heap) (k:Nat) (hk:k < 62) {a:Int} (h0:0 ≤ a) (h1:a < 2 ^ 62) (m:Int) (hm:m = ((2 ^ k:Nat):Int)) :
  binR P .and t (.int .i64 a) (.int .i64 m) H = .ok (.int .i64 (if a / m % 2 = 1 then m else 0)) H:=by
 obtain ⟨n,rfl⟩:=Int.eq_ofNat_of_zero_le h0;have hp:2 ^ k ≤ 2 ^ 61:=Nat.pow_le_pow_right (by decide) (by omega);have hp0:0 < 2 ^ k:=Nat.two_pow_pos k;have e:(BitVec.ofInt 64 (n:Int) &&& BitVec.ofInt 64 m).toNat = if n.testBit k then 2 ^ k else 0:=by
  rw [BitVec.toNat_and,BitVec.toNat_ofInt,BitVec.toNat_ofInt,hm];rw [show (((n:Int)) % ((2 ^ 64:Nat):Int)).toNat = n by omega,show ((((2 ^ k:Nat):Int)) % ((2 ^ 64:Nat):Int)).toNat = 2 ^ k by omega,and_pow]
 have e1:binV P .and t (.int .i64 (n:Int)) (.int .i64 m) = some (.int .i64 (IntKind.i64.wrap (BitVec.ofInt 64 (n:Int) &&& BitVec.ofInt 64 m).toNat)):=rfl;unfold binR;rw [e1,e,Nat.testBit_eq_decide_div_mod_eq];have hd:(n:Int) / m = ((n / 2 ^ k:Nat):Int):=by rw [hm,Int.natCast_ediv]
 rw [hd];by_cases h:n / 2 ^ k % 2 = 1
 ·rw [decide_eq_true h,if_pos rfl,if_pos (by omega),wrap_i64 (by omega) (by omega),hm]; rfl
 ·rw [decide_eq_false h,if_neg (by simp),if_neg (by omega)]; rfl
theorem and13 (P:Program) (t:TypeId) (H:Heap) {a:Int} (h0:0 ≤ a) (h1:a < 65536):binR P .and t (.int .i64 a) (.int .i64 8192) H = .ok (.int .i64 (if a / 8192 % 2 = 1 then 8192 else 0)) H:=bin_andP P t H 13 (by decide) h0 (by omega) 8192 rfl
theorem and10 (P:Program) (t:TypeId) (H:Heap) {a:Int} (h0:0 ≤ a) (h1:a < 65536):binR P .and t (.int .i64 a) (.int .i64 1024) H = .ok (.int .i64 (if a / 1024 % 2 = 1 then 1024 else 0)) H:=bin_andP P t H 10 (by decide) h0 (by omega) 1024 rfl
theorem and11 (P:Program) (t:TypeId) (H:Heap) {a:Int} (h0:0 ≤ a) (h1:a < 65536):binR P .and t (.int .i64 a) (.int .i64 2048) H = .ok (.int .i64 (if a / 2048 % 2 = 1 then 2048 else 0)) H:=bin_andP P t H 11 (by decide) h0 (by omega) 2048 rfl
theorem and31 (P:Program) (t:TypeId) (H:Heap) {a:Int} (h0:0 ≤ a) (h1:a < 4294967296):binR P .and t (.int .i64 a) (.int .i64 2147483648) H = .ok (.int .i64 (if a ≥ 2147483648 then 2147483648 else 0)) H:=by
 rw [bin_andP P t H 31 (by decide) h0 (by omega) 2147483648 rfl];by_cases h:a ≥ 2147483648
 ·rw [if_pos h,if_pos (by omega)]
 ·rw [if_neg h,if_neg (by omega)]
theorem bin_andL (P:Program) (t:TypeId) (H:Heap) (k:Nat) (hk:k < 62) {a:Int} (h0:0 ≤ a) (h1:a < 2 ^ 62) (m:Int) (hm:m = ((2 ^ k:Nat):Int) - 1):binR P .and t (.int .i64 a) (.int .i64 m) H = .ok (.int .i64 (a % ((2 ^ k:Nat):Int))) H:=by
 obtain ⟨n,rfl⟩:=Int.eq_ofNat_of_zero_le h0;have hp:2 ^ k ≤ 2 ^ 61:=Nat.pow_le_pow_right (by decide) (by omega);have hp0:0 < 2 ^ k:=Nat.two_pow_pos k;have e:(BitVec.ofInt 64 (n:Int) &&& BitVec.ofInt 64 m).toNat = n % 2 ^ k:=by
  rw [BitVec.toNat_and,BitVec.toNat_ofInt,BitVec.toNat_ofInt,hm];rw [show (((n:Int)) % ((2 ^ 64:Nat):Int)).toNat = n by omega,show ((((2 ^ k:Nat):Int) - 1) % ((2 ^ 64:Nat):Int)).toNat = 2 ^ k - 1 by omega,Nat.and_two_pow_sub_one_eq_mod]
 have e1:binV P .and t (.int .i64 (n:Int)) (.int .i64 m) = some (.int .i64 (IntKind.i64.wrap (BitVec.ofInt 64 (n:Int) &&& BitVec.ofInt 64 m).toNat)):=rfl;have hlt:n % 2 ^ k < 2 ^ k:=Nat.mod_lt _ hp0;unfold binR;rw [e1,e,wrap_i64 (by omega) (by omega),Int.natCast_emod];rfl
theorem and5 (P:Program) (t:TypeId) (H:Heap) {a:Int} (h0:0 ≤ a) (h1:a < 65536):binR P .and t (.int .i64 a) (.int .i64 31) H = .ok (.int .i64 (a % 32)) H:=bin_andL P t H 5 (by decide) h0 (by omega) 31 rfl
end Go.Sw
end
section
namespace Go.Sw
open Go.RowKit
theorem Star.same {H0 H:Heap} {L:List It} (h:Star H0 H L) (i:Nat) {x:It} (hi:L[i]? = some x) (y:It) (hy:y.P H) (ho:∀ b,b ∈ y.o → b ∈ x.o):Star H0 H (L.set i y) :=
 h.step i hi (Nat.le_refl _) (fun _ _ _ => rfl) y hy fun b hb => .inl (ho b hb)
end Go.Sw
end
section
namespace Go.Sw
open Go.RowKit
end Go.Sw
end
section
namespace Go.Sw
open Go.RowKit
theorem ζu4 (n:Nat):n &&& 2 ^ 15 = if n.testBit 15 then 2 ^ 15 else 0:=by
 apply Nat.eq_of_testBit_eq;intro i;rw [Nat.testBit_and,Nat.testBit_two_pow];by_cases h:15 = i
 ·subst h;cases hb:n.testBit 15 <;> simp <;> decide
 ·cases hb:n.testBit 15
  ·simp [h]
  ·simp only [h,decide_false,Bool.and_false,if_true,Nat.testBit_two_pow]
theorem and15 (P:Program) (t:TypeId) (H:Heap) {a:Int} (h0:0 ≤ a) (h1:a < 65536):binR P .and t (.int .i64 a) (.int .i64 32768) H = .ok (.int .i64 (if a ≥ 32768 then 32768 else 0)) H:=by
 have e:(BitVec.ofInt 64 a &&& BitVec.ofInt 64 32768).toNat = (if a ≥ 32768 then 32768 else 0):=by
  rw [BitVec.toNat_and,BitVec.toNat_ofInt,BitVec.toNat_ofInt];rw [show ((32768:Int) % ((2 ^ 64:Nat):Int)).toNat = 2 ^ 15 from by decide,ζu4,Nat.testBit_eq_decide_div_mod_eq];obtain ⟨n,rfl⟩:=Int.eq_ofNat_of_zero_le h0;rw [show (((n:Int)) % ((2 ^ 64:Nat):Int)).toNat = n by omega];by_cases h:(n:Int) ≥ 32768
  ·rw [if_pos h,decide_eq_true (show n / 2 ^ 15 % 2 = 1 by omega)]; rfl
  ·rw [if_neg h,decide_eq_false (show ¬ n / 2 ^ 15 % 2 = 1 by omega)]; rfl
 have e1:binV P .and t (.int .i64 a) (.int .i64 32768) = some (.int .i64 (IntKind.i64.wrap (BitVec.ofInt 64 a &&& BitVec.ofInt 64 32768).toNat)):=rfl;unfold binR;rw [e1,e];by_cases h:a ≥ 32768
 ·simp [h]
 ·simp [h]
end Go.Sw
end
section
namespace Go.Sw
open Go.RowKit
theorem plainNew (k:Nat) (f:Fn) (a b:Array Value) (H:Heap):R (T k) F.ζ5k [.func f a b] H = .ok (.func (.func F.ζ2g) #[] #[ptrV H.n]) (H.push ⟨[.func f a b],1,false⟩):=by
 rw [ζpa];have e:ζ5k k (R (T k)) (.func f a b) H = .ok (.func (.func F.ζ2g) #[] #[ptrV H.n]) (H.push ⟨[.func f a b],1,false⟩):=by
  simp -implicitDefEqProofs [ζ5k]
 rw [e];have dead:¬ Alive H (.func (.func F.ζ2g) #[] #[ptrV H.n]):=fun h => by
  cases h with
  | func fn xs ys h1 h2 =>
   have:=h2 0 (ptrV H.n) rfl;cases this with
   | ptr b off k hg => have:=Heap.get_lt hg; omega
 unfold nrm;exact if_neg fun hc => dead hc.2
end Go.Sw
end
section
namespace Go.Sw
open Go.RowKit
theorem veq_Ens (l:List En):veq (lv encEn l) (lv encEn l) = true:=veq_lv fun p _ v hv => by
 simp [encEn] at hv;rcases hv with rfl | rfl | rfl | rfl <;> simp
theorem veq_Is (l:List Int):veq (lv encI l) (lv encI l) = true:=veq_lv fun p _ v hv => by
 simp [encI] at hv;subst hv; simp
theorem veq_Rows (l:List (List Int)):veq (lv encRow l) (lv encRow l) = true:=veq_lv fun p _ v hv => by
 simp [encRow] at hv;subst hv; exact veq_Is p
theorem veq_mach (m:Mach):veq (machV m) (machV m) = true:=veq_boxV (l:=[.int .i64 m.classes,tabV m.tab,lv encRow m.rows,lv encEn m.ents]) fun v hv => by
 simp at hv;rcases hv with rfl | rfl | rfl | rfl
 ·simp
 ·exact veq_tab _
 ·exact veq_Rows _
 ·exact veq_Ens _
end Go.Sw
end
section
namespace Go.Sw
open Go.RowKit
theorem Star.perm {H0 H:Heap} {L L':List It} (h:Star H0 H L) (hp:L.Perm L'):Star H0 H L':=by
 have hpw:L.Pairwise fun x y => ∀ b,b ∈ x.o → b ∉ y.o:=List.pairwise_iff_getElem.2 fun i j hi hj hij b hb => h.2.2 i j _ _ (by omega) (List.getElem?_eq_getElem hi) (List.getElem?_eq_getElem hj) b hb;have hpw':=(hp.pairwise_iff (fun {x y} hxy b hb hb2 => hxy b hb2 hb)).1 hpw;refine ⟨h.1,fun i x hx => ?_,fun i j x y hij hx hy b hb => ?_⟩
 ·obtain ⟨j,hj⟩:=List.getElem?_of_mem (hp.mem_iff.2 (List.mem_of_getElem? hx));exact h.2.1 j x hj
 ·obtain ⟨hi,rfl⟩:=List.getElem?_eq_some_iff.1 hx;obtain ⟨hj,rfl⟩:=List.getElem?_eq_some_iff.1 hy;rcases Nat.lt_or_gt_of_ne hij with hlt | hgt
  ·exact List.pairwise_iff_getElem.1 hpw' i j hi hj hlt b hb
  ·exact fun hb2 => List.pairwise_iff_getElem.1 hpw' j i hj hi hgt b hb2 hb
end Go.Sw
end
section
namespace Go.Sw
open Go.RowKit
end Go.Sw
end
section
namespace Go.Sw
open Go.RowKit
def lastB (vs:List Int) (a:Int):Bool:=(List.range (vs.length / 4)).any fun i => decide (a ≤ (i:Int) ∧ gU vs (4 * (i:Int)) 4 ≥ 2147483648)
theorem ζez {vs:List Int} {a:Int}:lastB vs a = true ↔ ∃ i:Nat,a ≤ i ∧ 4 * i + 4 ≤ vs.length ∧ gU vs (4 * (i:Int)) 4 ≥ 2147483648:=by
 unfold lastB;rw [List.any_eq_true];constructor
 ·rintro ⟨i,hi,h⟩;have:=of_decide_eq_true h;have hi:=List.mem_range.1 hi;exact ⟨i,this.1,by omega,this.2⟩
 ·rintro ⟨i,h1,h2,h3⟩;exact ⟨i,List.mem_range.2 (by omega),decide_eq_true ⟨h1,h3⟩⟩
structure LTab where
 m:Mach
 acts:List Int
 comps:List Int
 ligs:List Int
def entLast (vs:List Int) (e:En):Bool:=decide (¬ e.flags / 8192 % 2 = 1) || lastB vs e.a
def listAt (b:List Int) (i:Int):Option (List Int):=(uS b i 4).bind (restS b)
def ligaS (b:List Int) (g:Int):Option LTab:=(machS b g 1).bind fun m => (listAt b 16).bind fun a => (listAt b 20).bind fun c => (listAt b 24).bind fun l => if m.ents.all (entLast a) then some ⟨m,a,c,l⟩ else none
theorem ζot {b:List Int} (hb:Byt b) {i:Int} {l:List Int} (h:listAt b i = some l):Byt l ∧ l.length ≤ b.length:=by
 unfold listAt at h;obtain ⟨p,hp,h⟩:=Option.bind_eq_some_iff.1 h;exact ⟨hb.rest h,ζ6o h⟩
structure LTab.ok (t:LTab):Prop where
 m:t.m.ok
 byt:Byt t.acts ∧ Byt t.comps ∧ Byt t.ligs
 len:t.acts.length < 2 ^ 31 ∧ t.comps.length < 2 ^ 31 ∧ t.ligs.length < 2 ^ 31
 has:∀ e,e ∈ t.m.ents → ¬ e.flags / 8192 % 2 = 1 ∨ lastB t.acts e.a = true
theorem ligaS_ok {b:List Int} (hb:Byt b) {g:Int} (h1:1 ≤ g) (h2:g ≤ 65535) (hl:b.length < 2 ^ 31) {t:LTab} (h:ligaS b g = some t):t.ok:=by
 unfold ligaS at h;obtain ⟨m,hm,h⟩:=Option.bind_eq_some_iff.1 h;obtain ⟨a,ha,h⟩:=Option.bind_eq_some_iff.1 h;obtain ⟨c,hc,h⟩:=Option.bind_eq_some_iff.1 h;obtain ⟨l,hL,h⟩:=Option.bind_eq_some_iff.1 h;split at h
 ·rename_i hall;injection h with h;subst h;have a1:=ζot hb ha;have c1:=ζot hb hc;have l1:=ζot hb hL;refine ⟨machS_ok hb h1 h2 (by omega) hm,⟨a1.1,c1.1,l1.1⟩,⟨by dsimp only; omega,by dsimp only; omega,by dsimp only; omega⟩,fun e he => ?_⟩;have:=List.all_eq_true.1 hall e he;unfold entLast at this;rw [Bool.or_eq_true,decide_eq_true_eq] at this;exact this
 ·cases h
def offS (a:Int):Int:=if a % 1073741824 ≥ 536870912 then a % 1073741824 - 1073741824 else a % 1073741824
def entryS (v:List Int) (i:Int):Option Int:=if 0 ≤ i ∧ i < (v.length:Int) / 2 then some (gU v (2 * i) 2) else none
def pushP (i:Int) (ps:List Int):List Int:=if ps.head? = some i then ps else (i :: ps).take 64
def join1 (i:Int) (l:List Gl) (k:Int):List Gl:=match atG l k with | some h => if 0 ≤ i ∧ i < l.length then l.modify i.toNat fun g => ⟨g.id,min g.cl h.cl⟩ else l | none => l
def joinG (l:List Gl) (i:Int) (ks:List Int):List Gl:=ks.foldl (join1 i) l
def delG (l:List Gl) (ks:List Int):List Gl:=ks.foldl (fun l k => setG l k 65535) l
theorem ζuw (i:Int) (l:List Gl) (k:Int):(join1 i l k).length = l.length:=by
 unfold join1;split
 ·split <;> simp
 ·rfl
theorem ζol (i:Int):∀ (ks:List Int) (l:List Gl),(joinG l i ks).length = l.length
 | [],_ => rfl
 | k :: ks,l => by
  have:=ζol i ks (join1 i l k);unfold joinG at this ⊢;rw [List.foldl_cons,this,ζuw]
theorem ζnu (l:List Gl) (i id:Int):(setG l i id).length = l.length:=by unfold setG; split <;> simp
theorem delG_len:∀ (ks:List Int) (l:List Gl),(delG l ks).length = l.length
 | [],_ => rfl
 | k :: ks,l => by
  have:=delG_len ks (setG l k 65535);unfold delG at this ⊢;rw [List.foldl_cons,this,ζnu]
def storeG (l:List Gl) (i id:Int) (gone:List Int):List Gl:=delG (joinG (setG l i id) i gone) gone
theorem ζq3 (l:List Gl) (i id:Int) (gone:List Int):(storeG l i id gone).length = l.length:=by unfold storeG; rw [delG_len,ζol,ζnu]
def perfS (t:LTab):List Int → Int → Int → List Int → List Gl → List Gl × List Int
 | [],_,_,_,l => (l,[])
 | i :: ps,a,sum,gone,l =>
  match entryS t.comps (IntKind.i64.wrap (((atG l i).getD ⟨0,0⟩).id + offS (gU t.acts (4 * a) 4))) with
  | none => (l,ps)
  | some part =>
   if gU t.acts (4 * a) 4 ≥ 1073741824 then
    match entryS t.ligs (sum + part) with
    | none => (l,ps)
    | some id => if gU t.acts (4 * a) 4 ≥ 2147483648 then (storeG l i id gone,pushP i ps) else perfS t ps (a + 1) (sum + part) [i] (storeG l i id gone)
   else perfS t ps (a + 1) (sum + part) (gone ++ [i]) l
def doLi (t:LTab) (s:List Gl × List Int) (i:Int) (e:En):List Gl × List Int :=
 let k:=if e.flags ≥ 32768 ∧ i < (s.1.length:Int) then pushP i s.2 else s.2
 if e.flags / 8192 % 2 = 1 then perfS t k e.a 0 [] s.1 else (s.1,k)
theorem ζox (t:LTab):∀ (ps:List Int) (a sum:Int) (gone:List Int) (l:List Gl),(perfS t ps a sum gone l).1.length = l.length
 | [],_,_,_,_ => rfl
 | i :: ps,a,sum,gone,l => by
  unfold perfS;split
  ·rfl
  ·split
   ·split
    ·rfl
    ·split
     ·exact ζq3 _ _ _ _
     ·rw [ζox t ps,ζq3]
   ·exact ζox t ps _ _ _ _
theorem doLi_len (t:LTab) (s:List Gl × List Int) (i:Int) (e:En):(doLi t s i e).1.length = s.1.length:=by
 unfold doLi;dsimp only;split
 ·exact ζox _ _ _ _ _ _
 ·rfl
def KeptOk (n:Int) (ps:List Int):Prop:=ps.length ≤ 64 ∧ ∀ x,x ∈ ps → 0 ≤ x ∧ x < n
theorem pushP_ok {n i:Int} {ps:List Int} (h:KeptOk n ps) (hi:0 ≤ i ∧ i < n):KeptOk n (pushP i ps):=by
 unfold pushP;split
 ·exact h
 ·refine ⟨by rw [List.length_take]; omega,fun x hx => ?_⟩;rcases List.mem_cons.1 (List.mem_of_mem_take hx) with rfl | hx
  ·exact hi
  ·exact h.2 x hx
theorem KeptOk.tail {n i:Int} {ps:List Int} (h:KeptOk n (i :: ps)):KeptOk n ps:=⟨by have:=h.1; simp at this; omega,fun x hx => h.2 x (by simp [hx])⟩
theorem ζjk (t:LTab) {n:Int}:∀ (ps:List Int) (a sum:Int) (gone:List Int) (l:List Gl),KeptOk n ps → KeptOk n (perfS t ps a sum gone l).2
 | [],_,_,_,_,h => h
 | i :: ps,a,sum,gone,l,h => by
  unfold perfS;split
  ·exact h.tail
  ·split
   ·split
    ·exact h.tail
    ·split
     ·exact pushP_ok h.tail (h.2 i (by simp))
     ·exact ζjk t ps _ _ _ _ h.tail
   ·exact ζjk t ps _ _ _ _ h.tail
theorem ζuh (t:LTab) {n:Int} {s:List Gl × List Int} (hn:(s.1.length:Int) = n) (h:KeptOk n s.2) {i:Int} (hi:0 ≤ i) (e:En):KeptOk n (doLi t s i e).2:=by
 have k1:KeptOk n (if e.flags ≥ 32768 ∧ i < (s.1.length:Int) then pushP i s.2 else s.2):=by
  split
  ·rename_i hc; exact pushP_ok h ⟨hi,by omega⟩
  ·exact h
 unfold doLi;dsimp only;split
 ·exact ζjk t _ _ _ _ _ k1
 ·exact k1
end Go.Sw
end
section
namespace Go.Sw
open Go.RowKit
def runLr (t:LTab) (l:List Gl):Int × Int × (List Gl × List Int) :=
 runD t.m (fun s:List Gl × List Int => s.1) (fun s i e => (doLi t s i e,i,i + 1)) (2 * (l.length:Int) + 128) (2 * l.length + 128) ((l,[]),⟨0,0,0,0⟩)
def runL (t:LTab) (l:List Gl):List Gl × Int:=((runLr t l).2.2.1,(runLr t l).2.1)
def fours (l:List Int):List Int:=(l.map fun c => bytesOf c 4).flatten
theorem ζgn (l:List Int):(fours l).length = l.length * 4:=flat_len (z:=4) (fun r hr => by obtain ⟨p,_,rfl⟩:=List.mem_map.1 hr; simp) |>.trans (by simp)
theorem ζsw (l:List Int) (x:Int):fours (l ++ [x]) = fours l ++ bytesOf x 4:=by simp [fours]
theorem setG_at (l:List Gl) (i:Nat) (id:Int) (j:Nat):(setG l (i:Int) id)[j]? = if j = i then (l[j]?).map fun g => ⟨id,g.cl⟩ else l[j]?:=by
 unfold setG;by_cases hi:i < l.length
 ·rw [if_pos ⟨by omega,by omega⟩,Int.toNat_natCast,List.getElem?_modify];by_cases hij:j = i
  ·subst hij; simp
  ·rw [if_neg hij];simp [show ¬ i = j from fun h => hij h.symm]
 ·rw [if_neg (by omega)];split
  ·rename_i h;subst h;rw [List.getElem?_eq_none (by omega)];rfl
  ·rfl
theorem delG_at:∀ (ks:List Nat) (l:List Gl) (j:Nat),(delG l (ks.map fun (k:Nat) => (k:Int)))[j]? = if j ∈ ks then (l[j]?).map fun g => ⟨65535,g.cl⟩ else l[j]?
 | [],l,j => by rw [if_neg (by simp)]; rfl
 | k :: ks,l,j => by
  have h:delG l ((k :: ks).map fun (k:Nat) => (k:Int)) = delG (setG l (k:Int) 65535) (ks.map fun (k:Nat) => (k:Int)):=rfl;rw [h,delG_at ks,setG_at];by_cases h1:j = k
  ·rw [if_pos h1,if_pos (show j ∈ k :: ks by simp [h1])];split
   ·cases l[j]? <;> rfl
   ·rfl
  ·rw [if_neg h1];by_cases h2:j ∈ ks
   ·rw [if_pos h2,if_pos (by simp [h2])]
   ·rw [if_neg h2,if_neg (by simp [h1,h2])]
end Go.Sw
end
section
namespace Go.Sw
open Go.RowKit
def ligN (p:Plan):Nat:=(planRoom p 1 (List.replicate 12 0)).length
def ligRm (N a c:Nat):List Int:=bytesOf (N:Int) 4 ++ (bytesOf ((N + 4 * a:Nat):Int) 4 ++ bytesOf ((N + 4 * a + 2 * c:Nat):Int) 4)
def ligB (p:Plan) (a c l:List Int):List Int:=planRoom p 1 (ligRm (ligN p) a.length c.length) ++ (fours a ++ (twos c ++ twos l))
theorem ζv0 (N a c:Nat):(ligRm N a c).length = 12:=by simp [ligRm]
end Go.Sw
end
section
set_option maxRecDepth 100000
set_option linter.unusedVariables false
namespace Go.Sw
noncomputable section
def ζ3x (k:Nat) (call:Caller):Env → Heap → Res (AExit × Env):=loopB (C k) call F.ζa [1,1,1,0,1,0,0]
def ζ7d (k:Nat) (call:Caller):Kont Value:=kBlock 0 (kSeq (pieceK (C k) call F.ζa [1,1,1,1]) (kDone Prog (resOf Prog F.ζa)))
def ζ3y (k:Nat) (call:Caller):Env → Heap → Res (AExit × Env):=loopB (C k) call F.ζa [1,1,1,1,0,1,0,0]
def ζ7e (k:Nat) (call:Caller):Kont Value:=kBlock 2 (kSeq (pieceK (C k) call F.ζa [1,1,1,1,1]) (kDone Prog (resOf Prog F.ζa)))
def ζ3z (k:Nat) (call:Caller):Env → Heap → Res (AExit × Env):=loopB (C k) call F.ζa [1,1,1,1,1,0,1,0,0]
def ζ7f (k:Nat) (call:Caller):Kont Value:=kBlock 4 (kSeq (pieceK (C k) call F.ζa [1,1,1,1,1,1]) (kDone Prog (resOf Prog F.ζa)))
def ζ40 (k:Nat) (call:Caller):Env → Heap → Res (AExit × Env):=loopB (C k) call F.ζa [1,1,1,1,1,1,0,1,0,0]
def ζ7g (k:Nat) (call:Caller):Kont Value:=kBlock 6 (kSeq (pieceK (C k) call F.ζa [1,1,1,1,1,1,1]) (kDone Prog (resOf Prog F.ζa)))
def ζa (k:Nat) (call:Caller) (a0:Value) (h:Heap):Res Value :=
 (boxR a0 h).bind fun v1 h2 =>
 (fieldAddrR Prog 108 v1 0 h2).bind fun v3 h4 =>
 (loadR Prog 104 v3 h4).bind fun v5 h6 =>
 (call F.ζ3 [v5,(.int .i64 1),(.int .i64 12)] h6).bind fun v7 h8 =>
 (builtinV Prog .len [31] [v7] h8).bind fun v9 h10 =>
 (builtinV Prog .len [31] [v7] h10).bind fun v11 h12 =>
 (fieldAddrR Prog 108 v1 1 h12).bind fun v13 h14 =>
 (loadR Prog 105 v13 h14).bind fun v15 h16 =>
 (builtinV Prog .len [105] [v15] h16).bind fun v17 h18 =>
 (binR Prog .mul 3 (.int .i64 4) v17 h18).bind fun v19 h20 =>
 (binR Prog .add 3 v11 v19 h20).bind fun v21 h22 =>
 (builtinV Prog .len [31] [v7] h22).bind fun v23 h24 =>
 (fieldAddrR Prog 108 v1 1 h24).bind fun v25 h26 =>
 (loadR Prog 105 v25 h26).bind fun v27 h28 =>
 (builtinV Prog .len [105] [v27] h28).bind fun v29 h30 =>
 (binR Prog .mul 3 (.int .i64 4) v29 h30).bind fun v31 h32 =>
 (binR Prog .add 3 v23 v31 h32).bind fun v33 h34 =>
 (fieldAddrR Prog 108 v1 2 h34).bind fun v35 h36 =>
 (loadR Prog 106 v35 h36).bind fun v37 h38 =>
 (builtinV Prog .len [106] [v37] h38).bind fun v39 h40 =>
 (binR Prog .mul 3 (.int .i64 2) v39 h40).bind fun v41 h42 =>
 (binR Prog .add 3 v33 v41 h42).bind fun v43 h44 =>
 (buildR Prog 217 [(0,v9),(1,v21),(2,v43)] h44).bind fun v45 h46 =>
 (allocR Prog 217 h46).bind fun v47 h48 =>
 (storeR Prog 217 v47 v45 h48).bind fun _v49 h50 =>
 (loadR Prog 217 v47 h50).bind fun v51 h52 =>
 (loopN (ζ3x k call) loopFuel [(1,v1),(3,v7),(38,v51),(39,(.int .i64 0))] h52).bind fun r53 h54 =>
 ζ7d k call r53.1 r53.2 h54
theorem ζfx (k:Nat) (a0:Value) (h:Heap):R (T k) F.ζa [a0] h = nrm (ownP sP17 k h.n) h (ζa k (R (T k)) a0 h) :=
 (R_body (t:=T k) (T_scott k) (by kernel_rfl) (by kernel_rfl) _ _).trans (by kernel_rfl)
theorem ζ67 (k:Nat) (call:Caller) (a1 a3 a38 a39:Value) (h:Heap):ζ3x k call [(1,a1),(3,a3),(38,a38),(39,a39)] h =
 (binR Prog .lss 3 a39 (.int .i64 3) h).bind fun v55 h56 =>
 condV (some v55) (
 (indexR Prog 217 a38 a39 h56).bind fun v57 h58 =>
 (binR Prog .mul 3 (.int .i64 4) a39 h58).bindN fun v59 h60 =>
 (binR Prog .add 3 (.int .i64 16) v59 h60).bindN fun v61 h62 =>
 (binR Prog .mul 3 (.int .i64 4) a39 h62).bindN fun v63 h64 =>
 (binR Prog .add 3 (.int .i64 20) v63 h64).bindN fun v65 h66 =>
 (sliceR Prog 31 a3 (some v61) (some v65) none h66).bindN fun v67 h68 =>
 (call F.ζ6 [(.slice none 0 0),v57,(.int .i64 4)] h68).bindT (fun p71 h72 => .panic p71 h72) fun v69 h70 =>
 (builtinV Prog .copy [31,31] [v67,v69] h70).bindN fun v73 h74 =>
 chkR ((okVal (sliceR Prog 31 a3 (some v61) (some v65) none h70) v67 && true) && true) (
 (binR Prog .add 3 a39 (.int .i64 1) h74).bind fun v75 h76 =>
 .ok (.normal,[(1,a1),(3,a3),(38,a38),(39,v75)]) h76))
 (
 .ok ((.exit 0),[(1,a1),(3,a3),(38,a38),(39,a39),(40,v55)]) h56) :=
 (loopB_eq _ _).trans (by kernel_rfl)
theorem ζa6 (k:Nat) (call:Caller) (a1 a3 a38 a39 a40:Value) (h:Heap):ζ7d k call (.exit 0) [(1,a1),(3,a3),(38,a38),(39,a39),(40,a40)] h =
 (fieldAddrR Prog 108 a1 1 h).bind fun v77 h78 =>
 (loadR Prog 105 v77 h78).bind fun v79 h80 =>
 (builtinV Prog .len [105] [v79] h80).bind fun v81 h82 =>
 (loopN (ζ3y k call) loopFuel [(1,a1),(3,a3),(56,v79),(57,v81),(58,(.int .i64 0))] h82).bind fun r83 h84 =>
 ζ7e k call r83.1 r83.2 h84:=by kernel_rfl
theorem ζ68 (k:Nat) (call:Caller) (a1 a3 a56 a57 a58:Value) (h:Heap):ζ3y k call [(1,a1),(3,a3),(56,a56),(57,a57),(58,a58)] h =
 (binR Prog .lss 3 a58 a57 h).bind fun v85 h86 =>
 condV (some v85) (
 (indexAddrR Prog 105 a56 a58 h86).bind fun v87 h88 =>
 (loadR Prog 159 v87 h88).bind fun v89 h90 =>
 (convR Prog 159 3 v89 h90).bind fun v91 h92 =>
 (call F.ζ6 [a3,v91,(.int .i64 4)] h92).bind fun v93 h94 =>
 (binR Prog .add 3 a58 (.int .i64 1) h94).bind fun v95 h96 =>
 .ok (.normal,[(1,a1),(3,v93),(56,a56),(57,a57),(58,v95)]) h96)
 (
 .ok ((.exit 2),[(1,a1),(3,a3),(56,a56),(57,a57),(58,a58),(59,v85)]) h86) :=
 (loopB_eq _ _).trans (by kernel_rfl)
theorem ζa7 (k:Nat) (call:Caller) (a1 a3 a56 a57 a58 a59:Value) (h:Heap):ζ7e k call (.exit 2) [(1,a1),(3,a3),(56,a56),(57,a57),(58,a58),(59,a59)] h =
 (fieldAddrR Prog 108 a1 2 h).bind fun v97 h98 =>
 (loadR Prog 106 v97 h98).bind fun v99 h100 =>
 (builtinV Prog .len [106] [v99] h100).bind fun v101 h102 =>
 (loopN (ζ3z k call) loopFuel [(1,a1),(3,a3),(68,v99),(69,v101),(70,(.int .i64 0))] h102).bind fun r103 h104 =>
 ζ7f k call r103.1 r103.2 h104:=by kernel_rfl
theorem ζ69 (k:Nat) (call:Caller) (a1 a3 a68 a69 a70:Value) (h:Heap):ζ3z k call [(1,a1),(3,a3),(68,a68),(69,a69),(70,a70)] h =
 (binR Prog .lss 3 a70 a69 h).bind fun v105 h106 =>
 condV (some v105) (
 (indexAddrR Prog 106 a68 a70 h106).bind fun v107 h108 =>
 (loadR Prog 80 v107 h108).bind fun v109 h110 =>
 (convR Prog 80 3 v109 h110).bind fun v111 h112 =>
 (call F.ζ6 [a3,v111,(.int .i64 2)] h112).bind fun v113 h114 =>
 (binR Prog .add 3 a70 (.int .i64 1) h114).bind fun v115 h116 =>
 .ok (.normal,[(1,a1),(3,v113),(68,a68),(69,a69),(70,v115)]) h116)
 (
 .ok ((.exit 4),[(1,a1),(3,a3),(68,a68),(69,a69),(70,a70),(71,v105)]) h106) :=
 (loopB_eq _ _).trans (by kernel_rfl)
theorem ζa8 (k:Nat) (call:Caller) (a1 a3 a68 a69 a70 a71:Value) (h:Heap):ζ7f k call (.exit 4) [(1,a1),(3,a3),(68,a68),(69,a69),(70,a70),(71,a71)] h =
 (fieldAddrR Prog 108 a1 3 h).bind fun v117 h118 =>
 (loadR Prog 106 v117 h118).bind fun v119 h120 =>
 (builtinV Prog .len [106] [v119] h120).bind fun v121 h122 =>
 (loopN (ζ40 k call) loopFuel [(3,a3),(80,v119),(81,v121),(82,(.int .i64 0))] h122).bind fun r123 h124 =>
 ζ7g k call r123.1 r123.2 h124:=by kernel_rfl
theorem ζ6a (k:Nat) (call:Caller) (a3 a80 a81 a82:Value) (h:Heap):ζ40 k call [(3,a3),(80,a80),(81,a81),(82,a82)] h =
 (binR Prog .lss 3 a82 a81 h).bind fun v125 h126 =>
 condV (some v125) (
 (indexAddrR Prog 106 a80 a82 h126).bind fun v127 h128 =>
 (loadR Prog 80 v127 h128).bind fun v129 h130 =>
 (convR Prog 80 3 v129 h130).bind fun v131 h132 =>
 (call F.ζ6 [a3,v131,(.int .i64 2)] h132).bind fun v133 h134 =>
 (binR Prog .add 3 a82 (.int .i64 1) h134).bind fun v135 h136 =>
 .ok (.normal,[(3,v133),(80,a80),(81,a81),(82,v135)]) h136)
 (
 .ok ((.exit 6),[(3,a3),(80,a80),(81,a81),(82,a82),(83,v125)]) h126) :=
 (loopB_eq _ _).trans (by kernel_rfl)
theorem ζa9 (k:Nat) (call:Caller) (a3 a80 a81 a82 a83:Value) (h:Heap):ζ7g k call (.exit 6) [(3,a3),(80,a80),(81,a81),(82,a82),(83,a83)] h =
 .ok a3 h:=by kernel_rfl
end
end Go.Sw
end
section
namespace Go.Sw
open Go.RowKit
abbrev encF (n:Int):List Value:=[.int .u32 n]
theorem encF_len (n:Int):(encF n).length = 1:=rfl
abbrev encH (n:Int):List Value:=[.int .u16 n]
theorem encH_len (n:Int):(encH n).length = 1:=rfl
theorem room_put (p:Plan) (w:Int) (a x r y:List Int) (h:x.length = r.length):(planRoom p w (a ++ (x ++ y))).take (16 + a.length) ++ (r ++ (planRoom p w (a ++ (x ++ y))).drop (16 + a.length + r.length)) = planRoom p w (a ++ (r ++ y)):=by
 obtain ⟨hd,tl,h16,hs⟩:=ζpx p w (a ++ (x ++ y)).length;rw [hs _ rfl,hs (a ++ (r ++ y)) (by simp [h])];rw [← h16,show hd ++ (a ++ (x ++ y) ++ tl) = (hd ++ a) ++ (x ++ (y ++ tl)) by simp,show hd.length + a.length = (hd ++ a).length by simp,List.take_left,← h];rw [show (hd ++ a) ++ (x ++ (y ++ tl)) = (hd ++ a ++ x) ++ (y ++ tl) by simp,show (hd ++ a).length + x.length = (hd ++ a ++ x).length by simp [Nat.add_assoc],List.drop_left];simp
theorem ζq6 (s:List Int) {j:Nat} {x:Int} (h:s[j]? = some x):twos (s.take (j + 1)) = twos (s.take j) ++ bytesOf x 2:=by rw [ζ1x h,ζgu]
theorem ζnh (s:List Int) {j:Nat} {x:Int} (h:s[j]? = some x):fours (s.take (j + 1)) = fours (s.take j) ++ bytesOf x 4:=by rw [ζ1x h,ζsw]
def ligNs (N a c:Nat):List Int:=[(N:Int),((N + 4 * a:Nat):Int),((N + 4 * a + 2 * c:Nat):Int)]
theorem ζs0 (N a c:Nat):ligRm N a c = fours (ligNs N a c):=by simp [ligRm,ligNs,fours]
set_option maxHeartbeats 1000000 in
theorem w17_l1 (k:Nat) {H0 H:Heap} (p:Plan) (N na nc:Nat) (hN:(planRoom p 1 (List.replicate 12 0)).length = N) (hNb:N ≤ 100000) (hna:na ≤ 1000) (hnc:nc ≤ 1000) {o:Option Nat} {s:Value} (a1:Value) (g:Star H0 H [itRow o 1 s encB (planRoom p 1 (List.replicate 12 0))]) :
  ∃ H',loopN (ζ3x k (R (T k))) loopFuel [(1,a1),(3,s),(38,.agg #[.int .i64 N,.int .i64 ((N:Int) + 4 * (na:Int)),.int .i64 ((N:Int) + 4 * (na:Int) + 2 * (nc:Int))]),(39,.int .i64 0)] H =
   .ok (.exit 0,[(1,a1),(3,s),(38,.agg #[.int .i64 N,.int .i64 ((N:Int) + 4 * (na:Int)),.int .i64 ((N:Int) + 4 * (na:Int) + 2 * (nc:Int))]),(39,.int .i64 3),(40,.bool false)]) H' ∧ Star H0 H' [itRow o 1 s encB (planRoom p 1 (ligRm N na nc))]:=by
 have hN28:28 ≤ N:=by rw [← hN]; unfold planRoom; simp; omega
 obtain ⟨xx,e',H1,hr1,rfl,rfl,g1⟩:=loop_up (body:=ζ3x k (R (T k))) 3
  (fun j e H' => e = [(1,a1),(3,s),(38,.agg #[.int .i64 N,.int .i64 ((N:Int) + 4 * (na:Int)),.int .i64 ((N:Int) + 4 * (na:Int) + 2 * (nc:Int))]),(39,.int .i64 j)] ∧ Star H0 H' [itRow o 1 s encB (planRoom p 1 (fours ((ligNs N na nc).take j) ++ List.replicate (12 - 4 * j) 0))])
  (fun xx e H' => xx = .exit 0 ∧ e = [(1,a1),(3,s),(38,.agg #[.int .i64 N,.int .i64 ((N:Int) + 4 * (na:Int)),.int .i64 ((N:Int) + 4 * (na:Int) + 2 * (nc:Int))]),(39,.int .i64 3),(40,.bool false)] ∧ Star H0 H' [itRow o 1 s encB (planRoom p 1 (ligRm N na nc))])
  (e0:=[(1,a1),(3,s),(38,.agg #[.int .i64 N,.int .i64 ((N:Int) + 4 * (na:Int)),.int .i64 ((N:Int) + 4 * (na:Int) + 2 * (nc:Int))]),(39,.int .i64 0)]) (H0:=H) ⟨rfl,by simpa [fours] using g⟩ (by omega)
  (fun j e H' hj ⟨he,g⟩ => by
   subst he;have hjl:(j:Int) < 3:=by omega
   obtain ⟨x,hx⟩:∃ x,(ligNs N na nc)[j]? = some x:=⟨_,List.getElem?_eq_getElem (by simpa [ligNs] using hj)⟩
   have hxb:0 ≤ x ∧ x < 4294967296:=by
    have:=List.mem_of_getElem? hx;have:x = (N:Int) ∨ x = ((N + 4 * na:Nat):Int) ∨ x = ((N + 4 * na + 2 * nc:Nat):Int):=by simpa [ligNs] using this
    omega
   have hal:(fours ((ligNs N na nc).take j)).length = 4 * j:=by
    rw [ζgn,List.length_take];simp only [ligNs,List.length_cons,List.length_nil];omega
   have hlen:(planRoom p 1 (fours ((ligNs N na nc).take j) ++ List.replicate (12 - 4 * j) 0)).length = N:=by
    have:=ζ7s p 1 (fours ((ligNs N na nc).take j) ++ List.replicate (12 - 4 * j) 0) (List.replicate 12 0) (by rw [List.length_append,hal]; simp; omega);rw [this,hN]
   obtain ⟨c5,rfl,hs5,cut1⟩:=g.cut1 0 rfl (16 + 4 * j) 4 (by omega) (by omega) .i64 .i64;have g:=g.more_row (Ext.refl _) (OwnO.nil encB _ 1) (fun b hb => by cases hb);simp only [List.cons_append,List.nil_append] at g;obtain ⟨t6,u6,J6,f6,g⟩:=Put_star k g 1 rfl x 4 4 rfl hxb.1 (by omega) (by omega) (by simp);simp only [List.set_cons_zero,List.set_cons_succ,List.nil_append] at g;obtain ⟨c6,h6,_,cut2⟩:=g.cut1 0 rfl (16 + 4 * j) 4 (by omega) (by omega) .i64 .i64;have h6:=Option.some.inj h6;subst h6;obtain ⟨J7,f7,g⟩:=g.copy1 0 1 rfl rfl (16 + 4 * j) 4 ((planRoom p 1 (fours ((ligNs N na nc).take j) ++ List.replicate (12 - 4 * j) 0)).length - (16 + 4 * j)) (by simp) (by omega) (by omega);simp only [List.set_cons_zero] at g;have hrep:List.replicate (12 - 4 * j) (0:Int) = List.replicate 4 0 ++ List.replicate (12 - 4 * (j + 1)) 0:=by
    rw [List.replicate_append_replicate];congr 1;omega
   have hput:=room_put p 1 (fours ((ligNs N na nc).take j)) (List.replicate 4 0) (bytesOf x 4) (List.replicate (12 - 4 * (j + 1)) 0) (by simp);rw [hal,ζ84,← hrep] at hput;rw [hput,← List.append_assoc,← ζnh _ hx] at g;have g0:=g.take 1;simp only [List.take_succ_cons,List.take_zero] at g0;have hv5:veq (.slice (some ⟨c5,16 + 4 * j,none⟩) 4 ((planRoom p 1 (fours ((ligNs N na nc).take j) ++ List.replicate (12 - 4 * j) 0)).length - (16 + 4 * j))) (.slice (some ⟨c5,16 + 4 * j,none⟩) 4 ((planRoom p 1 (fours ((ligNs N na nc).take j) ++ List.replicate (12 - 4 * j) 0)).length - (16 + 4 * j))) = true:=by simp
   generalize (planRoom p 1 (fours ((ligNs N na nc).take j) ++ List.replicate (12 - 4 * j) 0)).length - (16 + 4 * j) = cap at cut1 cut2 f7 hv5;have e16:((16 + 4 * j:Nat):Int) = 16 + 4 * (j:Int):=by omega
   have e20:((16 + 4 * j + 4:Nat):Int) = 20 + 4 * (j:Int):=by omega
   rw [e16,e20] at cut1 cut2;refine .inl ⟨_,J7,?_,rfl,g0⟩;rw [ζ67];have hget:#[Value.int .i64 N,Value.int .i64 ((N:Int) + 4 * (na:Int)),Value.int .i64 ((N:Int) + 4 * (na:Int) + 2 * (nc:Int))][j]? = some (.int .i64 x):=by
    have h3:j = 0 ∨ j = 1 ∨ j = 2:=by omega
    rcases h3 with rfl | rfl | rfl
    ·have:(N:Int) = x:=by simpa [ligNs] using hx
     rw [← this]; rfl
    ·have:(N:Int) + 4 * (na:Int) = x:=by simpa [ligNs] using hx
     rw [← this]; rfl
    ·have:(N:Int) + 4 * (na:Int) + 2 * (nc:Int) = x:=by simpa [ligNs] using hx
     rw [← this]; rfl
   have i0:=fun H' => iv1_get (k:=.i64) (len:=3) hj hget H';have hj1:((j + 1:Nat):Int) = (j:Int) + 1:=rfl;obtain ⟨V,hV⟩:∃ V,V = Value.agg #[.int .i64 N,.int .i64 ((N:Int) + 4 * (na:Int)),.int .i64 ((N:Int) + 4 * (na:Int) + 2 * (nc:Int))]:=⟨_,rfl⟩
   rw [← hV] at i0 ⊢;rw [hj1];simp -implicitDefEqProofs (disch:=omega) [hjl,i0,cut1,f6,cut2,f7,hv5])
  (fun e H' ⟨he,g⟩ => by
   subst he;refine ⟨.exit 0,_,H',?_,by simp,rfl,rfl,?_⟩
   ·rw [ζ67];simp -implicitDefEqProofs
   ·rw [ζs0];simpa [ligNs] using g)
 exact ⟨H1,hr1,g1⟩
theorem w17_l2 (k:Nat) {H0 H:Heap} {o:Option Nat} {s7:Value} {lk:List Int} (a1:Value) (g:Star H0 H [itRow o 1 s7 encB lk]) {v:Value} {s:List Int} (hv:Sl H0 1 v encF s) (hb:∀ x,x ∈ s → 0 ≤ x ∧ x < 4294967296) (hl:lk.length + 4 * s.length < 2 ^ 29) :
  ∃ s' o' zz H',loopN (ζ3y k (R (T k))) loopFuel [(1,a1),(3,s7),(56,v),(57,.int .i64 s.length),(58,.int .i64 0)] H =
   .ok (.exit 2,[(1,a1),(3,s'),(56,v),(57,.int .i64 s.length),(58,zz),(59,.bool false)]) H' ∧ Star H0 H' [itRow o' 1 s' encB (lk ++ fours s)]:=by
 obtain ⟨xx,e',H1,hr1,rfl,s',o',rfl,g1⟩:=loop_up (body:=ζ3y k (R (T k))) s.length
  (fun j e H' => ∃ s' o',e = [(1,a1),(3,s'),(56,v),(57,.int .i64 s.length),(58,.int .i64 j)] ∧ Star H0 H' [itRow o' 1 s' encB (lk ++ fours (s.take j))])
  (fun xx e H' => xx = .exit 2 ∧ ∃ s' o',e = [(1,a1),(3,s'),(56,v),(57,.int .i64 s.length),(58,.int .i64 s.length),(59,.bool false)] ∧ Star H0 H' [itRow o' 1 s' encB (lk ++ fours s)])
  (e0:=[(1,a1),(3,s7),(56,v),(57,.int .i64 s.length),(58,.int .i64 0)]) (H0:=H) ⟨s7,o,rfl,by simpa [fours] using g⟩ (by omega)
  (fun j e H' hj ⟨s',o',he,g⟩ => by
   subst he;have hjl:(j:Int) < s.length:=by omega
   obtain ⟨x,hx⟩:∃ x,s[j]? = some x:=⟨_,List.getElem?_eq_getElem hj⟩
   have hxb:=hb x (List.mem_of_getElem? hx);obtain ⟨p,i1,i2⟩:=hv.ix1 encF_len j x hx _ rfl;have i2:=i2 H' g.ext;obtain ⟨s2,o2,H2,e2,g2⟩:=Put_star k g 0 rfl x 4 4 rfl hxb.1 (by omega) (by omega) (by rw [List.length_append,ζgn,List.length_take]; omega);simp only [List.set_cons_zero] at g2;rw [List.append_assoc,← ζnh _ hx] at g2;have hw64:IntKind.i64.wrap x = x:=wrap_i64 (by omega) (by omega);refine .inl ⟨_,H2,?_,s2,o2,rfl,g2⟩;rw [ζ68];simp -implicitDefEqProofs (disch:=omega) [hjl,i1,i2,hw64,e2])
  (fun e H' ⟨s',o',he,g⟩ => by
   subst he;rw [List.take_length] at g;refine ⟨.exit 2,_,H',?_,by simp,rfl,s',o',rfl,g⟩;rw [ζ68];simp -implicitDefEqProofs)
 exact ⟨s',o',_,H1,hr1,g1⟩
theorem w17_l3 (k:Nat) {H0 H:Heap} {o:Option Nat} {s7:Value} {lk:List Int} (a1:Value) (g:Star H0 H [itRow o 1 s7 encB lk]) {v:Value} {s:List Int} (hv:Sl H0 1 v encH s) (hb:∀ x,x ∈ s → 0 ≤ x ∧ x < 65536) (hl:lk.length + 2 * s.length < 2 ^ 29) :
  ∃ s' o' zz H',loopN (ζ3z k (R (T k))) loopFuel [(1,a1),(3,s7),(68,v),(69,.int .i64 s.length),(70,.int .i64 0)] H =
   .ok (.exit 4,[(1,a1),(3,s'),(68,v),(69,.int .i64 s.length),(70,zz),(71,.bool false)]) H' ∧ Star H0 H' [itRow o' 1 s' encB (lk ++ twos s)]:=by
 obtain ⟨xx,e',H1,hr1,rfl,s',o',rfl,g1⟩:=loop_up (body:=ζ3z k (R (T k))) s.length
  (fun j e H' => ∃ s' o',e = [(1,a1),(3,s'),(68,v),(69,.int .i64 s.length),(70,.int .i64 j)] ∧ Star H0 H' [itRow o' 1 s' encB (lk ++ twos (s.take j))])
  (fun xx e H' => xx = .exit 4 ∧ ∃ s' o',e = [(1,a1),(3,s'),(68,v),(69,.int .i64 s.length),(70,.int .i64 s.length),(71,.bool false)] ∧ Star H0 H' [itRow o' 1 s' encB (lk ++ twos s)])
  (e0:=[(1,a1),(3,s7),(68,v),(69,.int .i64 s.length),(70,.int .i64 0)]) (H0:=H) ⟨s7,o,rfl,by simpa [twos] using g⟩ (by omega)
  (fun j e H' hj ⟨s',o',he,g⟩ => by
   subst he;have hjl:(j:Int) < s.length:=by omega
   obtain ⟨x,hx⟩:∃ x,s[j]? = some x:=⟨_,List.getElem?_eq_getElem hj⟩
   have hxb:=hb x (List.mem_of_getElem? hx);obtain ⟨p,i1,i2⟩:=hv.ix1 encH_len j x hx _ rfl;have i2:=i2 H' g.ext;obtain ⟨s2,o2,H2,e2,g2⟩:=Put_star k g 0 rfl x 2 2 rfl hxb.1 (by omega) (by omega) (by rw [List.length_append,twos_len,List.length_take]; omega);simp only [List.set_cons_zero] at g2;rw [List.append_assoc,← ζq6 _ hx] at g2;have hw64:IntKind.i64.wrap x = x:=wrap_i64 (by omega) (by omega);refine .inl ⟨_,H2,?_,s2,o2,rfl,g2⟩;rw [ζ69];simp -implicitDefEqProofs (disch:=omega) [hjl,i1,i2,hw64,e2])
  (fun e H' ⟨s',o',he,g⟩ => by
   subst he;rw [List.take_length] at g;refine ⟨.exit 4,_,H',?_,by simp,rfl,s',o',rfl,g⟩;rw [ζ69];simp -implicitDefEqProofs)
 exact ⟨s',o',_,H1,hr1,g1⟩
theorem w17_l4 (k:Nat) {H0 H:Heap} {o:Option Nat} {s7:Value} {lk:List Int} (g:Star H0 H [itRow o 1 s7 encB lk]) {v:Value} {s:List Int} (hv:Sl H0 1 v encH s) (hb:∀ x,x ∈ s → 0 ≤ x ∧ x < 65536) (hl:lk.length + 2 * s.length < 2 ^ 29) :
  ∃ s' o' zz H',loopN (ζ40 k (R (T k))) loopFuel [(3,s7),(80,v),(81,.int .i64 s.length),(82,.int .i64 0)] H =
   .ok (.exit 6,[(3,s'),(80,v),(81,.int .i64 s.length),(82,zz),(83,.bool false)]) H' ∧ Star H0 H' [itRow o' 1 s' encB (lk ++ twos s)]:=by
 obtain ⟨xx,e',H1,hr1,rfl,s',o',rfl,g1⟩:=loop_up (body:=ζ40 k (R (T k))) s.length
  (fun j e H' => ∃ s' o',e = [(3,s'),(80,v),(81,.int .i64 s.length),(82,.int .i64 j)] ∧ Star H0 H' [itRow o' 1 s' encB (lk ++ twos (s.take j))])
  (fun xx e H' => xx = .exit 6 ∧ ∃ s' o',e = [(3,s'),(80,v),(81,.int .i64 s.length),(82,.int .i64 s.length),(83,.bool false)] ∧ Star H0 H' [itRow o' 1 s' encB (lk ++ twos s)])
  (e0:=[(3,s7),(80,v),(81,.int .i64 s.length),(82,.int .i64 0)]) (H0:=H) ⟨s7,o,rfl,by simpa [twos] using g⟩ (by omega)
  (fun j e H' hj ⟨s',o',he,g⟩ => by
   subst he;have hjl:(j:Int) < s.length:=by omega
   obtain ⟨x,hx⟩:∃ x,s[j]? = some x:=⟨_,List.getElem?_eq_getElem hj⟩
   have hxb:=hb x (List.mem_of_getElem? hx);obtain ⟨p,i1,i2⟩:=hv.ix1 encH_len j x hx _ rfl;have i2:=i2 H' g.ext;obtain ⟨s2,o2,H2,e2,g2⟩:=Put_star k g 0 rfl x 2 2 rfl hxb.1 (by omega) (by omega) (by rw [List.length_append,twos_len,List.length_take]; omega);simp only [List.set_cons_zero] at g2;rw [List.append_assoc,← ζq6 _ hx] at g2;have hw64:IntKind.i64.wrap x = x:=wrap_i64 (by omega) (by omega);refine .inl ⟨_,H2,?_,s2,o2,rfl,g2⟩;rw [ζ6a];simp -implicitDefEqProofs (disch:=omega) [hjl,i1,i2,hw64,e2])
  (fun e H' ⟨s',o',he,g⟩ => by
   subst he;rw [List.take_length] at g;refine ⟨.exit 6,_,H',?_,by simp,rfl,s',o',rfl,g⟩;rw [ζ6a];simp -implicitDefEqProofs)
 exact ⟨s',o',_,H1,hr1,g1⟩
structure LPlan where
 p:Plan
 acts:List Int
 comps:List Int
 ligs:List Int
structure LPlan.ok (x:LPlan):Prop where
 p:x.p.ok
 acts:∀ n,n ∈ x.acts → 0 ≤ n ∧ n < 4294967296
 comps:∀ n,n ∈ x.comps → 0 ≤ n ∧ n < 65536
 ligs:∀ n,n ∈ x.ligs → 0 ≤ n ∧ n < 65536
set_option maxRecDepth 20000 in
set_option maxHeartbeats 2000000 in
theorem ζqk (k:Nat) (hW:ownW k = .no) (x:LPlan) (hx:x.ok) (h1:x.p.cls.length ≤ 1000) (h2:x.p.rows.length ≤ 1000) (h3:x.p.ents.length ≤ 1000) (h4:x.acts.length ≤ 1000) (h5:x.comps.length ≤ 1000) (h6:x.ligs.length ≤ 1000) {H:Heap} {vC vR sE:Value} {rv:List (List Int × Value)} (hP:PlanSl H x.p vC vR sE rv)
  {vA vB vL:Value} (hA:Sl H 1 vA encF x.acts) (hB:Sl H 1 vB encH x.comps) (hL:Sl H 1 vL encH x.ligs) :
  ∃ s o H',ζa k (R (T k)) (.agg #[vC,vR,sE,.int .u8 x.p.wide,vA,vB,vL]) H = .ok s H' ∧ Star H H' [itRow o 1 s encB (ligB x.p x.acts x.comps x.ligs)]:=by
 obtain ⟨H1,hH1⟩:∃ H1,H1 = H.push ⟨[vC,vR,sE,.int .u8 x.p.wide,vA,vB,vL],1,false⟩:=⟨_,rfl⟩
 have hx1:Ext H H1:=by rw [hH1]; exact (Ext.refl H).push _
 have hg1:H1.get H.n = some ⟨[vC,vR,sE,.int .u8 x.p.wide,vA,vB,vL],1,false⟩:=by rw [hH1]; exact ζc _ _ _ rfl
 obtain ⟨N,hN⟩:∃ N,(planRoom x.p 1 (List.replicate 12 0)).length = N:=⟨_,rfl⟩
 have hNb:N ≤ 100000:=by rw [← hN]; exact ζjm hx.p 1 (by simp) h1 h2 h3
 obtain ⟨s0,o0,J0,e0,g,gx0⟩:=ζn8 k hW x.p hx.p 1 (by omega) 12 (by omega) h1 h2 h3 (Star.nil H1) (hP.up hx1);rw [ζf7] at g;simp only [List.nil_append] at g;have hln0:∀ H',lnS s0 H' = .ok (.int .i64 N) H':=by rw [← hN]; exact (g.row 0 rfl).len
 have hlnA:∀ H',lnS vA H' = .ok (.int .i64 x.acts.length) H':=fun H' => hA.len H';have hlnB:∀ H',lnS vB H' = .ok (.int .i64 x.comps.length) H':=fun H' => hB.len H';have hlnL:∀ H',lnS vL H' = .ok (.int .i64 x.ligs.length) H':=fun H' => hL.len H';have gk:=gx0.get hg1;have hnk:¬ H.n = J0.n:=by have:=Heap.get_lt gk; omega
 have gR:=g.rest ((Ext.refl J0).push ⟨[.int .i64 N,.int .i64 ((N:Int) + 4 * (x.acts.length:Int)),.int .i64 ((N:Int) + 4 * (x.acts.length:Int) + 2 * (x.comps.length:Int))],1,false⟩);obtain ⟨K1,f1,gK⟩:=w17_l1 k x.p N x.acts.length x.comps.length hN hNb h4 h5 (ptrV H.n) gR;have hrl:(planRoom x.p 1 (ligRm N x.acts.length x.comps.length)).length = N:=by rw [← hN]; exact ζ7s x.p 1 _ _ (by rw [ζv0]; simp)
 have gk1:=gK.ext.get hg1;obtain ⟨s2,o2,z2,K2,f2,gK2⟩:=w17_l2 k (ptrV H.n) gK (hA.up hx1) hx.acts (by rw [hrl]; omega);have gk2:=gK2.ext.get hg1;obtain ⟨s3,o3,z3,K3,f3,gK3⟩:=w17_l3 k (ptrV H.n) gK2 (hB.up hx1) hx.comps (by rw [List.length_append,hrl,ζgn]; omega);have gk3:=gK3.ext.get hg1;obtain ⟨s4,o4,z4,K4,f4,gK4⟩:=w17_l4 k gK3 (hL.up hx1) hx.ligs (by rw [List.length_append,List.length_append,hrl,ζgn,twos_len]; omega);have hfin:planRoom x.p 1 (ligRm N x.acts.length x.comps.length) ++ fours x.acts ++ twos x.comps ++ twos x.ligs = ligB x.p x.acts x.comps x.ligs:=by
  unfold ligB ligN;rw [hN];simp only [List.append_assoc]
 rw [hfin] at gK4;have hpos:0 < (ligB x.p x.acts x.comps x.ligs).length:=by
  rw [← hfin,List.length_append,List.length_append,List.length_append,hrl];have:28 ≤ N:=by rw [← hN]; unfold planRoom; simp; omega
  omega
 refine ⟨s4,o4,K4,?_,?_⟩;rotate_left
 ·have ho:=(gK4.own 0 rfl).base hx1.n;obtain ⟨o5,ho5,hlt⟩:=ho.toO;have hst:Star H K4 ([] ++ [itRow o5 1 s4 encB (ligB x.p x.acts x.comps x.ligs)]):=(Star.nil H).more_row (hx1.trans gK4.ext) ho5 fun b hb => ⟨hlt b hb,ho5.lt b hb⟩
  have h7:o5 = o4:=by
   have hr:=gK4.row 0 rfl;rcases hr with ⟨r1,r2,r3⟩ | ⟨b,r1,r2,r3⟩
   ·exfalso;rw [r2] at hpos;simp at hpos
   ·rcases ho5 with ⟨q1,q2,q3⟩ | ⟨b2,q1,q2,q3⟩
    ·exfalso;rw [q2] at hpos;simp at hpos
    ·rw [r1,q1];rw [r2] at q2;injection q2 with q2;injection q2 with q2;injection q2 with q2;rw [q2]
  subst h7;simpa using hst
 rw [hH1] at e0;have e0:R (T k) F.ζ3 [.agg #[vC,vR,sE,.int .u8 x.p.wide],.int .i64 1,.int .i64 12] (H.push ⟨[vC,vR,sE,.int .u8 x.p.wide,vA,vB,vL],1,false⟩) = .ok s0 J0:=e0;simp -implicitDefEqProofs (disch:=omega) [ζa,e0,hln0,gk,hnk,hlnA,hlnB,hlnL,f1,ζa6,gk1,f2,ζa7,gk2,f3,ζa8,gk3,f4,ζa9]
theorem ζtx (k:Nat) {H:Heap} (hP0:ownP sP17 k H.n = .fz) (hW:ownW k = .no) (x:LPlan) (hx:x.ok) (h1:x.p.cls.length ≤ 1000) (h2:x.p.rows.length ≤ 1000) (h3:x.p.ents.length ≤ 1000) (h4:x.acts.length ≤ 1000) (h5:x.comps.length ≤ 1000) (h6:x.ligs.length ≤ 1000) {vC vR sE:Value} {rv:List (List Int × Value)} (hP:PlanSl H x.p vC vR sE rv)
  {vA vB vL:Value} (hA:Sl H 1 vA encF x.acts) (hB:Sl H 1 vB encH x.comps) (hL:Sl H 1 vL encH x.ligs) :
  R (T k) F.ζa [.agg #[vC,vR,sE,.int .u8 x.p.wide,vA,vB,vL]] H = .ok (lv encB (ligB x.p x.acts x.comps x.ligs)) H:=by
 obtain ⟨s,o,H',e,g⟩:=ζqk k hW x hx h1 h2 h3 h4 h5 h6 hP hA hB hL;rw [ζfx];rw [hP0];obtain ⟨L,hf⟩:=(g.own 0 rfl).freeze encB_len (fun n _ v hv => by simp at hv; subst hv; trivial) 6;exact nrm_fz (v:=s) (H':=H') e hf g.ext (Flat.B _).alive
def LSmall (x:LPlan) (n:Nat):Prop:=x.p.cls.length ≤ 40 ∧ x.p.rows.length ≤ 20 ∧ x.p.ents.length ≤ 40 ∧ x.acts.length ≤ 60 ∧ x.comps.length ≤ 100 ∧ x.ligs.length ≤ 100 ∧ n ≤ 100
instance (x:LPlan) (n:Nat):Decidable (LSmall x n):=by unfold LSmall; exact inferInstance
end Go.Sw
end
section
namespace Go.Sw
open Go.RowKit
theorem ζ4q (g:Nat) (el:TypeId) (fz:Nat × Nat):∀ (vs:List Value) (o:Nat) (cs:Array Value) (w:World),w.heap[g]? = some (.cells cs el fz) → o + vs.length ≤ cs.size → w.setCells g o vs = w.setRow g (splice cs.toList o vs).toArray
 | [],o,cs,w,hg,_ => by
  rw [World.setCells];unfold splice;simp only [List.length_nil,Nat.add_zero,List.nil_append,List.take_append_drop,Array.toArray_toList];exact (setRow_self w g cs el fz hg).symm
 | v :: r,o,cs,w,hg,hl => by
  rw [World.setCells,setCell_eq_setRow w g o cs el fz v hg,ζ4q g el fz r (o + 1) (cs.setIfInBounds o v) _ (setRow_heap w g cs _ el fz hg) (by simp at hl ⊢; omega),setRow_setRow];congr 2;have e:=list_seg_step cs.toList o v r (by simp at hl ⊢; omega);unfold splice;simpa [Array.toList_setIfInBounds,Nat.add_assoc,Nat.add_comm 1] using e
theorem ζtp (l a b:List Value) (o:Nat) (h:o + a.length + b.length ≤ l.length):splice (splice l (o + a.length) b) o a = splice l o (a ++ b):=by
 apply List.ext_getElem?;intro j;have h1:(splice l (o + a.length) b).length = l.length:=ζ33 _ _ _ (by omega);rw [ζ4g _ _ _ (by rw [h1]; omega),ζ4g _ _ _ (by omega),ζ4g _ _ _ (by rw [List.length_append]; omega)];rw [List.length_append];by_cases c0:j < o
 ·have c1:j < o + a.length:=by omega
  simp only [if_pos c0,if_pos c1]
 ·simp only [if_neg c0];by_cases c1:j < o + a.length
  ·have c3:j < o + (a.length + b.length):=by omega
   simp only [if_pos c1,if_pos c3];rw [List.getElem?_append_left (by omega)]
  ·simp only [if_neg c1];by_cases c2:j < o + a.length + b.length
   ·have c3:j < o + (a.length + b.length):=by omega
    simp only [if_pos c2,if_pos c3];rw [List.getElem?_append_right (by omega),show j - o - a.length = j - (o + a.length) by omega]
   ·have c3:¬ j < o + (a.length + b.length):=by omega
    simp only [if_neg c2,if_neg c3]
theorem VRs.cut {μ:Mu} {k:List Value} {cs:Array Value} {base off N:Nat} (h4:∀ (i:Nat) v,k[i]? = some v → ∃ v',cs[base + i]? = some v' ∧ VR μ v v') (hk:off + N ≤ k.length) :
  VRs μ ((k.drop off).take N) ((cs.toList.drop (base + off)).take N):=by
 have hcs:∀ i,i < N → base + off + i < cs.size:=fun i hi => by
  obtain ⟨v',e,_⟩:=h4 (off + i) _ (List.getElem?_eq_getElem (by omega));have:=(Array.getElem?_eq_some_iff.1 e).1;omega
 refine ⟨?_,fun i v v' hv hv' => ?_⟩
 ·rw [List.length_take,List.length_take,List.length_drop,List.length_drop,Array.length_toList (xs:=cs)];by_cases h0:N = 0
  ·subst h0; simp
  ·have:=hcs (N - 1) (by omega);have e1:N ≤ k.length - off:=by omega
   have e2:N ≤ cs.size - (base + off):=by omega
   rw [Nat.min_eq_left e1,Nat.min_eq_left e2]
 ·rw [List.getElem?_take] at hv hv';split at hv
  ·rename_i hi;rw [if_pos hi,List.getElem?_drop] at hv';rw [List.getElem?_drop] at hv;obtain ⟨u,e,r⟩:=h4 _ v hv;rw [← Nat.add_assoc] at e;simp only [Array.getElem?_toList] at hv';rw [e] at hv';injection hv' with hv';subst hv';exact r
  ·cases hv
structure InsWalk (P:Program) (f:FuncId) (tS e:TypeId) (sz:Nat) (z:Value):Prop where
 fn:∃ fn,P.funcs[f]? = some fn ∧ fn.body.isSome = true ∧ (fn.name == "runtime.NumGoroutine") = false
 none_:∀ (base:Option Addr) (n c i:Nat) (vb:Option Addr) (vc:Nat) (w:World),i ≤ n → n ≤ c → (base = none → n = 0 ∧ c = 0) → Calls P f #[.slice base n c,.int .i64 (i:Nat),.slice vb 0 vc] w fun e w' => e = .returned (.slice base n c) ∧ w' = w
 end_:∀ (base:Option Addr) (n c:Nat) (vb:Option Addr) (m vc:Nat) (w:World) (v':Value) (w1:World),n ≤ c → (base = none → n = 0 ∧ c = 0) → 0 < m → (Builtin.append_ #[tS,tS] tS #[.slice base n c,.slice vb m vc]).run P w = .ok v' w1 →
  Calls P f #[.slice base n c,.int .i64 (n:Nat),.slice vb m vc] w fun e w' => e = .returned v' ∧ w' = w1
 shift:∀ (b off n c i vb voff m vc:Nat) (CS VS:Array Value) (el el2:TypeId) (cs vs:List Value) (w:World),i < n → 0 < m → n + m ≤ c → n + m ≤ 2 ^ 31 → vb ≠ b → w.heap[b]? = some (.cells CS el (0,0)) → w.heap[vb]? = some (.cells VS el2 (0,0)) → off + c * sz ≤ CS.size → voff + m * sz ≤ VS.size →
  cs = (CS.toList.drop off).take (n * sz) → vs = (VS.toList.drop voff).take (m * sz) → Ones cs → Ones vs →
  Calls P f #[.slice (some ⟨b,off,none⟩) n c,.int .i64 (i:Nat),.slice (some ⟨vb,voff,none⟩) m vc] w fun e w' => e = .returned (.slice (some ⟨b,off,none⟩) (n + m) c) ∧ w' = (w.drew.setCells b (off + (i + m) * sz) (cs.drop (i * sz))).setCells b (off + i * sz) vs
 grow:∀ (b off n c i vb voff m vc:Nat) (CS VS:Array Value) (el el2:TypeId) (cs vs:List Value) (w:World),i < n → 0 < m → n ≤ c → c < n + m → n + m ≤ 2 ^ 31 → w.heap[b]? = some (.cells CS el (0,0)) → w.heap[vb]? = some (.cells VS el2 (0,0)) → off + n * sz ≤ CS.size → voff + m * sz ≤ VS.size →
  cs = (CS.toList.drop off).take (n * sz) → vs = (VS.toList.drop voff).take (m * sz) → Ones cs → Ones vs →
  ∃ G,n + m ≤ G ∧ Calls P f #[.slice (some ⟨b,off,none⟩) n c,.int .i64 (i:Nat),.slice (some ⟨vb,voff,none⟩) m vc] w fun r w' => r = .returned (.slice (some ⟨w.heap.size,0,none⟩) (n + m) G) ∧
   w' = (((w.alloc (.cells ((cs.take (i * sz)).toArray ++ Builtin.zeroCells z.cells (n + m - i) ++ Builtin.zeroCells z.cells (G - (n + m))) e)).drew.setCells w.heap.size (i * sz) vs).drew).setCells w.heap.size ((i + m) * sz) (cs.drop (i * sz))
theorem ζtc {μ:Mu} {v v':Value} {n:Nat} (h:VR μ v v') (hl:lenL v = some n):∃ a c,v' = .slice a n c:=by
 unfold lenL at hl;split at hl
 ·injection hl with hl; subst hl;cases h <;> exact ⟨_,_,rfl⟩
 ·injection hl with hl; subst hl;cases h <;> exact ⟨_,_,rfl⟩
 ·cases hl
theorem ζsc {μ:Mu} {base:Option Addr} {n c:Nat} {s':Value} (h:VR μ (.slice base n c) s'):∃ base' c',s' = .slice base' n c' ∧ n ≤ c' ∧ (base' = none → n = 0 ∧ c' = 0):=by
 cases h with
 | nilSlice => exact ⟨_,_,rfl,Nat.le_refl _,fun _ => ⟨rfl,rfl⟩⟩
 | slice b off off' len cap cap' m h hl hc ho hx => exact ⟨_,_,rfl,Nat.le_trans hl hc,fun h => by cases h⟩
 | unsure a => exact ⟨_,_,rfl,Nat.le_refl _,fun _ => ⟨rfl,rfl⟩⟩
 | bare a => exact ⟨_,_,rfl,Nat.le_refl _,fun h => by cases h⟩
theorem ζk9 (w:World) (A B:Array Value) (e:TypeId):((w.alloc (.cells A e)).setRow w.heap.size B).heap = (w.alloc (.cells B e)).heap:=by
 have h1:(w.alloc (.cells A e)).heap[w.heap.size]? = some (.cells A e (0,0)):=ζ3t _ _;apply Array.ext_getElem?;intro j;by_cases hj:j = w.heap.size
 ·subst hj;rw [setRow_heap _ _ _ _ _ _ h1,ζ3t]
 ·rw [setRow_other _ _ _ _ hj];show (w.heap.push _)[j]? = (w.heap.push _)[j]?;rw [Array.getElem?_push,Array.getElem?_push,if_neg hj,if_neg hj]
set_option maxHeartbeats 1000000 in
theorem ζuv {P:Program} {f:FuncId} {tS e:TypeId} {inf:TypeInfo} {z:Value} {sz bytes:Nat} (ht:P.underlying tS = some (.slice e)) (hi:P.info? e = some inf) (hz:inf.zero = some z) (hzs:z.cells.size = inf.size) (es:inf.size = sz) (eb:inf.bytes = bytes) (h0:0 < sz)
  (hW:InsWalk P f tS e sz z):SpIs P f fun _ args H => insertV sz bytes args H:=by
 subst es eb;intro call _ args H hne;refine ⟨hW.fn,fun w0 μ w args' hH hargs => ?_⟩;dsimp only at hne ⊢;unfold insertV at hne ⊢;split at hne;rotate_left
 ·exact absurd rfl hne
 rename_i base n cap i v;obtain ⟨s',r1,rfl,hs,ha⟩:=hargs.cons_inv;obtain ⟨i',r2,rfl,hi',ha⟩:=ha.cons_inv;obtain ⟨v',r3,rfl,hv,ha⟩:=ha.cons_inv;have:=ha.nil_inv;subst this;cases hi';obtain ⟨base',cap',rfl,hnc,hnil⟩:=ζsc hs;cases hl:lenL v with
 | none => rw [hl] at hne; exact absurd rfl hne
 | some q =>
 rw [hl] at hne;obtain ⟨vb',vc',rfl⟩:=ζtc hv hl;cases q with
 | zero =>
  dsimp only at hne ⊢;split at hne;rotate_left
  ·exact absurd rfl hne
  rename_i hin;rw [if_pos hin];obtain ⟨p,rfl⟩:=Int.eq_ofNat_of_zero_le hin.1;refine (hW.none_ base' n cap' p vb' vc' w (by omega) hnc hnil).mono ?_;rintro _ _ ⟨rfl,rfl⟩;exact ⟨μ,_,Mu.le_refl _,hH,hs,rfl⟩
 | succ q =>
  dsimp only at hne ⊢;split at hne
  ·rename_i hin;rw [if_pos hin];subst hin;unfold apR at hne ⊢;dsimp only at hne ⊢;rw [ζf0 hl] at hne ⊢;dsimp only at hne ⊢;cases hr:appendK inf.size inf.bytes inf.size (q + 1) base n cap v H with
   | stuck => rw [hr] at hne; exact absurd rfl hne
   | panic u H' =>
    exfalso;revert hr;unfold appendK
    repeat' split
    all_goals (intro h; cases h)
   | ok u H' =>
    obtain ⟨μ',u',w1,e1,e2,e3,e4⟩:=ζfg (ty:=tS) hH ht (.inl ⟨e,ht⟩) hi hz hs hv (ζf0 hl) (by rw [hzs]; exact hr);refine (hW.end_ base' n cap' vb' (q + 1) vc' w u' w1 hnc hnil (by omega) e1).mono ?_;rintro _ _ ⟨rfl,rfl⟩;exact ⟨μ',u',e2,e3,e4,rfl⟩
  ·rename_i hin;rw [if_neg hin];split at hne;rotate_left
   ·exact absurd rfl hne
   rename_i b off c voff m vcap _;split at hne;rotate_left
   ·exact absurd rfl hne
   rename_i k kc hk hkc;split at hne;rotate_left
   ·exact absurd rfl hne
   rename_i hcond;rw [if_pos hcond];obtain ⟨c1,c2,c3,c4,c5,c6,c7,c8,c9,c10,c11⟩:=hcond;obtain ⟨p,rfl⟩:=Int.eq_ofNat_of_zero_le c1;have hpn:p < n:=by omega
   cases hs with
   | slice _ _ off' _ _ cap' M hM hl1 hc1 ho1 hx1 =>
   cases hv with
   | slice _ _ voff' _ _ vcap' Mc hMc hl2 hc2 ho2 hx2 =>
   have hm0:0 < q + 1:=by omega
   generalize q + 1 = m at *;have ho1:=ho1.resolve_left (by omega);have ho2:=ho2.resolve_left (by omega);subst ho1 ho2;obtain ⟨M',hM',bM⟩:=hH.blk b k hk;rw [hM] at hM'; injection hM' with hM'; subst hM';obtain ⟨Mc',hMc',bMc⟩:=hH.blk c kc hkc;rw [hMc] at hMc'; injection hMc' with hMc'; subst hMc';obtain ⟨CS,el,fz,g1,g2,g3,g4⟩:=bM.here;obtain ⟨VS,el2,fz2,f1,f2,f3,f4⟩:=bMc.here;have g2:=g2 c6;have f2:=f2 c10;subst g2 f2;have hesz:M.esz = inf.size:=bM.esz.trans c7;have hext:=bM.ext;have hext2:=bMc.ext;have hroomx:off + cap' * inf.size ≤ M.ext:=by
    rcases hx1 with h | h | h
    ·rw [h]; omega
    ·rw [bM.ro,c6] at h; cases h
    ·rw [hesz] at h; exact h
   have hne2:Mc.blk ≠ M.blk:=hH.other hk hkc hM hMc c6 c9;have hnsz:n * inf.size ≤ cap * inf.size:=Nat.mul_le_mul_right _ c3;have hps:p * inf.size ≤ n * inf.size:=Nat.mul_le_mul_right _ (by omega);have kcut:=VRs.cut (N:=n * inf.size) (off:=off) (base:=M.base) g4 (by omega);have vcut:=VRs.cut (N:=m * inf.size) (off:=voff) (base:=Mc.base) f4 (by omega);have ko:Ones ((k.cells.drop off).take (n * inf.size)):=(bM.ones.drop _).take _;have vo:Ones ((kc.cells.drop voff).take (m * inf.size)):=(bMc.ones.drop _).take _;have ko':=kcut.ones ko;have vo':=vcut.ones vo;have kl:((k.cells.drop off).take (n * inf.size)).length = n * inf.size:=by rw [List.length_take,List.length_drop]; omega
   have vl:((kc.cells.drop voff).take (m * inf.size)).length = m * inf.size:=by rw [List.length_take,List.length_drop]; omega
   have kl':=kcut.1.symm.trans kl;have vl':=vcut.1.symm.trans vl;obtain ⟨cs,hcs⟩:∃ cs,cs = (CS.toList.drop (M.base + off)).take (n * inf.size):=⟨_,rfl⟩
   obtain ⟨vs,hvs⟩:∃ vs,vs = (VS.toList.drop (Mc.base + voff)).take (m * inf.size):=⟨_,rfl⟩
   rw [← hcs] at kcut ko' kl';rw [← hvs] at vcut vo' vl';have hd:HR w0 μ H w.drew:=hH.drew rfl rfl rfl rfl;have e1:(n + m) * inf.size = n * inf.size + m * inf.size:=Nat.add_mul _ _ _;have e2:(p + m) * inf.size = p * inf.size + m * inf.size:=Nat.add_mul _ _ _;have hdl:(cs.drop (p * inf.size)).length = n * inf.size - p * inf.size:=by rw [List.length_drop,kl']
   by_cases hroom:n + m ≤ cap'
   ·
    have hnm:(n + m) * inf.size ≤ cap' * inf.size:=Nat.mul_le_mul_right _ hroom;refine (hW.shift M.blk (M.base + off) n cap' p Mc.blk (Mc.base + voff) m vc' CS VS el el2 cs vs w hpn (by omega) hroom c4 hne2 g1 f1 (by omega) (by omega) hcs hvs ko' vo').mono ?_;rintro _ _ ⟨rfl,rfl⟩;have hsr:(w.drew.setCells M.blk (M.base + off + (p + m) * inf.size) (cs.drop (p * inf.size))).setCells M.blk (M.base + off + p * inf.size) vs = w.drew.setRow M.blk (splice CS.toList (M.base + off + p * inf.size) (vs ++ cs.drop (p * inf.size))).toArray:=by
     rw [ζ4q M.blk el (0,0) _ _ CS w.drew g1 (by omega)];have hsl:(splice CS.toList (M.base + off + (p + m) * inf.size) (cs.drop (p * inf.size))).length = CS.size:=by rw [ζ33 _ _ _ (by rw [Array.length_toList (xs:=CS)]; omega)]; simp
     rw [ζ4q M.blk el (0,0) _ _ _ _ (setRow_heap w.drew M.blk CS _ el (0,0) g1) (by rw [List.size_toArray,hsl]; omega),setRow_setRow];congr 2;rw [List.toList_toArray,← ζtp CS.toList vs (cs.drop (p * inf.size)) (M.base + off + p * inf.size) (by rw [Array.length_toList (xs:=CS)]; omega),vl',e2,Nat.add_assoc (M.base + off)]
    rw [hsr];obtain ⟨i1,i2⟩:=ζnj (size:=inf.size) (off:=off) (p:=p * inf.size) hd hk hM c6 c7 g1 (by omega) (vcut.append (kcut.drop (p * inf.size))) (vo.append (ko.drop _)) (by rw [List.length_append,hdl,vl']; omega) g3;refine ⟨_,_,i1,?_,?_,rfl⟩
    ·rw [Int.toNat_natCast,List.take_take,Nat.min_eq_left hps];exact i2
    ·have:=VR.slice (μ:=μ.set H.n ⟨M.blk,M.base + off,M.ext - off,inf.size,false⟩) H.n 0 (M.base + off) (n + m) (n + m) cap' ⟨M.blk,M.base + off,M.ext - off,inf.size,false⟩ (by simp [Mu.set]) (Nat.le_refl _) hroom (.inr rfl) (.inr (.inr (by dsimp only; omega)));exact this
   ·obtain ⟨G,hG,hcall⟩:=hW.grow M.blk (M.base + off) n cap' p Mc.blk (Mc.base + voff) m vc' CS VS el el2 cs vs w hpn (by omega) hnc (by omega) c4 g1 f1 (by omega) (by omega) hcs hvs ko' vo';refine hcall.mono ?_;rintro _ _ ⟨rfl,rfl⟩;have hGs:(n + m) * inf.size ≤ G * inf.size:=Nat.mul_le_mul_right _ hG;obtain ⟨ROW,hROW⟩:∃ ROW:Array Value,ROW = (cs.take (p * inf.size)).toArray ++ Builtin.zeroCells z.cells (n + m - p) ++ Builtin.zeroCells z.cells (G - (n + m)):=⟨_,rfl⟩
    have hRl:ROW.size = G * inf.size:=by
     rw [hROW];simp only [Array.size_append,List.size_toArray,size_zeroCells,hzs,Nat.sub_mul,Nat.add_mul,List.length_take,kl'];omega
    rw [← hROW];obtain ⟨FIN,hFIN⟩:∃ FIN:List Value,FIN = splice (splice ROW.toList (p * inf.size) vs) ((p + m) * inf.size) (cs.drop (p * inf.size)):=⟨_,rfl⟩
    have hs1:(splice ROW.toList (p * inf.size) vs).length = ROW.size:=by rw [ζ33 _ _ _ (by rw [Array.length_toList (xs:=ROW)]; omega)]; simp
    have hFl:FIN.length = G * inf.size:=by rw [hFIN,ζ33 _ _ _ (by rw [hs1]; omega),hs1,hRl]
    have hN:(w.alloc (.cells ROW e)).drew.heap[w.heap.size]? = some (.cells ROW e (0,0)):=ζ3t _ _;have hw:((((w.alloc (.cells ROW e)).drew.setCells w.heap.size (p * inf.size) vs).drew).setCells w.heap.size ((p + m) * inf.size) (cs.drop (p * inf.size))) = ((w.alloc (.cells ROW e)).drew.setRow w.heap.size (splice ROW.toList (p * inf.size) vs).toArray).drew.setRow w.heap.size FIN.toArray:=by
     rw [ζ4q w.heap.size e (0,0) _ _ ROW _ hN (by omega)];have hN2:((w.alloc (.cells ROW e)).drew.setRow w.heap.size (splice ROW.toList (p * inf.size) vs).toArray).drew.heap[w.heap.size]? = some (.cells (splice ROW.toList (p * inf.size) vs).toArray e (0,0)):=setRow_heap _ _ _ _ _ _ hN;rw [ζ4q w.heap.size e (0,0) _ _ _ _ hN2 (by rw [List.size_toArray,hs1]; omega),hFIN]
    rw [hw];have hheap:(((w.alloc (.cells ROW e)).drew.setRow w.heap.size (splice ROW.toList (p * inf.size) vs).toArray).drew.setRow w.heap.size FIN.toArray).heap = (w.alloc (.cells FIN.toArray e)).heap:=by
     have h1:(((w.alloc (.cells ROW e)).drew.setRow w.heap.size (splice ROW.toList (p * inf.size) vs).toArray).drew.setRow w.heap.size FIN.toArray).heap = (((w.alloc (.cells ROW e)).setRow w.heap.size (splice ROW.toList (p * inf.size) vs).toArray).setRow w.heap.size FIN.toArray).heap:=rfl;rw [h1,setRow_setRow];exact ζk9 _ _ _ _
    have hkill:=hH.kill hk;have hnew:=kcut.take (p * inf.size);have hall:VRs μ (((k.cells.drop off).take (n * inf.size)).take (p * inf.size) ++ ((kc.cells.drop voff).take (m * inf.size) ++ ((k.cells.drop off).take (n * inf.size)).drop (p * inf.size))) (cs.take (p * inf.size) ++ (vs ++ cs.drop (p * inf.size))):=hnew.append (vcut.append (kcut.drop _))
    have hal:=hkill.alloc (((k.cells.drop off).take (n * inf.size)).take (p * inf.size) ++ ((kc.cells.drop voff).take (m * inf.size) ++ ((k.cells.drop off).take (n * inf.size)).drop (p * inf.size))) FIN.toArray e inf.size (G * inf.size) (by rw [List.size_toArray,hFl]; exact Nat.le_refl _)
     (by
      simp only [List.length_append,List.length_take,List.length_drop];omega)
     ((ko.take _).append (vo.append (ko.drop _)))
     (fun j u hj => by
      obtain ⟨u',e',r⟩:=hall.get hj;refine ⟨u',?_,r⟩;have hjl:j < (cs.take (p * inf.size) ++ (vs ++ cs.drop (p * inf.size))).length:=(List.getElem?_eq_some_iff.1 e').1;simp only [List.length_append,List.length_take,kl',hdl,vl'] at hjl;have htl:(cs.take (p * inf.size)).length = p * inf.size:=by rw [List.length_take,kl']; omega
      rw [List.getElem?_toArray,hFIN,ζ4g _ _ _ (by rw [hs1]; omega),ζ4g ROW.toList (p * inf.size) vs (by rw [Array.length_toList (xs:=ROW)]; omega)];by_cases d1:j < p * inf.size
      ·rw [List.getElem?_append_left (by omega)] at e';rw [if_pos (show j < (p + m) * inf.size by omega),if_pos d1,hROW];simp only [Array.getElem?_toList];rw [Array.append_assoc,Array.getElem?_append_left (by simp only [List.size_toArray]; omega)];simpa using e'
      ·rw [List.getElem?_append_right (by omega),htl] at e';by_cases d2:j < (p + m) * inf.size
       ·rw [List.getElem?_append_left (by omega)] at e';rw [if_pos d2,if_neg d1,if_pos (by omega)];exact e'
       ·rw [List.getElem?_append_right (by omega),vl'] at e';rw [if_neg d2,if_pos (by omega),show j - (p + m) * inf.size = j - p * inf.size - m * inf.size by omega];exact e')
    have hn:(H.set b none).n = H.n:=Heap.n_set _ _ _;rw [hn] at hal;refine ⟨μ.set H.n ⟨w.heap.size,0,G * inf.size,inf.size,false⟩,_,Mu.le_set (μ:=μ) hH.dom _,?_,?_,rfl⟩
    ·rw [Int.toNat_natCast];exact hal.drew hheap rfl rfl rfl
    ·exact VR.slice H.n 0 0 (n + m) (n + m) G ⟨w.heap.size,0,G * inf.size,inf.size,false⟩ (by simp [Mu.set]) (Nat.le_refl _) hG (.inr rfl) (.inr (.inr (by dsimp only; omega)))
end Go.Sw
end
section
namespace Go.Sw
open Go.RowKit
theorem ζto (l:List Value) (o:Nat):splice l o [] = l:=by unfold splice; simp
theorem trim_sim {w0:Base} {μ:Mu} {H:Heap} {w:World} (h:HR w0 μ H w) {b off n cap size:Nat} {k:Blk} {v':Value} (hv:VR μ (.slice (some ⟨b,off,none⟩) n cap) v') (hk:H.get b = some k) (hro:k.ro = false) (hesz:k.esz = size) (h1:n ≤ cap) (h2:off + cap * size ≤ k.cells.length)
  (hset:∀ (g:Nat) (cs:Array Value) (el:TypeId),w.heap[g]? = some (.cells cs el (0,0)) → w.setRow g cs = w) :
  ∃ μ',μ.le μ' ∧ HR w0 μ' ((H.set b none).push ⟨(k.cells.drop off).take (n * size) ++ [],size,false⟩) w ∧ VR μ' (.slice (some ⟨H.n,0,none⟩) n n) v':=by
 cases hv with
 | slice _ _ off' _ _ cap' M hM hl hc ho hx =>
 obtain ⟨M',hM',bM⟩:=h.blk b k hk;rw [hM] at hM'; injection hM' with hM'; subst hM';obtain ⟨CS,el,fz,g1,g2,g3,g4⟩:=bM.here;have g2:=g2 hro;subst g2;have hext:=bM.ext;have hMe:=bM.esz;have hMr:=bM.ro;have hns:n * size ≤ cap * size:=Nat.mul_le_mul_right _ h1;obtain ⟨i1,i2⟩:=ζnj (size:=size) (off:=off) (p:=n * size) (new:=[]) (news:=[]) h hk hM hro hesz g1 (by omega) VRs.nil Ones.nil (by simp; omega) g3;rw [ζto] at i2;rw [show CS.toList.toArray = CS from rfl,hset _ _ _ g1] at i2;refine ⟨_,i1,i2,?_⟩;refine VR.slice (μ:=μ.set H.n ⟨M.blk,M.base + off,M.ext - off,size,false⟩) H.n 0 off' n n cap' ⟨M.blk,M.base + off,M.ext - off,size,false⟩ (by simp [Mu.set]) (Nat.le_refl _) (by omega) (ho.imp id fun h => by dsimp only; omega) ?_;rcases hx with hx | hx | hx
 ·refine .inr (.inr ?_);rw [hx];dsimp only;omega
 ·rw [hMr,hro] at hx; cases hx
 ·refine .inr (.inr ?_);rw [hMe,hesz] at hx;dsimp only;omega
theorem ζsb (w:World) (g:Nat) (cs:Array Value) (el:TypeId) (h:w.heap[g]? = some (.cells cs el (0,0))):w.setRow g cs = w:=by
 have hg:g < w.heap.size:=by
  rcases Nat.lt_or_ge g w.heap.size with hlt | hge
  ·exact hlt
  ·rw [Array.getElem?_eq_none hge] at h; cases h
 have hh:(w.setRow g cs).heap = w.heap:=by
  apply Array.ext_getElem?;intro i;by_cases hi:i = g
  ·subst hi;rw [setRow_heap w i cs cs el (0,0) h,h]
  ·exact setRow_other w g i cs hi
 have hw:w.setRow g cs = { w with heap:=(w.setRow g cs).heap }:=rfl;rw [hw,hh]
theorem trim_is {c:Cfg} (hit:∀ v H,c.it v H = none:=by intro _ _; rfl) (hN:NamesOk c.P) (hmix:c.P.follows .mixedOrders = true) {f:FuncId} {size:Nat}:SpIs c.P f fun call args H => (bodyK c call f args H).bind (trimR size):=by
 intro call hc args H hne;have hne1:bodyK c call f args H ≠ .stuck:=Res.bind_ne hne;obtain ⟨b1,b2⟩:=body_is hit hN hmix hc (f:=f) (args:=args) (H:=H) rfl hne1;refine ⟨b1,fun w0 μ w args' hH hargs => (b2 w0 μ w args' hH hargs).mono fun e w' he => ?_⟩;dsimp only at hne ⊢;cases hr:bodyK c call f args H with
 | stuck => exact absurd hr hne1
 | panic v H' => rw [hr] at he; exact he
 | ok v H' =>
  rw [hr] at he hne;obtain ⟨μ',v',l1,h1,h2,rfl⟩:=he;have hne:trimR size v H' ≠ .stuck:=hne;show Ended w0 μ (trimR size v H') _ w';unfold trimR at hne ⊢;split at hne
  ·rename_i b off n cap _;split at hne
   ·rename_i k hk;split
    ·rename_i hcond;obtain ⟨c1,c2,c3,c4⟩:=hcond;obtain ⟨μ2,l2,h3,h4⟩:=trim_sim h1 h2 hk c1 c2 c3 c4 (fun g cs el hg => ζsb _ g cs el hg);exact ⟨μ2,v',Mu.le_trans l1 l2,h3,h4,rfl⟩
    ·rename_i hcond;exact absurd (by split <;> first | rfl | contradiction) hne
   ·exact absurd rfl hne
  ·exact ⟨μ',v',l1,h1,h2,rfl⟩
end Go.Sw
end
