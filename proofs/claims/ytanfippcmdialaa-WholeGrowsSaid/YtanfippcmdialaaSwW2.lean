/-
  Functions' forms, and what is proved of them, part 2.
-/
import Derived.Test.YtanfippcmdialaaSwW1
import Derived.Test.YtanfippcmdialaaSwLib9
import Derived.Test.YtanfippcmdialaaSwCfg
set_option linter.unusedSimpArgs false
set_option linter.unusedVariables false
set_option linter.unusedSectionVars false
section
namespace Go.Sw
open Go.RowKit
structure En where
 next:Int
 flags:Int
 a:Int
 b:Int
theorem ζft {α β:Type} (f:α → Option β):∀ (l m:List α),mapO f (l ++ m) = (mapO f l).bind fun x => (mapO f m).map fun y => x ++ y
 | [],m => by
  simp only [List.nil_append,mapO,Option.bind_some];cases mapO f m <;> rfl
 | x :: l,m => by
  simp only [List.cons_append,mapO,ζft f l m];cases f x with
  | none => rfl
  | some y =>
   simp only [Option.bind_some];cases mapO f l with
   | none => rfl
   | some r =>
    simp only [Option.bind_some,Option.map_some];cases mapO f m <;> rfl
theorem ζf3 {β:Type} (f:Nat → Option β) (n:Nat):mapO f (List.range (n + 1)) = (mapO f (List.range n)).bind fun r => (f n).map fun y => r ++ [y]:=by
 rw [List.range_succ,ζft];congr 1;funext r;simp only [mapO];cases f n <;> rfl
theorem ζnp {β:Type} {f:Nat → Option β} {n m:Nat} (h:n ≤ m) {r:List β} (hr:mapO f (List.range m) = some r):mapO f (List.range n) = some (r.take n):=by
 obtain ⟨d,rfl⟩:=Nat.exists_eq_add_of_le h;rw [List.range_add,ζft] at hr;obtain ⟨x,hx,hr⟩:=Option.bind_eq_some_iff.1 hr;obtain ⟨y,hy,rfl⟩:=Option.map_eq_some_iff.1 hr;have:=mapO_len hx;rw [hx,List.take_left' (by simpa using this)]
def needL (l:List Int):Int:=l.foldl (fun m x => max m (x + 1)) 0
theorem ζsv (l:List Int):∀ m:Int,l.foldl (fun m x => max m (x + 1)) m = max m (l.foldl (fun m x => max m (x + 1)) (0:Int)) ∨ m < 0:=by
 induction l with
 | nil => intro m; simp; omega
 | cons x l ih =>
  intro m;rcases Int.lt_or_le m 0 with h | h
  ·exact .inr h
  ·left;simp only [List.foldl_cons];rcases ih (max m (x + 1)) with h1 | h1
   ·rcases ih (max 0 (x + 1)) with h2 | h2
    ·rw [h1,h2]; omega
    ·omega
   ·omega
theorem ζpo (l:List Int) (x:Int):needL (l ++ [x]) = max (needL l) (x + 1):=by simp [needL]
theorem ζ72:∀ l:List Int,0 ≤ needL l:=fun l => by
 have:∀ (l:List Int) (m:Int),m ≤ l.foldl (fun m x => max m (x + 1)) m:=by
  intro l
  induction l with
  | nil => intro m; exact Int.le_refl _
  | cons x l ih => intro m; exact Int.le_trans (by omega) (ih (max m (x + 1)))
 exact this l 0
theorem ζ71 (l m:List Int):needL (l ++ m) = max (needL l) (needL m):=by
 unfold needL;rw [List.foldl_append];have h0:=ζ72 l;unfold needL at h0;rcases ζsv m (l.foldl (fun m x => max m (x + 1)) 0) with h | h
 ·exact h
 ·omega
theorem needL_le {l:List Int} {x:Int} (h:x ∈ l):x < needL l:=by
  obtain ⟨a,b,rfl⟩:=List.append_of_mem h;rw [ζ71,needL_append' (x:=x) (b:=b)];omega
where needL_append' {x:Int} {b:List Int}:needL (x :: b) = max (x + 1) (needL b):=by
        have:=ζ71 [x] b;rw [List.singleton_append] at this;rw [this];have:needL [x] = max 0 (x + 1):=rfl;have:=ζ72 b;omega
theorem needL_lt {l:List Int} {n:Int} (hn:0 ≤ n) (h:∀ x,x ∈ l → x < n):needL l ≤ n:=by
 induction l with
 | nil => exact hn
 | cons x l ih =>
  have h1:=h x (by simp);have h2:=ih fun y hy => h y (by simp [hy]);have:=ζ71 [x] l;rw [List.singleton_append] at this;rw [this];have:needL [x] = max 0 (x + 1):=rfl;omega
def rowK (rv:List Int) (n:Int) (k:Nat):Option (List Int):=listS rv (2 * n * k) n 2
def entOf (w:Int) (r:List Int):En:=⟨gU r 0 2,gU r 2 2,if 0 < w then gU r 4 2 else 0,if 1 < w then gU r 6 2 else 0⟩
def entK (ev:List Int) (w:Int) (k:Nat):Option En:=(pieceS ev ((4 + 2 * w) * k) (4 + 2 * w)).map (entOf w)
def rowsTo (rv:List Int) (n:Int) (m:Nat):Option (List (List Int)):=mapO (rowK rv n) (List.range m)
def entsTo (ev:List Int) (w:Int) (m:Nat):Option (List En):=mapO (entK ev w) (List.range m)
def needR (rs:List (List Int)):Int:=needL rs.flatten
def needE (es:List En):Int:=max 2 (needL (es.map En.next))
def closeS (rv ev:List Int) (n w:Int):Nat → Nat → Option (List (List Int) × List En)
 | 0,_ => none
 | f + 1,s => (rowsTo rv n s).bind fun rs => (entsTo ev w (needR rs).toNat).bind fun es => if (needE es).toNat ≤ s then some (rs,es) else closeS rv ev n w f (needE es).toNat
def closeA (rv ev:List Int) (n w:Int) (s:Nat):Option (List (List Int) × List En):=closeS rv ev n w (65538 - s) s
theorem ζui {ev:List Int} (hb:Byt ev) {w:Int} {k:Nat} {e:En} (h:entK ev w k = some e):-1 ≤ e.next ∧ e.next < 65536:=by
 unfold entK at h;obtain ⟨r,hr,rfl⟩:=Option.map_eq_some_iff.1 h;exact gU_two (hb.piece hr).1 0
theorem needE_le {ev:List Int} (hb:Byt ev) {w:Int} {m:Nat} {es:List En} (h:entsTo ev w m = some es):2 ≤ needE es ∧ needE es ≤ 65536:=by
 refine ⟨by unfold needE; omega,?_⟩;have:needL (es.map En.next) ≤ 65536:=needL_lt (by omega) fun x hx => by
  obtain ⟨e,he,rfl⟩:=List.mem_map.1 hx;obtain ⟨i,hi⟩:=List.getElem?_of_mem he;obtain ⟨k,_,hk⟩:=mapO_get h hi;exact (ζui hb hk).2
 unfold needE;omega
theorem ζnc {rv ev:List Int} (hb:Byt ev) {n w:Int}:∀ (f g s:Nat),65537 - s ≤ f → 65537 - s ≤ g → s ≤ 65536 → closeS rv ev n w f s = closeS rv ev n w g s
 | 0,_,s,h1,_,h3 => by omega
 | _ + 1,0,s,_,h2,h3 => by omega
 | f + 1,g + 1,s,h1,h2,h3 => by
  simp only [closeS];cases rowsTo rv n s with
  | none => rfl
  | some rs =>
   simp only [Option.bind_some];cases he:entsTo ev w (needR rs).toNat with
   | none => rfl
   | some es =>
    simp only [Option.bind_some];have:=needE_le hb he;split
    ·rfl
    ·exact ζnc hb f g _ (by omega) (by omega) (by omega)
theorem ζuc {rv ev:List Int} (hb:Byt ev) {n w:Int} {s:Nat} (hs:s ≤ 65536):closeA rv ev n w s =
  (rowsTo rv n s).bind fun rs => (entsTo ev w (needR rs).toNat).bind fun es => if (needE es).toNat ≤ s then some (rs,es) else closeA rv ev n w (needE es).toNat:=by
 unfold closeA;rw [show 65538 - s = (65537 - s) + 1 by omega];simp only [closeS];cases rowsTo rv n s with
 | none => rfl
 | some rs =>
  simp only [Option.bind_some];cases he:entsTo ev w (needR rs).toNat with
  | none => rfl
  | some es =>
   simp only [Option.bind_some];have:=needE_le hb he;split
   ·rfl
   ·exact ζnc hb _ _ _ (by omega) (by omega) (by omega)
structure Mach where
 classes:Int
 tab:Int × List Pt
 rows:List (List Int)
 ents:List En
def machS (b:List Int) (g w:Int):Option Mach :=
 (uS b 0 4).bind fun n => if 4 ≤ n ∧ n ≤ 65535 then
  (uS b 4 4).bind fun i => (restS b i).bind fun tb => (lookS tb g 2).bind fun tab =>
  (uS b 8 4).bind fun j => (restS b j).bind fun rv => (uS b 12 4).bind fun k => (restS b k).bind fun ev =>
  (closeA rv ev n w 2).map fun x => ⟨n,tab,x.1,x.2⟩
 else none
def classS (m:Mach) (id:Int):Int:=if id = 65535 then 2 else match getS m.tab.2 id with | some c => if c < m.classes then c else 1 | none => 1
def stepS (m:Mach) (s c:Int):Option En:=if 0 ≤ s ∧ s < m.rows.length ∧ 0 ≤ c ∧ c < m.classes then (m.rows[s.toNat]?).bind fun r => (r[c.toNat]?).bind fun x => m.ents[x.toNat]? else none
structure Mach.ok (m:Mach):Prop where
 cl:4 ≤ m.classes ∧ m.classes ≤ 65535
 pts:∀ p,p ∈ m.tab.2 → p.ok
 rise:risesS m.tab.2 = true
 plen:m.tab.2.length < 2 ^ 31
 two:2 ≤ m.rows.length ∧ m.rows.length ≤ 65536
 row:∀ r,r ∈ m.rows → (r.length:Int) = m.classes ∧ ∀ x,x ∈ r → 0 ≤ x ∧ x < m.ents.length
 ent:∀ e,e ∈ m.ents → 0 ≤ e.next ∧ e.next < m.rows.length ∧ 0 ≤ e.flags ∧ e.flags < 65536 ∧ 0 ≤ e.a ∧ e.a < 65536 ∧ 0 ≤ e.b ∧ e.b < 65536
 elen:m.ents.length ≤ 65536
theorem piece_gU {b r:List Int} (hb:Byt b) {p z:Int} (h:pieceS b p z = some r) {i:Int} (h0:0 ≤ i) (hi:i + 2 ≤ z):uS r i 2 = some (gU r i 2) ∧ 0 ≤ gU r i 2 ∧ gU r i 2 < 65536:=by
 obtain ⟨e,x,hx⟩:=row_two h h0 (y:=2) (by omega) hi;rw [hx] at e;rw [gU_some e];have:=uS_two (hb.piece h).1 e;exact ⟨e,this⟩
theorem entK_ok {ev:List Int} (hb:Byt ev) {w:Int} (hw:0 ≤ w ∧ w ≤ 2) {k:Nat} {e:En} (h:entK ev w k = some e):0 ≤ e.next ∧ 0 ≤ e.flags ∧ e.flags < 65536 ∧ 0 ≤ e.a ∧ e.a < 65536 ∧ 0 ≤ e.b ∧ e.b < 65536:=by
 unfold entK at h;obtain ⟨r,hr,rfl⟩:=Option.map_eq_some_iff.1 h;have g:=fun i h0 h1 => (piece_gU hb hr (i:=i) h0 h1).2;unfold entOf;dsimp only;have g0:=g 0 (by omega) (by omega);have g2:=g 2 (by omega) (by omega);refine ⟨g0.1,g2.1,g2.2,?_⟩;by_cases h1:0 < w
 ·have g4:=g 4 (by omega) (by omega);rw [if_pos h1];by_cases h2:1 < w
  ·have g6:=g 6 (by omega) (by omega);rw [if_pos h2];omega
  ·rw [if_neg h2]; omega
 ·rw [if_neg h1,if_neg (by omega)]; omega
theorem ζqp {rv ev:List Int} (hr:Byt rv) (hb:Byt ev) {n w:Int} (hn:0 ≤ n) (hw:0 ≤ w ∧ w ≤ 2):∀ (f s:Nat) x,2 ≤ s → s ≤ 65536 → closeS rv ev n w f s = some x →
  (2 ≤ x.1.length ∧ x.1.length ≤ 65536) ∧ (∀ r,r ∈ x.1 → (r.length:Int) = n ∧ ∀ y,y ∈ r → 0 ≤ y ∧ y < x.2.length) ∧ (∀ e,e ∈ x.2 → e.next < x.1.length) ∧ (∀ e,e ∈ x.2 → ∃ k,entK ev w k = some e) ∧ x.2.length ≤ 65536 ∧
  rowsTo rv n x.1.length = some x.1 ∧ entsTo ev w x.2.length = some x.2 ∧ (x.2.length:Int) = needR x.1 ∧ needE x.2 ≤ x.1.length
 | 0,_,_,_,_,h => by cases h
 | f + 1,s,x,h2,h3,h => by
  simp only [closeS] at h;obtain ⟨rs,e1,h⟩:=Option.bind_eq_some_iff.1 h;obtain ⟨es,e2,h⟩:=Option.bind_eq_some_iff.1 h;have hE:=needE_le hb e2;split at h
  ·rename_i hs;injection h with h;subst h;dsimp only;have l1:rs.length = s:=by rw [mapO_len e1,List.length_range]
   have l2:es.length = (needR rs).toNat:=by rw [mapO_len e2,List.length_range]
   have hnn:=ζ72 rs.flatten;have hrow:∀ r,r ∈ rs → (r.length:Int) = n ∧ ∀ y,y ∈ r → 0 ≤ y ∧ y < 65536:=fun r hrm => by
    obtain ⟨i,hi⟩:=List.getElem?_of_mem hrm;obtain ⟨k,_,hk⟩:=mapO_get e1 hi;unfold rowK listS at hk;obtain ⟨q,hq,rfl⟩:=Option.map_eq_some_iff.1 hk;have hqb:=(hr.piece (ζ2y hq)).1;refine ⟨by simp; omega,fun y hy => ?_⟩;obtain ⟨c,hc,rfl⟩:=List.mem_map.1 hy;obtain ⟨h5,h6⟩:=ζdq hqb _ _ hc;have:=ζou c h5;have hp:(256:Int) ^ c.length ≤ 256 ^ 2:=by
     have:c.length ≤ 2:=h6
     match hcl:c.length,this with
     | 0,_ => decide
     | 1,_ => decide
     | 2,_ => decide
    omega
   refine ⟨⟨by omega,by omega⟩,fun r hrm => ⟨(hrow r hrm).1,fun y hy => ⟨((hrow r hrm).2 y hy).1,?_⟩⟩,fun e he => ?_,fun e he => ?_,?_,by rw [l1]; exact e1,by rw [l2]; exact e2,by unfold needR at l2 ⊢; omega,by omega⟩
   ·have:y < needL rs.flatten:=needL_le (List.mem_flatten.2 ⟨r,hrm,hy⟩);rw [l2]; unfold needR; omega
   ·have:e.next < needL (es.map En.next):=needL_le (List.mem_map.2 ⟨e,he,rfl⟩);unfold needE at hs;omega
   ·obtain ⟨i,hi⟩:=List.getElem?_of_mem he;obtain ⟨k,_,hk⟩:=mapO_get e2 hi;exact ⟨_,hk⟩
   ·rw [l2];have:needL rs.flatten ≤ 65536:=needL_lt (by omega) fun y hy => by
     obtain ⟨r,hrm,hy⟩:=List.mem_flatten.1 hy;exact ((hrow r hrm).2 y hy).2
    unfold needR;omega
  ·exact ζqp hr hb hn hw f _ x (by omega) (by omega) h
theorem Byt.rest {b r:List Int} (hb:Byt b) {i:Int} (h:restS b i = some r):Byt r:=by
 unfold restS at h;split at h
 ·injection h with h;subst h;exact fun x hx => hb x (List.mem_of_mem_drop hx)
 ·cases h
theorem machS_ok {b:List Int} (hb:Byt b) {g w:Int} (h1:1 ≤ g) (h2:g ≤ 65535) (hw:0 ≤ w ∧ w ≤ 2) {m:Mach} (h:machS b g w = some m):m.ok:=by
 unfold machS at h;obtain ⟨n,_,h⟩:=Option.bind_eq_some_iff.1 h;split at h;rotate_left
 ·cases h
 rename_i hn;obtain ⟨i,_,h⟩:=Option.bind_eq_some_iff.1 h;obtain ⟨tb,htb,h⟩:=Option.bind_eq_some_iff.1 h;obtain ⟨tab,htab,h⟩:=Option.bind_eq_some_iff.1 h;obtain ⟨j,_,h⟩:=Option.bind_eq_some_iff.1 h;obtain ⟨rv,hrv,h⟩:=Option.bind_eq_some_iff.1 h;obtain ⟨k,_,h⟩:=Option.bind_eq_some_iff.1 h;obtain ⟨ev,hev,h⟩:=Option.bind_eq_some_iff.1 h;obtain ⟨x,hx,rfl⟩:=Option.map_eq_some_iff.1 h;have hl:=lookS_ok (hb.rest htb) h1 h2 (.inl rfl) htab;have hpl:=ζv1 (hb.rest htb) htab;obtain ⟨c1,c2,c3,c4,c5,_⟩:=ζqp (hb.rest hrv) (hb.rest hev) (by omega) hw _ _ x (by omega) (by omega) hx;refine ⟨hn,hl.2.1,hl.2.2,hpl,c1,c2,fun e he => ?_,c5⟩;obtain ⟨k,hk⟩:=c4 e he;have:=entK_ok (hb.rest hev) hw hk;exact ⟨this.1,c3 e he,this.2⟩
end Go.Sw
end
section
namespace Go.Sw
open Go.RowKit
section
variable {α β γ δ:Type} {E:Heap → Prop} {o:Option β} {f:β → Value} {r:Res Value} {H:Heap} {Q:δ → γ → Heap → Prop}
theorem Cp.call {K:Value → Heap → Res γ} {g:β → Option δ} (hr:r = orF o f H) (hE:E H) (hk:∀ b,o = some b → Cp failV E (K (f b) H) (g b) Q):Cp failV E (r.bind K) (o.bind g) Q:=by
 subst hr;cases o with
 | none => exact ⟨H,rfl,hE⟩
 | some b => exact hk b rfl
theorem Cp.callM {K:Value → Heap → Res γ} {g:β → δ} (hr:r = orF o f H) (hE:E H) (hk:∀ b,o = some b → Cp failV E (K (f b) H) (some (g b)) Q):Cp failV E (r.bind K) (o.map g) Q:=by
 subst hr;cases o with
 | none => exact ⟨H,rfl,hE⟩
 | some b => exact hk b rfl
theorem Cp.callL {Q:β → γ → Heap → Prop} {K:Value → Heap → Res γ} (hr:r = orF o f H) (hE:E H) (hk:∀ b,o = some b → Cp failV E (K (f b) H) (some b) Q):Cp failV E (r.bind K) o Q:=by
 subst hr;cases o with
 | none => exact ⟨H,rfl,hE⟩
 | some b => exact hk b rfl
theorem Cp.callT {G:Value → Heap → Res γ} {K:Value → Heap → Res γ} {g:β → Option δ} (hr:r = orF o f H) (hp:o = none → ∃ H',G failV H = .panic failV H' ∧ E H') (hk:∀ b,o = some b → Cp failV E (K (f b) H) (g b) Q):Cp failV E (r.bindT G K) (o.bind g) Q:=by
 subst hr;cases o with
 | none => exact hp rfl
 | some b => exact hk b rfl
theorem Cp.callTM {G:Value → Heap → Res γ} {K:Value → Heap → Res γ} {g:β → δ} (hr:r = orF o f H) (hp:o = none → ∃ H',G failV H = .panic failV H' ∧ E H') (hk:∀ b,o = some b → Cp failV E (K (f b) H) (some (g b)) Q):Cp failV E (r.bindT G K) (o.map g) Q:=by
 subst hr;cases o with
 | none => exact hp rfl
 | some b => exact hk b rfl
theorem Cp.need {k:Nat} {p:Prop} [Decidable p] {K:Value → Heap → Res γ} {g:Option δ} (hE:E H) (hk:p → Cp failV E (K (.tuple #[]) H) g Q):Cp failV E ((R (T k) F.ζ35 [.bool (decide p)] H).bind K) (if p then g else none) Q:=by
 by_cases h:p
 ·rw [if_pos h,decide_eq_true h,ζgk];exact hk h
 ·rw [if_neg h,decide_eq_false h,ζem];exact ⟨H,rfl,hE⟩
end
section
variable {β:Type} {H:Heap} {r:Res Value} {o:Option β} {f:β → Value}
theorem gc_orF (h:Cp failV (Ext H) r o fun b v _ => v = f b) (ha:∀ b,o = some b → Alive H (f b)):nrm .gc H r = orF o f H:=by
 rw [ζv6 h ha Flat.fail.alive];cases o <;> rfl
theorem fz_orF (h:Cp failV (Ext H) r o fun b v H' => ∃ L,fzV H.n H' fzDepth v = some (f b,L)) (ha:∀ b,o = some b → Alive H (f b)):nrm .fz H r = orF o f H:=by
 rw [ζv5 h ha Flat.fail.alive];cases o <;> rfl
end
end Go.Sw
end
section
set_option maxRecDepth 100000
set_option linter.unusedVariables false
namespace Go.Sw
noncomputable section
def ζ2k (k:Nat) (call:Caller) (a0 a1:Value) (h:Heap):Res Value :=
 (boxR a0 h).bind fun v1 h2 =>
 (boxR a1 h2).bind fun v3 h4 =>
 (loadR Prog 32 v1 h4).bind fun v5 h6 =>
 (nilR v5 h6).bind fun v7 h8 =>
 (fieldAddrR Prog 177 v7 1 h8).bind fun v9 h10 =>
 (loadR Prog 175 v9 h10).bind fun v11 h12 =>
 (builtinV Prog .len [175] [v11] h12).bind fun v13 h14 =>
 (call F.ζ5b [v13,(.func (.func F.ζ23) #[] #[v1,v3])] h14).bind fun v15 h16 =>
 (loadR Prog 32 v1 h16).bindN fun v17 h18 =>
 (nilR v17 h18).bindN fun v19 h20 =>
 (fieldAddrR Prog 177 v19 1 h20).bindN fun v21 h22 =>
 (loadR Prog 175 v21 h22).bindN fun v23 h24 =>
 (builtinV Prog .len [175] [v23] h24).bindN fun v25 h26 =>
 (binR Prog .eql 3 v15 v25 h26).bindN fun v27 h28 =>
 ((bif wantVal v27 false then loadR Prog 32 v1 h28 else Res.ok undef h28)).bindN fun v29 h30 =>
 ((bif wantVal v27 false then nilR v29 h30 else Res.ok undef h30)).bindN fun v31 h32 =>
 ((bif wantVal v27 false then fieldAddrR Prog 177 v31 1 h32 else Res.ok undef h32)).bindN fun v33 h34 =>
 ((bif wantVal v27 false then loadR Prog 175 v33 h34 else Res.ok undef h34)).bindN fun v35 h36 =>
 ((bif wantVal v27 false then Res.ok v15 h36 else Res.ok undef h36)).bindN fun v37 h38 =>
 ((bif wantVal v27 false then indexAddrR Prog 175 v35 v37 h38 else Res.ok undef h38)).bindN fun v39 h40 =>
 ((bif wantVal v27 false then fieldAddrR Prog 179 v39 0 h40 else Res.ok undef h40)).bindN fun v41 h42 =>
 ((bif wantVal v27 false then loadR Prog 3 v41 h42 else Res.ok undef h42)).bindN fun v43 h44 =>
 ((bif wantVal v27 false then loadR Prog 3 v3 h44 else Res.ok undef h44)).bindN fun v45 h46 =>
 ((bif wantVal v27 false then binR Prog .gtr 3 v43 v45 h46 else Res.ok undef h46)).bindN fun v47 h48 =>
 (condV (some v27) (Res.ok (.bool true) h48) (Res.ok v47 h48)).bindN fun v49 h50 =>
 condV (some v49) (
 .ok (.tuple #[(.int .i64 0),(.bool false)]) h50)
 (
 (loadR Prog 32 v1 h50).bindN fun v51 h52 =>
 (nilR v51 h52).bindN fun v53 h54 =>
 (fieldAddrR Prog 177 v53 1 h54).bindN fun v55 h56 =>
 (loadR Prog 175 v55 h56).bindN fun v57 h58 =>
 (indexAddrR Prog 175 v57 v15 h58).bindN fun v59 h60 =>
 (loadR Prog 179 v59 h60).bindN fun v61 h62 =>
 (loadR Prog 3 v3 h62).bindN fun v63 h64 =>
 (call F.ζ49 [v61,v63] h64).bindT (fun p67 h68 => .panic p67 h68) fun v65 h66 =>
 .ok (.tuple #[v65,(.bool true)]) h66)
theorem ζfq (k:Nat) (a0 a1:Value) (h:Heap):R (T k) F.ζ2k [a0,a1] h = nrm .gc h (ζ2k k (R (T k)) a0 a1 h) :=
 (R_body (t:=T k) (T_scott k) (by kernel_rfl) (by kernel_rfl) _ _).trans (by kernel_rfl)
def ζ2h (k:Nat) (call:Caller) (a8:Value) (h:Heap):Res Value :=
 kSeq (pieceK (C k) call F.ζ3d [1,1,1,1]) (kDone Prog (resOf Prog F.ζ3d)) .normal [(8,a8)] h
def ζ8m (k:Nat) (call:Caller):Env → Heap → Res (AExit × Env):=loopB (C k) call F.ζ3d [1,1,1,1,0,1,0,0]
def ζe3 (k:Nat) (call:Caller):Kont Value:=kBlock 1 (kSeq (pieceK (C k) call F.ζ3d [1,1,1,1,1]) (kDone Prog (resOf Prog F.ζ3d)))
def ζ3d (k:Nat) (call:Caller) (a0 a1 a2:Value) (h:Heap):Res Value :=
 (boxR a0 h).bind fun v1 h2 =>
 (loadR Prog 75 v1 h2).bind fun v3 h4 =>
 (buildR Prog 263 [(0,v3),(1,a1),(2,a2)] h4).bind fun v5 h6 =>
 (allocR Prog 263 h6).bind fun v7 h8 =>
 (storeR Prog 263 v7 v5 h8).bind fun _v9 h10 =>
 (loadR Prog 75 v1 h10).bind fun v11 h12 =>
 (call F.ζb [v11,(.int .i64 0)] h12).bind fun v13 h14 =>
 (buildR Prog 177 [(0,v13)] h14).bind fun v15 h16 =>
 (boxR v15 h16).bind fun v17 h18 =>
 (nilR v17 h18).bind fun v19 h20 =>
 (fieldAddrR Prog 177 v19 0 h20).bind fun v21 h22 =>
 (loadR Prog 3 v21 h22).bind fun v23 h24 =>
 (binR Prog .eql 3 v23 (.int .i64 0) h24).bind fun v25 h26 =>
 condV (some v25) (
 (binR Prog .sub 3 a1 (.int .i64 1) h26).bind fun v27 h28 =>
 (loadR Prog 75 v1 h28).bind fun v29 h30 =>
 (call F.ζ3e [v29,(.int .i64 2),a1,a2] h30).bind fun v31 h32 =>
 (buildR Prog 179 [(0,(.int .i64 0)),(1,v27),(2,v31)] h32).bind fun v33 h34 =>
 (buildSliceR Prog 175 1 [(0,v33)] h34).bind fun v35 h36 =>
 (nilR v17 h36).bind fun v37 h38 =>
 (fieldAddrR Prog 177 v37 1 h38).bind fun v39 h40 =>
 (storeR Prog 175 v39 v35 h40).bind fun _v41 h42 =>
 ζ2h k call v17 h42)
 (
 (binR Prog .eql 3 v23 (.int .i64 2) h26).bind fun v43 h44 =>
 condV (some v43) (
 (loadR Prog 263 v7 h44).bind fun v45 h46 =>
 (call F.ζ5 [v45,(.bool false)] h46).bind fun v47 h48 =>
 (nilR v17 h48).bind fun v49 h50 =>
 (fieldAddrR Prog 177 v49 1 h50).bind fun v51 h52 =>
 (storeR Prog 175 v51 v47 h52).bind fun _v53 h54 =>
 ζ2h k call v17 h54)
 (
 (binR Prog .eql 3 v23 (.int .i64 4) h44).bind fun v55 h56 =>
 condV (some v55) (
 (loadR Prog 263 v7 h56).bind fun v57 h58 =>
 (call F.ζ5 [v57,(.bool true)] h58).bind fun v59 h60 =>
 (nilR v17 h60).bind fun v61 h62 =>
 (fieldAddrR Prog 177 v61 1 h62).bind fun v63 h64 =>
 (storeR Prog 175 v63 v59 h64).bind fun _v65 h66 =>
 ζ2h k call v17 h66)
 (
 (binR Prog .eql 3 v23 (.int .i64 6) h56).bind fun v67 h68 =>
 condV (some v67) (
 (loadR Prog 263 v7 h68).bind fun v69 h70 =>
 (call F.ζ19 [v69] h70).bind fun v71 h72 =>
 (nilR v17 h72).bind fun v73 h74 =>
 (fieldAddrR Prog 177 v73 1 h74).bind fun v75 h76 =>
 (storeR Prog 175 v75 v71 h76).bind fun _v77 h78 =>
 ζ2h k call v17 h78)
 (
 (binR Prog .eql 3 v23 (.int .i64 8) h68).bind fun v79 h80 =>
 condV (some v79) (
 (loadR Prog 263 v7 h80).bind fun v81 h82 =>
 (call F.ζ1y [v81,(.int .i64 2),a2] h82).bind fun v83 h84 =>
 (nilR v17 h84).bind fun v85 h86 =>
 (fieldAddrR Prog 177 v85 1 h86).bind fun v87 h88 =>
 (storeR Prog 175 v87 v83 h88).bind fun _v89 h90 =>
 ζ2h k call v17 h90)
 (
 (binR Prog .eql 3 v23 (.int .i64 10) h80).bind fun v91 h92 =>
 condV (some v91) (
 (loadR Prog 75 v1 h92).bind fun v93 h94 =>
 (call F.ζb [v93,(.int .i64 2)] h94).bind fun v95 h96 =>
 (binR Prog .eql 3 v95 (.int .i64 1) h96).bind fun v97 h98 =>
 ((bif wantVal v97 false then Res.ok v95 h98 else Res.ok undef h98)).bind fun v99 h100 =>
 ((bif wantVal v97 false then binR Prog .eql 3 v99 (.int .i64 2) h100 else Res.ok undef h100)).bind fun v101 h102 =>
 (condV (some v97) (Res.ok (.bool true) h102) (Res.ok v101 h102)).bind fun v103 h104 =>
 ((bif wantVal v103 false then Res.ok v95 h104 else Res.ok undef h104)).bind fun v105 h106 =>
 ((bif wantVal v103 false then binR Prog .eql 3 v105 (.int .i64 4) h106 else Res.ok undef h106)).bind fun v107 h108 =>
 (condV (some v103) (Res.ok (.bool true) h108) (Res.ok v107 h108)).bind fun v109 h110 =>
 (call F.ζ35 [v109] h110).bind fun v111 h112 =>
 (loadR Prog 263 v7 h112).bind fun v113 h114 =>
 (call F.ζ1y [v113,(.int .i64 4),v95] h114).bind fun v115 h116 =>
 (nilR v17 h116).bind fun v117 h118 =>
 (fieldAddrR Prog 177 v117 1 h118).bind fun v119 h120 =>
 (storeR Prog 175 v119 v115 h120).bind fun _v121 h122 =>
 ζ2h k call v17 h122)
 (
 (call F.ζ9r [] h92).bind fun v123 h124 =>
 ζ2h k call v17 h124))))))
theorem ζpk (k:Nat) (a0 a1 a2:Value) (h:Heap):R (T k) F.ζ3d [a0,a1,a2] h = nrm .fz h (ζ3d k (R (T k)) a0 a1 a2 h) :=
 (R_body (t:=T k) (T_scott k) (by kernel_rfl) (by kernel_rfl) _ _).trans (by kernel_rfl)
theorem ζgc (k:Nat) (call:Caller) (a8:Value) (h:Heap):ζ2h k call a8 h =
 (loopN (ζ8m k call) loopFuel [(8,a8),(10,(.int .i64 1))] h).bind fun r125 h126 =>
 ζe3 k call r125.1 r125.2 h126:=by kernel_rfl
theorem ζ9u (k:Nat) (call:Caller) (a8 a10:Value) (h:Heap):ζ8m k call [(8,a8),(10,a10)] h =
 (nilR a8 h).bind fun v127 h128 =>
 (fieldAddrR Prog 177 v127 1 h128).bind fun v129 h130 =>
 (loadR Prog 175 v129 h130).bind fun v131 h132 =>
 (builtinV Prog .len [175] [v131] h132).bind fun v133 h134 =>
 (binR Prog .lss 3 a10 v133 h134).bind fun v135 h136 =>
 condV (some v135) (
 (nilR a8 h136).bindN fun v137 h138 =>
 (fieldAddrR Prog 177 v137 1 h138).bindN fun v139 h140 =>
 (loadR Prog 175 v139 h140).bindN fun v141 h142 =>
 (binR Prog .sub 3 a10 (.int .i64 1) h142).bindN fun v143 h144 =>
 (indexAddrR Prog 175 v141 v143 h144).bindN fun v145 h146 =>
 (fieldAddrR Prog 179 v145 1 h146).bindN fun v147 h148 =>
 (loadR Prog 3 v147 h148).bindN fun v149 h150 =>
 (nilR a8 h150).bindN fun v151 h152 =>
 (fieldAddrR Prog 177 v151 1 h152).bindN fun v153 h154 =>
 (loadR Prog 175 v153 h154).bindN fun v155 h156 =>
 (indexAddrR Prog 175 v155 a10 h156).bindN fun v157 h158 =>
 (fieldAddrR Prog 179 v157 0 h158).bindN fun v159 h160 =>
 (loadR Prog 3 v159 h160).bindN fun v161 h162 =>
 (binR Prog .lss 3 v149 v161 h162).bindN fun v163 h164 =>
 (call F.ζ35 [v163] h164).bindT (fun p167 h168 => .panic p167 h168) fun v165 h166 =>
 (binR Prog .add 3 a10 (.int .i64 1) h166).bind fun v169 h170 =>
 .ok (.normal,[(8,a8),(10,v169)]) h170)
 (
 .ok ((.exit 1),[(8,a8),(10,a10),(93,v135)]) h136) :=
 (loopB_eq _ _).trans (by kernel_rfl)
theorem ζfr (k:Nat) (call:Caller) (a8 a10 a93:Value) (h:Heap):ζe3 k call (.exit 1) [(8,a8),(10,a10),(93,a93)] h =
 .ok a8 h:=by kernel_rfl
def ζ49 (k:Nat) (call:Caller) (a0 a1:Value) (h:Heap):Res Value :=
 (boxR a0 h).bind fun v1 h2 =>
 (fieldAddrR Prog 179 v1 2 h2).bind fun v3 h4 =>
 (loadR Prog 23 v3 h4).bind fun v5 h6 =>
 (fieldAddrR Prog 179 v1 0 h6).bind fun v7 h8 =>
 (loadR Prog 3 v7 h8).bind fun v9 h10 =>
 (binR Prog .sub 3 a1 v9 h10).bind fun v11 h12 =>
 (fieldAddrR Prog 179 v1 2 h12).bind fun v13 h14 =>
 (loadR Prog 23 v13 h14).bind fun v15 h16 =>
 (builtinV Prog .len [23] [v15] h16).bind fun v17 h18 =>
 (binR Prog .sub 3 v17 (.int .i64 1) h18).bind fun v19 h20 =>
 (builtinV Prog .min [3,3] [v11,v19] h20).bind fun v21 h22 =>
 (indexAddrR Prog 23 v5 v21 h22).bind fun v23 h24 =>
 (loadR Prog 3 v23 h24).bind fun v25 h26 =>
 .ok v25 h26
theorem ζjf (k:Nat) (a0 a1:Value) (h:Heap):R (T k) F.ζ49 [a0,a1] h = nrm .gc h (ζ49 k (R (T k)) a0 a1 h) :=
 (R_body (t:=T k) (T_scott k) (by kernel_rfl) (by kernel_rfl) _ _).trans (by kernel_rfl)
def ζ23 (k:Nat) (call:Caller) (a0 a1 a2:Value) (h:Heap):Res Value :=
 (loadR Prog 32 a1 h).bindN fun v1 h2 =>
 (nilR v1 h2).bindN fun v3 h4 =>
 (fieldAddrR Prog 177 v3 1 h4).bindN fun v5 h6 =>
 (loadR Prog 175 v5 h6).bindN fun v7 h8 =>
 (indexAddrR Prog 175 v7 a0 h8).bindN fun v9 h10 =>
 (fieldAddrR Prog 179 v9 1 h10).bindN fun v11 h12 =>
 (loadR Prog 3 v11 h12).bindN fun v13 h14 =>
 (loadR Prog 3 a2 h14).bindN fun v15 h16 =>
 (binR Prog .geq 3 v13 v15 h16).bindN fun v17 h18 =>
 .ok v17 h18
theorem ζd4 (k:Nat) (a0 a1 a2:Value) (h:Heap):R (T k) F.ζ23 [a0,a1,a2] h = nrm .gc h (ζ23 k (R (T k)) a0 a1 a2 h) :=
 (R_body (t:=T k) (T_scott k) (by kernel_rfl) (by kernel_rfl) _ _).trans (by kernel_rfl)
def ζ8n (k:Nat) (call:Caller):Env → Heap → Res (AExit × Env):=loopB (C k) call F.ζ3e [1,1,1,0,1,0,0]
def ζe4 (k:Nat) (call:Caller):Kont Value:=kBlock 0 (kSeq (pieceK (C k) call F.ζ3e [1,1,1,1]) (kDone Prog (resOf Prog F.ζ3e)))
def ζ3e (k:Nat) (call:Caller) (a0 a1 a2 a3:Value) (h:Heap):Res Value :=
 (boxR a0 h).bind fun v1 h2 =>
 (loadR Prog 75 v1 h2).bind fun v3 h4 =>
 (call F.ζm [v3,a1,a2,a3] h4).bind fun v5 h6 =>
 (allocR Prog 75 h6).bind fun v7 h8 =>
 (storeR Prog 75 v7 v5 h8).bind fun _v9 h10 =>
 (makeSliceV Prog 23 a2 a2 h10).bind fun v11 h12 =>
 (builtinV Prog .len [23] [v11] h12).bind fun v13 h14 =>
 (loopN (ζ8n k call) loopFuel [(3,a3),(9,v7),(10,v11),(20,v13),(21,(.int .i64 0))] h14).bind fun r15 h16 =>
 ζe4 k call r15.1 r15.2 h16
theorem ζpl (k:Nat) (a0 a1 a2 a3:Value) (h:Heap):R (T k) F.ζ3e [a0,a1,a2,a3] h = nrm .fz h (ζ3e k (R (T k)) a0 a1 a2 a3 h) :=
 (R_body (t:=T k) (T_scott k) (by kernel_rfl) (by kernel_rfl) _ _).trans (by kernel_rfl)
theorem ζ9v (k:Nat) (call:Caller) (a3 a9 a10 a20 a21:Value) (h:Heap):ζ8n k call [(3,a3),(9,a9),(10,a10),(20,a20),(21,a21)] h =
 (binR Prog .lss 3 a21 a20 h).bind fun v17 h18 =>
 condV (some v17) (
 (loadR Prog 75 a9 h18).bind fun v19 h20 =>
 (binR Prog .mul 3 a3 a21 h20).bind fun v21 h22 =>
 (call F.ζ2q [v19,v21,a3] h22).bind fun v23 h24 =>
 (indexAddrR Prog 23 a10 a21 h24).bind fun v25 h26 =>
 (storeR Prog 3 v25 v23 h26).bind fun _v27 h28 =>
 (binR Prog .add 3 a21 (.int .i64 1) h28).bind fun v29 h30 =>
 .ok (.normal,[(3,a3),(9,a9),(10,a10),(20,a20),(21,v29)]) h30)
 (
 .ok ((.exit 0),[(3,a3),(9,a9),(10,a10),(20,a20),(21,a21),(22,v17)]) h18) :=
 (loopB_eq _ _).trans (by kernel_rfl)
theorem ζfs (k:Nat) (call:Caller) (a3 a9 a10 a20 a21 a22:Value) (h:Heap):ζe4 k call (.exit 0) [(3,a3),(9,a9),(10,a10),(20,a20),(21,a21),(22,a22)] h =
 .ok a10 h:=by kernel_rfl
def ζ4s (k:Nat) (call:Caller) (a1 a2 a5:Value) (h:Heap):Res Value :=
 kSeq (pieceK (C k) call F.ζ5 [1,1,1]) (kDone Prog (resOf Prog F.ζ5)) .normal [(1,a1),(2,a2),(5,a5)] h
def ζ4t (k:Nat) (call:Caller) (a1 a2 a5 a13:Value) (h:Heap):Res Value :=
 kSeq (pieceK (C k) call F.ζ5 [1,1,1]) (kDone Prog (resOf Prog F.ζ5)) .normal [(1,a1),(2,a2),(5,a5),(13,a13)] h
def ζ25 (k:Nat) (call:Caller):Env → Heap → Res (AExit × Env):=loopB (C k) call F.ζ5 [1,1,1,1,0,1,0,0]
def ζ2i (k:Nat) (call:Caller):Kont Value:=kBlock 0 (kSeq (pieceK (C k) call F.ζ5 [1,1,1,1,1]) (kDone Prog (resOf Prog F.ζ5)))
def ζ3f (k:Nat) (call:Caller) (a1 a2 a6 a9 a17 a18 a19:Value) (h:Heap):Res (AExit × Env) :=
 kSeq (pieceK (C k) call F.ζ5 [1,1,1,1,0,1,0,0,1,1,0,0,1,1,1,1]) (kBlock 1 (kSeq (pieceK (C k) call F.ζ5 [1,1,1,1,0,1,0,0,1,1,1]) (kRound (ownOf (C k) F.ζ5 [1,1,1,1,0,1,0,0])))) .normal [(1,a1),(2,a2),(6,a6),(9,a9),(17,a17),(18,a18),(19,a19)] h
def ζ5 (k:Nat) (call:Caller) (a0 a1:Value) (h:Heap):Res Value :=
 (boxR a0 h).bind fun v1 h2 =>
 (fieldAddrR Prog 263 v1 2 h2).bind fun v3 h4 =>
 (loadR Prog 3 v3 h4).bind fun v5 h6 =>
 (binR Prog .add 3 (.int .i64 4) v5 h6).bind fun v7 h8 =>
 condV (some a1) (
 ζ4s k call a1 v1 (.int .i64 6) h8)
 (
 ζ4t k call a1 v1 v7 a1 h8)
theorem ζ8o (k:Nat) (a0 a1:Value) (h:Heap):R (T k) F.ζ5 [a0,a1] h = nrm .fz h (ζ5 k (R (T k)) a0 a1 h) :=
 (R_body (t:=T k) (T_scott k) (by kernel_rfl) (by kernel_rfl) _ _).trans (by kernel_rfl)
theorem ζ6z (k:Nat) (call:Caller) (a1 a2 a5:Value) (h:Heap):ζ4s k call a1 a2 a5 h =
 (fieldAddrR Prog 263 a2 0 h).bind fun v9 h10 =>
 (loadR Prog 75 v9 h10).bind fun v11 h12 =>
 (call F.ζ2x [v11,(.int .i64 2),a5,(.int .i64 2)] h12).bind fun v13 h14 =>
 (builtinV Prog .len [309] [v13] h14).bind fun v15 h16 =>
 (loopN (ζ25 k call) loopFuel [(1,a1),(2,a2),(6,(.slice none 0 0)),(17,v13),(18,v15),(19,(.int .i64 0))] h16).bind fun r17 h18 =>
 ζ2i k call r17.1 r17.2 h18:=by kernel_rfl
theorem ζ70 (k:Nat) (call:Caller) (a1 a2 a5 a13:Value) (h:Heap):ζ4t k call a1 a2 a5 a13 h =
 (fieldAddrR Prog 263 a2 0 h).bind fun v19 h20 =>
 (loadR Prog 75 v19 h20).bind fun v21 h22 =>
 (call F.ζ2x [v21,(.int .i64 2),a5,(.int .i64 2)] h22).bind fun v23 h24 =>
 (builtinV Prog .len [309] [v23] h24).bind fun v25 h26 =>
 (loopN (ζ25 k call) loopFuel [(1,a1),(2,a2),(6,(.slice none 0 0)),(17,v23),(18,v25),(19,(.int .i64 0))] h26).bind fun r27 h28 =>
 ζ2i k call r27.1 r27.2 h28:=by kernel_rfl
theorem ζ44 (k:Nat) (call:Caller) (a1 a2 a6 a17 a18 a19:Value) (h:Heap):ζ25 k call [(1,a1),(2,a2),(6,a6),(17,a17),(18,a18),(19,a19)] h =
 (binR Prog .lss 3 a19 a18 h).bind fun v29 h30 =>
 condV (some v29) (
 (indexAddrR Prog 309 a17 a19 h30).bind fun v31 h32 =>
 (loadR Prog 75 v31 h32).bind fun v33 h34 =>
 (allocR Prog 75 h34).bind fun v35 h36 =>
 (storeR Prog 75 v35 v33 h36).bind fun _v37 h38 =>
 (loadR Prog 75 v35 h38).bindN fun v39 h40 =>
 (call F.ζb [v39,(.int .i64 2)] h40).bindT (fun p43 h44 => (loadR Prog 75 v35 h40).bindN fun v45 h46 => (allocR Prog 179 h46).bindN fun v47 h48 => chkR ((okVal (loadR Prog 75 v35 h38) v45 && true) && true) (.panic p43 h44)) fun v41 h42 =>
 (loadR Prog 75 v35 h42).bindN fun v49 h50 =>
 (call F.ζb [v49,(.int .i64 0)] h50).bindT (fun p53 h54 => (allocR Prog 179 h50).bindN fun v55 h56 => chkR ((okVal (loadR Prog 75 v35 h38) v49 && true) && true) (.panic p53 h54)) fun v51 h52 =>
 (buildR Prog 179 [(0,v41),(1,v51)] h52).bindN fun v57 h58 =>
 (allocR Prog 179 h58).bindN fun v59 h60 =>
 (storeR Prog 179 v59 v57 h60).bindN fun _v61 h62 =>
 chkR ((okVal (loadR Prog 75 v35 h38) v49 && true) && true) (
 (fieldAddrR Prog 179 v59 0 h62).bind fun v63 h64 =>
 (loadR Prog 3 v63 h64).bind fun v65 h66 =>
 (fieldAddrR Prog 179 v59 1 h66).bind fun v67 h68 =>
 (loadR Prog 3 v67 h68).bind fun v69 h70 =>
 (binR Prog .leq 3 v65 v69 h70).bind fun v71 h72 =>
 (call F.ζ35 [v71] h72).bind fun v73 h74 =>
 condV (some a1) (
 (fieldAddrR Prog 263 a2 0 h74).bindN fun v75 h76 =>
 (loadR Prog 75 v75 h76).bindN fun v77 h78 =>
 (loadR Prog 75 v35 h78).bindN fun v79 h80 =>
 (call F.ζb [v79,(.int .i64 4)] h80).bindT (fun p83 h84 => (fieldAddrR Prog 179 v59 1 h80).bindN fun v85 h86 => (loadR Prog 3 v85 h86).bindN fun v87 h88 => (fieldAddrR Prog 179 v59 0 h88).bindN fun v89 h90 => (loadR Prog 3 v89 h90).bindN fun v91 h92 => (binR Prog .sub 3 v87 v91 h92).bindN fun v93 h94 => (binR Prog .add 3 v93 (.int .i64 1) h94).bindN fun v95 h96 => (fieldAddrR Prog 263 a2 2 h96).bindN fun v97 h98 => (loadR Prog 3 v97 h98).bindN fun v99 h100 => chkR ((okVal (loadR Prog 3 v85 h74) v87 && true) && ((okVal (loadR Prog 3 v89 h74) v91 && true) && ((okVal (loadR Prog 3 v97 h74) v99 && true) && true))) (.panic p83 h84)) fun v81 h82 =>
 (fieldAddrR Prog 179 v59 1 h82).bindN fun v101 h102 =>
 (loadR Prog 3 v101 h102).bindN fun v103 h104 =>
 (fieldAddrR Prog 179 v59 0 h104).bindN fun v105 h106 =>
 (loadR Prog 3 v105 h106).bindN fun v107 h108 =>
 (binR Prog .sub 3 v103 v107 h108).bindN fun v109 h110 =>
 (binR Prog .add 3 v109 (.int .i64 1) h110).bindN fun v111 h112 =>
 (fieldAddrR Prog 263 a2 2 h112).bindN fun v113 h114 =>
 (loadR Prog 3 v113 h114).bindN fun v115 h116 =>
 (call F.ζ3e [v77,v81,v111,v115] h116).bindT (fun p119 h120 => chkR ((okVal (loadR Prog 75 v75 h82) v77 && true) && ((okVal (loadR Prog 3 v101 h74) v103 && true) && ((okVal (loadR Prog 3 v105 h74) v107 && true) && ((okVal (loadR Prog 3 v113 h74) v115 && true) && true)))) (.panic p119 h120)) fun v117 h118 =>
 (fieldAddrR Prog 179 v59 2 h118).bindN fun v121 h122 =>
 (storeR Prog 23 v121 v117 h122).bindN fun _v123 h124 =>
 chkR ((okVal (loadR Prog 75 v75 h82) v77 && true) && ((okVal (loadR Prog 3 v101 h74) v103 && true) && ((okVal (loadR Prog 3 v105 h74) v107 && true) && ((okVal (loadR Prog 3 v113 h74) v115 && true) && true)))) (
 ζ3f k call a1 a2 a6 v59 a17 a18 a19 h124))
 (
 (loadR Prog 75 v35 h74).bind fun v125 h126 =>
 (fieldAddrR Prog 263 a2 2 h126).bind fun v127 h128 =>
 (loadR Prog 3 v127 h128).bind fun v129 h130 =>
 (call F.ζ2q [v125,(.int .i64 4),v129] h130).bind fun v131 h132 =>
 (buildSliceR Prog 23 1 [(0,v131)] h132).bind fun v133 h134 =>
 (fieldAddrR Prog 179 v59 2 h134).bind fun v135 h136 =>
 (storeR Prog 23 v135 v133 h136).bind fun _v137 h138 =>
 ζ3f k call a1 a2 a6 v59 a17 a18 a19 h138)))
 (
 .ok ((.exit 0),[(1,a1),(2,a2),(6,a6),(17,a17),(18,a18),(19,a19),(20,v29)]) h30) :=
 (loopB_eq _ _).trans (by kernel_rfl)
theorem ζ43 (k:Nat) (call:Caller) (a1 a2 a6 a9 a17 a18 a19:Value) (h:Heap):ζ3f k call a1 a2 a6 a9 a17 a18 a19 h =
 (loadR Prog 179 a9 h).bind fun v139 h140 =>
 (buildSliceR Prog 175 1 [(0,v139)] h140).bind fun v141 h142 =>
 (builtinV Prog .append [175,175] [a6,v141] h142).bind fun v143 h144 =>
 (binR Prog .add 3 a19 (.int .i64 1) h144).bind fun v145 h146 =>
 .ok (.normal,[(1,a1),(2,a2),(6,v143),(17,a17),(18,a18),(19,v145)]) h146:=by kernel_rfl
theorem ζ6n (k:Nat) (call:Caller) (a1 a2 a6 a17 a18 a19 a20:Value) (h:Heap):ζ2i k call (.exit 0) [(1,a1),(2,a2),(6,a6),(17,a17),(18,a18),(19,a19),(20,a20)] h =
 .ok a6 h:=by kernel_rfl
def ζ5j (k:Nat) (call:Caller):Env → Heap → Res (AExit × Env):=loopB (C k) call F.ζ19 [1,1,0,1,0,0]
def ζ59 (k:Nat) (call:Caller):Kont Value:=kBlock 0 (kSeq (pieceK (C k) call F.ζ19 [1,1,1]) (kDone Prog (resOf Prog F.ζ19)))
def ζ19 (k:Nat) (call:Caller) (a0:Value) (h:Heap):Res Value :=
 (boxR a0 h).bind fun v1 h2 =>
 (fieldAddrR Prog 263 v1 0 h2).bind fun v3 h4 =>
 (loadR Prog 75 v3 h4).bind fun v5 h6 =>
 (fieldAddrR Prog 263 v1 2 h6).bind fun v7 h8 =>
 (loadR Prog 3 v7 h8).bind fun v9 h10 =>
 (binR Prog .add 3 (.int .i64 2) v9 h10).bind fun v11 h12 =>
 (call F.ζ2x [v5,(.int .i64 2),v11,(.int .i64 1)] h12).bind fun v13 h14 =>
 (builtinV Prog .len [309] [v13] h14).bind fun v15 h16 =>
 (loopN (ζ5j k call) loopFuel [(1,v1),(3,(.slice none 0 0)),(12,v13),(13,v15),(14,(.int .i64 0))] h16).bind fun r17 h18 =>
 ζ59 k call r17.1 r17.2 h18
theorem ζd5 (k:Nat) (a0:Value) (h:Heap):R (T k) F.ζ19 [a0] h = nrm .fz h (ζ19 k (R (T k)) a0 h) :=
 (R_body (t:=T k) (T_scott k) (by kernel_rfl) (by kernel_rfl) _ _).trans (by kernel_rfl)
theorem ζ4f (k:Nat) (call:Caller) (a1 a3 a12 a13 a14:Value) (h:Heap):ζ5j k call [(1,a1),(3,a3),(12,a12),(13,a13),(14,a14)] h =
 (binR Prog .lss 3 a14 a13 h).bind fun v19 h20 =>
 condV (some v19) (
 (indexAddrR Prog 309 a12 a14 h20).bind fun v21 h22 =>
 (loadR Prog 75 v21 h22).bind fun v23 h24 =>
 (allocR Prog 75 h24).bind fun v25 h26 =>
 (storeR Prog 75 v25 v23 h26).bind fun _v27 h28 =>
 (loadR Prog 75 v25 h28).bind fun v29 h30 =>
 (call F.ζb [v29,(.int .i64 0)] h30).bind fun v31 h32 =>
 (loadR Prog 75 v25 h32).bind fun v33 h34 =>
 (fieldAddrR Prog 263 a1 2 h34).bind fun v35 h36 =>
 (loadR Prog 3 v35 h36).bind fun v37 h38 =>
 (call F.ζ2q [v33,(.int .i64 2),v37] h38).bind fun v39 h40 =>
 (buildSliceR Prog 23 1 [(0,v39)] h40).bind fun v41 h42 =>
 (buildR Prog 179 [(0,v31),(1,v31),(2,v41)] h42).bind fun v43 h44 =>
 (buildSliceR Prog 175 1 [(0,v43)] h44).bind fun v45 h46 =>
 (builtinV Prog .append [175,175] [a3,v45] h46).bind fun v47 h48 =>
 (binR Prog .add 3 a14 (.int .i64 1) h48).bind fun v49 h50 =>
 .ok (.normal,[(1,a1),(3,v47),(12,a12),(13,a13),(14,v49)]) h50)
 (
 .ok ((.exit 0),[(1,a1),(3,a3),(12,a12),(13,a13),(14,a14),(15,v19)]) h20) :=
 (loopB_eq _ _).trans (by kernel_rfl)
theorem ζ7k (k:Nat) (call:Caller) (a1 a3 a12 a13 a14 a15:Value) (h:Heap):ζ59 k call (.exit 0) [(1,a1),(3,a3),(12,a12),(13,a13),(14,a14),(15,a15)] h =
 .ok a3 h:=by kernel_rfl
def ζ1y (k:Nat) (call:Caller) (a0 a1 a2:Value) (h:Heap):Res Value :=
 (boxR a0 h).bind fun v1 h2 =>
 (fieldAddrR Prog 263 v1 0 h2).bindN fun v3 h4 =>
 (loadR Prog 75 v3 h4).bindN fun v5 h6 =>
 (call F.ζb [v5,a1] h6).bindT (fun p9 h10 => (fieldAddrR Prog 263 v1 0 h6).bindN fun v11 h12 => (loadR Prog 75 v11 h12).bindN fun v13 h14 => (binR Prog .add 3 a1 (.int .i64 2) h14).bindN fun v15 h16 => chkR ((okVal (loadR Prog 75 v11 h2) v13 && true) && true) (.panic p9 h10)) fun v7 h8 =>
 (fieldAddrR Prog 263 v1 0 h8).bindN fun v17 h18 =>
 (loadR Prog 75 v17 h18).bindN fun v19 h20 =>
 (binR Prog .add 3 a1 (.int .i64 2) h20).bindN fun v21 h22 =>
 (call F.ζb [v19,v21] h22).bindT (fun p25 h26 => chkR ((okVal (loadR Prog 75 v17 h2) v19 && true) && true) (.panic p25 h26)) fun v23 h24 =>
 chkR ((okVal (loadR Prog 75 v17 h2) v19 && true) && true) (
 (binR Prog .add 3 v7 v23 h24).bind fun v27 h28 =>
 (binR Prog .leq 3 v27 (.int .i64 65536) h28).bind fun v29 h30 =>
 (call F.ζ35 [v29] h30).bind fun v31 h32 =>
 (fieldAddrR Prog 263 v1 0 h32).bind fun v33 h34 =>
 (loadR Prog 75 v33 h34).bind fun v35 h36 =>
 (binR Prog .add 3 a1 (.int .i64 4) h36).bind fun v37 h38 =>
 (call F.ζ3e [v35,v37,v23,a2] h38).bind fun v39 h40 =>
 (binR Prog .eql 3 v23 (.int .i64 0) h40).bind fun v41 h42 =>
 condV (some v41) (
 .ok (.slice none 0 0) h42)
 (
 (binR Prog .add 3 v7 v23 h42).bind fun v43 h44 =>
 (binR Prog .sub 3 v43 (.int .i64 1) h44).bind fun v45 h46 =>
 (buildR Prog 179 [(0,v7),(1,v45),(2,v39)] h46).bind fun v47 h48 =>
 (buildSliceR Prog 175 1 [(0,v47)] h48).bind fun v49 h50 =>
 .ok v49 h50))
theorem ζ9z (k:Nat) (a0 a1 a2:Value) (h:Heap):R (T k) F.ζ1y [a0,a1,a2] h = nrm .fz h (ζ1y k (R (T k)) a0 a1 a2 h) :=
 (R_body (t:=T k) (T_scott k) (by kernel_rfl) (by kernel_rfl) _ _).trans (by kernel_rfl)
def ζ2q (k:Nat) (call:Caller) (a0 a1 a2:Value) (h:Heap):Res Value :=
 (boxR a0 h).bind fun v1 h2 =>
 (binR Prog .eql 3 a2 (.int .i64 1) h2).bind fun v3 h4 =>
 condV (some v3) (
 (loadR Prog 75 v1 h4).bind fun v5 h6 =>
 (call F.ζ4r [v5,a1] h6).bind fun v7 h8 =>
 .ok v7 h8)
 (
 (binR Prog .eql 3 a2 (.int .i64 2) h4).bind fun v9 h10 =>
 condV (some v9) (
 (loadR Prog 75 v1 h10).bind fun v11 h12 =>
 (call F.ζb [v11,a1] h12).bind fun v13 h14 =>
 .ok v13 h14)
 (
 (loadR Prog 75 v1 h10).bind fun v15 h16 =>
 (call F.ζ17 [v15,a1] h16).bind fun v17 h18 =>
 .ok v17 h18))
theorem ζn1 (k:Nat) (a0 a1 a2:Value) (h:Heap):R (T k) F.ζ2q [a0,a1,a2] h = nrm .gc h (ζ2q k (R (T k)) a0 a1 a2 h) :=
 (R_body (t:=T k) (T_scott k) (by kernel_rfl) (by kernel_rfl) _ _).trans (by kernel_rfl)
end
end Go.Sw
end
section
namespace Go.Sw
open Go.RowKit
theorem ζji (k:Nat) {H:Heap} {v:Value} {b:List Int} (hv:Sl H 1 v encB b) (hb:Byt b) (i z:Int) (hz:z = 1 ∨ z = 2 ∨ z = 4) (hl:b.length < 2 ^ 62):R (T k) F.ζ2q [.agg #[v],.int .i64 i,.int .i64 z] H = orF (uS b i z) (.int .i64) H:=by
 rw [ζn1];have hx:Ext H (H.push ⟨[v],1,false⟩):=(Ext.refl H).push _;refine gc_orF ?_ fun _ _ => .int _ _;rcases hz with rfl | rfl | rfl
 ·simp -implicitDefEqProofs [ζ2q];exact Cp.callL (U8_run k (hv.up hx) hb i hl) hx fun n hn => .ok hx rfl
 ·simp -implicitDefEqProofs [ζ2q];exact Cp.callL (U16_run k (hv.up hx) hb i hl) hx fun n hn => .ok hx rfl
 ·simp -implicitDefEqProofs [ζ2q];exact Cp.callL (U32_run k (hv.up hx) hb i hl) hx fun n hn => .ok hx rfl
theorem repeat_I:∀ n,repeatCells [Value.int .i64 0] n = rows encI (List.replicate n 0)
 | 0 => rfl
 | n + 1 => by
  have:=repeat_I n;simp only [repeatCells,List.replicate_succ] at this ⊢;simp [rows,this]
theorem uS_cut {r:List Int} {z n j:Nat} (hr:r.length = n * z) (hj:j < n):uS r ((z:Int) * j) z = some (num ((r.drop (z * j)).take z)):=by
 have:z * j + z ≤ r.length:=by
  rw [hr,← Nat.mul_succ,Nat.mul_comm];exact Nat.mul_le_mul_right _ hj
 have e1:((z:Int) * j) = ((z * j:Nat):Int):=by simp
 unfold uS;rw [e1,pieceS,if_pos (by omega),Int.toNat_natCast,Int.toNat_natCast];rfl
theorem list_run (k:Nat) {H:Heap} {v:Value} {b:List Int} (hv:Sl H 1 v encB b) (hb:Byt b) (i n z:Int) (hz:z = 1 ∨ z = 2 ∨ z = 4) (hl:b.length < 2 ^ 31):R (T k) F.ζ3e [.agg #[v],.int .i64 i,.int .i64 n,.int .i64 z] H = orF (listS b i n z) (lv encI) H:=by
 rw [ζpl];have hx1:Ext H (H.push ⟨[v],1,false⟩):=(Ext.refl H).push _;refine fz_orF ?_ fun _ _ => (Flat.I _).alive;simp -implicitDefEqProofs [ζ3e];unfold listS;refine Cp.callM (Rows_run k (hv.up hx1) i n z (by omega)) hx1 fun r hr => ?_;have hn:=rowsS_n hr;have hp:=ζ2y hr;have hs:=ζ4b hv hp;have hrb:=(hb.piece hp).1;have hrl:=ζ45 hp;obtain ⟨n,rfl⟩:=Int.eq_ofNat_of_zero_le hn.1;obtain ⟨z,rfl⟩:=Int.eq_ofNat_of_zero_le hn.2.1;have hrl:r.length = n * z:=by exact_mod_cast hrl
 have hnl:n ≤ 2 ^ 31:=by
  have h1:n * 1 ≤ n * z:=Nat.mul_le_mul_left n (by omega);have h2:(n:Int) * z ≤ b.length:=by omega
  have h3:n * z ≤ b.length:=by exact_mod_cast h2
  omega
 simp only [Int.toNat_natCast];generalize subV 1 v i.toNat ((n:Int) * z).toNat = rv at hs;have hx2:Ext H ((H.push ⟨[v],1,false⟩).push ⟨[rv],1,false⟩):=hx1.push _
 obtain ⟨x,e',H1,hr',rfl,rfl,ho,hx⟩:=loop_up (body:=ζ8n k (R (T k))) n
  (fun j e H' => e = [(3,.int .i64 z),(9,.pointer (some ⟨H.n + 1,0,none⟩)),(10,.slice (some ⟨H.n + 2,0,none⟩) n n),(20,.int .i64 n),(21,.int .i64 j)] ∧
   Own H H' 1 (.slice (some ⟨H.n + 2,0,none⟩) n n) encI (((cutRows r z n).map num).take j ++ List.replicate (n - j) 0) ∧ Ext H H' ∧ H'.get (H.n + 1) = some ⟨[rv],1,false⟩)
  (fun x e H' => x = .exit 0 ∧ e = [(3,.int .i64 z),(9,.pointer (some ⟨H.n + 1,0,none⟩)),(10,.slice (some ⟨H.n + 2,0,none⟩) n n),(20,.int .i64 n),(21,.int .i64 n),(22,.bool false)] ∧
   Own H H' 1 (.slice (some ⟨H.n + 2,0,none⟩) n n) encI ((cutRows r z n).map num) ∧ Ext H H')
  (e0:=[(3,.int .i64 z),(9,.pointer (some ⟨H.n + 1,0,none⟩)),(10,.slice (some ⟨H.n + 2,0,none⟩) n n),(20,.int .i64 n),(21,.int .i64 0)])
  (H0:=((H.push ⟨[v],1,false⟩).push ⟨[rv],1,false⟩).push ⟨repeatCells [Value.int .i64 0] n,1,false⟩)
  ⟨rfl,.inr ⟨H.n + 2,by simp,by omega,by rw [ζc _ _ _ (by simp),repeat_I]; simp⟩,hx2.push _,by rw [ζ13 _ _ _ (by simp),ζc _ _ _ (by simp)]⟩ (by omega)
  (fun j e H' hj ⟨he,ho,hx,hg⟩ => by
   subst he;have hlt:(j:Int) < n:=by omega
   have hnum:=ζji k (hs.up hx) hrb ((z:Int) * j) z hz (by omega);rw [uS_cut hrl hj,orF_some] at hnum;have hz4:(z:Int) * j ≤ 4 * 2147483648:=Int.mul_le_mul (by omega) (by omega) (by omega) (by omega);have hz0:0 ≤ (z:Int) * j:=Int.mul_nonneg (by omega) (by omega);have hlen:((cutRows r z n).map num).length = n:=by simp
   have hy:((cutRows r z n).map num)[j]? = some (num ((r.drop (z * j)).take z)):=by rw [List.getElem?_map,ζ86 _ _ _ _ hj]; rfl
   obtain ⟨b,H2,e1,h1,h2,h3,h4,h5,h6⟩:=ho.set encI_len j 0 1 0 (num ((r.drop (z * j)).take z)) (.int .i64 (num ((r.drop (z * j)).take z))) (fill_get _ _ hlen hj) rfl rfl (by decide) rfl;rw [ζqy _ _ hlen hj _ hy] at h4;simp at e1;obtain ⟨rfl,_⟩:=e1;generalize num ((r.drop (z * j)).take z) = y at hnum h3 h4;have hx':Ext H H2:=⟨by rw [h6]; exact hx.n,fun c hc hs => by rw [h5 c (by omega)]; exact hx.2 c hc hs⟩
   refine .inl ⟨_,H2,?_,rfl,h4,hx',by rw [h5 _ (by omega)]; exact hg⟩;simp only [Nat.add_zero,Nat.mul_one] at h3;rw [ζ9v];simp -implicitDefEqProofs (disch:=omega) [-stR_ptr,hlt,hg,hnum,ζgp,h3])
  (fun e H' ⟨he,ho,hx,hg⟩ => by
   subst he;refine ⟨.exit 0,_,H',?_,by simp,rfl,rfl,by simpa [List.take_of_length_le] using ho,hx⟩;rw [ζ9v];simp -implicitDefEqProofs)
 obtain ⟨L,hf⟩:=ho.freeze encI_len (ζeo _) 6;simp -implicitDefEqProofs (disch:=omega) [mkR_nat,hr',ζfs];exact .ok hx ⟨L,hf⟩
end Go.Sw
end
section
namespace Go.Sw
open Go.RowKit
abbrev encPt (p:Pt):List Value:=[.int .i64 p.first,.int .i64 p.last,lv encI p.vals]
theorem ζds (p:Pt):(encPt p).length = 3:=rfl
theorem ζrq (l:List Pt):∀ p,p ∈ l → Flats (encPt p):=fun _ _ => .cons (.int _ _) (.cons (.int _ _) (.cons (Flat.I _) .nil))
theorem Flat.Pts (l:List Pt):Flat (Go.Sw.lv encPt l):=.lv (ζrq l)
theorem ζne (l:List Pt):∀ p,p ∈ l → ∀ v,v ∈ encPt p → Still v:=fun p _ v hv => by
 simp [encPt] at hv;rcases hv with rfl | rfl | rfl <;> trivial
theorem rd_vw {H:Heap} {v:Value} {b:List Int} (hv:Sl H 1 v encB b):Go.Sw.veq v v = true:=hv.veq fun n _ u hu => by simp at hu; subst hu; simp
theorem ζo0 (k:Nat) {H:Heap} {v:Value} {b:List Int} (hv:Sl H 1 v encB b) (hb:Byt b) (g z0:Value) (i z:Int) (hz:z = 1 ∨ z = 2 ∨ z = 4) (hl:b.length < 2 ^ 31) (hi:0 ≤ i ∧ i ≤ 4) :
  R (T k) F.ζ1y [.agg #[v,g,z0],.int .i64 i,.int .i64 z] H = orF (trimS b i z) (lv encPt) H:=by
 rw [ζ9z];have hx:Ext H (H.push ⟨[v,g,z0],1,false⟩):=(Ext.refl H).push _;have hq:=rd_vw hv;have hqa:veq (.agg #[v]) (.agg #[v]) = true:=veq_agg (l:=[v]) fun u hu => by simp at hu; subst hu; exact hq
 refine fz_orF ?_ fun _ _ => (Flat.Pts _).alive;simp -implicitDefEqProofs [ζ1y];unfold trimS;refine Cp.callT (U16_run k (hv.up hx) hb i (by omega)) (fun _ => ⟨_,by simp -implicitDefEqProofs (disch:=omega) [hqa],hx⟩) fun f hf => ?_;have hf:=uS_two hb hf;simp -implicitDefEqProofs (disch:=omega);refine Cp.callT (U16_run k (hv.up hx) hb (i + 2) (by omega)) (fun _ => ⟨_,by simp -implicitDefEqProofs (disch:=omega) [hqa],hx⟩) fun n hn => ?_;have hn:=uS_two hb hn;simp -implicitDefEqProofs (disch:=omega) [hqa];refine Cp.need hx fun hfn => ?_;simp -implicitDefEqProofs (disch:=omega);refine Cp.callM (list_run k (hv.up hx) hb (i + 4) n z hz hl) hx fun vs hvs => ?_;by_cases h0:n = 0
 ·subst h0;simp -implicitDefEqProofs;exact .ok hx ⟨_,rfl⟩
 ·have h0':(n == 0) = false:=by simpa using h0
  simp -implicitDefEqProofs (disch:=omega) [h0,h0'];refine .ok (hx.push _) ?_;exact Own.freeze (l:=[⟨f,f + n - 1,vs⟩]) ζds (.inr ⟨H.n + 1,rfl,by omega,by rw [ζc _ _ _ (by simp)]; rfl⟩) (ζne _) 6
def encPR (x:Pt × Value):List Value:=[.int .i64 x.1.first,.int .i64 x.1.last,x.2]
theorem ζqw (x:Pt × Value):(encPR x).length = 3:=rfl
def InnerOk (H0 H:Heap) (x:Pt × Value):Prop:=x.2 = lv encI x.1.vals ∨ ∃ b,x.2 = .slice (some ⟨b,0,none⟩) x.1.vals.length x.1.vals.length ∧ H0.n ≤ b ∧ H.get b = some ⟨rows encI x.1.vals,1,false⟩
def PtsOwn (H0 H:Heap) (s:Value) (ps:List Pt):Prop:=∃ l:List (Pt × Value),l.map Prod.fst = ps ∧ Own H0 H 3 s encPR l ∧ ∀ x,x ∈ l → InnerOk H0 H x
theorem InnerOk.keep {H0 H H':Heap} {x:Pt × Value} (h:InnerOk H0 H x) (hk:∀ c k,H.get c = some k → k.esz ≠ 3 → H'.get c = some k):InnerOk H0 H' x:=by
 rcases h with h | ⟨b,h1,h2,h3⟩
 ·exact .inl h
 ·exact .inr ⟨b,h1,h2,hk b _ h3 (by simp)⟩
theorem InnerOk.fz {H0 H:Heap} {x:Pt × Value} (h:InnerOk H0 H x) (d:Nat):∃ L,mapF (fzV H0.n H (d + 2)) (encPR x) = some (encPt x.1,L):=by
 have h2:∃ L,fzV H0.n H (d + 2) x.2 = some (lv encI x.1.vals,L):=by
  rcases h with h | ⟨b,h1,h2,h3⟩
  ·rw [h]; exact ⟨[],rfl⟩
  ·exact Own.freeze encI_len (.inr ⟨b,h1,h2,h3⟩) (ζeo _) d
 obtain ⟨L,hL⟩:=h2;exact ⟨_,ζ4a (v:=.int .i64 x.1.first) (u:=.int .i64 x.1.first) (L1:=[]) rfl (ζ4a (v:=.int .i64 x.1.last) (u:=.int .i64 x.1.last) (L1:=[]) rfl (ζ4a hL (L2:=[]) rfl))⟩
theorem PtsOwn.nil (H0 H:Heap):PtsOwn H0 H (.slice none 0 0) []:=⟨[],rfl,Own.nil _ _ _,fun x h => by simp at h⟩
theorem PtsOwn.keep {H0 H H':Heap} {s:Value} {ps:List Pt} (h:PtsOwn H0 H s ps) (hx:Ext H H'):PtsOwn H0 H' s ps:=by
 obtain ⟨l,h1,h2,h3⟩:=h;exact ⟨l,h1,h2.up hx,fun x hm => (h3 x hm).keep fun c k hc _ => hx.get hc⟩
theorem PtsOwn.push {H0 H:Heap} {s:Value} {ps:List Pt} (h:PtsOwn H0 H s ps) (hx:Ext H0 H) (p:Pt) (u:Value) (hi:InnerOk H0 H (p,u)) (hl:ps.length < 2 ^ 31) :
  ∃ s' H',apR 3 40 s (.slice (some ⟨H.n,0,none⟩) 1 1) (H.push ⟨[.int .i64 p.first,.int .i64 p.last,u],3,false⟩) = .ok s' H' ∧ PtsOwn H0 H' s' (ps ++ [p]) ∧ Ext H0 H' ∧ ∀ c k,H.get c = some k → k.esz ≠ 3 → H'.get c = some k:=by
 obtain ⟨l,h1,h2,h3⟩:=h;subst h1;obtain ⟨s',H',e1,e2,e3,e4⟩:=apR_own (bytes:=40) ζqw (b:=.slice (some ⟨H.n,0,none⟩) 1 1) (l2:=[(p,u)]) (h2.up ((Ext.refl H).push ⟨encPR (p,u),3,false⟩)) (hx.push _) rfl (by
  unfold firstV;dsimp only;rw [if_neg (by simp),ζ85,ζc H ⟨encPR (p,u),3,false⟩ H.n rfl];rfl) (by simp at hl ⊢; omega) (by decide)
 have hk:∀ c k,H.get c = some k → k.esz ≠ 3 → H'.get c = some k:=fun c k hc hne => by
  have hlt:=Heap.get_lt hc;rw [e4 c (by simp; omega) fun o n m hs => ?_]
  ·rw [ζ13 _ _ _ hlt]; exact hc
  ·rcases h2 with ⟨_,h | h | h⟩ | ⟨b,h,_,hb⟩
   ·rw [h] at hs; simp at hs
   ·rw [h] at hs; simp [bareV] at hs
   ·rw [h] at hs; simp [emptyV] at hs
   ·rw [h] at hs;simp at hs;obtain ⟨⟨rfl,_⟩,_⟩:=hs;rw [hb] at hc;injection hc with hc;subst hc;exact hne rfl
 refine ⟨s',H',e1,⟨l ++ [(p,u)],by simp,e2,fun x hm => ?_⟩,e3,hk⟩;rcases List.mem_append.1 hm with hm | hm
 ·exact (h3 x hm).keep hk
 ·simp at hm;subst hm;exact hi.keep hk
theorem rows_fst (l:List (Pt × Value)):rows (fun x:Pt × Value => encPt x.1) l = rows encPt (l.map Prod.fst):=by
 induction l with
 | nil => rfl
 | cons x l ih => rw [List.map_cons,ζ4m,ζ4m,ih]
theorem PtsOwn.freeze {H0 H:Heap} {s:Value} {ps:List Pt} (h:PtsOwn H0 H s ps) (d:Nat):∃ L,fzV H0.n H (d + 3) s = some (lv encPt ps,L):=by
 obtain ⟨l,h1,h2,h3⟩:=h;subst h1;obtain ⟨L,hL⟩:=h2.freezeG (enc':=fun x:Pt × Value => encPt x.1) ζqw (d + 1) fun x hm => (h3 x hm).fz d;refine ⟨L,hL.trans ?_⟩;unfold lv;rw [rows_fst];simp
theorem ζrf {H:Heap} {v:Value} {b:List Int} (hv:Sl H 1 v encB b) {i need:Int} {keys:Nat} {rows:List (List Int)} (h:takeS b i need keys = some rows) {j:Nat} {row:List Int} (hj:rows[j]? = some row) :
  ∃ u,(cutV (rowsV v b i) (rowZ b i) rows.length)[j]? = some u ∧ Sl H 1 u encB row:=by
 have hlt:=(List.getElem?_eq_some_iff.1 hj).1;refine ⟨_,cutV_get _ _ _ _ hlt,?_⟩;unfold takeS at h;split at h
 ·rename_i z n h1 h2;split at h
  ·rename_i hc;obtain ⟨r,hr,rfl⟩:=Option.map_eq_some_iff.1 h;have hn:=rowsS_n hr;have hrl:(r.length:Int) = n * z:=ζ45 (ζ2y hr);have hsl:=ζ4b hv (ζ2y hr);obtain ⟨z,rfl⟩:=Int.eq_ofNat_of_zero_le hn.2.1;obtain ⟨n,rfl⟩:=Int.eq_ofNat_of_zero_le hn.1;have hrl:r.length = n * z:=by exact_mod_cast hrl
   have e1:rowsV v b i = subV 1 v (i + 10).toNat ((n:Int) * z).toNat:=by unfold rowsV; rw [h1,h2]; rfl
   have e2:rowZ b i = z:=by unfold rowZ; rw [h1]; simp
   rw [e1,e2];simp only [Int.toNat_natCast] at hj hlt;have hm:(cutRows r z n)[j]? = some row:=by
    unfold endRows at hj;split at hj
    ·have hlt2:=(List.getElem?_eq_some_iff.1 hj).1;simp at hlt2;rw [ζ86 _ _ _ _ hlt2] at hj;rw [ζ86 _ _ _ _ (by omega)];exact hj
    ·exact hj
   have hlt2:=(List.getElem?_eq_some_iff.1 hm).1;simp at hlt2;rw [ζ86 _ _ _ _ hlt2] at hm;injection hm with hm;subst hm;exact cutV_sl hsl z n j hrl hlt2
  ·cases h
 ·cases h
theorem ζtn (k:Nat) {H:Heap} {v:Value} {b:List Int} (hv:Sl H 1 v encB b) (hb:Byt b) (g:Value) (z:Int) (hz:z = 2 ∨ z = 4) (hl:b.length < 2 ^ 31) :
  R (T k) F.ζ19 [.agg #[v,g,.int .i64 z]] H = orF (oneS b z) (lv encPt) H:=by
 rw [ζd5];have hx:Ext H (H.push ⟨[v,g,.int .i64 z],1,false⟩):=(Ext.refl H).push _;refine fz_orF ?_ fun _ _ => (Flat.Pts _).alive;simp -implicitDefEqProofs (disch:=omega) [ζ19];unfold oneS;refine Cp.call (Take_run k (hv.up hx) hb 2 (2 + z) 1 hl (by omega) (by omega) (by omega)) hx fun rows hrows => ?_;obtain ⟨zr,nr,hz1,hn1,hneed,hlen,hrow⟩:=ζ5i hb hrows;have hnr:=uS_two hb hn1;have hzr:=uS_two hb hz1;have htk:=fun H' (hx':Ext H H') j row (hj:rows[j]? = some row) => ζrf (hv.up hx') hrows hj;have hll:(cutV (rowsV v b 2) (rowZ b 2) rows.length).length = rows.length:=by simp
 generalize cutV (rowsV v b 2) (rowZ b 2) rows.length = us at htk hll;simp -implicitDefEqProofs (disch:=omega) [hll]
 refine Cp.bindL (Cp.mapLoop (oneP z) rows
  (fun i acc e H' => ∃ s,e = [(1,.pointer (some ⟨H.n,0,none⟩)),(3,s),(12,lv encW us),(13,.int .i64 rows.length),(14,.int .i64 i)] ∧ PtsOwn H H' s acc ∧ H'.get H.n = some ⟨[v,g,.int .i64 z],1,false⟩)
  (fun acc x e H' => x = .exit 0 ∧ ∃ s,e = [(1,.pointer (some ⟨H.n,0,none⟩)),(3,s),(12,lv encW us),(13,.int .i64 rows.length),(14,.int .i64 rows.length),(15,.bool false)] ∧ PtsOwn H H' s acc)
  (by omega) hx ⟨_,rfl,PtsOwn.nil _ _,ζc _ _ _ rfl⟩ ?_ ?_) ?_
 ·intro i row acc e H' hi ha hx' ⟨s,he,ho,hg⟩;subst he;have hilt:=(List.getElem?_eq_some_iff.1 hi).1;have hlt:(i:Int) < rows.length:=by omega
  obtain ⟨u,hu,hsu⟩:=htk H' hx' i row hi;have hrb:=hrow row (List.mem_of_getElem? hi);have hgn:H.n < H'.n:=Heap.get_lt hg;have hne:¬ H.n = H'.n:=by omega
  have hx1:Ext H' (H'.push ⟨[u],1,false⟩):=(Ext.refl H').push _;have hst:=hsu.storable;have hce:=hsu.cells;rw [ζ4f];simp -implicitDefEqProofs (disch:=omega) [hlt,ixS_lvN encW_len us .i64 i u hu];unfold oneP;refine Cp.call (U16_run k (hsu.up hx1) hrb.1 0 (by omega)) (hx'.trans hx1) fun id hid => ?_;simp -implicitDefEqProofs (disch:=omega) [hg,hne];refine Cp.callM (ζji k (hsu.up hx1) hrb.1 2 z (by omega) (by omega)) (hx'.trans hx1) fun n hn => ?_;have hx2:Ext H' ((H'.push ⟨[u],1,false⟩).push ⟨[.int .i64 n],1,false⟩):=hx1.push _;obtain ⟨s',H2,e1,e2,e3,e4⟩:=(ho.keep hx2).push (hx'.trans hx2) ⟨id,id,[n]⟩ (.slice (some ⟨H'.n + 1,0,none⟩) 1 1) (.inr ⟨H'.n + 1,rfl,by omega,by rw [ζc _ _ _ (by simp)]; rfl⟩) (by omega);simp at e1;simp -implicitDefEqProofs (disch:=omega) [e1];exact .ok e3 ⟨rfl,s',rfl,e2,e4 _ _ (hx2.get hg) (by simp)⟩
 ·intro acc e H' ha hx' ⟨s,he,ho,_⟩;subst he;refine ⟨.exit 0,_,H',?_,by simp,hx',rfl,s,rfl,ho⟩;rw [ζ4f];simp -implicitDefEqProofs
 ·rintro acc ⟨x,e⟩ H' _ hx' ⟨rfl,s,rfl,ho⟩;simp only [ζ7k];exact .ok hx' (ho.freeze 5)
end Go.Sw
end
section
namespace Go.Sw
open Go.RowKit
set_option maxHeartbeats 1000000 in
theorem seg_step (k:Nat) {H H':Heap} {v:Value} {b:List Int} (hv:Sl H 1 v encB b) (hb:Byt b) (g:Value) (z:Int) (hz:z = 2 ∨ z = 4) (each:Bool) (hl:b.length < 2 ^ 31)
  (us:List Value) (n i:Nat) (row:List Int) (u:Value) (acc:List Pt) (s:Value) (hi:i < n) (hn31:n < 2 ^ 31) (hu:us[i]? = some u) (hn:acc.length < 2 ^ 31) (ho:PtsOwn H H' s acc) (hx':Ext H H') (hg:H'.get H.n = some ⟨[v,g,.int .i64 z],1,false⟩)
  (hsu:Sl H' 1 u encB row) (hrb:Byt row) (hrl:row.length < 65536) (hr4:each = false → 4 + z ≤ row.length) :
  Cp failV (Ext H) (ζ25 k (R (T k)) [(1,.bool each),(2,.pointer (some ⟨H.n,0,none⟩)),(6,s),(17,lv encW us),(18,.int .i64 n),(19,.int .i64 i)] H') (segP b z each row)
   fun y xe H' => xe.1 = .normal ∧ ∃ s,xe.2 = [(1,.bool each),(2,.pointer (some ⟨H.n,0,none⟩)),(6,s),(17,lv encW us),(18,.int .i64 n),(19,.int .i64 (i + 1:Nat))] ∧ PtsOwn H H' s (acc ++ [y]) ∧ H'.get H.n = some ⟨[v,g,.int .i64 z],1,false⟩:=by
 have hlt:(i:Int) < n:=by omega
 have hqv:=rd_vw hv;have hgn:H.n < H'.n:=Heap.get_lt hg;have hne:¬ H.n = H'.n:=by omega
 have hne1:¬ H.n = H'.n + 1:=by omega
 have hx1:Ext H' (H'.push ⟨[u],1,false⟩):=(Ext.refl H').push _;have hst:=hsu.storable;have hce:=hsu.cells;have hqu:=rd_vw hsu;have hqa:veq (.agg #[u]) (.agg #[u]) = true:=veq_agg (l:=[u]) fun w hw => by simp at hw; subst hw; exact hqu
 have hqb:veq (.agg #[v]) (.agg #[v]) = true:=veq_agg (l:=[v]) fun w hw => by simp at hw; subst hw; exact hqv
 rw [ζ44];simp -implicitDefEqProofs (disch:=omega) [hlt,ixS_lvN encW_len us .i64 i u hu];unfold segP;refine Cp.callT (U16_run k (hsu.up hx1) hrb 2 (by omega)) (fun _ => ⟨_,by simp -implicitDefEqProofs (disch:=omega) [hqa],hx'.trans hx1⟩) fun f hf => ?_;have hf:=uS_two hrb hf;simp -implicitDefEqProofs (disch:=omega);refine Cp.callT (U16_run k (hsu.up hx1) hrb 0 (by omega)) (fun _ => ⟨_,by simp -implicitDefEqProofs (disch:=omega) [hqa],hx'.trans hx1⟩) fun l hl' => ?_;have hl':=uS_two hrb hl';simp -implicitDefEqProofs (disch:=omega) [hqa];have hx2:Ext H' ((H'.push ⟨[u],1,false⟩).push ⟨[.int .i64 f,.int .i64 l,.slice none 0 0],1,false⟩):=hx1.push _;refine Cp.need (hx'.trans hx2) fun hfl => ?_;cases each with
 | true =>
  simp -implicitDefEqProofs (disch:=omega) [hg,hne,hne1];refine Cp.callT (U16_run k (hsu.up hx2) hrb 4 (by omega)) (fun _ => ⟨_,by simp -implicitDefEqProofs (disch:=omega) [hg,hne,hne1],hx'.trans hx2⟩) fun at4 hat => ?_;have hat:=uS_two hrb hat;simp -implicitDefEqProofs (disch:=omega) [hg,hne,hne1];refine Cp.callTM (list_run k (hv.up (hx'.trans hx2)) hb at4 (l - f + 1) z (by omega) hl) (fun _ => ⟨_,by simp -implicitDefEqProofs (disch:=omega) [hqb,hg,hne,hne1],hx'.trans hx2⟩) fun vs hvs => ?_;have hx3:Ext H' ((H'.push ⟨[u],1,false⟩).push ⟨[.int .i64 f,.int .i64 l,lv encI vs],1,false⟩):=hx1.push _;obtain ⟨s',H2,e1,e2,e3,e4⟩:=(ho.keep hx3).push (hx'.trans hx3) ⟨f,l,vs⟩ (lv encI vs) (.inl rfl) (by omega);simp at e1;simp -implicitDefEqProofs (disch:=omega) [hqb,hg,hne,hne1,ζ43,e1];exact .ok e3 ⟨rfl,s',rfl,e2,e4 _ _ (hx3.get hg) (by simp)⟩
 | false =>
  simp -implicitDefEqProofs (disch:=omega) [hg,hne,hne1];refine Cp.callM (ζji k (hsu.up hx2) hrb 4 z (by omega) (by omega)) (hx'.trans hx2) fun n hn => ?_;have hx3:Ext H' (((H'.push ⟨[u],1,false⟩).push ⟨[.int .i64 f,.int .i64 l,.slice (some ⟨H'.n + 2,0,none⟩) 1 1],1,false⟩).push ⟨[.int .i64 n],1,false⟩):=(hx1.push _).push _;obtain ⟨s',H2,e1,e2,e3,e4⟩:=(ho.keep hx3).push (hx'.trans hx3) ⟨f,l,[n]⟩ (.slice (some ⟨H'.n + 2,0,none⟩) 1 1) (.inr ⟨H'.n + 2,rfl,by omega,by rw [ζc _ _ _ (by simp)]; rfl⟩) (by omega);simp at e1;simp -implicitDefEqProofs (disch:=omega) [ζ43,e1];exact .ok e3 ⟨rfl,s',rfl,e2,e4 _ _ (hx3.get hg) (by simp)⟩
theorem ζjw (k:Nat) {H:Heap} {v:Value} {b:List Int} (hv:Sl H 1 v encB b) (hb:Byt b) (g:Value) (z:Int) (hz:z = 2 ∨ z = 4) (each:Bool) (hl:b.length < 2 ^ 31) :
  R (T k) F.ζ5 [.agg #[v,g,.int .i64 z],.bool each] H = orF (segS b z each) (lv encPt) H:=by
 rw [ζ8o];have hx:Ext H (H.push ⟨[v,g,.int .i64 z],1,false⟩):=(Ext.refl H).push _;have hqv:=rd_vw hv;refine fz_orF ?_ fun _ _ => (Flat.Pts _).alive;unfold segS;obtain ⟨need,hneed⟩:∃ need:Int,need = if each then 6 else 4 + z:=⟨_,rfl⟩
 have hnd:6 ≤ need:=by rw [hneed]; split <;> omega
 have hnd2:each = false → need = 4 + z:=fun h => by rw [hneed,h]; rfl
 rw [← hneed]
 have main:∀ rows,takeS b 2 need 2 = some rows →
   Cp failV (Ext H) ((loopN (ζ25 k (R (T k))) loopFuel [(1,.bool each),(2,.pointer (some ⟨H.n,0,none⟩)),(6,.slice none 0 0),(17,lv encW (cutV (rowsV v b 2) (rowZ b 2) rows.length)),(18,.int .i64 rows.length),(19,.int .i64 0)] (H.push ⟨[v,g,.int .i64 z],1,false⟩)).bind fun r h => ζ2i k (R (T k)) r.1 r.2 h)
    (mapO (segP b z each) rows) fun b v H' => ∃ L,fzV H.n H' fzDepth v = some (lv encPt b,L):=by
  intro rows hrows;obtain ⟨zr,nr,hz1,hn1,hneed,hlen,hrow⟩:=ζ5i hb hrows;have hnr:=uS_two hb hn1;have hzr:=uS_two hb hz1;have htk:=fun H' (hx':Ext H H') j row (hj:rows[j]? = some row) => ζrf (hv.up hx') hrows hj;have hll:(cutV (rowsV v b 2) (rowZ b 2) rows.length).length = rows.length:=by simp
  generalize cutV (rowsV v b 2) (rowZ b 2) rows.length = us at htk hll
  refine Cp.bindL (Cp.mapLoop (segP b z each) rows
   (fun i acc e H' => ∃ s,e = [(1,.bool each),(2,.pointer (some ⟨H.n,0,none⟩)),(6,s),(17,lv encW us),(18,.int .i64 rows.length),(19,.int .i64 i)] ∧ PtsOwn H H' s acc ∧ H'.get H.n = some ⟨[v,g,.int .i64 z],1,false⟩)
   (fun acc x e H' => x = .exit 0 ∧ ∃ s,e = [(1,.bool each),(2,.pointer (some ⟨H.n,0,none⟩)),(6,s),(17,lv encW us),(18,.int .i64 rows.length),(19,.int .i64 rows.length),(20,.bool false)] ∧ PtsOwn H H' s acc)
   (by omega) hx ⟨_,rfl,PtsOwn.nil _ _,ζc _ _ _ rfl⟩ ?_ ?_) ?_
  ·intro i row acc e H' hi ha hx' ⟨s,he,ho,hg⟩;subst he;have hilt:=(List.getElem?_eq_some_iff.1 hi).1;obtain ⟨u,hu,hsu⟩:=htk H' hx' i row hi;have hrb:=hrow row (List.mem_of_getElem? hi);exact seg_step k hv hb g z hz each hl us rows.length i row u acc s hilt (by omega) hu (by omega) ho hx' hg hsu hrb.1 (by omega) (fun h => by have:=hnd2 h; omega)
  ·intro acc e H' ha hx' ⟨s,he,ho,_⟩;subst he;refine ⟨.exit 0,_,H',?_,by simp,hx',rfl,s,rfl,ho⟩;rw [ζ44];simp -implicitDefEqProofs
  ·rintro acc ⟨x,e⟩ H' _ hx' ⟨rfl,s,rfl,ho⟩;simp only [ζ6n];exact .ok hx' (ho.freeze 5)
 cases each with
 | true =>
  simp -implicitDefEqProofs (disch:=omega) [ζ5,ζ6z];have:need = 6:=hneed;subst this;refine Cp.call (Take_run k (hv.up hx) hb 2 6 2 hl (by omega) (by omega) (by omega)) hx fun rows hrows => ?_;have:=main rows hrows;simp -implicitDefEqProofs (disch:=omega);simpa using this
 | false =>
  simp -implicitDefEqProofs (disch:=omega) [ζ5,ζ70];have:=hnd2 rfl;subst this;refine Cp.call (Take_run k (hv.up hx) hb 2 (4 + z) 2 hl (by omega) (by omega) (by omega)) hx fun rows hrows => ?_;have:=main rows hrows;simp -implicitDefEqProofs (disch:=omega);simpa using this
end Go.Sw
end
section
namespace Go.Sw
open Go.RowKit
theorem ζjp:∀ {ps:List Pt},risesS ps = true ↔ ∀ (i:Nat) (p q:Pt),ps[i]? = some p → ps[i + 1]? = some q → p.last < q.first
 | [] => by simp [risesS]
 | [a] => by simp [risesS]
 | a :: b :: l => by
  have ih:=ζjp (ps:=b :: l);simp only [risesS,Bool.and_eq_true,decide_eq_true_eq,ih];constructor
  ·intro ⟨h1,h2⟩ i p q hp hq;cases i with
   | zero => simp at hp hq; subst hp hq; exact h1
   | succ i => exact h2 i p q (by simpa using hp) (by simpa using hq)
  ·intro h;exact ⟨h 0 a b (by simp) (by simp),fun i p q hp hq => h (i + 1) p q (by simpa using hp) (by simpa using hq)⟩
abbrev tabV (x:Int × List Pt):Value:=boxV #[.int .i64 x.1,lv encPt x.2]
theorem Flat.tab (x:Int × List Pt):Flat (tabV x):=.boxV (l:=[.int .i64 x.1,Go.Sw.lv encPt x.2]) (.cons (.int _ _) (.cons (Flat.Pts _) .nil))
theorem take_j1 (k:Nat) {H0 H:Heap} (p:Nat) (fmt:Int) (s:Value) (ps:List Pt) (hp:H0.n ≤ p) (hx:Ext H0 H) (hg:H.get p = some ⟨[.int .i64 fmt,s],1,false⟩) (hlen:ps.length < 2 ^ 31)
  (hs:s = lv encPt ps ∨ ps.length = 1 ∧ ∃ a c,s = .slice a 1 c) (hf:∃ L,fzV H0.n H 7 s = some (lv encPt ps,L)) :
  Cp failV (Ext H0) (ζ2h k (R (T k)) (.pointer (some ⟨p,0,none⟩)) H) (if risesS ps then some (fmt,ps) else none) fun x v H' => ∃ L,fzV H0.n H' fzDepth v = some (tabV x,L):=by
 have hln:∀ H',lnS s H' = .ok (.int .i64 ps.length) H':=fun H' => by
  rcases hs with rfl | ⟨h,a,c,rfl⟩
  ·rfl
  ·rw [h]; rfl
 have hfp:∃ L,fzV H0.n H fzDepth (.pointer (some ⟨p,0,none⟩)) = some (tabV (fmt,ps),L):=by
  obtain ⟨L,hL⟩:=hf;have hlt:Nat.blt p H0.n = false:=by
   cases hb:Nat.blt p H0.n with
   | false => rfl
   | true => have:=Nat.le_of_ble_eq_true hb; omega
  refine ⟨p :: ([] ++ (L ++ [])),?_⟩;show fzV H0.n H 8 _ = _;unfold fzV;dsimp only;rw [hlt,cond_false,hg];show (bif false || !Nat.ble 0 2 then none else (mapF (fzV H0.n H 7) [.int .i64 fmt,s]).map fun r => (boxV r.1.toArray,p :: r.2)) = _;rw [show (false || !Nat.ble 0 2) = false from rfl,cond_false,ζ4a (u:=.int .i64 fmt) (L1:=[]) rfl (ζ4a hL (L2:=[]) rfl)];rfl
 rw [ζgc];obtain ⟨N,hN⟩:∃ N,N = max 1 ps.length:=⟨_,rfl⟩
 rcases loop_upP (body:=ζ8m k (R (T k))) N
  (fun j e H' => 1 ≤ j ∧ H' = H ∧ e = [(8,.pointer (some ⟨p,0,none⟩)),(10,.int .i64 j)] ∧ ∀ (i:Nat) (x y:Pt),i + 1 < j → ps[i]? = some x → ps[i + 1]? = some y → x.last < y.first)
  (fun x e H' => H' = H ∧ x = .exit 1 ∧ (∃ a,e = [(8,.pointer (some ⟨p,0,none⟩)),(10,a),(93,.bool false)]) ∧ risesS ps = true)
  (fun v H' => v = failV ∧ H' = H ∧ risesS ps = false)
  (fun j e H' hj ⟨h1,hH,he,hall⟩ => by
   subst hH he;have hjl:j < ps.length:=by omega
   obtain ⟨y,hy⟩:∃ y,ps[j]? = some y:=⟨_,List.getElem?_eq_getElem hjl⟩
   obtain ⟨x,hx'⟩:∃ x,ps[j - 1]? = some x:=⟨_,List.getElem?_eq_getElem (by omega)⟩
   rcases hs with rfl | ⟨h,_⟩
   rotate_left
   ·omega
   have hlt:(j:Int) < ps.length:=by omega
   have i1:=fun H' => ixS_lvN ζds ps .i64 j y hy H';have i2:=fun H' => ixS_lv ζds ps .i64 ((j:Int) - 1) x (by omega) (by rw [show ((j:Int) - 1).toNat = j - 1 by omega]; exact hx') H';rw [ζ9u];by_cases hxy:x.last < y.first
   ·refine .inl ⟨_,H',by simp -implicitDefEqProofs (disch:=omega) [hg,hlt,i1,i2,hxy,ζgk],by omega,rfl,rfl,fun i a b hi ha hb => ?_⟩;by_cases hij:i + 1 = j
    ·subst hij;simp only [Nat.add_sub_cancel] at hx';rw [hx'] at ha; rw [hy] at hb;injection ha with ha; injection hb with hb;subst ha hb;exact hxy
    ·exact hall i a b (by omega) ha hb
   ·refine .inr (.inr ⟨failV,H',by simp -implicitDefEqProofs (disch:=omega) [hg,hlt,i1,i2,hxy,ζem],rfl,rfl,?_⟩);cases hr:risesS ps with
    | false => rfl
    | true => exact absurd (ζjp.1 hr (j - 1) x y hx' (by rw [show j - 1 + 1 = j by omega]; exact hy)) hxy)
  (fun e H' ⟨h1,hH,he,hall⟩ => by
   subst hH he;have hge:¬ (N:Int) < ps.length:=by omega
   rw [ζ9u];refine .inl ⟨.exit 1,_,H',by simp -implicitDefEqProofs (disch:=omega) [hg,hln,hge],by simp,rfl,rfl,⟨.int .i64 N,rfl⟩,?_⟩;refine ζjp.2 fun i x y hx hy => hall i x y ?_ hx hy;have:=(List.getElem?_eq_some_iff.1 hy).1;omega)
  loopFuel 1 [(8,.pointer (some ⟨p,0,none⟩)),(10,.int .i64 1)] H (by omega) (by unfold loopFuel; omega) ⟨by omega,rfl,rfl,fun i x y h => by omega⟩ with ⟨x,e',H',hr,rfl,rfl,⟨a,rfl⟩,hri⟩ | ⟨v,H',hr,rfl,rfl,hri⟩
 ·rw [hr,hri];simp only [Res.bind_ok,ζfr,if_true];exact .ok hx hfp
 ·rw [hr,hri];exact .throw hx
theorem ζqh (k:Nat) {H:Heap} {v:Value} {b:List Int} (hv:Sl H 1 v encB b) (hb:Byt b) (g z:Int) (hg1:1 ≤ g) (hg2:g ≤ 65535) (hz:z = 2 ∨ z = 4) (hl:b.length < 2 ^ 31) :
  R (T k) F.ζ3d [.agg #[v],.int .i64 g,.int .i64 z] H = orF (lookS b g z) tabV H:=by
 rw [ζpk];have hx0:Ext H (H.push ⟨[v],1,false⟩):=(Ext.refl H).push _;have hx1:Ext H ((H.push ⟨[v],1,false⟩).push ⟨[v,.int .i64 g,.int .i64 z],1,false⟩):=hx0.push _;have hst:=hv.storable;have hce:=hv.cells;refine fz_orF ?_ fun x _ => (Flat.tab x).alive;simp -implicitDefEqProofs (disch:=omega) [ζ3d,hst,hce];unfold lookS;refine Cp.call (U16_run k (hv.up hx1) hb 0 (by omega)) hx1 fun fmt hfmt => ?_;have hfmt:=uS_two hb hfmt;have hx2:Ext H (((H.push ⟨[v],1,false⟩).push ⟨[v,.int .i64 g,.int .i64 z],1,false⟩).push ⟨[.int .i64 fmt,.slice none 0 0],1,false⟩):=hx1.push _;have fin:∀ ps:List Pt,ps.length < 2 ^ 31 → Cp failV (Ext H) (ζ2h k (R (T k)) (.pointer (some ⟨H.n + 2,0,none⟩)) (((H.push ⟨[v],1,false⟩).push ⟨[v,.int .i64 g,.int .i64 z],1,false⟩).push ⟨[.int .i64 fmt,lv encPt ps],1,false⟩)) (if risesS ps then some (fmt,ps) else none) fun x v H' => ∃ L,fzV H.n H' fzDepth v = some (tabV x,L):=fun ps hps =>
  take_j1 k _ fmt _ ps (by omega) (hx1.push _) (ζc _ _ _ (by simp)) hps (.inl rfl) ⟨_,rfl⟩
 by_cases h0:fmt = 0
 ·subst h0;simp -implicitDefEqProofs (disch:=omega);unfold partsS;rw [if_pos rfl,Option.bind_map];refine Cp.call (list_run k (hv.up hx2) hb 2 g z (by omega) hl) hx2 fun vs hvs => ?_;simp -implicitDefEqProofs (disch:=omega);have hx3:Ext H ((((H.push ⟨[v],1,false⟩).push ⟨[v,.int .i64 g,.int .i64 z],1,false⟩).push ⟨[.int .i64 0,.slice (some ⟨H.n + 3,0,none⟩) 1 1],1,false⟩).push ⟨[.int .i64 0,.int .i64 (g - 1),lv encI vs],3,false⟩):=(hx1.push _).push _;refine take_j1 k (H.n + 2) 0 (.slice (some ⟨H.n + 3,0,none⟩) 1 1) [⟨0,g - 1,vs⟩] (by omega) hx3 (by rw [ζ13 _ _ _ (by simp),ζc _ _ _ (by simp)]) (by simp) (.inr ⟨rfl,_,_,rfl⟩) ?_;exact Own.freeze (l:=[⟨0,g - 1,vs⟩]) ζds (.inr ⟨H.n + 3,rfl,by omega,by rw [ζc _ _ _ (by simp)]; rfl⟩) (ζne _) 5
 have h0':(fmt == 0) = false:=by simpa using h0
 have segl:∀ {each ps},segS b z each = some ps → ps.length < 2 ^ 31:=fun {each ps} h => by
  obtain ⟨rows,h1,h2⟩:=Option.bind_eq_some_iff.1 h;obtain ⟨_,n,_,hn,_,hlen,_⟩:=ζ5i hb h1;have:=uS_two hb hn;have:=mapO_len h2;omega
 by_cases h2:fmt = 2
 ·subst h2;simp -implicitDefEqProofs (disch:=omega);unfold partsS;rw [if_neg h0,if_pos rfl];refine Cp.call (ζjw k (hv.up hx2) hb (.int .i64 g) z hz false hl) hx2 fun ps hps => ?_;simp -implicitDefEqProofs (disch:=omega);exact fin ps (segl hps)
 have h2':(fmt == 2) = false:=by simpa using h2
 by_cases h4:fmt = 4
 ·subst h4;simp -implicitDefEqProofs (disch:=omega);unfold partsS;rw [if_neg h0,if_neg h2,if_pos rfl];refine Cp.call (ζjw k (hv.up hx2) hb (.int .i64 g) z hz true hl) hx2 fun ps hps => ?_;simp -implicitDefEqProofs (disch:=omega);exact fin ps (segl hps)
 have h4':(fmt == 4) = false:=by simpa using h4
 by_cases h6:fmt = 6
 ·subst h6;simp -implicitDefEqProofs (disch:=omega);unfold partsS;rw [if_neg h0,if_neg h2,if_neg h4,if_pos rfl];refine Cp.call (ζtn k (hv.up hx2) hb (.int .i64 g) z hz hl) hx2 fun ps hps => ?_;simp -implicitDefEqProofs (disch:=omega);refine fin ps ?_;obtain ⟨rows,h1,h2⟩:=Option.bind_eq_some_iff.1 hps;obtain ⟨_,n,_,hn,_,hlen,_⟩:=ζ5i hb h1;have:=uS_two hb hn;have:=mapO_len h2;omega
 have h6':(fmt == 6) = false:=by simpa using h6
 have triml:∀ {i z ps},trimS b i z = some ps → ps.length < 2 ^ 31:=fun {i z ps} h => by
  obtain ⟨f,_,h⟩:=Option.bind_eq_some_iff.1 h;obtain ⟨n,_,h⟩:=Option.bind_eq_some_iff.1 h;split at h
  ·obtain ⟨vs,_,rfl⟩:=Option.map_eq_some_iff.1 h;split <;> simp
  ·cases h
 by_cases h8:fmt = 8
 ·subst h8;simp -implicitDefEqProofs (disch:=omega);unfold partsS;rw [if_neg h0,if_neg h2,if_neg h4,if_neg h6,if_pos rfl];refine Cp.call (ζo0 k (hv.up hx2) hb (.int .i64 g) (.int .i64 z) 2 z (by omega) hl (by omega)) hx2 fun ps hps => ?_;simp -implicitDefEqProofs (disch:=omega);exact fin ps (triml hps)
 have h8':(fmt == 8) = false:=by simpa using h8
 by_cases h10:fmt = 10
 ·subst h10;simp -implicitDefEqProofs (disch:=omega);unfold partsS;rw [if_neg h0,if_neg h2,if_neg h4,if_neg h6,if_neg h8,if_pos rfl,Option.bind_assoc];refine Cp.call (U16_run k (hv.up hx2) hb 2 (by omega)) hx2 fun u hu => ?_;by_cases hu4:u = 1 ∨ u = 2 ∨ u = 4
  ·rw [if_pos hu4];have hb4:(R (T k) F.ζ35 [.bool true] (((H.push ⟨[v],1,false⟩).push ⟨[v,.int .i64 g,.int .i64 z],1,false⟩).push ⟨[.int .i64 10,.slice none 0 0],1,false⟩)) = .ok (.tuple #[]) _:=ζgk k _;have ht:=fun ps hps => triml (i:=4) (z:=u) (ps:=ps) hps;rcases hu4 with rfl | rfl | rfl <;>
   ·simp -implicitDefEqProofs (disch:=omega) [hb4];refine Cp.call (ζo0 k (hv.up hx2) hb (.int .i64 g) (.int .i64 z) 4 _ (by omega) hl (by omega)) hx2 fun ps hps => ?_;simp -implicitDefEqProofs (disch:=omega);exact fin ps (ht ps hps)
  ·rw [if_neg hu4];have e1:(u == 1) = false:=by simp; omega
   have e2:(u == 2) = false:=by simp; omega
   have e3:(u == 4) = false:=by simp; omega
   simp -implicitDefEqProofs (disch:=omega) [e1,e2,e3,ζem];exact .throw hx2
 have h10':(fmt == 10) = false:=by simpa using h10
 simp -implicitDefEqProofs (disch:=omega) [h0',h2',h4',h6',h8',h10'];unfold partsS;rw [if_neg h0,if_neg h2,if_neg h4,if_neg h6,if_neg h8,if_neg h10];exact .throw hx2
end Go.Sw
end
