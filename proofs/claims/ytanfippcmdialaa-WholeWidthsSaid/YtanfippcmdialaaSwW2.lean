/-
  Functions' forms, and what is proved of them, part 2.
-/
import Derived.Test.YtanfippcmdialaaSwW1
import Derived.Test.YtanfippcmdialaaSwLib9
import Derived.Test.YtanfippcmdialaaSwCfg
import Derived.Test.YtanfippcmdialaaSwLib8
set_option linter.unusedSimpArgs false
set_option linter.unusedVariables false
set_option linter.unusedSectionVars false
section
namespace Go.Sw
open Go.RowKit
theorem bin_shrN (P:Program) (t:TypeId) (H:Heap) (n:Int) (s:Nat) (hs:s ≤ 64):binR P .shr t (.int .i64 n) (.int .i64 s) H = .ok (.int .i64 (n / 2 ^ s)) H:=by
 unfold binR;have:¬ (s:Int) < 0:=by omega
 simp only [binV,shiftV,if_neg this,Int.toNat_natCast];rw [show min s IntKind.i64.bits = s from by simp [IntKind.bits]; omega,Int.fdiv_eq_ediv_of_nonneg _ (Int.pow_nonneg (by decide))];rfl
theorem wrapB8 (n:Int):IntKind.u8.wrap n = n % 256:=by
 unfold IntKind.wrap;simp [IntKind.signed,IntKind.bits]
theorem sfntPut_star (k:Nat) {H0 H:Heap} {L:List It} (h:Star H0 H L) (i:Nat) {o:Option Nat} {s:Value} {b:List Int} (hi:L[i]? = some (itRow o 1 s encB b)) (n zi:Int) (z:Nat) (hzi:zi = z) (hz:z ≤ 8) (hl:b.length < 2 ^ 30) :
  ∃ s' o' H',R (T k) F.sfnt_put [s,.int .i64 n,.int .i64 zi] H = .ok s' H' ∧ Star H0 H' (L.set i (itRow o' 1 s' encB (b ++ bytesOf n z))):=by
 subst hzi;rw [sfnt_put_R];have hlt:i < L.length:=(List.getElem?_eq_some_iff.1 hi).1;have hself:L.set i (itRow o 1 s encB b) = L:=by
  obtain ⟨hlt,hx⟩:=List.getElem?_eq_some_iff.1 hi;rw [← hx,List.set_getElem_self]
 obtain ⟨x,e',H1,hr,s',o',rfl,⟨a,c,rfl⟩,ho⟩:=loopDec (body:=sfnt_put_l1 k (R (T k)))
  (fun m e H' => ∃ s o acc,e = [(0,s),(1,.int .i64 n),(7,.int .i64 ((m:Int) - 1))] ∧ Star H0 H' (L.set i (itRow o 1 s encB acc)) ∧ acc ++ bytesOf n m = b ++ bytesOf n z ∧ m ≤ z)
  (fun x e H' => ∃ s' o',x = .exit 0 ∧ (∃ a c,e = [(0,s'),(1,.int .i64 n),(7,a),(11,c)]) ∧ Star H0 H' (L.set i (itRow o' 1 s' encB (b ++ bytesOf n z))))
  (e0:=[(0,s),(1,.int .i64 n),(7,.int .i64 ((z:Int) - 1))]) (H0:=H) z ⟨s,o,b,rfl,by rw [hself]; exact h,rfl,Nat.le_refl _⟩ (by omega)
  (fun m e H' ⟨s,o,acc,he,ho,ha,hmz⟩ => by
   subst he;cases m with
   | zero =>
    refine .inr ⟨.exit 0,_,H',?_,by simp,s,o,rfl,⟨.int .i64 ((0:Nat) - 1),.bool false,rfl⟩,by simpa [bytesOf] using (by simpa [bytesOf] using ha) ▸ ho⟩;rw [sfnt_put_l1_eq];simp -implicitDefEqProofs
   | succ m =>
    have hacc:acc.length < 2 ^ 31:=by
     have:=congrArg List.length ha;simp [bytesOf_len] at this;omega
    obtain ⟨s2,o2,H2,e1,o1⟩:=ho.append1 (bytes:=1) i encB_len (List.getElem?_set_self hlt) ((n / 256 ^ m) % 256) hacc (by decide);rw [List.set_set] at o1;have hsh:=fun H => bin_shrN Prog 3 H n (8 * m) (by omega);rw [show (2:Int) ^ (8 * m) = 256 ^ m from by rw [Int.pow_mul]; rfl,show (((8 * m:Nat)):Int) = 8 * (m:Int) by omega] at hsh;have hcv:=wrapB8 (n / 256 ^ m);refine .inl ⟨m,_,H2,?_,by omega,s2,o2,acc ++ [(n / 256 ^ m) % 256],rfl,o1,by rw [List.append_assoc]; exact ha,by omega⟩;rw [sfnt_put_l1_eq];have hge:(m:Int) ≥ 0:=by omega
    rw [show (((m + 1:Nat):Int) - 1) = (m:Int) by omega];generalize n / 256 ^ m = w at e1 hsh hcv;simp -implicitDefEqProofs (disch:=omega) [hge,hsh,hcv,e1])
 refine ⟨s',o',H1,?_,ho⟩;simp -implicitDefEqProofs (disch:=omega) [sfnt_put,hr,sfnt_put_l1k_x0,nrm_no]
theorem wrapB32 (n:Int):IntKind.u32.wrap n = n % 4294967296:=by
 unfold IntKind.wrap;simp [IntKind.signed,IntKind.bits]
def sumJ (b:List Int):Nat → Int
 | 0 => 0
 | j + 1 => (sumJ b j + IntKind.u32.wrap (IntKind.u32.wrap (b.getD j 0) * 2 ^ (min (24 - 8 * ((j:Int) % 4)).toNat IntKind.u32.bits))) % 4294967296
def sumS (b:List Int):Int:=sumJ b b.length
theorem sumJ_bound (b:List Int):∀ j,0 ≤ sumJ b j ∧ sumJ b j < 4294967296
 | 0 => ⟨Int.le_refl _,by show (0:Int) < 4294967296; decide⟩
 | j + 1 => by unfold sumJ; omega
theorem sfntSum_run (k:Nat) (b:List Int) (hl:b.length < 2 ^ 40) (H:Heap):R (T k) F.sfnt_sum [lv encB b] H = .ok (.int .i64 (sumS b)) H:=by
 obtain ⟨xx,e',H1,hr,rfl,rfl,z,rfl⟩:=loop_up (body:=sfnt_sum_l1 k (R (T k))) b.length
  (fun j e H' => H' = H ∧ e = [(3,.int .u32 (sumJ b j)),(6,lv encB b),(7,.int .i64 b.length),(8,.int .i64 j)])
  (fun x e H' => H' = H ∧ x = .exit 0 ∧ ∃ (z:Value),e = [(3,.int .u32 (sumS b)),(6,lv encB b),(7,.int .i64 b.length),(8,z),(9,.bool false)])
  (e0:=[(3,.int .u32 0),(6,lv encB b),(7,.int .i64 b.length),(8,.int .i64 0)]) (H0:=H) ⟨rfl,rfl⟩ (by omega)
  (fun j e H' hj ⟨hH,he⟩ => by
   subst he hH;have hjl:(j:Int) < b.length:=by omega
   obtain ⟨x,hx⟩:∃ x,b[j]? = some x:=⟨_,List.getElem?_eq_getElem hj⟩
   have hxd:b.getD j 0 = x:=by rw [List.getD_eq_getElem?_getD,hx]; rfl
   have i1:=fun H' => ixS_lvN encB_len b .i64 j x hx H';have hrem:=fun H => bin_rem Prog 3 H .i64 (j:Int) 4 (by decide);rw [Int.tmod_eq_emod_of_nonneg (by omega)] at hrem;have hs:sumJ b (j + 1) = (sumJ b j + IntKind.u32.wrap (IntKind.u32.wrap x * 2 ^ (min (24 - 8 * ((j:Int) % 4)).toNat IntKind.u32.bits))) % 4294967296:=by rw [← hxd]; rfl
   obtain ⟨q,hq,hqb⟩:∃ q:Int,q = (j:Int) % 4 ∧ 0 ≤ q ∧ q < 4:=⟨_,rfl,by omega,by omega⟩
   rw [← hq] at hrem hs;have hsh:∀ H,binR Prog .shl 159 (.int .u32 (IntKind.u32.wrap x)) (.int .i64 (24 - 8 * q)) H = .ok (.int .u32 (IntKind.u32.wrap (IntKind.u32.wrap x * 2 ^ (min (24 - 8 * q).toNat IntKind.u32.bits)))) H:=fun H => by
    unfold binR;have:¬ (24 - 8 * q:Int) < 0:=by omega
    simp only [binV,shiftV,if_neg this];rfl
   generalize IntKind.u32.wrap (IntKind.u32.wrap x * 2 ^ (min (24 - 8 * q).toNat IntKind.u32.bits)) = y at hsh hs;have hw:=wrapB32 (sumJ b j + y);rw [← hs] at hw;refine .inl ⟨_,H',?_,rfl,rfl⟩;rw [sfnt_sum_l1_eq];generalize sumJ b (j + 1) = s1 at hw ⊢;simp -implicitDefEqProofs (disch:=omega) [hjl,i1,hrem,hsh,hw])
  (fun e H' ⟨hH,he⟩ => by
   subst he hH;refine ⟨.exit 0,_,H',?_,by simp,rfl,rfl,.int .i64 b.length,rfl⟩;rw [sfnt_sum_l1_eq];simp -implicitDefEqProofs [sumS])
 rw [sfnt_sum_R];have hn:=sumJ_bound b b.length;refine nrm_gc ⟨_,?_,Ext.refl _⟩ (.int _ _);have hw:IntKind.i64.wrap (sumS b) = sumS b:=wrap_i64 (by unfold sumS; omega) (by unfold sumS; omega);simp -implicitDefEqProofs (disch:=omega) [sfnt_sum,hr,sfnt_sum_l1k_x0,hw]
@[simp] theorem st_str (s:ByteArray):storable (.string s) = true:=rfl
@[simp] theorem cells_str (s:ByteArray):(Value.string s).cells = #[.string s]:=rfl
def lessW (a b:ByteArray):Bool:=Op.bytesLess a.toList b.toList
def sameW (a b:ByteArray):Bool:=a.toList == b.toList
def cmpW (a b:ByteArray):Int:=if lessW a b then -1 else if sameW a b then 0 else 1
theorem bin_neqS (P:Program) (t:TypeId) (a:ByteArray) (H:Heap):binR P .neq t (.string a) (.string a) H = .ok (.bool false) H:=by
 unfold binR;simp [binV,opt,beq_toListBytes]
theorem bin_lssS (P:Program) (t:TypeId) (a b:ByteArray) (H:Heap):binR P .lss t (.string a) (.string b) H = .ok (.bool (lessW a b)) H:=rfl
theorem bin_gtrS (P:Program) (t:TypeId) (a b:ByteArray) (H:Heap):binR P .gtr t (.string a) (.string b) H = .ok (.bool (!(lessW a b || sameW a b))) H:=rfl
theorem isNaN_run (k:Nat) (a:ByteArray) (H:Heap):R (T k) F.cmp_isNaN_of_string [.string a] H = .ok (.bool false) H:=by
 rw [cmp_isNaN_of_string_R];refine nrm_gc ⟨H,?_,Ext.refl H⟩ (.bool _);simp -implicitDefEqProofs [cmp_isNaN_of_string,bin_neqS]
theorem Compare_run (k:Nat) (a b:ByteArray) (H:Heap):R (T k) F.cmp_Compare_of_string [.string a,.string b] H = .ok (.int .i64 (cmpW a b)) H:=by
 rw [cmp_Compare_of_string_R];have hn:=fun a H => isNaN_run k a H;refine nrm_gc ⟨H,?_,Ext.refl H⟩ (.int _ _);unfold cmpW;cases h1:lessW a b with
 | true => simp -implicitDefEqProofs [cmp_Compare_of_string,hn,bin_lssS,h1]
 | false =>
  cases h2:sameW a b with
  | true => simp -implicitDefEqProofs [cmp_Compare_of_string,hn,bin_lssS,bin_gtrS,h1,h2]
  | false => simp -implicitDefEqProofs [cmp_Compare_of_string,hn,bin_lssS,bin_gtrS,h1,h2]
theorem Len64_1 (k:Nat) (call:Caller) (H:Heap):math_bits_Len64 k call (.int .u64 1) H = .ok (.int .i64 1) H:=by kernel_rfl
theorem Len64_4 (k:Nat) (call:Caller) (H:Heap):math_bits_Len64 k call (.int .u64 4) H = .ok (.int .i64 3) H:=by kernel_rfl
theorem Len64_small (k:Nat) (n:Nat) (hn:n = 1 ∨ n = 4) (H:Heap):R (T k) F.math_bits_Len64 [.int .u64 n] H = .ok (.int .i64 (if n = 1 then 1 else 3)) H:=by
 rw [math_bits_Len64_R];refine nrm_gc ⟨H,?_,Ext.refl H⟩ (.int _ _);rcases hn with rfl | rfl
 ·exact Len64_1 k _ H
 ·exact Len64_4 k _ H
theorem Len_small (k:Nat) (n:Nat) (hn:n = 1 ∨ n = 4) (H:Heap):R (T k) F.math_bits_Len [.int .u64 n] H = .ok (.int .i64 (if n = 1 then 1 else 3)) H:=by
 rw [math_bits_Len_R];have h:=fun H => Len64_small k n hn H;refine nrm_gc ⟨H,?_,Ext.refl H⟩ (.int _ _);simp -implicitDefEqProofs [math_bits_Len,h]
end Go.Sw
end
section
namespace Go.Sw
open Go.RowKit
structure En where
 next:Int
 flags:Int
 a:Int
 b:Int
structure Mach where
 classes:Int
 tab:Int × List Pt
 rows:List (List Int)
 ents:List En
structure Mach.ok (m:Mach):Prop where
 cl:4 ≤ m.classes ∧ m.classes ≤ 65535
 pts:∀ p,p ∈ m.tab.2 → p.ok
 rise:risesS m.tab.2 = true
 plen:m.tab.2.length < 2 ^ 31
 two:2 ≤ m.rows.length ∧ m.rows.length ≤ 65536
 row:∀ r,r ∈ m.rows → (r.length:Int) = m.classes ∧ ∀ x,x ∈ r → 0 ≤ x ∧ x < m.ents.length
 ent:∀ e,e ∈ m.ents → 0 ≤ e.next ∧ e.next < m.rows.length ∧ 0 ≤ e.flags ∧ e.flags < 65536 ∧ 0 ≤ e.a ∧ e.a < 65536 ∧ 0 ≤ e.b ∧ e.b < 65536
 elen:m.ents.length ≤ 65536
end Go.Sw
end
section
set_option maxRecDepth 100000
set_option linter.unusedVariables false
namespace Go.Sw
noncomputable section
end
end Go.Sw
end
section
namespace Go.Sw
open Go.RowKit
end Go.Sw
end
section
namespace Go.Sw
open Go.RowKit
end Go.Sw
end
section
namespace Go.Sw
open Go.RowKit
end Go.Sw
end
section
namespace Go.Sw
open Go.RowKit
end Go.Sw
end
section
namespace Go.Sw
open Go.RowKit
theorem tryV_np {short:TypeId} {call:Caller} {args:List Value} {H:Heap} {v:Value} {H':Heap}:tryV short call args H ≠ .panic v H':=by
 unfold tryV;split
 ·rename_i g f c;cases call g (f.toList ++ c.toList) H with
  | stuck => simp [Res.bindP]
  | ok a H => simp [Res.bindP]
  | panic a H =>
   simp only [Res.bindP];split
   ·rename_i t xs;cases Nat.beq t short && Nat.beq xs.size 0 <;> simp
   ·simp
 ·simp
theorem Try_R (k:Nat) (f:Value) (H:Heap):R (T k) F.view_Try [f] H = tryV shortT (R (T k)) [f] H :=
 ((R_sp (t:=T k) (T_scott k) (s:=tryV shortT) (by kernel_rfl) [f] H).trans (by
  show nrm Mode.no H _ = _;cases h:tryV shortT (R (T k)) [f] H with
  | ok a H => rfl
  | stuck => rfl
  | panic a H => exact absurd h tryV_np))
theorem Try_ok (k:Nat) (g:FuncId) (cap:Array Value) {H H':Heap} {v:Value} (h:R (T k) g cap.toList H = .ok v H'):R (T k) F.view_Try [.func (.func g) #[] cap] H = .ok (.bool true) H':=by
 rw [Try_R];unfold tryV;simp [h,Res.bindP]
end Go.Sw
end
section
namespace Go.Sw
open Go.RowKit
end Go.Sw
end
section
set_option maxRecDepth 100000
set_option linter.unusedVariables false
namespace Go.Sw
noncomputable section
end
end Go.Sw
end
section
set_option maxRecDepth 100000
set_option linter.unusedVariables false
namespace Go.Sw
noncomputable section
def slices_Clone_of_api_Glyph_api_Glyph (k:Nat) (call:Caller) (a0:Value) (h:Heap):Res Value :=
 (binR Prog .eql 22 a0 (.slice none 0 0) h).bind fun v1 h2 =>
 condV (some v1) (
 .ok (.slice none 0 0) h2)
 (
 (buildSliceR Prog 22 0 [] h2).bind fun v3 h4 =>
 (builtinV Prog .append [22,22] [v3,a0] h4).bind fun v5 h6 =>
 .ok v5 h6)
theorem slices_Clone_of_api_Glyph_api_Glyph_body (k:Nat) (sp:FuncId → Option Sp) (call:Caller) (a0:Value) (h:Heap):bodyK { P:=Prog,kp:=kpS,sp:=sp } call F.slices_Clone_of_api_Glyph_api_Glyph [a0] h = slices_Clone_of_api_Glyph_api_Glyph k call a0 h:=by kernel_rfl
def slices_Clone_of_api_Place_api_Place (k:Nat) (call:Caller) (a0:Value) (h:Heap):Res Value :=
 (binR Prog .eql 98 a0 (.slice none 0 0) h).bind fun v1 h2 =>
 condV (some v1) (
 .ok (.slice none 0 0) h2)
 (
 (buildSliceR Prog 98 0 [] h2).bind fun v3 h4 =>
 (builtinV Prog .append [98,98] [v3,a0] h4).bind fun v5 h6 =>
 .ok v5 h6)
theorem slices_Clone_of_api_Place_api_Place_body (k:Nat) (sp:FuncId → Option Sp) (call:Caller) (a0:Value) (h:Heap):bodyK { P:=Prog,kp:=kpS,sp:=sp } call F.slices_Clone_of_api_Place_api_Place [a0] h = slices_Clone_of_api_Place_api_Place k call a0 h:=by kernel_rfl
def slices_Clone_of_sfnt_Part_sfnt_Part (k:Nat) (call:Caller) (a0:Value) (h:Heap):Res Value :=
 (binR Prog .eql 142 a0 (.slice none 0 0) h).bind fun v1 h2 =>
 condV (some v1) (
 .ok (.slice none 0 0) h2)
 (
 (buildSliceR Prog 142 0 [] h2).bind fun v3 h4 =>
 (builtinV Prog .append [142,142] [v3,a0] h4).bind fun v5 h6 =>
 .ok v5 h6)
theorem slices_Clone_of_sfnt_Part_sfnt_Part_body (k:Nat) (sp:FuncId → Option Sp) (call:Caller) (a0:Value) (h:Heap):bodyK { P:=Prog,kp:=kpS,sp:=sp } call F.slices_Clone_of_sfnt_Part_sfnt_Part [a0] h = slices_Clone_of_sfnt_Part_sfnt_Part k call a0 h:=by kernel_rfl
def slices_SortStableFunc_of_sfnt_Part_sfnt_Part (k:Nat) (call:Caller) (a0 a1:Value) (h:Heap):Res Value :=
 (builtinV Prog .len [142] [a0] h).bind fun v1 h2 =>
 (call F.slices_stableCmpFunc_of_sfnt_Part [a0,v1,a1] h2).bind fun v3 h4 =>
 .ok (.tuple #[]) h4
theorem slices_SortStableFunc_of_sfnt_Part_sfnt_Part_R (k:Nat) (a0 a1:Value) (h:Heap):R (T k) F.slices_SortStableFunc_of_sfnt_Part_sfnt_Part [a0,a1] h = nrm .no h (slices_SortStableFunc_of_sfnt_Part_sfnt_Part k (R (T k)) a0 a1 h) :=
 (R_body (t:=T k) (T_scott k) (by kernel_rfl) (by kernel_rfl) _ _).trans (by kernel_rfl)
def slices_stableCmpFunc_of_sfnt_Part_l1 (k:Nat) (call:Caller):Env → Heap → Res (AExit × Env):=loopB (C k) call F.slices_stableCmpFunc_of_sfnt_Part [1,1,0,0,0]
def slices_stableCmpFunc_of_sfnt_Part_l1k (k:Nat) (call:Caller):Kont Value:=kBlock 0 (kSeq (pieceK (C k) call F.slices_stableCmpFunc_of_sfnt_Part [1,1,1]) (kDone Prog (resOf Prog F.slices_stableCmpFunc_of_sfnt_Part)))
def slices_stableCmpFunc_of_sfnt_Part_l2 (k:Nat) (call:Caller):Env → Heap → Res (AExit × Env):=loopB (C k) call F.slices_stableCmpFunc_of_sfnt_Part [1,1,1,1,0,0]
def slices_stableCmpFunc_of_sfnt_Part_l2k (k:Nat) (call:Caller):Kont Value:=kBlock 2 (kDone Prog (resOf Prog F.slices_stableCmpFunc_of_sfnt_Part))
def slices_stableCmpFunc_of_sfnt_Part_l3 (k:Nat) (call:Caller):Env → Heap → Res (AExit × Env):=loopB (C k) call F.slices_stableCmpFunc_of_sfnt_Part [1,1,1,1,0,0,1,0,1,0,0,0]
def slices_stableCmpFunc_of_sfnt_Part_l3k (k:Nat) (call:Caller):Kont (AExit × Env):=kBlock 4 (kSeq (pieceK (C k) call F.slices_stableCmpFunc_of_sfnt_Part [1,1,1,1,0,0,1,0,1,1]) (kBlock 3 (kRound (ownOf (C k) F.slices_stableCmpFunc_of_sfnt_Part [1,1,1,1,0,0]))))
def slices_stableCmpFunc_of_sfnt_Part (k:Nat) (call:Caller) (a0 a1 a2:Value) (h:Heap):Res Value :=
 (loopN (slices_stableCmpFunc_of_sfnt_Part_l1 k call) loopFuel [(0,a0),(1,a1),(2,a2),(6,(.int .i64 20)),(7,(.int .i64 0)),(8,(.int .i64 20))] h).bind fun r1 h2 =>
 slices_stableCmpFunc_of_sfnt_Part_l1k k call r1.1 r1.2 h2
theorem slices_stableCmpFunc_of_sfnt_Part_R (k:Nat) (a0 a1 a2:Value) (h:Heap):R (T k) F.slices_stableCmpFunc_of_sfnt_Part [a0,a1,a2] h = nrm .no h (slices_stableCmpFunc_of_sfnt_Part k (R (T k)) a0 a1 a2 h) :=
 (R_body (t:=T k) (T_scott k) (by kernel_rfl) (by kernel_rfl) _ _).trans (by kernel_rfl)
theorem slices_stableCmpFunc_of_sfnt_Part_l1_eq (k:Nat) (call:Caller) (a0 a1 a2 a6 a7 a8:Value) (h:Heap):slices_stableCmpFunc_of_sfnt_Part_l1 k call [(0,a0),(1,a1),(2,a2),(6,a6),(7,a7),(8,a8)] h =
 (binR Prog .leq 3 a8 a1 h).bind fun v3 h4 =>
 condV (some v3) (
 (call F.slices_insertionSortCmpFunc_of_sfnt_Part [a0,a7,a8,a2] h4).bind fun v5 h6 =>
 (binR Prog .add 3 a8 a6 h6).bind fun v7 h8 =>
 .ok (.normal,[(0,a0),(1,a1),(2,a2),(6,a6),(7,a8),(8,v7)]) h8)
 (
 .ok ((.exit 0),[(0,a0),(1,a1),(2,a2),(6,a6),(7,a7),(8,a8),(13,v3)]) h4) :=
 (loopB_eq _ _).trans (by kernel_rfl)
theorem slices_stableCmpFunc_of_sfnt_Part_l1k_x0 (k:Nat) (call:Caller) (a0 a1 a2 a6 a7 a8 a13:Value) (h:Heap):slices_stableCmpFunc_of_sfnt_Part_l1k k call (.exit 0) [(0,a0),(1,a1),(2,a2),(6,a6),(7,a7),(8,a8),(13,a13)] h =
 (call F.slices_insertionSortCmpFunc_of_sfnt_Part [a0,a7,a1,a2] h).bind fun v9 h10 =>
 (loopN (slices_stableCmpFunc_of_sfnt_Part_l2 k call) loopFuel [(0,a0),(1,a1),(2,a2),(6,a6)] h10).bind fun r11 h12 =>
 slices_stableCmpFunc_of_sfnt_Part_l2k k call r11.1 r11.2 h12:=by kernel_rfl
theorem slices_stableCmpFunc_of_sfnt_Part_l2_eq (k:Nat) (call:Caller) (a0 a1 a2 a6:Value) (h:Heap):slices_stableCmpFunc_of_sfnt_Part_l2 k call [(0,a0),(1,a1),(2,a2),(6,a6)] h =
 (binR Prog .lss 3 a6 a1 h).bind fun v13 h14 =>
 condV (some v13) (
 (binR Prog .mul 3 (.int .i64 2) a6 h14).bind fun v15 h16 =>
 (loopN (slices_stableCmpFunc_of_sfnt_Part_l3 k call) loopFuel [(0,a0),(1,a1),(2,a2),(6,a6),(7,(.int .i64 0)),(8,v15)] h16).bind fun r17 h18 =>
 slices_stableCmpFunc_of_sfnt_Part_l3k k call r17.1 r17.2 h18)
 (
 .ok ((.exit 2),[(0,a0),(1,a1),(2,a2),(6,a6),(30,v13)]) h14) :=
 (loopB_eq _ _).trans (by kernel_rfl)
theorem slices_stableCmpFunc_of_sfnt_Part_l2k_x2 (k:Nat) (call:Caller) (a0 a1 a2 a6 a30:Value) (h:Heap):slices_stableCmpFunc_of_sfnt_Part_l2k k call (.exit 2) [(0,a0),(1,a1),(2,a2),(6,a6),(30,a30)] h =
 .ok (.tuple #[]) h:=by kernel_rfl
def slices_BinarySearchFunc_of_sfnt_Table_sfnt_Table_string_l1 (k:Nat) (call:Caller):Env → Heap → Res (AExit × Env):=loopB (C k) call F.slices_BinarySearchFunc_of_sfnt_Table_sfnt_Table_string [1,1,1,0,0,0]
def slices_BinarySearchFunc_of_sfnt_Table_sfnt_Table_string_l1k (k:Nat) (call:Caller):Kont Value:=kBlock 0 (kSeq (pieceK (C k) call F.slices_BinarySearchFunc_of_sfnt_Table_sfnt_Table_string [1,1,1,1]) (kDone Prog (resOf Prog F.slices_BinarySearchFunc_of_sfnt_Table_sfnt_Table_string)))
def slices_BinarySearchFunc_of_sfnt_Table_sfnt_Table_string (k:Nat) (call:Caller) (a0 a1 a2:Value) (h:Heap):Res Value :=
 (builtinV Prog .len [299] [a0] h).bind fun v1 h2 =>
 (loopN (slices_BinarySearchFunc_of_sfnt_Table_sfnt_Table_string_l1 k call) loopFuel [(0,a0),(1,a1),(2,a2),(8,v1),(9,(.int .i64 0)),(10,v1)] h2).bind fun r3 h4 =>
 slices_BinarySearchFunc_of_sfnt_Table_sfnt_Table_string_l1k k call r3.1 r3.2 h4
theorem slices_BinarySearchFunc_of_sfnt_Table_sfnt_Table_string_R (k:Nat) (a0 a1 a2:Value) (h:Heap):R (T k) F.slices_BinarySearchFunc_of_sfnt_Table_sfnt_Table_string [a0,a1,a2] h = nrm .no h (slices_BinarySearchFunc_of_sfnt_Table_sfnt_Table_string k (R (T k)) a0 a1 a2 h) :=
 (R_body (t:=T k) (T_scott k) (by kernel_rfl) (by kernel_rfl) _ _).trans (by kernel_rfl)
theorem slices_BinarySearchFunc_of_sfnt_Table_sfnt_Table_string_l1_eq (k:Nat) (call:Caller) (a0 a1 a2 a8 a9 a10:Value) (h:Heap):slices_BinarySearchFunc_of_sfnt_Table_sfnt_Table_string_l1 k call [(0,a0),(1,a1),(2,a2),(8,a8),(9,a9),(10,a10)] h =
 (binR Prog .lss 3 a9 a10 h).bind fun v5 h6 =>
 condV (some v5) (
 (binR Prog .add 3 a9 a10 h6).bind fun v7 h8 =>
 (convR Prog 3 200 v7 h8).bind fun v9 h10 =>
 (binR Prog .shr 200 v9 (.int .u64 1) h10).bind fun v11 h12 =>
 (convR Prog 200 3 v11 h12).bind fun v13 h14 =>
 (indexAddrR Prog 299 a0 v13 h14).bind fun v15 h16 =>
 (loadR Prog 304 v15 h16).bind fun v17 h18 =>
 (callV call a2 [v17,a1] h18).bind fun v19 h20 =>
 (binR Prog .lss 3 v19 (.int .i64 0) h20).bind fun v21 h22 =>
 condV (some v21) (
 (binR Prog .add 3 v13 (.int .i64 1) h22).bind fun v23 h24 =>
 .ok (.normal,[(0,a0),(1,a1),(2,a2),(8,a8),(9,v23),(10,a10)]) h24)
 (
 .ok (.normal,[(0,a0),(1,a1),(2,a2),(8,a8),(9,a9),(10,v13)]) h22))
 (
 .ok ((.exit 0),[(0,a0),(1,a1),(2,a2),(8,a8),(9,a9),(10,a10),(17,v5)]) h6) :=
 (loopB_eq _ _).trans (by kernel_rfl)
theorem slices_BinarySearchFunc_of_sfnt_Table_sfnt_Table_string_l1k_x0 (k:Nat) (call:Caller) (a0 a1 a2 a8 a9 a10 a17:Value) (h:Heap):slices_BinarySearchFunc_of_sfnt_Table_sfnt_Table_string_l1k k call (.exit 0) [(0,a0),(1,a1),(2,a2),(8,a8),(9,a9),(10,a10),(17,a17)] h =
 (binR Prog .lss 3 a9 a8 h).bind fun v25 h26 =>
 ((bif wantVal v25 true then Res.ok a2 h26 else Res.ok undef h26)).bind fun v27 h28 =>
 ((bif wantVal v25 true then Res.ok a0 h28 else Res.ok undef h28)).bind fun v29 h30 =>
 ((bif wantVal v25 true then Res.ok a9 h30 else Res.ok undef h30)).bind fun v31 h32 =>
 ((bif wantVal v25 true then indexAddrR Prog 299 v29 v31 h32 else Res.ok undef h32)).bind fun v33 h34 =>
 ((bif wantVal v25 true then loadR Prog 304 v33 h34 else Res.ok undef h34)).bind fun v35 h36 =>
 ((bif wantVal v25 true then Res.ok a1 h36 else Res.ok undef h36)).bind fun v37 h38 =>
 ((bif wantVal v25 true then callV call v27 [v35,v37] h38 else Res.ok undef h38)).bind fun v39 h40 =>
 ((bif wantVal v25 true then binR Prog .eql 3 v39 (.int .i64 0) h40 else Res.ok undef h40)).bind fun v41 h42 =>
 (condV (some v25) (Res.ok v41 h42) (Res.ok (.bool false) h42)).bind fun v43 h44 =>
 .ok (.tuple #[a9,v43]) h44:=by kernel_rfl
def slices_insertionSortCmpFunc_of_sfnt_Part_l1 (k:Nat) (call:Caller):Env → Heap → Res (AExit × Env):=loopB (C k) call F.slices_insertionSortCmpFunc_of_sfnt_Part [1,0,0]
def slices_insertionSortCmpFunc_of_sfnt_Part_l1k (k:Nat) (call:Caller):Kont Value:=kBlock 0 (kDone Prog (resOf Prog F.slices_insertionSortCmpFunc_of_sfnt_Part))
def slices_insertionSortCmpFunc_of_sfnt_Part_l2 (k:Nat) (call:Caller):Env → Heap → Res (AExit × Env):=loopB (C k) call F.slices_insertionSortCmpFunc_of_sfnt_Part [1,0,0,1,0,0,1,0,0]
def slices_insertionSortCmpFunc_of_sfnt_Part_l2k (k:Nat) (call:Caller):Kont (AExit × Env):=kBlock 2 (kBlock 1 (kSeq (pieceK (C k) call F.slices_insertionSortCmpFunc_of_sfnt_Part [1,0,0,1,1]) (kRound (ownOf (C k) F.slices_insertionSortCmpFunc_of_sfnt_Part [1,0,0]))))
def slices_insertionSortCmpFunc_of_sfnt_Part (k:Nat) (call:Caller) (a0 a1 a2 a3:Value) (h:Heap):Res Value :=
 (binR Prog .add 3 a1 (.int .i64 1) h).bind fun v1 h2 =>
 (loopN (slices_insertionSortCmpFunc_of_sfnt_Part_l1 k call) loopFuel [(0,a0),(1,a1),(2,a2),(3,a3),(8,v1)] h2).bind fun r3 h4 =>
 slices_insertionSortCmpFunc_of_sfnt_Part_l1k k call r3.1 r3.2 h4
theorem slices_insertionSortCmpFunc_of_sfnt_Part_R (k:Nat) (a0 a1 a2 a3:Value) (h:Heap):R (T k) F.slices_insertionSortCmpFunc_of_sfnt_Part [a0,a1,a2,a3] h = nrm .no h (slices_insertionSortCmpFunc_of_sfnt_Part k (R (T k)) a0 a1 a2 a3 h) :=
 (R_body (t:=T k) (T_scott k) (by kernel_rfl) (by kernel_rfl) _ _).trans (by kernel_rfl)
theorem slices_insertionSortCmpFunc_of_sfnt_Part_l1_eq (k:Nat) (call:Caller) (a0 a1 a2 a3 a8:Value) (h:Heap):slices_insertionSortCmpFunc_of_sfnt_Part_l1 k call [(0,a0),(1,a1),(2,a2),(3,a3),(8,a8)] h =
 (binR Prog .lss 3 a8 a2 h).bind fun v5 h6 =>
 condV (some v5) (
 (loopN (slices_insertionSortCmpFunc_of_sfnt_Part_l2 k call) loopFuel [(0,a0),(1,a1),(2,a2),(3,a3),(8,a8),(9,a8)] h6).bind fun r7 h8 =>
 slices_insertionSortCmpFunc_of_sfnt_Part_l2k k call r7.1 r7.2 h8)
 (
 .ok ((.exit 0),[(0,a0),(1,a1),(2,a2),(3,a3),(8,a8),(14,v5)]) h6) :=
 (loopB_eq _ _).trans (by kernel_rfl)
theorem slices_insertionSortCmpFunc_of_sfnt_Part_l2_eq (k:Nat) (call:Caller) (a0 a1 a2 a3 a8 a9:Value) (h:Heap):slices_insertionSortCmpFunc_of_sfnt_Part_l2 k call [(0,a0),(1,a1),(2,a2),(3,a3),(8,a8),(9,a9)] h =
 (binR Prog .gtr 3 a9 a1 h).bindN fun v9 h10 =>
 ((bif wantVal v9 true then Res.ok a3 h10 else Res.ok undef h10)).bindN fun v11 h12 =>
 ((bif wantVal v9 true then Res.ok a0 h12 else Res.ok undef h12)).bindN fun v13 h14 =>
 ((bif wantVal v9 true then Res.ok a9 h14 else Res.ok undef h14)).bindN fun v15 h16 =>
 ((bif wantVal v9 true then indexAddrR Prog 142 v13 v15 h16 else Res.ok undef h16)).bindN fun v17 h18 =>
 ((bif wantVal v9 true then loadR Prog 140 v17 h18 else Res.ok undef h18)).bindN fun v19 h20 =>
 ((bif wantVal v9 true then Res.ok a0 h20 else Res.ok undef h20)).bindN fun v21 h22 =>
 ((bif wantVal v9 true then Res.ok a9 h22 else Res.ok undef h22)).bindN fun v23 h24 =>
 ((bif wantVal v9 true then binR Prog .sub 3 v23 (.int .i64 1) h24 else Res.ok undef h24)).bindN fun v25 h26 =>
 ((bif wantVal v9 true then indexAddrR Prog 142 v21 v25 h26 else Res.ok undef h26)).bindN fun v27 h28 =>
 ((bif wantVal v9 true then loadR Prog 140 v27 h28 else Res.ok undef h28)).bindN fun v29 h30 =>
 ((bif wantVal v9 true then callV call v11 [v19,v29] h30 else Res.ok undef h30)).bindT (fun p33 h34 => .panic p33 h34) fun v31 h32 =>
 ((bif wantVal v9 true then binR Prog .lss 3 v31 (.int .i64 0) h32 else Res.ok undef h32)).bindN fun v35 h36 =>
 (condV (some v9) (Res.ok v35 h36) (Res.ok (.bool false) h36)).bindN fun v37 h38 =>
 condV (some v37) (
 (binR Prog .sub 3 a9 (.int .i64 1) h38).bindN fun v39 h40 =>
 (binR Prog .sub 3 a9 (.int .i64 1) h40).bindN fun v41 h42 =>
 (indexAddrR Prog 142 a0 v41 h42).bindN fun v43 h44 =>
 (loadR Prog 140 v43 h44).bindN fun v45 h46 =>
 (indexAddrR Prog 142 a0 a9 h46).bindN fun v47 h48 =>
 (loadR Prog 140 v47 h48).bindN fun v49 h50 =>
 (indexAddrR Prog 142 a0 a9 h50).bindN fun v51 h52 =>
 (storeR Prog 140 v51 v45 h52).bindN fun _v53 h54 =>
 (indexAddrR Prog 142 a0 v39 h54).bindN fun v55 h56 =>
 (storeR Prog 140 v55 v49 h56).bindN fun _v57 h58 =>
 (binR Prog .sub 3 a9 (.int .i64 1) h58).bind fun v59 h60 =>
 .ok (.normal,[(0,a0),(1,a1),(2,a2),(3,a3),(8,a8),(9,v59)]) h60)
 (
 .ok ((.exit 2),[(0,a0),(1,a1),(2,a2),(3,a3),(8,a8),(9,a9),(34,v37)]) h38) :=
 (loopB_eq _ _).trans (by kernel_rfl)
theorem slices_insertionSortCmpFunc_of_sfnt_Part_l1k_x0 (k:Nat) (call:Caller) (a0 a1 a2 a3 a8 a14:Value) (h:Heap):slices_insertionSortCmpFunc_of_sfnt_Part_l1k k call (.exit 0) [(0,a0),(1,a1),(2,a2),(3,a3),(8,a8),(14,a14)] h =
 .ok (.tuple #[]) h:=by kernel_rfl
theorem slices_insertionSortCmpFunc_of_sfnt_Part_l2k_x2 (k:Nat) (call:Caller) (a0 a1 a2 a3 a8 a9 a34:Value) (h:Heap):slices_insertionSortCmpFunc_of_sfnt_Part_l2k k call (.exit 2) [(0,a0),(1,a1),(2,a2),(3,a3),(8,a8),(9,a9),(34,a34)] h =
 (binR Prog .add 3 a8 (.int .i64 1) h).bind fun v61 h62 =>
 .ok (.normal,[(0,a0),(1,a1),(2,a2),(3,a3),(8,v61)]) h62:=by kernel_rfl
end
end Go.Sw
end
section
set_option maxRecDepth 100000
set_option linter.unusedVariables false
namespace Go.Sw
noncomputable section
end
end Go.Sw
end
section
namespace Go.Sw
open Go.RowKit
abbrev ptrV (c:Nat):Value:=.pointer (some ⟨c,0,none⟩)
end Go.Sw
end
section
set_option maxRecDepth 100000
set_option linter.unusedVariables false
namespace Go.Sw
noncomputable section
end
end Go.Sw
end
section
namespace Go.Sw
open Go.RowKit
end Go.Sw
end
section
namespace Go.Sw
open Go.RowKit
section
variable (k:Nat) {H0:Heap} {X:List It} {c r:Nat} {n:Int} {tab vR vE:Value} {rv ev:List Int} {w:Int}
 (hn:0 ≤ n ∧ n ≤ 65535) (hw:w = 0 ∨ w = 1 ∨ w = 2) (hvR:Sl H0 1 vR encB rv) (hvE:Sl H0 1 vE encB ev) (hbR:Byt rv) (hbE:Byt ev) (hlR:rv.length < 2 ^ 31) (hlE:ev.length < 2 ^ 31)
 (hX:itBlk r ⟨[ptrV c,vR,vE,.int .i64 w],1,false⟩ ∈ X)
include hn hvR hvE hbR hlR hX
end
section
variable (k:Nat) {H0:Heap} {X:List It} {c r:Nat} {n:Int} {tab vR vE:Value} {rv ev:List Int} {w:Int}
 (hn:0 ≤ n ∧ n ≤ 65535) (hw:w = 0 ∨ w = 1 ∨ w = 2) (hvR:Sl H0 1 vR encB rv) (hvE:Sl H0 1 vE encB ev) (hbR:Byt rv) (hbE:Byt ev) (hlR:rv.length < 2 ^ 31) (hlE:ev.length < 2 ^ 31)
 (hX:itBlk r ⟨[ptrV c,vR,vE,.int .i64 w],1,false⟩ ∈ X)
include hw hvR hvE hbE hlE hX
end
section
variable (k:Nat) {H0:Heap} {X:List It} {c r:Nat} {n:Int} {tab vR vE:Value} {rv ev:List Int} {w:Int}
 (hn:0 ≤ n ∧ n ≤ 65535) (hw:w = 0 ∨ w = 1 ∨ w = 2) (hvR:Sl H0 1 vR encB rv) (hvE:Sl H0 1 vE encB ev) (hbR:Byt rv) (hbE:Byt ev) (hlR:rv.length < 2 ^ 31) (hlE:ev.length < 2 ^ 31)
 (hX:itBlk r ⟨[ptrV c,vR,vE,.int .i64 w],1,false⟩ ∈ X)
include hn hw hvR hvE hbR hbE hlR hlE hX
end
end Go.Sw
end
section
namespace Go.Sw
open Go.RowKit
end Go.Sw
end
section
namespace Go.Sw
open Go.RowKit
theorem Bytes_run (k:Nat) {H:Heap} {v:Value} {b:List Int} (hv:Sl H 1 v encB b) (hl:b.length ≤ 2 ^ 30):R (T k) F.view_View_Bytes [.agg #[v]] H = .ok (lv encB b) H:=by
 rw [view_View_Bytes_R];have g:=(Star.nil H).push ⟨[v],1,false⟩;have g:=g.more_row (Ext.refl _) (OwnO.bare encB _ 1) (fun b hb => by cases hb);obtain ⟨s,o,H1,e1,g⟩:=g.append (bytes:=1) 1 encB_len rfl (b:=v) (l2:=b) (lenL_lenV hv.lenL) ((hv.up g.ext).first encB_len) (by simp; omega) (by decide);simp only [List.nil_append,List.cons_append,List.set_cons_zero,List.set_cons_succ] at g;obtain ⟨L,hf⟩:=(g.own 1 rfl).freeze encB_len (fun n _ v hv => by simp at hv; subst hv; trivial) 6;refine nrm_fz (v:=s) (H':=H1) ?_ hf g.ext (Flat.B b).alive;simp -implicitDefEqProofs [view_View_Bytes,e1]
end Go.Sw
end
section
namespace Go.Sw
open Go.RowKit
abbrev vwF (b:List Int):Value:=.agg #[lv encB b]
theorem subV_lvB {b r:List Int} {i n:Int} (h:pieceS b i n = some r):subV 1 (lv encB b) i.toNat n.toNat = lv encB r:=by
 obtain ⟨⟨h1,h2,h3,h4⟩,rfl⟩:=pieceS_iff.1 h;show listV _ _ = listV _ _;have hl:((b.drop i.toNat).take n.toNat).length = n.toNat:=by simp; omega
 rw [hl];congr 1;apply Array.ext';rw [Array.toList_extract];show ((rows encB b).drop (i.toNat * 1)).take ((i.toNat + n.toNat) * 1 - i.toNat * 1) = rows encB _;rw [rows_drop encB_len,← Nat.sub_mul,Nat.add_sub_cancel_left,rows_take encB_len]
theorem CutF (k:Nat) {b r:List Int} {i n:Int} (hl:b.length < 2 ^ 31) (h:pieceS b i n = some r) (H:Heap):R (T k) F.view_View_Cut [vwF b,.int .i64 i,.int .i64 n] H = .ok (vwF r) H:=by
 have:=Cut_run k (Sl.lv H 1 b) i n (by omega);rw [h,orF_some,subV_lvB h] at this;exact this
theorem RowsF (k:Nat) {b r:List Int} {i n s:Int} (hl:b.length < 2 ^ 31) (h:rowsS b i n s = some r) (H:Heap):R (T k) F.view_View_Rows [vwF b,.int .i64 i,.int .i64 n,.int .i64 s] H = .ok (vwF r) H:=by
 have:=Rows_run k (Sl.lv H 1 b) i n s (by omega);rw [h,orF_some,subV_lvB (rowsS_piece h)] at this;exact this
theorem U32F (k:Nat) {b:List Int} (hb:Byt b) {i x:Int} (hl:b.length < 2 ^ 31) (h:uS b i 4 = some x) (H:Heap):R (T k) F.view_View_U32 [vwF b,.int .i64 i] H = .ok (.int .i64 x) H:=by
 have:=U32_run k (Sl.lv H 1 b) hb i (by omega);rw [h,orF_some] at this;exact this
theorem U16F (k:Nat) {b:List Int} (hb:Byt b) {i x:Int} (hl:b.length < 2 ^ 31) (h:uS b i 2 = some x) (H:Heap):R (T k) F.view_View_U16 [vwF b,.int .i64 i] H = .ok (.int .i64 x) H:=by
 have:=U16_run k (Sl.lv H 1 b) hb i (by omega);rw [h,orF_some] at this;exact this
abbrev encTab (x:ByteArray × Int × Int):List Value:=[.string x.1,.int .i64 x.2.1,.int .i64 x.2.2]
theorem encTab_len (x:ByteArray × Int × Int):(encTab x).length = 3:=rfl
theorem Flat.tabs (l:List (ByteArray × Int × Int)):Flat (Go.Sw.lv encTab l):=.lv fun p _ => .cons (.string _) (.cons (.int _ _) (.cons (.int _ _) .nil))
theorem encTab_still (l:List (ByteArray × Int × Int)):∀ p,p ∈ l → ∀ v,v ∈ encTab p → Still v:=fun p _ v hv => by
 simp [encTab] at hv;rcases hv with rfl | rfl | rfl <;> trivial
structure FontAt (b:List Int) (rs:List (ByteArray × Int × Int)):Prop where
 byt:Byt b
 len:b.length < 2 ^ 30
 kind:uS b 0 4 = some 65536
 num:uS b 4 2 = some rs.length
 all:12 + 16 * rs.length ≤ b.length
 row:∀ (i:Nat) r,rs[i]? = some r → (∃ tg,pieceS b (12 + 16 * (i:Int)) 4 = some tg ∧ signsV tg = r.1) ∧ uS b (12 + 16 * (i:Int) + 8) 4 = some r.2.1 ∧ uS b (12 + 16 * (i:Int) + 12) 4 = some r.2.2 ∧ ∃ x,pieceS b r.2.1 r.2.2 = some x
 rise:∀ (i:Nat) r q,rs[i]? = some r → rs[i + 1]? = some q → lessW r.1 q.1 = true
theorem bytesV_enc:∀ l:List Int,bytesV (rows encB l) = some l
 | [] => rfl
 | n :: l => by
  show (bytesV (rows encB l)).map (n :: ·) = _;rw [bytesV_enc l];rfl
theorem csR_lv (l:List Int) (H:Heap):csR (lv encB l) H = .ok (.string (signsV l)) H:=by
 unfold csR lv listV;dsimp only;have hs:(rows encB l).toArray.size = l.length:=by simpa using rows_length encB_len l
 rw [if_pos (Nat.le_of_eq hs.symm),show (rows encB l).toArray.extract 0 l.length = (rows encB l).toArray from by rw [← hs]; simp,bytesV_enc];rfl
set_option maxHeartbeats 1000000 in
theorem take_run (k:Nat) {b:List Int} {rs:List (ByteArray × Int × Int)} (h:FontAt b rs) (H:Heap):R (T k) F.sfnt_take [vwF b] H = .ok (lv encTab rs) H:=by
 have hb:=h.byt;have hl:=h.len;have hnb:=uS_two hb h.num;have hrows:rowsS b 12 rs.length 16 = some ((b.drop 12).take (16 * rs.length)):=by
  unfold rowsS;have:=h.all;rw [if_pos ⟨by omega,by omega,.inr (by omega)⟩,pieceS_iff];refine ⟨by omega,?_⟩;rw [show ((rs.length:Int) * 16).toNat = 16 * rs.length by omega];rfl
 obtain ⟨R0,hR0⟩:∃ R0,R0 = (b.drop 12).take (16 * rs.length):=⟨_,rfl⟩
 rw [← hR0] at hrows;have hpc:=rowsS_piece hrows;have hR0b:Byt R0:=(hb.piece hpc).1;have hR0l:R0.length = 16 * rs.length:=by have:=pieceS_len hpc; omega
 have u0:=fun H => U32F k hb (by omega) h.kind H;have u4:=fun H => U16F k hb (by omega) h.num H;have hrw:=fun H => RowsF k (by omega) hrows H;have hx2:Ext H ((H.push ⟨[lv encB b],1,false⟩).push ⟨[lv encB R0],1,false⟩):=((Ext.refl H).push _).push _;have g:=((Star.nil H).push ⟨[lv encB b],1,false⟩).push ⟨[lv encB R0],1,false⟩;have g:=g.more_row (Ext.refl _) (OwnO.nil encTab _ 3) (fun b hb => by cases hb);simp only [List.nil_append,List.cons_append,hn_push] at g
 obtain ⟨xx,e',H1,hr1,rfl,s,o,rfl,g⟩:=loop_up (body:=sfnt_take_l1 k (R (T k))) rs.length
  (fun j e H' => ∃ s o,e = [(1,ptrV H.n),(5,ptrV (H.n + 1)),(6,s),(24,.int .i64 rs.length),(25,.int .i64 j)] ∧ Star H H' [itBlk H.n ⟨[lv encB b],1,false⟩,itBlk (H.n + 1) ⟨[lv encB R0],1,false⟩,itRow o 3 s encTab (rs.take j)])
  (fun xx e H' => xx = .exit 0 ∧ ∃ s o,e = [(1,ptrV H.n),(5,ptrV (H.n + 1)),(6,s),(24,.int .i64 rs.length),(25,.int .i64 rs.length),(26,.bool false)] ∧ Star H H' [itBlk H.n ⟨[lv encB b],1,false⟩,itBlk (H.n + 1) ⟨[lv encB R0],1,false⟩,itRow o 3 s encTab rs])
  (e0:=[(1,ptrV H.n),(5,ptrV (H.n + 1)),(6,.slice none 0 0),(24,.int .i64 rs.length),(25,.int .i64 0)]) (H0:=(H.push ⟨[lv encB b],1,false⟩).push ⟨[lv encB R0],1,false⟩) ⟨_,none,rfl,by simpa using g⟩ (by omega)
  (fun j e H' hj ⟨s,o,he,g⟩ => by
   subst he;have hjl:(j:Int) < rs.length:=by omega
   obtain ⟨r,hr⟩:∃ r,rs[j]? = some r:=⟨_,List.getElem?_eq_getElem hj⟩
   obtain ⟨⟨tg,ht1,ht2⟩,hat,hln,⟨xd,hxd⟩⟩:=h.row j r hr
   -- the row's bytes
   obtain ⟨W,hW⟩:∃ W,pieceS R0 (16 * (j:Int)) 16 = some W:=⟨_,pieceS_iff.2 ⟨by omega,rfl⟩⟩
   have hWb:Byt W:=(hR0b.piece hW).1;have hWl:W.length = 16:=by have:=pieceS_len hW; omega
   have hWp:pieceS b (12 + 16 * (j:Int)) 16 = some W:=by
    obtain ⟨_,hw⟩:=pieceS_iff.1 hW;rw [pieceS_iff];have:=h.all;refine ⟨by omega,?_⟩;rw [hw,hR0,List.drop_take,List.take_take,List.drop_drop];congr 1;omega
   have w8:uS W 8 4 = some r.2.1:=by rw [uS_sub hWp (by omega) (by omega) (by omega),← hat]
   have w12:uS W 12 4 = some r.2.2:=by rw [uS_sub hWp (by omega) (by omega) (by omega),← hln]
   have wtg:pieceS W 0 4 = some tg:=by
    obtain ⟨_,hw⟩:=pieceS_iff.1 hWp;obtain ⟨_,htt⟩:=pieceS_iff.1 ht1;rw [pieceS_iff];refine ⟨by omega,?_⟩;rw [htt,hw];simp [List.take_take]
   have c1:=fun H => CutF k (by omega) hW H;have c2:=fun H => CutF k (by omega) wtg H;have tl:tg.length = 4:=by have:=pieceS_len ht1; omega
   have c3:=fun H => Bytes_run k (Sl.lv H 1 tg) (by omega);have c4:=csR_lv tg;have c5:=fun H => U32F k hWb (by omega) w8 H;have c6:=fun H => U32F k hWb (by omega) w12 H;have c7:=fun H => CutF k (by omega) hxd H;have nt:=fun H => Need_true k H;have b0:=g.get 0 rfl;have b1:=g.get 1 rfl;have n0:¬ H.n = H'.n:=by have:=Heap.get_lt b0; omega
   have n1:¬ H.n + 1 = H'.n:=by have:=Heap.get_lt b1; omega
   have n2:¬ H.n = H'.n + 1:=by have:=Heap.get_lt b0; omega
   have n3:¬ H.n + 1 = H'.n + 1:=by have:=Heap.get_lt b1; omega
   obtain ⟨rt,ra,rl⟩:=r;dsimp only at ht2 hat hln hxd w8 w12 c5 c6 c7;subst ht2;have gq:=(g.push ⟨[lv encB W],1,false⟩).push ⟨encTab (signsV tg,ra,rl),1,false⟩;simp only [List.cons_append,List.nil_append,hn_push] at gq;obtain ⟨s2,o2,H2,e2,g2⟩:=gq.append1 (bytes:=32) 2 encTab_len rfl (signsV tg,ra,rl) (by rw [List.length_take]; omega) (by decide);simp only [List.set_cons_zero,List.set_cons_succ] at g2;simp only [hn_push] at e2;have g2:=g2.take 3;simp only [List.take_succ_cons,List.take_zero] at g2;rw [← take_snoc hr] at g2;cases j with
   | zero =>
    have h00:((0:Nat):Int) = 0:=rfl;have hpos:0 < rs.length:=hj;rw [h00] at c1 hjl ⊢;simp only [Int.mul_zero] at c1;refine .inl ⟨_,H2,?_,s2,o2,rfl,g2⟩;rw [sfnt_take_l1_eq];simp -implicitDefEqProofs (disch:=omega) [hpos,hjl,b0,b1,n0,n1,n2,n3,c1,c2,c3,c4,c5,c6,c7,nt,e2]
   | succ j =>
    obtain ⟨q,hq⟩:∃ q,rs[j]? = some q:=⟨_,List.getElem?_eq_getElem (by omega)⟩
    have hrise:=h.rise j q _ hq hr;have hqt:(rs.take (j + 1))[j]? = some q:=by rw [List.getElem?_take,if_pos (by omega)]; exact hq
    obtain ⟨c,hc,hgc,ix⟩:=gq.ix 2 rfl .i64 j (by rw [List.length_take]; omega);have l1:=ld1_row encTab_len hgc (i:=j) (c:=0) (v:=.string q.1) hqt (by decide) rfl;simp only [Nat.add_zero] at l1;have hless:∀ h,binR Prog .lss 9 (.string q.1) (.string (signsV tg)) h = .ok (.bool true) h:=fun h => by rw [← hrise]; rfl
    have hcast:((j + 1:Nat):Int) = (j:Int) + 1:=rfl;rw [hcast] at c1 hjl ⊢;have hne0:((j:Int) + 1 == 0) = false:=by rw [beq_eq_false_iff_ne]; omega
    have hsub:(j:Int) + 1 - 1 = j:=by omega
    refine .inl ⟨_,H2,?_,s2,o2,rfl,g2⟩;rw [sfnt_take_l1_eq];simp -implicitDefEqProofs (disch:=omega) [-ld1_ptr,ld1_ptr H.n,ld1_ptr (H.n + 1),ld1_ptr H'.n,ld1_ptr (H'.n + 1),hjl,b0,b1,n0,n1,n2,n3,c1,c2,c3,c4,c5,c6,c7,nt,hne0,hsub,ix,l1,hless,e2])
  (fun e H' ⟨s,o,he,g⟩ => by
   subst he;rw [List.take_length] at g;refine ⟨.exit 0,_,H',?_,by simp,rfl,s,o,rfl,g⟩;rw [sfnt_take_l1_eq];simp -implicitDefEqProofs)
 obtain ⟨L,hf⟩:=(g.own 2 rfl).freeze encTab_len (encTab_still _) 6;rw [sfnt_take_R];refine nrm_fz (v:=s) (H':=H1) ?_ hf g.ext (Flat.tabs _).alive;have nt:=fun H => Need_true k H;simp -implicitDefEqProofs (disch:=omega) [sfnt_take,u0,u4,hrw,nt,hr1,sfnt_take_l1k_x0]
end Go.Sw
end
section
set_option maxRecDepth 100000
set_option linter.unusedVariables false
namespace Go.Sw
noncomputable section
def face_Read (k:Nat) (call:Caller) (a0:Value) (h:Heap):Res Value :=
 (boxR a0 h).bind fun v1 h2 =>
 (allocR Prog 150 h2).bind fun v3 h4 =>
 (call F.view_Try [(.func (.func F.face_Read_in1) #[] #[v1,v3])] h4).bind fun v5 h6 =>
 (unR .not v5 h6).bind fun v7 h8 =>
 condV (some v7) (
 (buildR Prog 150 [] h8).bind fun v9 h10 =>
 (storeR Prog 150 v3 v9 h10).bind fun _v11 h12 =>
 (loadR Prog 150 v3 h12).bind fun v13 h14 =>
 .ok (.tuple #[v13,(.int .i64 2)]) h14)
 (
 (loadR Prog 150 v3 h8).bind fun v15 h16 =>
 (storeR Prog 150 v3 v15 h16).bind fun _v17 h18 =>
 (loadR Prog 150 v3 h18).bind fun v19 h20 =>
 .ok (.tuple #[v19,(.int .i64 0)]) h20)
theorem face_Read_R (k:Nat) (a0:Value) (h:Heap):R (T k) F.face_Read [a0] h = nrm .gc h (face_Read k (R (T k)) a0 h) :=
 (R_body (t:=T k) (T_scott k) (by kernel_rfl) (by kernel_rfl) _ _).trans (by kernel_rfl)
def face_Read_in1 (k:Nat) (call:Caller) (a0 a1:Value) (h:Heap):Res Value :=
 (loadR Prog 31 a0 h).bind fun v1 h2 =>
 (call F.face_take [v1] h2).bind fun v3 h4 =>
 (storeR Prog 150 a1 v3 h4).bind fun _v5 h6 =>
 .ok (.tuple #[]) h6
theorem face_Read_in1_R (k:Nat) (a0 a1:Value) (h:Heap):R (T k) F.face_Read_in1 [a0,a1] h = nrm .no h (face_Read_in1 k (R (T k)) a0 a1 h) :=
 (R_body (t:=T k) (T_scott k) (by kernel_rfl) (by kernel_rfl) _ _).trans (by kernel_rfl)
def face_take (k:Nat) (call:Caller) (a0:Value) (h:Heap):Res Value :=
 (allocR Prog 150 h).bind fun v1 h2 =>
 (call F.face_table [a0,(.string ⟨#[109,97,120,112]⟩)] h2).bind fun v3 h4 =>
 (call F.face_table [a0,(.string ⟨#[104,101,97,100]⟩)] h4).bind fun v5 h6 =>
 (call F.face_table [a0,(.string ⟨#[104,104,101,97]⟩)] h6).bind fun v7 h8 =>
 (allocR Prog 75 h8).bind fun v9 h10 =>
 (allocR Prog 75 h10).bind fun v11 h12 =>
 (allocR Prog 75 h12).bind fun v13 h14 =>
 (storeR Prog 75 v9 v3 h14).bind fun _v15 h16 =>
 (storeR Prog 75 v11 v5 h16).bind fun _v17 h18 =>
 (storeR Prog 75 v13 v7 h18).bind fun _v19 h20 =>
 (loadR Prog 75 v9 h20).bind fun v21 h22 =>
 (call F.view_View_U32 [v21,(.int .i64 0)] h22).bind fun v23 h24 =>
 (binR Prog .eql 3 v23 (.int .i64 65536) h24).bind fun v25 h26 =>
 ((bif wantVal v25 false then Res.ok v23 h26 else Res.ok undef h26)).bind fun v27 h28 =>
 ((bif wantVal v25 false then binR Prog .eql 3 v27 (.int .i64 20480) h28 else Res.ok undef h28)).bind fun v29 h30 =>
 (condV (some v25) (Res.ok (.bool true) h30) (Res.ok v29 h30)).bind fun v31 h32 =>
 (call F.view_Need [v31] h32).bind fun v33 h34 =>
 (loadR Prog 75 v11 h34).bind fun v35 h36 =>
 (call F.view_View_Cut [v35,(.int .i64 0),(.int .i64 54)] h36).bind fun v37 h38 =>
 (loadR Prog 75 v11 h38).bind fun v39 h40 =>
 (call F.view_View_U32 [v39,(.int .i64 12)] h40).bind fun v41 h42 =>
 (binR Prog .eql 3 v41 (.int .i64 1594834165) h42).bind fun v43 h44 =>
 (call F.view_Need [v43] h44).bind fun v45 h46 =>
 (loadR Prog 75 v13 h46).bind fun v47 h48 =>
 (call F.view_View_Cut [v47,(.int .i64 0),(.int .i64 36)] h48).bind fun v49 h50 =>
 (loadR Prog 75 v9 h50).bindN fun v51 h52 =>
 (call F.view_View_U16 [v51,(.int .i64 4)] h52).bindT (fun p55 h56 => (loadR Prog 75 v11 h52).bindN fun v57 h58 => (loadR Prog 75 v13 h58).bindN fun v59 h60 => (allocR Prog 150 h60).bindN fun v61 h62 => chkR ((okVal (loadR Prog 75 v11 h50) v57 && true) && ((okVal (loadR Prog 75 v13 h50) v59 && true) && true)) (.panic p55 h56)) fun v53 h54 =>
 (loadR Prog 75 v11 h54).bindN fun v63 h64 =>
 (call F.view_View_U16 [v63,(.int .i64 18)] h64).bindT (fun p67 h68 => (loadR Prog 75 v13 h64).bindN fun v69 h70 => (allocR Prog 150 h70).bindN fun v71 h72 => chkR ((okVal (loadR Prog 75 v11 h50) v63 && true) && ((okVal (loadR Prog 75 v13 h50) v69 && (okVal (loadR Prog 75 v13 h54) v69 && true)) && true)) (.panic p67 h68)) fun v65 h66 =>
 (loadR Prog 75 v13 h66).bindN fun v73 h74 =>
 (call F.view_View_U16 [v73,(.int .i64 34)] h74).bindT (fun p77 h78 => (allocR Prog 150 h74).bindN fun v79 h80 => chkR ((okVal (loadR Prog 75 v11 h50) v63 && true) && ((okVal (loadR Prog 75 v13 h50) v73 && (okVal (loadR Prog 75 v13 h54) v73 && true)) && true)) (.panic p77 h78)) fun v75 h76 =>
 (buildR Prog 150 [(0,v53),(1,v65),(2,v75)] h76).bindN fun v81 h82 =>
 (allocR Prog 150 h82).bindN fun v83 h84 =>
 (storeR Prog 150 v83 v81 h84).bindN fun _v85 h86 =>
 chkR ((okVal (loadR Prog 75 v11 h50) v63 && true) && ((okVal (loadR Prog 75 v13 h50) v73 && (okVal (loadR Prog 75 v13 h54) v73 && true)) && true)) (
 (fieldAddrR Prog 150 v83 0 h86).bind fun v87 h88 =>
 (loadR Prog 3 v87 h88).bind fun v89 h90 =>
 (binR Prog .geq 3 v89 (.int .i64 1) h90).bind fun v91 h92 =>
 ((bif wantVal v91 true then fieldAddrR Prog 150 v83 1 h92 else Res.ok undef h92)).bind fun v93 h94 =>
 ((bif wantVal v91 true then loadR Prog 3 v93 h94 else Res.ok undef h94)).bind fun v95 h96 =>
 ((bif wantVal v91 true then binR Prog .geq 3 v95 (.int .i64 16) h96 else Res.ok undef h96)).bind fun v97 h98 =>
 (condV (some v91) (Res.ok v97 h98) (Res.ok (.bool false) h98)).bind fun v99 h100 =>
 ((bif wantVal v99 true then fieldAddrR Prog 150 v83 1 h100 else Res.ok undef h100)).bind fun v101 h102 =>
 ((bif wantVal v99 true then loadR Prog 3 v101 h102 else Res.ok undef h102)).bind fun v103 h104 =>
 ((bif wantVal v99 true then binR Prog .leq 3 v103 (.int .i64 16384) h104 else Res.ok undef h104)).bind fun v105 h106 =>
 (condV (some v99) (Res.ok v105 h106) (Res.ok (.bool false) h106)).bind fun v107 h108 =>
 ((bif wantVal v107 true then fieldAddrR Prog 150 v83 2 h108 else Res.ok undef h108)).bind fun v109 h110 =>
 ((bif wantVal v107 true then loadR Prog 3 v109 h110 else Res.ok undef h110)).bind fun v111 h112 =>
 ((bif wantVal v107 true then binR Prog .geq 3 v111 (.int .i64 1) h112 else Res.ok undef h112)).bind fun v113 h114 =>
 (condV (some v107) (Res.ok v113 h114) (Res.ok (.bool false) h114)).bind fun v115 h116 =>
 ((bif wantVal v115 true then fieldAddrR Prog 150 v83 2 h116 else Res.ok undef h116)).bind fun v117 h118 =>
 ((bif wantVal v115 true then loadR Prog 3 v117 h118 else Res.ok undef h118)).bind fun v119 h120 =>
 ((bif wantVal v115 true then fieldAddrR Prog 150 v83 0 h120 else Res.ok undef h120)).bind fun v121 h122 =>
 ((bif wantVal v115 true then loadR Prog 3 v121 h122 else Res.ok undef h122)).bind fun v123 h124 =>
 ((bif wantVal v115 true then binR Prog .leq 3 v119 v123 h124 else Res.ok undef h124)).bind fun v125 h126 =>
 (condV (some v115) (Res.ok v125 h126) (Res.ok (.bool false) h126)).bind fun v127 h128 =>
 (call F.view_Need [v127] h128).bind fun v129 h130 =>
 (loadR Prog 150 v83 h130).bind fun v131 h132 =>
 (storeR Prog 150 v1 v131 h132).bind fun _v133 h134 =>
 (loadR Prog 150 v1 h134).bind fun v135 h136 =>
 .ok v135 h136)
theorem face_take_R (k:Nat) (a0:Value) (h:Heap):R (T k) F.face_take [a0] h = nrm .gc h (face_take k (R (T k)) a0 h) :=
 (R_body (t:=T k) (T_scott k) (by kernel_rfl) (by kernel_rfl) _ _).trans (by kernel_rfl)
def face_table (k:Nat) (call:Caller) (a0 a1:Value) (h:Heap):Res Value :=
 (allocR Prog 75 h).bind fun v1 h2 =>
 (call F.sfnt_Find [a0,a1] h2).bind fun v3 h4 =>
 (extractR v3 0 h4).bind fun v5 h6 =>
 (extractR v3 1 h6).bind fun v7 h8 =>
 (allocR Prog 75 h8).bind fun v9 h10 =>
 (storeR Prog 75 v9 v5 h10).bind fun _v11 h12 =>
 (call F.view_Need [v7] h12).bind fun v13 h14 =>
 (loadR Prog 75 v9 h14).bind fun v15 h16 =>
 (storeR Prog 75 v1 v15 h16).bind fun _v17 h18 =>
 (loadR Prog 75 v1 h18).bind fun v19 h20 =>
 .ok v19 h20
theorem face_table_R (k:Nat) (a0 a1:Value) (h:Heap):R (T k) F.face_table [a0,a1] h = nrm .gc h (face_table k (R (T k)) a0 a1 h) :=
 (R_body (t:=T k) (T_scott k) (by kernel_rfl) (by kernel_rfl) _ _).trans (by kernel_rfl)
end
end Go.Sw
end
section
namespace Go.Sw
open Go.RowKit
theorem Of_lvF (k:Nat) (b:List Int) (H:Heap):R (T k) F.view_Of [lv encB b] H = .ok (vwF b) H:=Of_run k (Sl.lv H 1 b)
theorem Tables_in1 (k:Nat) {b:List Int} {rs:List (ByteArray × Int × Int)} (h:FontAt b rs) {H:Heap} (p1 p3:Nat) (old:Value) (h1:H.get p1 = some ⟨[lv encB b],1,false⟩) (h3:H.get p3 = some ⟨[old],1,false⟩) :
  R (T k) F.sfnt_Tables_in1 [ptrV p1,ptrV p3] H = .ok (.tuple #[]) (H.set p3 (some ⟨[lv encTab rs],1,false⟩)):=by
 have ht:=take_run k h H;have ho:=fun H => Of_lvF k b H;rw [sfnt_Tables_in1_R];simp -implicitDefEqProofs (disch:=omega) [sfnt_Tables_in1,h1,h3,ho,ht,nrm_no]
theorem Tables_run (k:Nat) {b:List Int} {rs:List (ByteArray × Int × Int)} (h:FontAt b rs) (H:Heap):R (T k) F.sfnt_Tables [lv encB b] H = .ok (.tuple #[lv encTab rs,.int .i64 0]) H:=by
 have hin:=Tables_in1 k h (H:=(H.push ⟨[lv encB b],1,false⟩).push ⟨[.slice none 0 0],1,false⟩) H.n (H.n + 1) (.slice none 0 0) (by simp) (by simp);have ht:=Try_ok k F.sfnt_Tables_in1 #[ptrV H.n,ptrV (H.n + 1)] hin;simp at ht;have fl:Flat (.tuple #[lv encTab rs,.int .i64 0]):=.tupleL (.cons (Flat.tabs _) (.cons (.int _ _) .nil));rw [sfnt_Tables_R];refine nrm_fz (L:=[]) (v:=.tuple #[lv encTab rs,.int .i64 0]) (H':=(H.push ⟨[lv encB b],1,false⟩).push ⟨[lv encTab rs],1,false⟩) ?_ rfl (((Ext.refl H).push _).push _) fl.alive;simp -implicitDefEqProofs (disch:=omega) [sfnt_Tables,ht]
abbrev tbV (x:ByteArray × Int × Int):Value:=.agg (encTab x).toArray
theorem FindCmp_run (k:Nat) (x:ByteArray × Int × Int) (t:ByteArray) (H:Heap):R (T k) F.sfnt_Find_in1 [tbV x,.string t] H = .ok (.int .i64 (cmpW x.1 t)) H:=by
 rw [sfnt_Find_in1_R];have hc:=fun a b H => Compare_run k a b H;refine nrm_gc ⟨_,?_,(Ext.refl H).push ⟨encTab x,1,false⟩⟩ (.int _ _);simp -implicitDefEqProofs (disch:=omega) [sfnt_Find_in1,hc]
abbrev fcmpV:Value:=.func (.func F.sfnt_Find_in1) #[] #[]
theorem shr1_u64 (P:Program) (t:TypeId) (H:Heap) (a:Int):binR P .shr t (.int .u64 a) (.int .u64 1) H = .ok (.int .u64 (a / 2)) H:=by
 unfold binR;simp [binV,shiftV,IntKind.bits,opt];rw [Int.fdiv_eq_ediv_of_nonneg _ (by decide)]
theorem wrapU64 {a:Int} (h0:0 ≤ a) (h1:a < 2 ^ 62):IntKind.u64.wrap a = a:=by
 unfold IntKind.wrap;simp [IntKind.signed,IntKind.bits];omega
structure FoundAt (rs:List (ByteArray × Int × Int)) (t:ByteArray) (i:Nat):Prop where
 lt:i < rs.length
 less:∀ (j:Nat) r,rs[j]? = some r → j < i → cmpW r.1 t < 0
 same:∀ r,rs[i]? = some r → cmpW r.1 t = 0
 more:∀ (j:Nat) r,rs[j]? = some r → i < j → ¬ cmpW r.1 t < 0
theorem search_run (k:Nat) {rs:List (ByteArray × Int × Int)} (hl:rs.length < 2 ^ 30) {t:ByteArray} {i:Nat} (h:FoundAt rs t i) (H:Heap) :
  R (T k) F.slices_BinarySearchFunc_of_sfnt_Table_sfnt_Table_string [lv encTab rs,.string t,fcmpV] H = .ok (.tuple #[.int .i64 i,.bool true]) H:=by
 have hlt:=h.lt;have hcmp:∀ x H,callV (R (T k)) fcmpV [tbV x,.string t] H = .ok (.int .i64 (cmpW x.1 t)) H:=fun x H => FindCmp_run k x t H
 obtain ⟨xx,e',H1,hr1,rfl,rfl,rfl⟩:=loopDec (body:=slices_BinarySearchFunc_of_sfnt_Table_sfnt_Table_string_l1 k (R (T k)))
  (fun m e H' => H' = H ∧ ∃ lo hi:Nat,e = [(0,lv encTab rs),(1,.string t),(2,fcmpV),(8,.int .i64 rs.length),(9,.int .i64 lo),(10,.int .i64 hi)] ∧ lo ≤ i ∧ i ≤ hi ∧ hi ≤ rs.length ∧ m = hi - lo)
  (fun xx e H' => H' = H ∧ xx = .exit 0 ∧ e = [(0,lv encTab rs),(1,.string t),(2,fcmpV),(8,.int .i64 rs.length),(9,.int .i64 i),(10,.int .i64 i),(17,.bool false)])
  rs.length (e0:=[(0,lv encTab rs),(1,.string t),(2,fcmpV),(8,.int .i64 rs.length),(9,.int .i64 0),(10,.int .i64 rs.length)]) (H0:=H) ⟨rfl,0,rs.length,rfl,by omega,by omega,by omega,by omega⟩ (by omega)
  (fun m e H' ⟨hH,lo,hi,he,h1,h2,h3,h4⟩ => by
   subst he hH;by_cases hlh:lo < hi
   ·obtain ⟨mid,hmid⟩:∃ mid,mid = (lo + hi) / 2:=⟨_,rfl⟩
    have hml:mid < rs.length:=by omega
    obtain ⟨x,hx⟩:∃ x,rs[mid]? = some x:=⟨_,List.getElem?_eq_getElem hml⟩
    have ix:=fun H => ixS_lvN encTab_len rs .i64 mid x hx H;have hlh':(lo:Int) < hi:=by omega
    have hw1:IntKind.u64.wrap ((lo:Int) + hi) = lo + hi:=wrapU64 (by omega) (by omega);have hsh:=fun H => shr1_u64 Prog 200 H ((lo:Int) + hi);rw [show ((lo:Int) + hi) / 2 = (mid:Int) by omega] at hsh;have hcx:=hcmp x;by_cases hmi:mid < i
    ·have hc:=h.less mid x hx hmi;refine .inl ⟨hi - (mid + 1),_,H',?_,by omega,rfl,mid + 1,hi,rfl,by omega,h2,h3,rfl⟩;rw [slices_BinarySearchFunc_of_sfnt_Table_sfnt_Table_string_l1_eq];simp -implicitDefEqProofs (disch:=omega) [hlh,hlh',hw1,hsh,ix,hcx,hc]
    ·have hc:¬ cmpW x.1 t < 0:=by
      by_cases he:i = mid
      ·have:=h.same x (by rw [he]; exact hx);omega
      ·exact h.more mid x hx (by omega)
     refine .inl ⟨mid - lo,_,H',?_,by omega,rfl,lo,mid,rfl,h1,by omega,by omega,rfl⟩;rw [slices_BinarySearchFunc_of_sfnt_Table_sfnt_Table_string_l1_eq];simp -implicitDefEqProofs (disch:=omega) [hlh,hlh',hw1,hsh,ix,hcx,hc]
   ·have e1:lo = i:=by omega
    have e2:hi = i:=by omega
    subst e1 e2;refine .inr ⟨.exit 0,_,_,?_,by simp,rfl,rfl,rfl⟩;rw [slices_BinarySearchFunc_of_sfnt_Table_sfnt_Table_string_l1_eq];simp -implicitDefEqProofs (disch:=omega))
 obtain ⟨x,hx⟩:∃ x,rs[i]? = some x:=⟨_,List.getElem?_eq_getElem hlt⟩
 have ix:=fun H => ixS_lvN encTab_len rs .i64 i x hx H;have hcx:=hcmp x;have hs:=h.same x hx;have hs':(cmpW x.1 t == 0) = true:=by rw [hs]; rfl
 have hil:(i:Int) < rs.length:=by omega
 rw [slices_BinarySearchFunc_of_sfnt_Table_sfnt_Table_string_R];simp -implicitDefEqProofs (disch:=omega) [slices_BinarySearchFunc_of_sfnt_Table_sfnt_Table_string,hr1,slices_BinarySearchFunc_of_sfnt_Table_sfnt_Table_string_l1k_x0,hlt,hil,ix,hcx,hs',nrm_no]
theorem Find_run (k:Nat) {b:List Int} {rs:List (ByteArray × Int × Int)} (h:FontAt b rs) {t:ByteArray} {i:Nat} (hf:FoundAt rs t i) {r:ByteArray × Int × Int} (hr:rs[i]? = some r) {x:List Int} (hx:pieceS b r.2.1 r.2.2 = some x) (H:Heap) :
  R (T k) F.sfnt_Find [lv encB b,.string t] H = .ok (.tuple #[vwF x,.bool true]) H:=by
 have hrl:rs.length < 2 ^ 30:=by have:=h.all; have:=h.len; omega
 have ht:=fun H => Tables_run k h H;have hs:=fun H => search_run k hrl hf H;have ho:=fun H => Of_lvF k b H;have hc:=fun H => CutF k (by have:=h.len; omega) hx H;have ix:=fun H => ixS_lvN encTab_len rs .i64 i r hr H;have fl:Flat (.tuple #[vwF x,.bool true]):=.tupleL (l:=[vwF x,.bool true]) (.cons (Flat.vw x) (.cons (.bool _) .nil));rw [sfnt_Find_R];refine nrm_gc ⟨_,?_,(Ext.refl H).push ⟨[lv encB x],1,false⟩⟩ fl.alive;simp -implicitDefEqProofs (disch:=omega) [sfnt_Find,ht,hs,ho,hc,ix]
theorem table_run (k:Nat) {b:List Int} {rs:List (ByteArray × Int × Int)} (h:FontAt b rs) {t:ByteArray} {i:Nat} (hf:FoundAt rs t i) {r:ByteArray × Int × Int} (hr:rs[i]? = some r) {x:List Int} (hx:pieceS b r.2.1 r.2.2 = some x) (H:Heap) :
  R (T k) F.face_table [lv encB b,.string t] H = .ok (vwF x) H:=by
 have hfi:=fun H => Find_run k h hf hr hx H;have nt:=fun H => Need_true k H;rw [face_table_R];refine nrm_gc ⟨_,?_,((Ext.refl H).push ⟨[lv encB x],1,false⟩).push ⟨[lv encB x],1,false⟩⟩ (Flat.vw x).alive;simp -implicitDefEqProofs (disch:=omega) [face_table,hfi,nt]
end Go.Sw
end
section
set_option maxRecDepth 100000
set_option linter.unusedVariables false
namespace Go.Sw
noncomputable section
def width_Read (k:Nat) (call:Caller) (a0:Value) (h:Heap):Res Value :=
 (call F.face_Read [a0] h).bind fun v1 h2 =>
 (extractR v1 0 h2).bind fun v3 h4 =>
 (extractR v1 1 h4).bind fun v5 h6 =>
 (allocR Prog 150 h6).bind fun v7 h8 =>
 (storeR Prog 150 v7 v3 h8).bind fun _v9 h10 =>
 (binR Prog .neq 33 v5 (.int .i64 0) h10).bind fun v11 h12 =>
 condV (some v11) (
 .ok (.tuple #[(.pointer none),v5]) h12)
 (
 (call F.sfnt_Find [a0,(.string ⟨#[104,109,116,120]⟩)] h12).bind fun v13 h14 =>
 (extractR v13 0 h14).bind fun v15 h16 =>
 (extractR v13 1 h16).bind fun v17 h18 =>
 (allocR Prog 75 h18).bind fun v19 h20 =>
 (storeR Prog 75 v19 v15 h20).bind fun _v21 h22 =>
 (call F.view_Try [(.func (.func F.width_Read_in1) #[] #[v19,v7])] h22).bind fun v23 h24 =>
 (unR .not v23 h24).bind fun v25 h26 =>
 condV (some v25) (
 .ok (.tuple #[(.pointer none),(.int .i64 2)]) h26)
 (
 (loadR Prog 150 v7 h26).bind fun v27 h28 =>
 (loadR Prog 75 v19 h28).bind fun v29 h30 =>
 (buildR Prog 253 [(0,v27),(1,v29)] h30).bind fun v31 h32 =>
 (boxR v31 h32).bind fun v33 h34 =>
 .ok (.tuple #[v33,(.int .i64 0)]) h34))
theorem width_Read_R (k:Nat) (a0:Value) (h:Heap):R (T k) F.width_Read [a0] h = nrm .fz h (width_Read k (R (T k)) a0 h) :=
 (R_body (t:=T k) (T_scott k) (by kernel_rfl) (by kernel_rfl) _ _).trans (by kernel_rfl)
def width_Width_Face (k:Nat) (call:Caller) (a0:Value) (h:Heap):Res Value :=
 (allocR Prog 150 h).bind fun v1 h2 =>
 (nilR a0 h2).bind fun v3 h4 =>
 (fieldAddrR Prog 253 v3 0 h4).bind fun v5 h6 =>
 (loadR Prog 150 v5 h6).bind fun v7 h8 =>
 (storeR Prog 150 v1 v7 h8).bind fun _v9 h10 =>
 (loadR Prog 150 v1 h10).bind fun v11 h12 =>
 .ok v11 h12
theorem width_Width_Face_R (k:Nat) (a0:Value) (h:Heap):R (T k) F.width_Width_Face [a0] h = nrm .gc h (width_Width_Face k (R (T k)) a0 h) :=
 (R_body (t:=T k) (T_scott k) (by kernel_rfl) (by kernel_rfl) _ _).trans (by kernel_rfl)
def width_Width_Advance (k:Nat) (call:Caller) (a0 a1:Value) (h:Heap):Res Value :=
 (binR Prog .lss 3 a1 (.int .i64 0) h).bind fun v1 h2 =>
 ((bif wantVal v1 false then Res.ok a1 h2 else Res.ok undef h2)).bind fun v3 h4 =>
 ((bif wantVal v1 false then Res.ok a0 h4 else Res.ok undef h4)).bind fun v5 h6 =>
 ((bif wantVal v1 false then nilR v5 h6 else Res.ok undef h6)).bind fun v7 h8 =>
 ((bif wantVal v1 false then fieldAddrR Prog 253 v7 0 h8 else Res.ok undef h8)).bind fun v9 h10 =>
 ((bif wantVal v1 false then fieldAddrR Prog 150 v9 0 h10 else Res.ok undef h10)).bind fun v11 h12 =>
 ((bif wantVal v1 false then loadR Prog 3 v11 h12 else Res.ok undef h12)).bind fun v13 h14 =>
 ((bif wantVal v1 false then binR Prog .geq 3 v3 v13 h14 else Res.ok undef h14)).bind fun v15 h16 =>
 (condV (some v1) (Res.ok (.bool true) h16) (Res.ok v15 h16)).bind fun v17 h18 =>
 condV (some v17) (
 .ok (.int .i64 0) h18)
 (
 (nilR a0 h18).bindN fun v19 h20 =>
 (fieldAddrR Prog 253 v19 1 h20).bindN fun v21 h22 =>
 (loadR Prog 75 v21 h22).bindN fun v23 h24 =>
 (nilR a0 h24).bindN fun v25 h26 =>
 (fieldAddrR Prog 253 v25 0 h26).bindN fun v27 h28 =>
 (fieldAddrR Prog 150 v27 2 h28).bindN fun v29 h30 =>
 (loadR Prog 3 v29 h30).bindN fun v31 h32 =>
 (binR Prog .sub 3 v31 (.int .i64 1) h32).bindN fun v33 h34 =>
 (builtinV Prog .min [3,3] [a1,v33] h34).bindN fun v35 h36 =>
 (binR Prog .mul 3 (.int .i64 4) v35 h36).bindN fun v37 h38 =>
 (call F.view_View_U16 [v23,v37] h38).bindT (fun p41 h42 => .panic p41 h42) fun v39 h40 =>
 .ok v39 h40)
theorem width_Width_Advance_R (k:Nat) (a0 a1:Value) (h:Heap):R (T k) F.width_Width_Advance [a0,a1] h = nrm .gc h (width_Width_Advance k (R (T k)) a0 a1 h) :=
 (R_body (t:=T k) (T_scott k) (by kernel_rfl) (by kernel_rfl) _ _).trans (by kernel_rfl)
def width_Read_in1 (k:Nat) (call:Caller) (a0 a1:Value) (h:Heap):Res Value :=
 (loadR Prog 75 a0 h).bind fun v1 h2 =>
 (fieldAddrR Prog 150 a1 2 h2).bind fun v3 h4 =>
 (loadR Prog 3 v3 h4).bind fun v5 h6 =>
 (binR Prog .mul 3 (.int .i64 4) v5 h6).bind fun v7 h8 =>
 (fieldAddrR Prog 150 a1 0 h8).bind fun v9 h10 =>
 (loadR Prog 3 v9 h10).bind fun v11 h12 =>
 (fieldAddrR Prog 150 a1 2 h12).bind fun v13 h14 =>
 (loadR Prog 3 v13 h14).bind fun v15 h16 =>
 (binR Prog .sub 3 v11 v15 h16).bind fun v17 h18 =>
 (binR Prog .mul 3 (.int .i64 2) v17 h18).bind fun v19 h20 =>
 (binR Prog .add 3 v7 v19 h20).bind fun v21 h22 =>
 (call F.view_View_Cut [v1,(.int .i64 0),v21] h22).bind fun v23 h24 =>
 (call F.view_View_Bytes [v23] h24).bind fun v25 h26 =>
 (call F.view_Of [v25] h26).bind fun v27 h28 =>
 (storeR Prog 75 a0 v27 h28).bind fun _v29 h30 =>
 .ok (.tuple #[]) h30
theorem width_Read_in1_R (k:Nat) (a0 a1:Value) (h:Heap):R (T k) F.width_Read_in1 [a0,a1] h = nrm .no h (width_Read_in1 k (R (T k)) a0 a1 h) :=
 (R_body (t:=T k) (T_scott k) (by kernel_rfl) (by kernel_rfl) _ _).trans (by kernel_rfl)
end
end Go.Sw
end
section
namespace Go.Sw
open Go.RowKit
abbrev encPart (x:ByteArray × List Int):List Value:=[.string x.1,lv encB x.2]
theorem encPart_len (x:ByteArray × List Int):(encPart x).length = 2:=rfl
abbrev fpV (x:ByteArray × List Int):Value:=.agg (encPart x).toArray
def swapW (l:List (ByteArray × List Int)) (j:Nat):List (ByteArray × List Int):=match l[j]?,l[j + 1]? with
 | some x,some y => (l.set (j + 1) x).set j y
 | _,_ => l
def insW (l:List (ByteArray × List Int)):Nat → List (ByteArray × List Int)
 | 0 => l
 | j + 1 => match l[j]?,l[j + 1]? with
  | some x,some y => if cmpW y.1 x.1 < 0 then insW (swapW l j) j else l
  | _,_ => l
def sortW (l:List (ByteArray × List Int)):Nat → List (ByteArray × List Int)
 | 0 => l
 | j + 1 => insW (sortW l j) (j + 1)
theorem swapW_len (l:List (ByteArray × List Int)) (j:Nat):(swapW l j).length = l.length:=by
 unfold swapW;split
 ·simp
 ·rfl
theorem insW_len:∀ (j:Nat) (l:List (ByteArray × List Int)),(insW l j).length = l.length
 | 0,_ => rfl
 | j + 1,l => by
  unfold insW;split
  ·split
   ·rw [insW_len j,swapW_len]
   ·rfl
  ·rfl
theorem sortW_len (l:List (ByteArray × List Int)):∀ j,(sortW l j).length = l.length
 | 0 => rfl
 | j + 1 => by unfold sortW; rw [insW_len,sortW_len l j]
theorem MakeCmp_run (k:Nat) (x y:ByteArray × List Int) (H:Heap):R (T k) F.sfnt_Make_in1 [fpV x,fpV y] H = .ok (.int .i64 (cmpW x.1 y.1)) H:=by
 rw [sfnt_Make_in1_R];have hc:=fun a b H => Compare_run k a b H;refine nrm_gc ⟨_,?_,((Ext.refl H).push ⟨encPart x,1,false⟩).push ⟨encPart y,1,false⟩⟩ (.int _ _);simp -implicitDefEqProofs (disch:=omega) [sfnt_Make_in1,hc]
abbrev cmpV:Value:=.func (.func F.sfnt_Make_in1) #[] #[]
theorem Star.swap {α:Type} {enc:α → List Value} {m:Nat} {H0 H:Heap} {L:List It} (h:Star H0 H L) (i:Nat) {o:Option Nat} {s:Value} {l:List α} (hi:L[i]? = some (itRow o m s enc l)) (he:∀ x,(enc x).length = m) (hst:∀ x,storable (.agg (enc x).toArray) = true) {j:Nat} {x y:α} (hx:l[j]? = some x) (hy:l[j + 1]? = some y) :
  ∃ c H2 H3,o = some c ∧ stR m (.pointer (some ⟨c,(j + 1) * m,none⟩)) (.agg (enc x).toArray) H = .ok undef H2 ∧ stR m (.pointer (some ⟨c,j * m,none⟩)) (.agg (enc y).toArray) H2 = .ok undef H3 ∧ Star H0 H3 (L.set i (itRow o m s enc ((l.set (j + 1) x).set j y))):=by
 rcases h.row i hi with ⟨r1,r2,r3⟩ | ⟨c,r1,r2,r3⟩
 ·rw [r2] at hx; cases hx
 ·obtain ⟨H2,H3,e1,e2,g3,k3,n3⟩:=swap_row he hst r3 hx hy;refine ⟨c,H2,H3,r1,e1,e2,h.step i hi (by omega) (fun d _ hd => k3 d fun e => hd (by subst e; simp [itRow,r1])) _ (.inr ⟨c,r1,by rw [r2]; simp,g3⟩) fun b hb => .inl hb⟩
theorem insert_l2 (k:Nat) {H0 H:Heap} {L:List It} {i:Nat} {o:Option Nat} {s:Value} {l:List (ByteArray × List Int)} (hi:L[i]? = some (itRow o 2 s encPart l)) (g:Star H0 H L) (m:Nat) (hm:m < l.length) (hl:l.length < 2 ^ 30) (a2 a8:Value) :
  ∃ z w H',loopN (slices_insertionSortCmpFunc_of_sfnt_Part_l2 k (R (T k))) loopFuel [(0,s),(1,.int .i64 0),(2,a2),(3,cmpV),(8,a8),(9,.int .i64 m)] H = .ok (.exit 2,[(0,s),(1,.int .i64 0),(2,a2),(3,cmpV),(8,a8),(9,z),(34,w)]) H' ∧ Star H0 H' (L.set i (itRow o 2 s encPart (insW l m))):=by
 have hlt:=(List.getElem?_eq_some_iff.1 hi).1;have same:L.set i (itRow o 2 s encPart l) = L:=by
  obtain ⟨hlt,hx⟩:=List.getElem?_eq_some_iff.1 hi;rw [← hx,List.set_getElem_self]
 have hlen:=insW_len m l;obtain ⟨r,hr⟩:∃ r,r = insW l m:=⟨_,rfl⟩
 rw [← hr] at hlen ⊢
 obtain ⟨xx,e',H1,hr1,rfl,z,w,rfl,g⟩:=loopDec (body:=slices_insertionSortCmpFunc_of_sfnt_Part_l2 k (R (T k)))
  (fun j e H' => e = [(0,s),(1,.int .i64 0),(2,a2),(3,cmpV),(8,a8),(9,.int .i64 j)] ∧ ∃ l',Star H0 H' (L.set i (itRow o 2 s encPart l')) ∧ insW l' j = r ∧ l'.length = l.length ∧ j < l.length)
  (fun xx e H' => xx = .exit 2 ∧ ∃ z w,e = [(0,s),(1,.int .i64 0),(2,a2),(3,cmpV),(8,a8),(9,z),(34,w)] ∧ Star H0 H' (L.set i (itRow o 2 s encPart r)))
  m (e0:=[(0,s),(1,.int .i64 0),(2,a2),(3,cmpV),(8,a8),(9,.int .i64 m)]) (H0:=H) ⟨rfl,l,by rw [same]; exact g,hr.symm,rfl,hm⟩ (by omega)
  (fun j e H' ⟨he,l',g,hins,hll,hj⟩ => by
   subst he;have hself:(L.set i (itRow o 2 s encPart l'))[i]? = some (itRow o 2 s encPart l'):=List.getElem?_set_self hlt;cases j with
   | zero =>
    have hins:l' = r:=hins;subst hins;refine .inr ⟨.exit 2,_,H',?_,by simp,rfl,.int .i64 ((0:Nat):Int),.bool false,rfl,g⟩;rw [slices_insertionSortCmpFunc_of_sfnt_Part_l2_eq];simp -implicitDefEqProofs (disch:=omega)
   | succ j =>
    have hj0:((j + 1:Nat):Int) > 0:=by omega
    obtain ⟨x,hx⟩:∃ x,l'[j]? = some x:=⟨_,List.getElem?_eq_getElem (by omega)⟩
    obtain ⟨y,hy⟩:∃ y,l'[j + 1]? = some y:=⟨_,List.getElem?_eq_getElem (by omega)⟩
    unfold insW at hins;rw [hx,hy] at hins;dsimp only at hins;obtain ⟨c,hc,hgc,ixA⟩:=g.ix i hself .i64 (j + 1) (by omega);obtain ⟨c',hc',_,ixB⟩:=g.ix i hself .i64 j (by omega);have:c' = c:=by rw [hc] at hc'; exact (Option.some.inj hc').symm
    subst this;have ldA:=ldA_row encPart_len hgc hy;have ldB:=ldA_row encPart_len hgc hx;have hcast:((j + 1:Nat):Int) = (j:Int) + 1:=rfl;rw [hcast] at hj0 ixA ⊢;have hsub:(j:Int) + 1 - 1 = (j:Int):=by omega
    have hcmp:∀ H,callV (R (T k)) cmpV [fpV y,fpV x] H = .ok (.int .i64 (cmpW y.1 x.1)) H:=fun H => MakeCmp_run k y x H;by_cases hlt0:cmpW y.1 x.1 < 0
    ·rw [if_pos hlt0] at hins;have hsw:swapW l' j = (l'.set (j + 1) x).set j y:=by unfold swapW; rw [hx,hy]
     obtain ⟨c2,H2,H3,hc2,e2,e3,g2⟩:=g.swap i hself encPart_len (fun _ => rfl) hx hy;have:c2 = c':=by rw [hc] at hc2; exact (Option.some.inj hc2).symm
     subst this;rw [List.set_set,← hsw] at g2;refine .inl ⟨j,_,H3,?_,by omega,rfl,_,g2,hins,by rw [swapW_len]; exact hll,by omega⟩;rw [slices_insertionSortCmpFunc_of_sfnt_Part_l2_eq];simp -implicitDefEqProofs (disch:=omega) [-stR_ptr,hj0,hsub,ixA,ixB,ldA,ldB,hcmp,hlt0,e2,e3]
    ·rw [if_neg hlt0] at hins;subst hins;refine .inr ⟨.exit 2,_,H',?_,by simp,rfl,.int .i64 ((j:Int) + 1),.bool false,rfl,g⟩;rw [slices_insertionSortCmpFunc_of_sfnt_Part_l2_eq];simp -implicitDefEqProofs (disch:=omega) [hj0,hsub,ixA,ixB,ldA,ldB,hcmp,hlt0])
 exact ⟨z,w,H1,hr1,g⟩
end Go.Sw
end
section
set_option maxRecDepth 100000
set_option linter.unusedVariables false
namespace Go.Sw
noncomputable section
def swashlaw03_Plain (k:Nat) (call:Caller) (a0 a1 a2:Value) (h:Heap):Res Value :=
 (call F.swashref02_Put [(.slice none 0 0),(.int .i64 65536),(.int .i64 4)] h).bind fun v1 h2 =>
 (call F.swashref02_Put [v1,a0,(.int .i64 2)] h2).bind fun v3 h4 =>
 (makeSliceV Prog 31 (.int .i64 12) (.int .i64 12) h4).bind fun v5 h6 =>
 (call F.swashref02_Put [v5,(.int .i64 1594834165),(.int .i64 4)] h6).bind fun v7 h8 =>
 (buildSliceR Prog 31 2 [(0,(.int .u8 0)),(1,(.int .u8 0))] h8).bind fun v9 h10 =>
 (builtinV Prog .append [31,31] [v7,v9] h10).bind fun v11 h12 =>
 (call F.swashref02_Put [v11,a1,(.int .i64 2)] h12).bind fun v13 h14 =>
 (builtinV Prog .append [31,3] [v13,(.int .i64 34)] h14).bind fun v15 h16 =>
 (makeSliceV Prog 31 (.int .i64 34) (.int .i64 34) h16).bind fun v17 h18 =>
 (call F.swashref02_Put [v17,a2,(.int .i64 2)] h18).bind fun v19 h20 =>
 (buildR Prog 145 [(0,(.string ⟨#[109,97,120,112]⟩)),(1,v3)] h20).bind fun v21 h22 =>
 (buildR Prog 145 [(0,(.string ⟨#[104,101,97,100]⟩)),(1,v15)] h22).bind fun v23 h24 =>
 (buildR Prog 145 [(0,(.string ⟨#[104,104,101,97]⟩)),(1,v19)] h24).bind fun v25 h26 =>
 (buildSliceR Prog 143 3 [(0,v21),(1,v23),(2,v25)] h26).bind fun v27 h28 =>
 .ok v27 h28
theorem swashlaw03_Plain_R (k:Nat) (a0 a1 a2:Value) (h:Heap):R (T k) F.swashlaw03_Plain [a0,a1,a2] h = nrm .fz h (swashlaw03_Plain k (R (T k)) a0 a1 a2 h) :=
 (R_body (t:=T k) (T_scott k) (by kernel_rfl) (by kernel_rfl) _ _).trans (by kernel_rfl)
end
end Go.Sw
end
section
namespace Go.Sw
open Go.RowKit
abbrev wMaxp:ByteArray:=⟨#[109,97,120,112]⟩
abbrev wHead:ByteArray:=⟨#[104,101,97,100]⟩
abbrev wHhea:ByteArray:=⟨#[104,104,101,97]⟩
abbrev wHmtx:ByteArray:=⟨#[104,109,116,120]⟩
def maxpB (g:Int):List Int:=bytesOf 65536 4 ++ bytesOf g 2
def headB (em:Int):List Int:=List.replicate 12 0 ++ bytesOf 1594834165 4 ++ [0,0] ++ bytesOf em 2 ++ List.replicate 34 0
def hheaB (m:Int):List Int:=List.replicate 34 0 ++ bytesOf m 2
abbrev encPV (x:(ByteArray × List Int) × Value):List Value:=[.string x.1.1,x.2]
theorem encPV_len (x:(ByteArray × List Int) × Value):(encPV x).length = 2:=rfl
theorem Flat.parts (l:List (ByteArray × List Int)):Flat (Go.Sw.lv encPart l):=.lv fun p _ => .cons (.string _) (.cons (Flat.B _) .nil)
theorem mkB_run (n:Nat) (hn:n ≤ 2 ^ 31) (H:Heap):mkR 1 1 [.int .u8 0] (.int .i64 n) (.int .i64 n) H = .ok (.slice (some ⟨H.n,0,none⟩) n n) (H.push ⟨rows encB (List.replicate n 0),1,false⟩):=by
 rw [mkR_nat 1 1 [.int .u8 0] .i64 .i64 n H hn (by decide)];congr 3;clear hn
 induction n with
 | zero => rfl
 | succ n ih =>
  show _ = encB 0 ++ rows encB (List.replicate n 0);rw [← ih];rfl
theorem B_still (b:List Int):∀ n,n ∈ b → ∀ v,v ∈ encB n → Still v:=fun n _ v hv => by simp at hv; subst hv; trivial
set_option maxHeartbeats 2000000 in
theorem Plain_run (k:Nat) (n em m:Int) (hn:0 ≤ n ∧ n < 2 ^ 62) (he:0 ≤ em ∧ em < 2 ^ 62) (hm:0 ≤ m ∧ m < 2 ^ 62) (H:Heap):R (T k) F.swashlaw03_Plain [.int .i64 n,.int .i64 em,.int .i64 m] H = .ok (lv encPart [(wMaxp,maxpB n),(wHead,headB em),(wHhea,hheaB m)]) H:=by
 rw [swashlaw03_Plain_R];have g:=(Star.nil H).more_row (Ext.refl _) (OwnO.nil encB _ 1) (fun b hb => by cases hb);simp only [List.nil_append] at g;obtain ⟨t1,u1,J1,f1,g⟩:=Put_star k g 0 rfl 65536 4 4 rfl (by omega) (by omega) (by omega) (by simp);simp only [List.set_cons_zero,List.set_cons_succ,List.nil_append] at g;obtain ⟨t2,u2,J2,f2,g⟩:=Put_star k g 0 rfl n 2 2 rfl hn.1 hn.2 (by omega) (by simp);simp only [List.set_cons_zero,List.set_cons_succ] at g;have m1:mkR 1 1 [.int .u8 0] (.int .i64 12) (.int .i64 12) J2 = .ok (.slice (some ⟨J2.n,0,none⟩) 12 12) (J2.push ⟨rows encB (List.replicate 12 0),1,false⟩):=mkB_run 12 (by decide) J2;have o1:OwnO (J2.push ⟨rows encB (List.replicate 12 0),1,false⟩) (some J2.n) 1 (.slice (some ⟨J2.n,0,none⟩) 12 12) encB (List.replicate 12 0):=.inr ⟨J2.n,rfl,rfl,get_push_eq _ _ _ rfl⟩;have g:=g.more_row ((Ext.refl _).push _) o1 (fun b hb => by injection hb with hb; subst hb; simp);simp only [List.cons_append,List.nil_append] at g;obtain ⟨t3,u3,J3,f3,g⟩:=Put_star k g 1 rfl 1594834165 4 4 rfl (by omega) (by omega) (by omega) (by simp);simp only [List.set_cons_zero,List.set_cons_succ] at g;have o2:OwnO (J3.push ⟨[.int .u8 0,.int .u8 0],1,false⟩) (some J3.n) 1 (.slice (some ⟨J3.n,0,none⟩) 2 2) encB [0,0]:=.inr ⟨J3.n,rfl,rfl,get_push_eq _ _ _ rfl⟩;have g:=g.more_row ((Ext.refl _).push _) o2 (fun b hb => by injection hb with hb; subst hb; simp);simp only [List.cons_append,List.nil_append] at g;obtain ⟨t4,u4,J4,f4,g⟩:=g.appendRow (bytes:=1) 1 2 encB_len rfl rfl (by simp) (by decide);simp only [List.set_cons_zero,List.set_cons_succ] at g;have g:=g.take 2;simp only [List.take_succ_cons,List.take_zero] at g;obtain ⟨t5,u5,J5,f5,g⟩:=Put_star k g 1 rfl em 2 2 rfl he.1 he.2 (by omega) (by simp);simp only [List.set_cons_zero,List.set_cons_succ] at g;obtain ⟨a5,l5,c5,ht5⟩:=(g.row 1 rfl).shape;obtain ⟨t6,u6,J6,f6,g⟩:=g.append (bytes:=1) 1 encB_len rfl (b:=lv encB (List.replicate 34 0)) (l2:=List.replicate 34 0) (by rw [lv,List.length_replicate]; rfl) (by have:=lv_first encB_len (List.replicate 34 0) J5; exact this) (by simp) (by decide);simp only [List.set_cons_zero,List.set_cons_succ] at g;have f6':azR 1 1 [.int .u8 0] t5 (.int .i64 34) J5 = .ok t6 J6:=by
  rw [ht5] at f6 ⊢;rw [show ((34:Int)) = ((34:Nat):Int) from rfl,azR_eq encB_len a5 l5 c5 (0:Int) _ rfl .i64 34 (by omega)];exact f6
 have m2:mkR 1 1 [.int .u8 0] (.int .i64 34) (.int .i64 34) J6 = .ok (.slice (some ⟨J6.n,0,none⟩) 34 34) (J6.push ⟨rows encB (List.replicate 34 0),1,false⟩):=mkB_run 34 (by decide) J6;have o3:OwnO (J6.push ⟨rows encB (List.replicate 34 0),1,false⟩) (some J6.n) 1 (.slice (some ⟨J6.n,0,none⟩) 34 34) encB (List.replicate 34 0):=.inr ⟨J6.n,rfl,rfl,get_push_eq _ _ _ rfl⟩;have g:=g.more_row ((Ext.refl _).push _) o3 (fun b hb => by injection hb with hb; subst hb; simp);simp only [List.cons_append,List.nil_append] at g;obtain ⟨t7,u7,J7,f7,g⟩:=Put_star k g 2 rfl m 2 2 rfl hm.1 hm.2 (by omega) (by simp);simp only [List.set_cons_zero,List.set_cons_succ] at g;have s2:=(g.row 0 rfl).storable;have c2:=(g.row 0 rfl).cells;have s6:=(g.row 1 rfl).storable;have c6:=(g.row 1 rfl).cells;have s7:=(g.row 2 rfl).storable;have c7:=(g.row 2 rfl).cells;have o4:OwnO (J7.push ⟨[.string wMaxp,t2,.string wHead,t6,.string wHhea,t7],2,false⟩) (some J7.n) 2 (.slice (some ⟨J7.n,0,none⟩) 3 3) encPV [((wMaxp,maxpB n),t2),((wHead,headB em),t6),((wHhea,hheaB m),t7)]:=.inr ⟨J7.n,rfl,rfl,get_push_eq _ _ _ rfl⟩;have g:=g.more_row ((Ext.refl _).push _) o4 (fun b hb => by injection hb with hb; subst hb; simp);simp only [List.cons_append,List.nil_append] at g;obtain ⟨L0,z0⟩:=g.fzRow 0 encB_len rfl (B_still _) 5;obtain ⟨L1,z1⟩:=g.fzRow 1 encB_len rfl (B_still _) 5;obtain ⟨L2,z2⟩:=g.fzRow 2 encB_len rfl (B_still _) 5;obtain ⟨L3,z3⟩:=(g.own 3 rfl).freezeG (enc':=fun x:(ByteArray × List Int) × Value => encPart x.1) encPV_len 6 fun x hx => by
  have str:∀ s,fzV H.n (J7.push ⟨[.string wMaxp,t2,.string wHead,t6,.string wHhea,t7],2,false⟩) 7 (.string s) = some (.string s,[]):=fun s => rfl;simp only [List.mem_cons,List.not_mem_nil,or_false] at hx;rcases hx with rfl | rfl | rfl
  ·exact ⟨_,mapF_cons (str _) (mapF_one z0)⟩
  ·exact ⟨_,mapF_cons (str _) (mapF_one z1)⟩
  ·exact ⟨_,mapF_cons (str _) (mapF_one z2)⟩
 generalize rows encB (List.replicate 12 0) = q12 at m1 f3;generalize rows encB (List.replicate 34 0) = q34 at m2 f7;refine nrm_fz (u:=lv encPart [(wMaxp,maxpB n),(wHead,headB em),(wHhea,hheaB m)]) ?_ z3 g.ext (Flat.parts _).alive;simp -implicitDefEqProofs (disch:=omega) [swashlaw03_Plain,f1,f2,m1,f3,f4,f5,f6',m2,f7,s2,c2,s6,c6,s7,c7]
end Go.Sw
end
