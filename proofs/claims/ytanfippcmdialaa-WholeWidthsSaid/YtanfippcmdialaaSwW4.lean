/-
  Functions' forms, and what is proved of them, part 4.
-/
import Derived.Test.YtanfippcmdialaaSwW3
import Derived.Test.YtanfippcmdialaaSwCfg
import Derived.Test.YtanfippcmdialaaSwLib8
import Derived.Tactics
import Derived.Tactics2
import Derived.Defers
import Derived.Recover
import Derived.Laws.Pointers
import Derived.Test.YtanfippcmdialaaSwW2
import Derived.Test.YtanfippcmdialaaSwLib10
import Derived.Eval
set_option linter.unusedSimpArgs false
set_option linter.unusedVariables false
set_option linter.unusedSectionVars false
section
namespace Go.Sw
open Go.RowKit
theorem Make_own (k:Nat) {H:Heap} {o:Option Nat} {s:Value} {rv:List ((ByteArray × List Int) × Value)} (ho:OwnO H o 2 s encPV rv) (hz:∀ x,x ∈ rv → ∃ L,fzV 0 H 7 x.2 = some (lv encB x.1.2,L)) {l ls:List (ByteArray × List Int)} (hl:lv (fun x:(ByteArray × List Int) × Value => encPart x.1) rv = lv encPart l)
  {near most:Int} (hn:(l.length = 1 ∧ near = 16 ∧ most = 0) ∨ (l.length = 4 ∧ near = 64 ∧ most = 2)) (hls:sortW l (l.length - 1) = ls) (ht:∀ x,x ∈ ls → x.1.size = 4) (hd:∀ (j:Nat) x y,ls[j]? = some x → ls[j + 1]? = some y → (x.1 == y.1) = false) (hN:∀ x,x ∈ ls → x.2.length ≤ 10000) :
  ∃ L,R (T k) F.sfnt_Make [s] H = .ok (lv encB (makeB ls near most)) (killAll H L):=by
 obtain ⟨L,hL⟩:=ho.own0.freezeG (enc':=fun x:(ByteArray × List Int) × Value => encPart x.1) encPV_len 6 fun x hx => by
  obtain ⟨L,hx⟩:=hz x hx;have str:∀ s,fzV 0 H 7 (.string s) = some (.string s,[]):=fun s => rfl;exact ⟨_,mapF_cons (str _) (mapF_one hx)⟩
 rw [hl] at hL;have hm:=mapF_one (f:=fzV 0 H fzDepth) hL;refine ⟨L,?_⟩;rw [sfnt_Make_R k s (lv encPart l) H L hm];exact makeF_run k l hn ls hls ht hd hN _
abbrev wAbcd:ByteArray:=⟨#[97,98,99,100]⟩
theorem abcd_len:(makeB [(wAbcd,[])] 16 0).length = 28:=by
 have:=rowM_len (wAbcd,[]) 28 rfl;show (headM 1 16 0 ++ ([] ++ rowM (wAbcd,[]) 28) ++ ([] ++ padB [])).length = 28;rw [List.length_append,List.length_append,headM_len,List.length_append,this];rfl
theorem fz_none (H:Heap):fzV 0 H 7 (.slice none 0 0) = some (lv encB [],[]):=rfl
theorem fz_lv (H:Heap) (b:List Int):fzV 0 H 7 (lv encB b) = some (lv encB b,[]):=rfl
set_option maxRecDepth 20000 in
set_option maxHeartbeats 4000000 in
theorem WholeWidths_run (l:List Int) (hb:∀ x,x ∈ l → 0 ≤ x ∧ x < 65536) (em:Int) (he:0 ≤ em ∧ em < 65536) (t:Bool):R (T 999999) F.swashtop_WholeWidths [lv encA2 l,.int .u16 em,.bool t] Heap.empty = .ok (.bool true) Heap.empty:=by
 generalize (999999:Nat) = k;rw [swashtop_WholeWidths_R];obtain ⟨H,hH⟩:∃ H,H = Heap.empty:=⟨_,rfl⟩
 have hext:∀ X,Ext H X:=by subst hH; exact Ext.empty
 rw [← hH];clear hH;have o1:OwnO (H.push ⟨[.string wAbcd,.slice none 0 0],2,false⟩) (some H.n) 2 (.slice (some ⟨H.n,0,none⟩) 1 1) encPV [((wAbcd,[]),.slice none 0 0)]:=.inr ⟨H.n,rfl,rfl,get_push_eq _ _ _ rfl⟩;obtain ⟨L1,m1⟩:=Make_own k o1 (fun x hx => by
   rw [List.mem_singleton.1 hx];exact ⟨_,fz_none _⟩) (l:=[(wAbcd,[])]) (ls:=[(wAbcd,[])]) rfl (.inl ⟨rfl,rfl,rfl⟩) rfl (fun x hx => by rw [List.mem_singleton.1 hx]; rfl) (fun j x y h1 h2 => by simp at h2) (fun x hx => by rw [List.mem_singleton.1 hx]; exact Nat.zero_le _)
 have hal:=abcd_len;generalize makeB [(wAbcd,[])] 16 0 = ab at m1 hal;have hal':(ab.length:Int) = 28:=by omega
 obtain ⟨H2,hH2⟩:∃ H2,H2 = killAll (H.push ⟨[.string wAbcd,.slice none 0 0],2,false⟩) L1:=⟨_,rfl⟩
 rw [← hH2] at m1;by_cases h0:l.length = 0
 ·have h0':(l.length:Int) = 0:=by omega
  refine nrm_gc ⟨H2,?_,hext _⟩ (.bool _);simp -implicitDefEqProofs (disch:=omega) [swashtop_WholeWidths,m1,hal,hal',h0',h0]
 by_cases h3:(l.length:Int) > 300
 ·have h0':((l.length:Int) == 0) = false:=by rw [beq_eq_false_iff_ne]; omega
  refine nrm_gc ⟨H2,?_,hext _⟩ (.bool _);simp -implicitDefEqProofs (disch:=omega) [swashtop_WholeWidths,m1,hal,hal',h0',h3]
 have h0':((l.length:Int) == 0) = false:=by rw [beq_eq_false_iff_ne]; omega
 have hwe:IntKind.i64.wrap em = em:=wrap_i64 (by omega) (by omega);have hrem:=fun H => bin_rem Prog 3 H .i64 em 16000 (by decide);rw [Int.tmod_eq_emod_of_nonneg he.1] at hrem;obtain ⟨ez,hez⟩:∃ ez:Int,ez = 16 + em % 16000:=⟨_,rfl⟩
 have hezb:16 ≤ ez ∧ ez ≤ 16384:=by omega
 obtain ⟨rm,hrm⟩:∃ rm:Int,rm = em % 16000:=⟨_,rfl⟩
 rw [← hrm] at hrem hez;have hadd:IntKind.i64.wrap (16 + rm) = ez:=by rw [← hez]; exact wrap_i64 (by omega) (by omega)
 obtain ⟨s9,o9,z9,J1,e1,g⟩:=widths_l1 k (H:=H2) (.bool t) (.int .i64 ez) l (by omega) hb;have st9:=(g.row 0 rfl).storable;have ce9:=(g.row 0 rfl).cells;have o2:OwnO (J1.push ⟨[.string wHmtx,s9],2,false⟩) (some J1.n) 2 (.slice (some ⟨J1.n,0,none⟩) 1 1) encPV [((wHmtx,hmtxB l),s9)]:=.inr ⟨J1.n,rfl,rfl,get_push_eq _ _ _ rfl⟩;have g:=g.more_row ((Ext.refl _).push _) o2 (fun b hb => by injection hb with hb; subst hb; simp);simp only [List.cons_append,List.nil_append] at g;have hpl:=fun H => Plain_run k l.length ez l.length (by omega) (by omega) (by omega) H;obtain ⟨pl,hpd⟩:∃ pl,pl = [(wMaxp,maxpB l.length),(wHead,headB ez),(wHhea,hheaB l.length)]:=⟨_,rfl⟩
 rw [← hpd] at hpl;obtain ⟨s,o,z2,J2,e2,g⟩:=widths_l2 k ((wHmtx,hmtxB l),s9) t (lv encA2 l) (.int .i64 ez) g (pl:=pl) (by rw [hpd]; simp);obtain ⟨b,hbd⟩:∃ b,b = makeB (partsF (headB ez) (hheaB l.length) (hmtxB l) (maxpB l.length)) 64 2:=⟨_,rfl⟩
 have hf:=font_of (headB_len ez) (hheaB_len l.length) (hmtxB_len l) (maxpB_len l.length) (by omega) (headB_byt _) (hheaB_byt _) (hmtxB_byt _) (maxpB_byt _);obtain ⟨t1,t2,t3,t4⟩:=tabs_of (headB_len ez) (hheaB_len l.length) (hmtxB_len l) (maxpB_len l.length);have hfa:=face_of (l:=l) (em:=ez) (by omega) hezb;obtain ⟨L2,m2⟩:∃ L,R (T k) F.sfnt_Make [s] J2 = .ok (lv encB b) (killAll J2 L):=by
  obtain ⟨L9,f9⟩:=(g.row 0 rfl).own0.freeze encB_len (B_still _) 5;have hz:∀ x,x ∈ rvJ ((wHmtx,hmtxB l),s9) pl t pl.length → ∃ L,fzV 0 J2 7 x.2 = some (lv encB x.1.2,L):=fun x hx => by
   have hx':x = ((wHmtx,hmtxB l),s9) ∨ ∃ y,x = ptV y:=by
    unfold rvJ at hx;cases t with
    | false =>
     simp only [Bool.false_eq_true,if_false,List.mem_append,List.mem_singleton,List.mem_map] at hx;rcases hx with hx | ⟨y,_,rfl⟩
     ·exact .inl hx
     ·exact .inr ⟨y,rfl⟩
    | true =>
     simp only [if_true,List.mem_append,List.mem_singleton,List.mem_reverse,List.mem_map] at hx;rcases hx with ⟨y,_,rfl⟩ | hx
     ·exact .inr ⟨y,rfl⟩
     ·exact .inl hx
   rcases hx' with rfl | ⟨y,rfl⟩
   ·exact ⟨_,f9⟩
   ·exact ⟨_,fz_lv _ _⟩
  have hN:∀ x,x ∈ partsF (headB ez) (hheaB l.length) (hmtxB l) (maxpB l.length) → x.2.length ≤ 10000:=fun x hx => by
   simp only [partsF,List.mem_cons,List.not_mem_nil,or_false] at hx;rcases hx with rfl | rfl | rfl | rfl
   ·simp only [headB_len]; omega
   ·simp only [hheaB_len]; omega
   ·simp only [hmtxB_len]; omega
   ·simp only [maxpB_len]; omega
  rw [hbd];cases t with
  | false =>
   exact Make_own k (g.row 1 rfl) hz (l:=[(wHmtx,hmtxB l),(wMaxp,maxpB l.length),(wHead,headB ez),(wHhea,hheaB l.length)]) (by rw [hpd]; rfl) (.inr ⟨rfl,rfl,rfl⟩) (sort_up _ _ _ _) (parts_tag _ _ _ _) (parts_ne _ _ _ _) hN
  | true =>
   exact Make_own k (g.row 1 rfl) hz (l:=[(wHhea,hheaB l.length),(wHead,headB ez),(wMaxp,maxpB l.length),(wHmtx,hmtxB l)]) (by rw [hpd]; rfl) (.inr ⟨rfl,rfl,rfl⟩) (sort_down _ _ _ _) (parts_tag _ _ _ _) (parts_ne _ _ _ _) hN
 rw [← hbd] at hf t1 t2 t3 t4 hfa;have hwr:=fun H => width_Read_run k hfa hf t3 (W:=hmtxB l) (by rw [pieceS_iff]; exact ⟨by rw [hmtxB_len]; omega,by rw [List.take_of_length_le (by simp only [List.length_drop,hmtxB_len]; omega)]; rfl⟩) H;have hwf:=fun H => widFace_run k l.length ez l.length (hmtxB l) H;obtain ⟨z3,e3⟩:=widths_l3 k (H:=killAll J2 L2) (em:=ez) l (by omega) hb;refine nrm_gc ⟨killAll J2 L2,?_,hext _⟩ (.bool _);simp -implicitDefEqProofs (disch:=omega) [swashtop_WholeWidths,m1,hal,hal',h0',h3,hwe,hrem,hadd,e1,swashtop_WholeWidths_l1k_x0,st9,ce9,hpl,e2,swashtop_WholeWidths_l2k_x2,m2,hwr,hwf,e3,swashtop_WholeWidths_l3k_x4]
theorem WholeWidths_args (vs:List Value) (h:ArgsLay [.one (.slice [.int .u16]),.one (.int .u16),.one .bool] vs):∃ H',R (T 999999) F.swashtop_WholeWidths vs Heap.empty = .ok (.bool true) H':=by
 obtain ⟨v1,_,rfl,h1,h⟩:=h.head;obtain ⟨v2,_,rfl,h2,h⟩:=h.head;obtain ⟨v3,_,rfl,h3,h⟩:=h.head;obtain rfl:=h.done;obtain ⟨d1,h1⟩:=h1.cell;obtain ⟨d2,h2⟩:=h2.cell;have row:∀ r cs,LayRow [.int .u16] r cs → ∃ n:Int,cs = encA2 n ∧ 0 ≤ n ∧ n < 65536:=fun r cs h => by
  obtain ⟨d,v,ds,vs,rfl,h1,h2⟩:=h.head;obtain rfl:=h2.done;obtain ⟨n,rfl,w⟩:=h1.intv;exact ⟨n,rfl,wf_u16 w⟩
 obtain ⟨l,rfl,_,hl⟩:=Lay.listN (enc:=encA2) (ok:=fun n => 0 ≤ n ∧ n < 65536) row h1;obtain ⟨em,rfl,w⟩:=h2.intv;obtain ⟨b,rfl⟩:=arg_b h3;exact ⟨_,WholeWidths_run l hl em (wf_u16 w) b⟩
end Go.Sw
end
section
namespace Go.Sw
open Go.RowKit Go.Proofs
set_option maxRecDepth 20000 in
theorem catch_short (p:Addr) (b:Bool) (w:World) (hc:(w.alloc (.cells #[] 190)).cell? p = some (.bool b)) (hz:(w.alloc (.cells #[] 190)).frozen? p = false) :
  CallsD Prog 100 #[.pointer (some p)] (.panicking [{ v:=.iface 190 (.agg #[]),recovered:=false }]) w fun e u' w' =>
   e = .returned (.tuple #[]) ∧ u' = .panicking [{ v:=.iface 190 (.agg #[]),recovered:=true }] ∧ w' = (w.alloc (.cells #[] 190)).setCell p (.bool false):=by
 refine callsD_of_wpS Try.func100 rfl fun c₀ cs hu => ?_;apply wpS_seq;apply wpS_region;simp [wpOpsS,go_sem,recoverD,hu,Try.ntmps100,Exit.thenS];have hta:∀ w,(Instr.typeAssert (.iface 190 (.agg #[])) 20 190 true).run Prog w = .ok (.tuple #[.agg #[],.bool true]) w:=fun w => by kernel_rfl
 refine wpS_of_wp ?_
 go_wp2
 cases c₀;simp_all [bodyPostS,results,Try.results100]
theorem catch_idle (p:Addr) (w:World) :
  CallsD Prog 100 #[.pointer (some p)] .returning w fun e u' w' => e = .returned (.tuple #[]) ∧ u' = .returning ∧ w' = w:=by
 refine callsD_of_wpS Try.func100 rfl fun c₀ cs hu => ?_;apply wpS_seq;apply wpS_region;simp [wpOpsS,go_sem,recoverD,hu,Try.ntmps100,Exit.thenS];refine wpS_of_wp ?_
 go_wp2
 cases c₀;simp_all [bodyPostS,results,Try.results100]
set_option maxRecDepth 20000 in
theorem try_walk (g:FuncId) (first cap:Array Value) (w:World) (R:Ending → World → Prop)
  (hcf:(callFunc g (first ++ cap)).run Prog (w.alloc (.cells #[.bool false] 4)) = .ok (.enter g (first ++ cap)) (w.alloc (.cells #[.bool false] 4)))
  (hcall:Calls Prog g (first ++ cap) (w.alloc (.cells #[.bool false] 4)) fun e w' => match e with
   | .returned _ => w'.heap[w.heap.size]? = some (.cells #[.bool false] 4 (0,0)) ∧ R (.returned (.bool true)) (w'.setCell ⟨w.heap.size,0,none⟩ (.bool true))
   | .panicked chain => chain = [{ v:=.iface 190 (.agg #[]),recovered:=false }] ∧ w'.heap[w.heap.size]? = some (.cells #[.bool false] 4 (0,0)) ∧ R (.returned (.bool false)) ((w'.alloc (.cells #[] 190)).setCell ⟨w.heap.size,0,none⟩ (.bool false))
   | .outgrown => False) :
  Calls Prog 40 #[.func (.func g) first cap] w R:=by
 have hmf:∀ (fn:Fn) (first cap:Array Value) (w:World),(Instr.makeFunc fn first cap).run Prog w = .ok (.func fn first cap) w:=fun _ _ _ _ => rfl
 go_enter_defers Try.func40,Try.ntmps40
 go_wp2
 rename_i K2 hK2 K1 hK1;refine hcall.mono fun e w' he => ?_;cases e with
 | returned v =>
  obtain ⟨h1,h2⟩:=he;have hc:w'.cell? ⟨w.heap.size,0,none⟩ = some (.bool false):=by simp [World.cell?,h1]
  have hz:w'.frozen? ⟨w.heap.size,0,none⟩ = false:=by simp [World.frozen?,h1]
  apply hK1;apply hK2
  go_wp2
  have hc2:(w'.setCell ⟨w.heap.size,0,none⟩ (.bool true)).cell? ⟨w.heap.size,0,none⟩ = some (.bool true):=World.cell?_setCell_same _ _ _ hc;refine leaves_cons (f:=100) (args:=#[.pointer (some ⟨w.heap.size,0,none⟩)]) (by simp) (by simp [go_sem]) ?_;refine (catch_idle ⟨w.heap.size,0,none⟩ _).mono ?_;rintro e u' w'' ⟨rfl,rfl,rfl⟩;simp [Leaves,settle,results,Try.results40,go_sem,hc2];exact h2
 | panicked chain =>
  obtain ⟨h0,h1,h2⟩:=he;subst h0;have hlt:w.heap.size < w'.heap.size:=by
   rcases Nat.lt_or_ge w.heap.size w'.heap.size with h | h
   ·exact h
   ·rw [Array.getElem?_eq_none h] at h1; cases h1
  have h3:(w'.alloc (.cells #[] 190)).heap[w.heap.size]? = some (.cells #[.bool false] 4 (0,0)):=by
   rw [heap_alloc_lt _ _ _ hlt]; exact h1
  have hc:(w'.alloc (.cells #[] 190)).cell? ⟨w.heap.size,0,none⟩ = some (.bool false):=by simp only [World.cell?,h3]; rfl
  have hz:(w'.alloc (.cells #[] 190)).frozen? ⟨w.heap.size,0,none⟩ = false:=by simp [World.frozen?,h3]
  have hc2:((w'.alloc (.cells #[] 190)).setCell ⟨w.heap.size,0,none⟩ (.bool false)).cell? ⟨w.heap.size,0,none⟩ = some (.bool false):=World.cell?_setCell_same _ _ _ hc;show Leaves _ _ _ _ _ _ _;refine leaves_cons (f:=100) (args:=#[.pointer (some ⟨w.heap.size,0,none⟩)]) (by simp) (by simp [go_sem]) ?_;refine (catch_short ⟨w.heap.size,0,none⟩ false _ hc hz).mono ?_;rintro e u' w'' ⟨rfl,rfl,rfl⟩;simp [Leaves,settle,results,Try.results40,go_sem,hc2];exact h2
 | outgrown => exact he.elim
theorem try_is:SpIs Prog 40 (tryV 190):=try_of (bt:=4) Try.func40 rfl (by kernel_rfl) try_walk
end Go.Sw
end
section
namespace Go.Sw
open Go.RowKit
theorem names_ok:NamesOk Prog:=NamesOk.of (by kernel_rfl)
theorem mixed_ok:Prog.follows .mixedOrders = true:=Checked.mixed Go.Proofs.Try.checked
theorem laid_ok:laidOutB Prog = true:=by kernel_rfl
theorem cloneGlyph_is:SpIs Prog F.slices_Clone_of_api_Glyph_api_Glyph fun _ args H => cloneV 2 16 args H :=
 clone_is (c:={ P:=Prog,kp:=kpS,sp:=fun _ => none }) (fun _ _ => rfl) names_ok mixed_ok (t:=22) (e:=57) (by kernel_rfl) fun call a H => (slices_Clone_of_api_Glyph_api_Glyph_body 0 _ call a H).trans (by
  unfold slices_Clone_of_api_Glyph_api_Glyph cloneF;simp only [be_22_0,ap_22,beR_bare])
theorem clonePlace_is:SpIs Prog F.slices_Clone_of_api_Place_api_Place fun _ args H => cloneV 3 12 args H :=
 clone_is (c:={ P:=Prog,kp:=kpS,sp:=fun _ => none }) (fun _ _ => rfl) names_ok mixed_ok (t:=98) (e:=137) (by kernel_rfl) fun call a H => (slices_Clone_of_api_Place_api_Place_body 0 _ call a H).trans (by
  unfold slices_Clone_of_api_Place_api_Place cloneF;simp only [be_98_0,ap_98,beR_bare])
theorem clonePart_is:SpIs Prog F.slices_Clone_of_sfnt_Part_sfnt_Part fun _ args H => cloneV 2 40 args H :=
 clone_is (c:={ P:=Prog,kp:=kpS,sp:=fun _ => none }) (fun _ _ => rfl) names_ok mixed_ok (t:=142) (e:=140) (by kernel_rfl) fun call a H => (slices_Clone_of_sfnt_Part_sfnt_Part_body 0 _ call a H).trans (by
  unfold slices_Clone_of_sfnt_Part_sfnt_Part cloneF;simp only [be_142_0,ap_142,beR_bare])
theorem more_is (f:FuncId) (s:Sp) (h:moreS f = some s):SpIs Prog f s:=by
 unfold moreS at h;cases h4:Nat.beq f 4 with
 | true => have:=Nat.eq_of_beq_eq_true h4; subst this; rw [h4,cond_true] at h; injection h with h; subst h; exact SpIs.stuck _ _
 | false =>
 rw [h4,cond_false] at h;cases h7:Nat.beq f 7 with
 | true => have:=Nat.eq_of_beq_eq_true h7; subst this; rw [h7,cond_true] at h; injection h with h; subst h; exact SpIs.stuck _ _
 | false =>
 rw [h7,cond_false] at h;cases h40:Nat.beq f 40 with
 | true => have:=Nat.eq_of_beq_eq_true h40; subst this; rw [h40,cond_true] at h; injection h with h; subst h; exact try_is
 | false =>
 rw [h40,cond_false] at h;cases h42:Nat.beq f 42 with
 | true => have:=Nat.eq_of_beq_eq_true h42; subst this; rw [h42,cond_true] at h; injection h with h; subst h; exact SpIs.stuck _ _
 | false =>
 rw [h42,cond_false] at h;cases h71:Nat.beq f 71 with
 | true => have:=Nat.eq_of_beq_eq_true h71; subst this; rw [h71,cond_true] at h; injection h with h; subst h; exact cloneGlyph_is
 | false =>
 rw [h71,cond_false] at h;cases h73:Nat.beq f 73 with
 | true => have:=Nat.eq_of_beq_eq_true h73; subst this; rw [h73,cond_true] at h; injection h with h; subst h; exact SpIs.stuck _ _
 | false =>
 rw [h73,cond_false] at h;cases h75:Nat.beq f 75 with
 | true => have:=Nat.eq_of_beq_eq_true h75; subst this; rw [h75,cond_true] at h; injection h with h; subst h; exact SpIs.stuck _ _
 | false =>
 rw [h75,cond_false] at h;cases h115:Nat.beq f 115 with
 | true => have:=Nat.eq_of_beq_eq_true h115; subst this; rw [h115,cond_true] at h; injection h with h; subst h; exact clonePlace_is
 | false =>
 rw [h115,cond_false] at h;cases h134:Nat.beq f 134 with
 | true => have:=Nat.eq_of_beq_eq_true h134; subst this; rw [h134,cond_true] at h; injection h with h; subst h; exact clonePart_is
 | false =>
 rw [h134,cond_false] at h;cases h
theorem T_prog (k:Nat):(T k).c.P = Prog:=by unfold T C; rfl
theorem told0 {k:Nat} (hk:oneOf (k % 1000000) speaksT = false):SpOk (T k).c:=by
 have h1:SpOk (C k):=by
  unfold C;exact SpOk.none (P:=Prog) (kp:=kpS) (speaks:=speaksT) (more:=moreS) (k:=k % 1000000) hk more_is
 exact h1
end Go.Sw
end
