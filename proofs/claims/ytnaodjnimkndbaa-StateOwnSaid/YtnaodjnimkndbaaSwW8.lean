/-
  Functions' forms, and what is proved of them, part 8.
-/
import Derived.Test.YtnaodjnimkndbaaSwW7
import Derived.Test.YtnaodjnimkndbaaSwCfg
import Derived.Test.YtnaodjnimkndbaaSwLib8
import Derived.Tactics
import Derived.Tactics2
import Derived.Defers
import Derived.Recover
import Derived.Laws.Pointers
import Derived.Test.YtnaodjnimkndbaaSwW3
import Derived.Eval
set_option linter.unusedSimpArgs false
set_option linter.unusedVariables false
set_option linter.unusedSectionVars false
section
namespace Go.Sw
open Go.RowKit
theorem small07_run (k : Nat) (p : Plan) (H : Heap) : R (T k) F.swashlaw07_small [planV p] H = .ok (.bool (decide (p.cls.length ≤ 40 ∧ p.rows.length ≤ 20 ∧ p.ents.length ≤ 40))) H := by
  rw [swashlaw07_small_R]
  refine nrm_gc ⟨_, ?_, (Ext.refl H).push ⟨planCells p, 1, false⟩⟩ (.bool _)
  by_cases h1 : p.cls.length ≤ 40
  · have h1' : (p.cls.length : Int) ≤ 40 := by omega
    by_cases h2 : p.rows.length ≤ 20
    · have h2' : (p.rows.length : Int) ≤ 20 := by omega
      by_cases h3 : p.ents.length ≤ 40
      · have h3' : (p.ents.length : Int) ≤ 40 := by omega
        simp -implicitDefEqProofs [swashlaw07_small, h1, h2, h3, h1', h2', h3']
      · have h3' : ¬ (p.ents.length : Int) ≤ 40 := by omega
        simp -implicitDefEqProofs [swashlaw07_small, h1, h2, h3, h1', h2', h3']
    · have h2' : ¬ (p.rows.length : Int) ≤ 20 := by omega
      simp -implicitDefEqProofs [swashlaw07_small, h1, h2, h1', h2']
  · have h1' : ¬ (p.cls.length : Int) ≤ 40 := by omega
    simp -implicitDefEqProofs [swashlaw07_small, h1, h1']
theorem planRoom_byt {p : Plan} (hp : p.ok) (w : Int) {rm : List Int} (hrm : Byt rm) : Byt (planRoom p w rm) := by
  have tw : ∀ l, Byt (twos l) := fun l => Byt.flat fun r hr => by obtain ⟨c, _, rfl⟩ := List.mem_map.1 hr; exact bytesOf_byt _ _
  unfold planRoom
  refine (bytesOf_byt _ _).app ((bytesOf_byt _ _).app ((bytesOf_byt _ _).app ((bytesOf_byt _ _).app (hrm.app (Byt.app ?_ (Byt.app ?_ ?_))))))
  · unfold ofS
    exact (((bytesOf_byt _ _).app (bytesOf_byt _ _)).app (bytesOf_byt _ _)).app (tw _)
  · exact Byt.flat fun r hr => by obtain ⟨c, _, rfl⟩ := List.mem_map.1 hr; exact tw _
  · refine Byt.flat fun r hr => ?_
    obtain ⟨e, _, rfl⟩ := List.mem_map.1 hr
    unfold entB
    refine (((bytesOf_byt _ _).app (bytesOf_byt _ _)).app ?_).app ?_
    · split
      · exact bytesOf_byt _ _
      · exact Byt.nil
    · split
      · exact bytesOf_byt _ _
      · exact Byt.nil
theorem rep_byt (n : Nat) : Byt (List.replicate n 0) := fun x hx => by
  have := List.eq_of_mem_replicate hx
  omega
theorem planRoom_len {p : Plan} (hp : p.ok) (w : Int) {rm : List Int} (hrm : rm.length ≤ 1000) (h1 : p.cls.length ≤ 1000) (h2 : p.rows.length ≤ 1000) (h3 : p.ents.length ≤ 1000) : (planRoom p w rm).length ≤ 100000 := by
  have hN := planN_eq p hp.2.2
  have hofl : (ofS p.cls).length = 6 + p.cls.length * 2 := by unfold ofS; simp [twos_len]; omega
  have hrl : (rowsL (planN p) p.rows).length ≤ 1000 * 22 := by rw [rowsL_len]; exact Nat.mul_le_mul h2 (by omega)
  have hel := entsB_len w p.ents
  unfold planRoom
  simp
  omega
set_option maxHeartbeats 1000000 in
theorem StateOwn_run (p : Plan) (hp : p.ok) (sp : Int) : R (T 1000104) F.swashlaw07_StateOwn [planV p, .int .u8 sp] Heap.empty = .ok (.bool true) Heap.empty := by
  generalize hk : (1000104 : Nat) = k
  have hs := speaks07_run k (by subst hk; rfl)
  have hkg : 1000000 ≤ k := by omega
  clear hk
  rw [swashlaw07_StateOwn_R]
  generalize Heap.empty = H
  have hx1 : Ext H (H.push ⟨planCells p, 1, false⟩) := (Ext.refl H).push _
  have hsm := fun H => small07_run k p H
  by_cases c1 : p.cls.length ≤ 40 ∧ p.rows.length ≤ 20 ∧ p.ents.length ≤ 40
  rotate_left
  · refine nrm_gc ⟨_, ?_, hx1⟩ (.bool _)
    rw [decide_eq_false c1] at hsm
    simp -implicitDefEqProofs (disch := omega) [swashlaw07_StateOwn, hs, hsm]
  rw [decide_eq_true c1] at hsm
  obtain ⟨b, hb⟩ : ∃ b, b = planRoom p 1 (List.replicate 0 0) := ⟨_, rfl⟩
  have hw : ∀ H, R (T k) F.swashlaw07_Write [planV p, .int .i64 1, .int .i64 0] H = .ok (lv encB b) H := fun H => by
    have := Write_run k p hp 1 (by omega) 0 (by omega) (by omega) (by omega) (by omega) H
    rw [planBytes_room, ← hb] at this
    exact this
  have hbb : Byt b := by rw [hb]; exact planRoom_byt hp 1 (rep_byt 0)
  have hbl : b.length ≤ 100000 := by rw [hb]; exact planRoom_len hp 1 (by simp) (by omega) (by omega) (by omega)
  have g := (Star.nil H).push ⟨planCells p, 1, false⟩
  have g := g.more_row (Ext.refl _) (OwnO.bare encB _ 1) (fun b hb => by cases hb)
  obtain ⟨s1, o1, H1, e1, g⟩ := g.append (bytes := 1) 1 encB_len rfl (b := lv encB b) (l2 := b) rfl (lv_first encB_len b _) (by simp; omega) (by decide)
  simp only [List.nil_append, List.cons_append, List.set_cons_zero, List.set_cons_succ] at g
  have hrd := stateRead_run k ((g.row 1 rfl).sl encB_len) hbb 30 1 (by omega)
  unfold machO machN at hrd
  rw [show badM 30 1 = false from rfl] at hrd
  cases h : machS b 30 1 with
  | none =>
    rw [h] at hrd
    simp [machP] at hrd
    refine nrm_gc ⟨H1, ?_, g.ext⟩ (.bool _)
    simp -implicitDefEqProofs (disch := omega) [swashlaw07_StateOwn, hs, hsm, hw, e1, hrd]
  | some m =>
    rw [h] at hrd
    simp [machP] at hrd
    have hok := machS_ok hbb (by omega) (by omega) (by omega) h
    have hln : ∀ H', lnS s1 H' = .ok (.int .i64 b.length) H' := (g.row 1 rfl).len
    -- the bytes are spoilt
    obtain ⟨x, e', H2, hr2, rfl, rfl, l, hll, g⟩ := loop_up (body := swashlaw07_StateOwn_l1 k (R (T k))) b.length
      (fun j e H' => e = [(1, .int .u8 sp), (5, lv encB b), (6, s1), (7, machV m), (32, .int .i64 b.length), (33, .int .i64 j)] ∧ ∃ l : List Int, l.length = b.length ∧ Star H H' [itBlk H.n ⟨planCells p, 1, false⟩, itRow o1 1 s1 encB l])
      (fun x e H' => x = .exit 0 ∧ e = [(1, .int .u8 sp), (5, lv encB b), (6, s1), (7, machV m), (32, .int .i64 b.length), (33, .int .i64 b.length), (34, .bool false)] ∧ ∃ l : List Int, l.length = b.length ∧ Star H H' [itBlk H.n ⟨planCells p, 1, false⟩, itRow o1 1 s1 encB l])
      (e0 := [(1, .int .u8 sp), (5, lv encB b), (6, s1), (7, machV m), (32, .int .i64 b.length), (33, .int .i64 0)]) (H0 := H1) ⟨rfl, b, rfl, g⟩ (by omega)
      (fun j e H' hj ⟨he, l, hll, g⟩ => by
        subst he
        have hlt : (j : Int) < b.length := by omega
        obtain ⟨y, hy⟩ : ∃ y, l[j]? = some y := ⟨_, List.getElem?_eq_getElem (by omega)⟩
        obtain ⟨c, hc, hgc, i2⟩ := g.ix 1 rfl .i64 j (by omega)
        subst hc
        obtain ⟨H3, e3, g3, _⟩ := g.stRow 1 rfl encB_len (j := j) (c := 0) (n := 1) sp (v := .int .u8 sp) hy rfl rfl (by decide) rfl
        simp only [Nat.add_zero, Nat.mul_one] at e3 i2
        refine .inl ⟨_, H3, ?_, rfl, l.set j sp, by simp [hll], g3⟩
        rw [swashlaw07_StateOwn_l1_eq]
        simp -implicitDefEqProofs (disch := omega) [-stR_ptr, hlt, i2, e3])
      (fun e H' ⟨he, l, hll, g⟩ => by
        subst he
        refine ⟨.exit 0, _, H', ?_, by simp, rfl, rfl, l, hll, g⟩
        rw [swashlaw07_StateOwn_l1_eq]
        simp -implicitDefEqProofs)
    -- the entries, and what becomes of them
    obtain ⟨s2, o2, H3, e3, g⟩ := Entries_own k hkg m hok.elen g
    simp only [List.cons_append, List.nil_append] at g
    have hln2 : ∀ H', lnS s2 H' = .ok (.int .i64 m.ents.length) H' := (g.row 2 rfl).len
    have hel := hok.elen
    have hrows := hok.two
    obtain ⟨x, e', H4, hr4, rfl, rfl, l, g⟩ := loop_up (body := swashlaw07_StateOwn_l2 k (R (T k))) m.ents.length
      (fun j e H' => e = [(5, lv encB b), (7, machV m), (10, s2), (44, .int .i64 m.ents.length), (45, .int .i64 j)] ∧ ∃ l : List En, Star H H' [itBlk H.n ⟨planCells p, 1, false⟩, itRow o1 1 s1 encB ‹List Int›, itRow o2 4 s2 encEn l] ∧ l.length = m.ents.length ∧ ∀ e, e ∈ l → 0 ≤ e.next ∧ e.next ≤ 70000 + j)
      (fun x e H' => x = .exit 2 ∧ e = [(5, lv encB b), (7, machV m), (10, s2), (44, .int .i64 m.ents.length), (45, .int .i64 m.ents.length), (46, .bool false)] ∧ ∃ l : List En, Star H H' [itBlk H.n ⟨planCells p, 1, false⟩, itRow o1 1 s1 encB ‹List Int›, itRow o2 4 s2 encEn l])
      (e0 := [(5, lv encB b), (7, machV m), (10, s2), (44, .int .i64 m.ents.length), (45, .int .i64 0)]) (H0 := H3) ⟨rfl, m.ents, g, rfl, fun e he => by have := hok.ent e he; omega⟩ (by omega)
      (fun j e H' hj ⟨he, l, g, hll, hb⟩ => by
        subst he
        have hlt : (j : Int) < m.ents.length := by omega
        obtain ⟨y, hy⟩ : ∃ y, l[j]? = some y := ⟨_, List.getElem?_eq_getElem (by omega)⟩
        have hyb := hb y (List.mem_of_getElem? hy)
        obtain ⟨c, hc, hgc, i2⟩ := g.ix 2 rfl .i64 j (by omega)
        subst hc
        have l1 := ld1_row encEn_len hgc (i := j) (c := 0) hy (by decide) rfl
        obtain ⟨H5, e5, g5, _⟩ := g.stRow 2 rfl encEn_len (j := j) (c := 0) (n := 1) (⟨y.next + 1, y.flags, y.a, y.b⟩ : En) (v := .int .i64 (y.next + 1)) hy rfl rfl (by decide) rfl
        simp only [Nat.add_zero] at e5 l1
        refine .inl ⟨_, H5, ?_, rfl, l.set j ⟨y.next + 1, y.flags, y.a, y.b⟩, g5, by simp [hll], fun e he => ?_⟩
        · rw [swashlaw07_StateOwn_l2_eq]
          simp -implicitDefEqProofs (disch := omega) [-stR_ptr, -ld1_ptr, hlt, i2, l1, e5]
        · rcases List.mem_or_eq_of_mem_set he with he | rfl
          · have := hb e he; omega
          · dsimp only; omega)
      (fun e H' ⟨he, l, g, hll, hb⟩ => by
        subst he
        refine ⟨.exit 2, _, H', ?_, by simp, rfl, rfl, l, g⟩
        rw [swashlaw07_StateOwn_l2_eq]
        simp -implicitDefEqProofs)
    have hrr := fun H' => ref7Read_run k b hbb 30 1 (by omega) (by omega) (by omega) H'
    unfold refMachS rmO at hrr
    rw [h] at hrr
    simp at hrr
    have hsame := fun H => same_run k hbb (w := 1) (by omega) (by omega) hok h H
    generalize rmOf b 30 1 m = r at hsame hrr
    refine nrm_gc ⟨_, ?_, g.ext.push ⟨rmCells r.b r.cl r.rowsAt r.entsAt r.states r.n r.words r.tb r.parts, 1, false⟩⟩ (.bool _)
    simp -implicitDefEqProofs (disch := omega) [swashlaw07_StateOwn, hs, hsm, hw, e1, hrd, hln, hr2, swashlaw07_StateOwn_l1k_x0, e3, hln2, hr4, swashlaw07_StateOwn_l2k_x2, hrr, hsame]
theorem row_En {r : List Da} {cs : List Value} (h : LayRow [.int .i64, .int .i64, .int .i64, .int .i64] r cs) : ∃ p : En, cs = encEn p ∧ True := by
  obtain ⟨_, v1, _, _, rfl, h1, h⟩ := h.head
  obtain ⟨_, v2, _, _, rfl, h2, h⟩ := h.head
  obtain ⟨_, v3, _, _, rfl, h3, h⟩ := h.head
  obtain ⟨_, v4, _, _, rfl, h4, h⟩ := h.head
  obtain rfl := h.done
  obtain ⟨a, rfl, _⟩ := h1.intv
  obtain ⟨b, rfl, _⟩ := h2.intv
  obtain ⟨c, rfl, _⟩ := h3.intv
  obtain ⟨d, rfl, _⟩ := h4.intv
  exact ⟨⟨a, b, c, d⟩, rfl, trivial⟩
theorem row_BR {r : List Da} {cs : List Value} (h : LayRow [.slice [.int .u8]] r cs) : ∃ b : List Int, cs = encBR b ∧ Byt b := by
  obtain ⟨_, v1, _, _, rfl, h1, h⟩ := h.head
  obtain rfl := h.done
  obtain ⟨b, rfl, hb⟩ := Lay.list (enc := encB) (ok := fun n => 0 ≤ n ∧ n < 256) (fun r cs h => row_B h) h1
  exact ⟨b, rfl, hb⟩
abbrev planSh : ASh := .agg [.slice [.int .u8], .slice [.slice [.int .u8]], .slice [.int .i64, .int .i64, .int .i64, .int .i64], .int .u8]
theorem arg_plan {v : Value} (h : ArgLay planSh v) : ∃ p, v = planV p ∧ p.ok := by
  cases h with
  | agg ss ds vs h =>
    obtain ⟨_, v1, _, _, rfl, h1, h⟩ := h.head
    obtain ⟨_, v2, _, _, rfl, h2, h⟩ := h.head
    obtain ⟨_, v3, _, _, rfl, h3, h⟩ := h.head
    obtain ⟨_, v4, _, _, rfl, h4, h⟩ := h.head
    obtain rfl := h.done
    obtain ⟨a, rfl, wa⟩ := Lay.list (enc := encB) (ok := fun n => 0 ≤ n ∧ n < 256) (fun r cs h => row_B h) h1
    obtain ⟨b, rfl, wb⟩ := Lay.list (enc := encBR) (ok := Byt) (fun r cs h => row_BR h) h2
    obtain ⟨c, rfl, wc⟩ := Lay.list (enc := encEn) (ok := fun _ => True) (fun r cs h => row_En h) h3
    obtain ⟨d, rfl, wd⟩ := h4.intv
    exact ⟨⟨a, b, c, d⟩, rfl, wa, wb, wf_u8 wd⟩
theorem StateOwn_args (vs : List Value) (h : ArgsLay [planSh, .one (.int .u8)] vs) : ∃ H', R (T 1000104) F.swashlaw07_StateOwn vs Heap.empty = .ok (.bool true) H' := by
  obtain ⟨v1, _, rfl, h1, h⟩ := h.head
  obtain ⟨v2, _, rfl, h2, h⟩ := h.head
  obtain rfl := h.done
  obtain ⟨p, rfl, hp⟩ := arg_plan h1
  obtain ⟨n, rfl, _⟩ := arg_i h2
  exact ⟨_, StateOwn_run p hp n⟩
end Go.Sw
end
section
namespace Go.Sw
open Go.RowKit Go.Proofs
set_option maxRecDepth 20000 in
theorem catch_short (p : Addr) (b : Bool) (w : World) (hc : (w.alloc (.cells #[] 233)).cell? p = some (.bool b)) (hz : (w.alloc (.cells #[] 233)).frozen? p = false) :
    CallsD Prog 160 #[.pointer (some p)] (.panicking [{ v := .iface 233 (.agg #[]), recovered := false }]) w fun e u' w' =>
      e = .returned (.tuple #[]) ∧ u' = .panicking [{ v := .iface 233 (.agg #[]), recovered := true }] ∧ w' = (w.alloc (.cells #[] 233)).setCell p (.bool false) := by
  refine callsD_of_wpS Try.func160 rfl fun c₀ cs hu => ?_
  apply wpS_seq
  apply wpS_region
  simp [wpOpsS, go_sem, recoverD, hu, Try.ntmps160, Exit.thenS]
  have hta : ∀ w, (Instr.typeAssert (.iface 233 (.agg #[])) 20 233 true).run Prog w = .ok (.tuple #[.agg #[], .bool true]) w := fun w => by kernel_rfl
  refine wpS_of_wp ?_
  go_wp2
  cases c₀
  simp_all [bodyPostS, results, Try.results160]
theorem catch_idle (p : Addr) (w : World) :
    CallsD Prog 160 #[.pointer (some p)] .returning w fun e u' w' => e = .returned (.tuple #[]) ∧ u' = .returning ∧ w' = w := by
  refine callsD_of_wpS Try.func160 rfl fun c₀ cs hu => ?_
  apply wpS_seq
  apply wpS_region
  simp [wpOpsS, go_sem, recoverD, hu, Try.ntmps160, Exit.thenS]
  refine wpS_of_wp ?_
  go_wp2
  cases c₀
  simp_all [bodyPostS, results, Try.results160]
set_option maxRecDepth 20000 in
theorem try_walk (g : FuncId) (first cap : Array Value) (w : World) (R : Ending → World → Prop)
    (hcf : (callFunc g (first ++ cap)).run Prog (w.alloc (.cells #[.bool false] 4)) = .ok (.enter g (first ++ cap)) (w.alloc (.cells #[.bool false] 4)))
    (hcall : Calls Prog g (first ++ cap) (w.alloc (.cells #[.bool false] 4)) fun e w' => match e with
      | .returned _ => w'.heap[w.heap.size]? = some (.cells #[.bool false] 4 (0, 0)) ∧ R (.returned (.bool true)) (w'.setCell ⟨w.heap.size, 0, none⟩ (.bool true))
      | .panicked chain => chain = [{ v := .iface 233 (.agg #[]), recovered := false }] ∧ w'.heap[w.heap.size]? = some (.cells #[.bool false] 4 (0, 0)) ∧ R (.returned (.bool false)) ((w'.alloc (.cells #[] 233)).setCell ⟨w.heap.size, 0, none⟩ (.bool false))
      | .outgrown => False) :
    Calls Prog 77 #[.func (.func g) first cap] w R := by
  have hmf : ∀ (fn : Fn) (first cap : Array Value) (w : World), (Instr.makeFunc fn first cap).run Prog w = .ok (.func fn first cap) w := fun _ _ _ _ => rfl
  go_enter_defers Try.func77, Try.ntmps77
  go_wp2
  rename_i K2 hK2 K1 hK1
  refine hcall.mono fun e w' he => ?_
  cases e with
  | returned v =>
    obtain ⟨h1, h2⟩ := he
    have hc : w'.cell? ⟨w.heap.size, 0, none⟩ = some (.bool false) := by simp [World.cell?, h1]
    have hz : w'.frozen? ⟨w.heap.size, 0, none⟩ = false := by simp [World.frozen?, h1]
    apply hK1
    apply hK2
    go_wp2
    have hc2 : (w'.setCell ⟨w.heap.size, 0, none⟩ (.bool true)).cell? ⟨w.heap.size, 0, none⟩ = some (.bool true) := World.cell?_setCell_same _ _ _ hc
    refine leaves_cons (f := 160) (args := #[.pointer (some ⟨w.heap.size, 0, none⟩)]) (by simp) (by simp [go_sem]) ?_
    refine (catch_idle ⟨w.heap.size, 0, none⟩ _).mono ?_
    rintro e u' w'' ⟨rfl, rfl, rfl⟩
    simp [Leaves, settle, results, Try.results77, go_sem, hc2]
    exact h2
  | panicked chain =>
    obtain ⟨h0, h1, h2⟩ := he
    subst h0
    have hlt : w.heap.size < w'.heap.size := by
      rcases Nat.lt_or_ge w.heap.size w'.heap.size with h | h
      · exact h
      · rw [Array.getElem?_eq_none h] at h1; cases h1
    have h3 : (w'.alloc (.cells #[] 233)).heap[w.heap.size]? = some (.cells #[.bool false] 4 (0, 0)) := by
      rw [heap_alloc_lt _ _ _ hlt]; exact h1
    have hc : (w'.alloc (.cells #[] 233)).cell? ⟨w.heap.size, 0, none⟩ = some (.bool false) := by simp only [World.cell?, h3]; rfl
    have hz : (w'.alloc (.cells #[] 233)).frozen? ⟨w.heap.size, 0, none⟩ = false := by simp [World.frozen?, h3]
    have hc2 : ((w'.alloc (.cells #[] 233)).setCell ⟨w.heap.size, 0, none⟩ (.bool false)).cell? ⟨w.heap.size, 0, none⟩ = some (.bool false) := World.cell?_setCell_same _ _ _ hc
    show Leaves _ _ _ _ _ _ _
    refine leaves_cons (f := 160) (args := #[.pointer (some ⟨w.heap.size, 0, none⟩)]) (by simp) (by simp [go_sem]) ?_
    refine (catch_short ⟨w.heap.size, 0, none⟩ false _ hc hz).mono ?_
    rintro e u' w'' ⟨rfl, rfl, rfl⟩
    simp [Leaves, settle, results, Try.results77, go_sem, hc2]
    exact h2
  | outgrown => exact he.elim
theorem try_is : SpIs Prog 77 (tryV 233) := try_of (bt := 4) Try.func77 rfl (by kernel_rfl) try_walk
end Go.Sw
end
section
namespace Go.Sw
open Go.RowKit
theorem names_ok : NamesOk Prog := NamesOk.of (by kernel_rfl)
theorem mixed_ok : Prog.follows .mixedOrders = true := Checked.mixed Go.Proofs.Try.checked
theorem laid_ok : laidOutB Prog = true := by kernel_rfl
theorem cloneP_is : SpIs Prog F.slices_Clone_of_api_Place_api_Place fun _ args H => cloneV 3 12 args H :=
  clone_is (c := { P := Prog, kp := kpS, sp := fun _ => none }) names_ok mixed_ok (t := 31) (e := 34) (by kernel_rfl) fun call a H => (slices_Clone_of_api_Place_api_Place_body 0 _ call a H).trans (by
    unfold slices_Clone_of_api_Place_api_Place cloneF
    simp only [be_31_0, ap_31, beR_bare])
theorem cloneG_is : SpIs Prog F.slices_Clone_of_api_Glyph_api_Glyph fun _ args H => cloneV 2 16 args H :=
  clone_is (c := { P := Prog, kp := kpS, sp := fun _ => none }) names_ok mixed_ok (t := 50) (e := 55) (by kernel_rfl) fun call a H => (slices_Clone_of_api_Glyph_api_Glyph_body 0 _ call a H).trans (by
    unfold slices_Clone_of_api_Glyph_api_Glyph cloneF
    simp only [be_50_0, ap_50, beR_bare])
theorem more_is (f : FuncId) (s : Sp) (h : moreS f = some s) : SpIs Prog f s := by
  unfold moreS at h
  cases h1 : Nat.beq f 77 with
  | true => have := Nat.eq_of_beq_eq_true h1; subst this; rw [h1, cond_true] at h; injection h with h; subst h; exact try_is
  | false =>
  rw [h1, cond_false] at h
  cases h2 : Nat.beq f 147 with
  | true => have := Nat.eq_of_beq_eq_true h2; subst this; rw [h2, cond_true] at h; injection h with h; subst h; exact cloneP_is
  | false =>
  rw [h2, cond_false] at h
  cases h3 : Nat.beq f 151 with
  | true => have := Nat.eq_of_beq_eq_true h3; subst this; rw [h3, cond_true] at h; injection h with h; subst h; exact cloneG_is
  | false =>
  rw [h3, cond_false] at h
  cases h4 : Nat.beq f 152 with
  | true => rw [h4, cond_true] at h; injection h with h; subst h; exact SpIs.stuck _ _
  | false => rw [h4, cond_false] at h; cases h
theorem T_prog (k : Nat) : (T k).c.P = Prog := by unfold T C; rfl
theorem told_ok {k m : Nat} (hsp : okTrue (run (baseCfg Prog kpS moreS) m (k % 1000000) [] Heap.empty) = true) : SpOk (T k).c := by
  have h0 : CallOk Prog (run (baseCfg Prog kpS moreS) m) := run_ok (c := baseCfg Prog kpS moreS) names_ok mixed_ok (SpOk.base more_is) m
  have h1 : SpOk (C k) := by
    unfold C
    exact SpOk.of (P := Prog) (kp := kpS) (speaks := speaksT) (more := moreS) (k := k % 1000000) h0 hsp more_is
  exact h1
end Go.Sw
end
