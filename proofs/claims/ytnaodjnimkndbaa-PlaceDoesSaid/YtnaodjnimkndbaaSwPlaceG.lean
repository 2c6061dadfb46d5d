/-
  The laws PlaceOwn and PlaceDoes, of arguments as they come in.
-/
import Derived.Test.YtnaodjnimkndbaaSwPlaceF
import Derived.Test.YtnaodjnimkndbaaSwJ
namespace Go.Sw

theorem row_I {r : List Da} {cs : List Value} (h : LayRow [.int .i64] r cs) : ∃ n : Int, cs = encI n ∧ (Lit.int .i64 n).wf = true := by
  obtain ⟨d, v, ds, vs, rfl, h1, h2⟩ := h.head
  obtain rfl := h2.done
  obtain ⟨n, rfl, w⟩ := h1.intv
  exact ⟨n, rfl, w⟩
theorem row_C {r : List Da} {cs : List Value} (h : LayRow [.int .i64, .int .i64, .int .i64, .int .i64] r cs) : ∃ c : Chg, cs = encC c ∧ True := by
  obtain ⟨_, v1, _, _, rfl, h1, h⟩ := h.head
  obtain ⟨_, v2, _, _, rfl, h2, h⟩ := h.head
  obtain ⟨_, v3, _, _, rfl, h3, h⟩ := h.head
  obtain ⟨_, v4, _, _, rfl, h4, h⟩ := h.head
  obtain rfl := h.done
  obtain ⟨a, rfl, _⟩ := h1.intv
  obtain ⟨b, rfl, _⟩ := h2.intv
  obtain ⟨c, rfl, _⟩ := h3.intv
  obtain ⟨d, rfl, _⟩ := h4.intv
  exact ⟨⟨a, b, c, d⟩, rfl, trivial⟩

theorem PlaceOwn_args (vs : List Value) (h : ArgsLay [.one (.slice [.int .i64])] vs) : ∃ H', R (T 1000043) F.swashlaw21_PlaceOwn vs Heap.empty = .ok (.bool true) H' := by
  obtain ⟨v, vs', rfl, h1, h2⟩ := h.head
  obtain rfl := h2.done
  obtain ⟨d, h1⟩ := h1.cell
  obtain ⟨l, rfl, _⟩ := Lay.list (enc := encI) (ok := fun _ => True) (fun r cs h => by obtain ⟨n, h1, _⟩ := row_I h; exact ⟨n, h1, trivial⟩) h1
  exact ⟨_, PlaceOwn_run l⟩

theorem PlaceDoes_args (vs : List Value) (h : ArgsLay [.one (.int .i64), .one (.slice [.int .i64]), .one (.slice [.int .i64, .int .i64, .int .i64, .int .i64])] vs) : ∃ H', R (T 43) F.swashlaw21_PlaceDoes vs Heap.empty = .ok (.bool true) H' := by
  obtain ⟨v1, _, rfl, h1, h⟩ := h.head
  obtain ⟨v2, _, rfl, h2, h⟩ := h.head
  obtain ⟨v3, _, rfl, h3, h⟩ := h.head
  obtain rfl := h.done
  obtain ⟨d1, h1⟩ := h1.cell
  obtain ⟨d2, h2⟩ := h2.cell
  obtain ⟨d3, h3⟩ := h3.cell
  obtain ⟨n, rfl, _⟩ := h1.intv
  obtain ⟨l, rfl, _⟩ := Lay.list (enc := encI) (ok := fun _ => True) (fun r cs h => by obtain ⟨n, h1, _⟩ := row_I h; exact ⟨n, h1, trivial⟩) h2
  obtain ⟨cs, rfl, _⟩ := Lay.list (enc := encC) (fun r cs h => row_C h) h3
  exact ⟨_, PlaceDoes_run n l cs⟩
end Go.Sw
