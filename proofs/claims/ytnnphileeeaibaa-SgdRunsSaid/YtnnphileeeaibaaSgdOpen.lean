/-
  Rules and states of the reference of layer 13 that come in.
-/
import Derived.Test.YtnnphileeeaibaaSgd6
import Derived.Test.YtnnphileeeaibaaNumsOpen
namespace Go.Proofs.Ytnnphileeeaibaa
set_option linter.unusedVariables false
set_option linter.unusedSimpArgs false
open Go.ChangeShapes Go.WideShapes Go.ChangeAt Go.RowKit

section
variable {H : Type} {enc : TypeId × Value → H} {w : World} {base : Nat} {spare : Nat → Bool} {held : Bool} {r : Reach} {b0 : Nat} {v : Value} {d : DataW H} {p : List MemPlace}

set_option maxRecDepth 100000 in
theorem shape_rule13 (hv : Value.okWide Try.prog w r b0 23 v) (h : DataW.Trod enc Try.prog w base spare held 23 v d p) :
    ∃ ra mo sh, v = .agg #[.int .i64 ra, .int .i64 mo, .int .i64 sh] ∧ (Lit.int .i64 ra).wf = true ∧ (Lit.int .i64 mo).wf = true ∧ (Lit.int .i64 sh).wf = true := by
  obtain ⟨⟨l⟩, rfl, hs⟩ := okWide_struct Try.underlying23 hv
  have hc : Try.prog.cellsOf 23 = 3 := by kernel_rfl
  have hc3 : Try.prog.cellsOf 2 = 1 := by kernel_rfl
  have hc4 : Try.prog.cellsOf 3 = 1 := by kernel_rfl
  rw [hc] at hs
  obtain ⟨c0, c1, c2, rfl⟩ := list3 (by simpa using hs)
  obtain ⟨fuel, hf⟩ := h
  obtain ⟨m, hm⟩ := field_at Try.underlying23 hf
  obtain ⟨y0, e0⟩ := hm 0 _ rfl
  obtain ⟨y1, e1⟩ := hm 1 _ rfl
  obtain ⟨y2, e2⟩ := hm 2 _ rfl
  simp only [Value.cells, hc3, hc4, List.drop_zero, List.take_succ_cons, List.take_zero, List.drop_succ_cons] at e0 e1 e2
  obtain ⟨n0, rfl, w0⟩ := int_of Try.underlying2 e0
  obtain ⟨n1, rfl, w1⟩ := int_of Try.underlying2 e1
  obtain ⟨n2, rfl, w2⟩ := int_of Try.underlying3 e2
  exact ⟨n0, n1, n2, rfl, w0, w1, w2⟩

set_option maxRecDepth 100000 in
theorem shape_state13 (hv : Value.okWide Try.prog w r b0 26 v) (h : DataW.Trod enc Try.prog w base spare held 26 v d p) :
    ∃ (A B : Option Addr) (N M c c' : Nat) (Ps Ms : List Int), v = .agg #[.slice A N c, .slice B M c'] ∧ N ≤ 9223372036854775807 ∧ M ≤ 9223372036854775807 ∧ Ps.length = N ∧ Ms.length = M ∧ Rd w 1 A N (Ps.map (Value.int .i64)) ∧ Rd w 1 B M (Ms.map (Value.int .i64)) ∧
      (∀ z ∈ Ps, (Lit.int .i64 z).wf = true) ∧ (∀ z ∈ Ms, (Lit.int .i64 z).wf = true) := by
  obtain ⟨⟨l⟩, rfl, hs⟩ := okWide_struct Try.underlying26 hv
  have hc : Try.prog.cellsOf 26 = 2 := by kernel_rfl
  have hc3 : Try.prog.cellsOf 24 = 1 := by kernel_rfl
  rw [hc] at hs
  obtain ⟨c0, c1, rfl⟩ := list2 (by simpa using hs)
  obtain ⟨fuel, hf⟩ := h
  obtain ⟨m, hm⟩ := field_at Try.underlying26 hf
  obtain ⟨y0, e0⟩ := hm 0 _ rfl
  obtain ⟨y1, e1⟩ := hm 1 _ rfl
  simp only [Value.cells, hc3, List.drop_zero, List.take_succ_cons, List.take_zero, List.drop_succ_cons] at e0 e1
  obtain ⟨A, N, c, Ps, rfl, a1, a2, a3, a4, _⟩ := nums_of Try.underlying24 Try.underlying2 (by kernel_rfl) e0
  obtain ⟨B, M, c', Ms, rfl, b1, b2, b3, b4, _⟩ := nums_of Try.underlying24 Try.underlying2 (by kernel_rfl) e1
  exact ⟨A, B, N, M, c, c', Ps, Ms, rfl, a1.1, b1.1, a2, b2, a3, b3, a4, b4⟩
end

end Go.Proofs.Ytnnphileeeaibaa
