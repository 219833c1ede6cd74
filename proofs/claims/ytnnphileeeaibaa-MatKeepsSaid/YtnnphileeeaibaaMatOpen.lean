/-
  Grids of the reference that come in.
-/
import Derived.Test.YtnnphileeeaibaaMatTurn
import Derived.Test.YtnnphileeeaibaaNumsOpen
namespace Go.Proofs.Ytnnphileeeaibaa
set_option linter.unusedVariables false
set_option linter.unusedSimpArgs false
open Go.ChangeShapes Go.WideShapes Go.ChangeAt Go.RowKit

section
variable {H : Type} {enc : TypeId × Value → H} {w : World} {base : Nat} {spare : Nat → Bool} {held : Bool} {r : Reach} {b0 : Nat} {v : Value} {d : DataW H} {p : List MemPlace}

set_option maxRecDepth 100000 in
theorem shape_grid07 (hv : Value.okWide Try.prog w r b0 55 v) (h : DataW.Trod enc Try.prog w base spare held 55 v d p) :
    ∃ (R Q : Int) (A : Option Addr) (n c : Nat) (l : List Int), v = .agg #[.int .i64 R, .int .i64 Q, .slice A n c] ∧ In1 R ∧ In1 Q ∧ n ≤ 9223372036854775807 ∧ n ≤ c ∧ c ≤ 9223372036854775807 ∧ l.length = n ∧ Rd w 1 A n (iv l) ∧ (∀ z ∈ l, In1 z) := by
  obtain ⟨⟨l⟩, rfl, hs⟩ := okWide_struct Try.underlying55 hv
  have hc : Try.prog.cellsOf 55 = 3 := by kernel_rfl
  have hc3 : Try.prog.cellsOf 24 = 1 := by kernel_rfl
  have hc4 : Try.prog.cellsOf 3 = 1 := by kernel_rfl
  rw [hc] at hs
  obtain ⟨c0, c1, c2, rfl⟩ := list3 (by simpa using hs)
  obtain ⟨fuel, hf⟩ := h
  obtain ⟨m, hm⟩ := field_at Try.underlying55 hf
  obtain ⟨y0, e0⟩ := hm 0 _ rfl
  obtain ⟨y1, e1⟩ := hm 1 _ rfl
  obtain ⟨y2, e2⟩ := hm 2 _ rfl
  simp only [Value.cells, hc3, hc4, List.drop_zero, List.take_succ_cons, List.take_zero, List.drop_succ_cons] at e0 e1 e2
  obtain ⟨n0, rfl, w0⟩ := int_of Try.underlying3 e0
  obtain ⟨n1, rfl, w1⟩ := int_of Try.underlying3 e1
  obtain ⟨A, N, c, Ps, rfl, a1, a2, a3, a4, _⟩ := nums_of Try.underlying24 Try.underlying2 (by kernel_rfl) e2
  exact ⟨n0, n1, A, N, c, Ps, rfl, bounds_i64 w0, bounds_i64 w1, a1.1, a1.2.1, a1.2.2, a2, a3, fun z hz => bounds_i64 (a4 z hz)⟩
end

end Go.Proofs.Ytnnphileeeaibaa
