/-
  A job of the reference that comes in: six integers.
-/
import Derived.Test.YtkecpbdgcbgogaaRing
import Derived.Test.YtkecpbdgcbgogaaOpen
namespace Go.Proofs.Ytkecpbdgcbgogaa
set_option linter.unusedVariables false
set_option linter.unusedSimpArgs false
open Go.ChangeShapes Go.WideShapes Go.ChangeAt Go.RowKit

set_option maxRecDepth 100000 in
theorem shape_job {H : Type} {enc : TypeId × Value → H} {w : World} {base : Nat} {spare : Nat → Bool} {held : Bool} {r : Reach} {b0 : Nat} {v : Value} {d : DataW H} {p : List MemPlace}
    (hv : Value.okWide Try.prog w r b0 25 v) (h : DataW.Trod enc Try.prog w base spare held 25 v d p) : ∃ s b lo hi m c, v = jobV s b lo hi m c ∧ (-9223372036854775808 ≤ lo ∧ lo ≤ 9223372036854775807) := by
  obtain ⟨⟨l⟩, rfl, hs⟩ := okWide_struct Try.underlying25 hv
  have hc : Try.prog.cellsOf 25 = 6 := by kernel_rfl
  have hc3 : Try.prog.cellsOf 3 = 1 := by kernel_rfl
  have hcr : Try.prog.cellsOf 23 = 2 := by kernel_rfl
  rw [hc] at hs
  obtain ⟨c0, c1, c2, c3, c4, c5, rfl⟩ := list6 (by simpa using hs)
  obtain ⟨fuel, hf⟩ := h
  obtain ⟨m, hm⟩ := field_at Try.underlying25 hf
  obtain ⟨y0, e0⟩ := hm 0 _ rfl
  obtain ⟨y1, e1⟩ := hm 1 _ rfl
  obtain ⟨y2, e2⟩ := hm 2 _ rfl
  obtain ⟨y3, e3⟩ := hm 3 _ rfl
  obtain ⟨y4, e4⟩ := hm 4 _ rfl
  simp only [Value.cells, hc3, hcr, List.drop_zero, List.take_succ_cons, List.take_zero, List.drop_succ_cons] at e0 e1 e2 e3 e4
  obtain ⟨m2, hm2⟩ := field_at Try.underlying23 e2
  obtain ⟨y5, e5⟩ := hm2 0 _ rfl
  obtain ⟨y6, e6⟩ := hm2 1 _ rfl
  replace e5 : DataW.trod enc Try.prog w base spare held m2 3 (List.take (Try.prog.cellsOf 3) (List.drop 0 [c2, c3])) = some y5 := e5
  replace e6 : DataW.trod enc Try.prog w base spare held m2 3 (List.take (Try.prog.cellsOf 3) (List.drop 1 [c2, c3])) = some y6 := e6
  rw [hc3] at e5 e6
  obtain ⟨n0, rfl, _⟩ := int_of Try.underlying3 e0
  obtain ⟨n1, rfl, _⟩ := int_of Try.underlying3 e1
  obtain ⟨n3, rfl, _⟩ := int_of Try.underlying3 e3
  obtain ⟨n4, rfl, _⟩ := int_of Try.underlying3 e4
  obtain ⟨n5, rfl, w5⟩ := int_of Try.underlying3 e5
  obtain ⟨n6, rfl, _⟩ := int_of Try.underlying3 e6
  exact ⟨n0, n1, n5, n6, n3, n4, rfl, bounds_i64 w5⟩

end Go.Proofs.Ytkecpbdgcbgogaa
