/-
  Runs of a sampler that come in.
-/
import Derived.Test.YtncjfijpaheobaaNumsOpen
import Derived.Test.YtncjfijpaheobaaDraw3
namespace Go.Proofs.Ytncjfijpaheobaa
set_option linter.unusedVariables false
set_option linter.unusedSimpArgs false
open Go.ChangeShapes Go.WideShapes Go.ChangeAt Go.RowKit

section
variable {H : Type} {enc : TypeId × Value → H} {w : World} {base : Nat} {spare : Nat → Bool} {held : Bool} {r : Reach} {b0 : Nat} {v : Value} {d : DataW H} {p : List MemPlace}

set_option maxRecDepth 100000 in
theorem shape_run12 (hv : Value.okWide Try.prog w r b0 61 v) (h : DataW.Trod enc Try.prog w base spare held 61 v d p) :
    ∃ (n b st : Int) (A : Option Addr) (N c : Nat) (L : List Int), v = .agg #[.int .i64 n, .int .i64 b, .int .i64 st, .slice A N c] ∧ N ≤ 9223372036854775807 ∧ L.length = N ∧ Rd w 1 A N (uv L) ∧ InU L ∧ ((Lit.int .i64 n).wf = true ∧ (Lit.int .i64 b).wf = true ∧ (Lit.int .i64 st).wf = true) := by
  obtain ⟨⟨l⟩, rfl, hs⟩ := okWide_struct Try.underlying61 hv
  have hc : Try.prog.cellsOf 61 = 4 := by kernel_rfl
  have hc3 : Try.prog.cellsOf 22 = 1 := by kernel_rfl
  have hc4 : Try.prog.cellsOf 3 = 1 := by kernel_rfl
  rw [hc] at hs
  obtain ⟨c0, c1, c2, c3, rfl⟩ := list4 (by simpa using hs)
  obtain ⟨fuel, hf⟩ := h
  obtain ⟨m, hm⟩ := field_at Try.underlying61 hf
  obtain ⟨y0, e0⟩ := hm 0 _ rfl
  obtain ⟨y1, e1⟩ := hm 1 _ rfl
  obtain ⟨y2, e2⟩ := hm 2 _ rfl
  obtain ⟨y3, e3⟩ := hm 3 _ rfl
  simp only [Value.cells, hc3, hc4, List.drop_zero, List.take_succ_cons, List.take_zero, List.drop_succ_cons] at e0 e1 e2 e3
  obtain ⟨n0, rfl, w0⟩ := int_of Try.underlying3 e0
  obtain ⟨n1, rfl, w1⟩ := int_of Try.underlying3 e1
  obtain ⟨n2, rfl, w2⟩ := int_of Try.underlying3 e2
  obtain ⟨A, N, c, Ps, rfl, a1, a2, a3, a4, _⟩ := nums_of Try.underlying22 Try.underlying38 (by kernel_rfl) e3
  exact ⟨n0, n1, n2, A, N, c, Ps, rfl, a1.1, a2, a3, inU_of a4, w0, w1, w2⟩
end

end Go.Proofs.Ytncjfijpaheobaa
