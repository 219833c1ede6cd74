/-
  Reversing a list by exchanges, in plain Lean.
-/
import Derived.Test.YtkecpbdgcbgogaaPartPlain
import Derived.Test.YtkecpbdgcbgogaaRev
namespace Go.Proofs.Ytkecpbdgcbgogaa
set_option linter.unusedVariables false
set_option linter.unusedSimpArgs false

theorem rv_set (l : List (Int × Int)) (k : Nat) (x y : Int) : ((rv l).set (k * 2) (.int .i64 x)).set (k * 2 + 1) (.int .i64 y) = rv (l.set k (x, y)) := by
  induction l generalizing k with
  | nil => simp [rv]
  | cons r l ih =>
    obtain ⟨a, b⟩ := r
    cases k with
    | zero => simp [rv_cons]
    | succ k =>
      rw [show (k + 1) * 2 = k * 2 + 2 by omega, rv_cons]
      simp only [List.set_cons_succ, rv_cons]
      rw [ih k]

end Go.Proofs.Ytkecpbdgcbgogaa
