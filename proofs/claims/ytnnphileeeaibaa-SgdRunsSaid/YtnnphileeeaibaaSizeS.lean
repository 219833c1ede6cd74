/-
  Contracts and lemmas that stand in other texts too, laid for this seat.
-/
import Derived.Test.YtnnphileeeaibaaProg
import Derived.Test.YtnnphileeeaibaaBase
namespace Go.Proofs.Ytnnphileeeaibaa
set_option linter.unusedVariables false
set_option linter.unusedSimpArgs false
open Go.RowKit

set_option maxHeartbeats 400000 in
theorem size_any (x y : Int) (w : World) (hx : -2000000000000 ≤ x) (hx' : x ≤ 2000000000000) (hy : -2000000000000 ≤ y) (hy' : y ≤ 2000000000000) :
    Calls Try.prog 54 #[.agg #[.int .i64 x, .int .i64 y]] w fun e w' => e = .returned (.int .i64 (max (y - x) 0)) ∧ Below w.heap.size w w' := by
  go_enter Try.func54, Try.ntmps54
  go_wp2
  all_goals (go_ret; exact ⟨ret_int (by first | (show (0 : Int) = _; omega) | (show y - x = _; omega)), (Below.refl _ _).alloc (Nat.le_refl _) _⟩)

theorem size_of (x y d : Nat) (w : World) (hy : y = x + d) (hx : x ≤ 1000000) (hd : d ≤ 1000000) :
    Calls Try.prog 54 #[.agg #[.int .i64 x, .int .i64 y]] w fun e w' => e = .returned (.int .i64 d) ∧ Below w.heap.size w w' := by
  have h1 := size_any x y w (by omega) (by omega) (by omega) (by omega)
  rwa [show max ((y : Int) - (x : Int)) 0 = (d : Int) by omega] at h1

end Go.Proofs.Ytnnphileeeaibaa
