/-
  The reference: Right, At, New where there is no grid, Outer.
-/
import Derived.Test.YtnnphileeeaibaaMatOuter2
namespace Go.Proofs.Ytnnphileeeaibaa
set_option linter.unusedVariables false
set_option linter.unusedSimpArgs false
set_option maxRecDepth 100000
open Go.RowKit

set_option maxHeartbeats 1000000 in
theorem refRight_any (r q : Int) (A : Option Addr) (n c : Nat) (w : World) (hn : n ≤ 1000000000) :
    Calls Try.prog 41 #[.agg #[.int .i64 r, .int .i64 q, .slice A n c]] w fun e w' => e = .returned (.bool (decide (RightP r q n))) ∧ Below w.heap.size w w' := by
  by_cases h1 : 1 ≤ r
  · by_cases h2 : r ≤ 1048576
    · by_cases h3 : 1 ≤ q
      · by_cases h4 : q ≤ 1048576
        · have hs : SideP r q := ⟨h1, h2, h3, h4⟩
          have hw := side_wrap hs
          have d1 : decide (r < 1) = false := decide_eq_false (by omega)
          have d2 : decide (1048576 < r) = false := decide_eq_false (by omega)
          have d3 : decide (q < 1) = false := decide_eq_false (by omega)
          have d4 : decide (1048576 < q) = false := decide_eq_false (by omega)
          rw [show decide (RightP r q n) = decide ((n : Int) = r * q) from by
            by_cases h : (n : Int) = r * q
            · rw [decide_eq_true h, decide_eq_true (show RightP r q n from ⟨hs, h⟩)]
            · rw [decide_eq_false h, decide_eq_false (show ¬ RightP r q n from fun k => h k.2)]]
          obtain ⟨m, hm⟩ : ∃ m, r * q = m := ⟨_, rfl⟩
          have hw' : wrap64 (r * q) = m := hw.trans hm
          rw [hm]
          clear hs hm hw
          go_enter Try.func41, Try.ntmps41
          go_wp2
          go_ret
          exact ⟨ret_bool (by simp [hw', BEq.beq]), (Below.refl _ _).alloc (Nat.le_refl _) _⟩
        · have d1 : decide (r < 1) = false := decide_eq_false (by omega)
          have d2 : decide (1048576 < r) = false := decide_eq_false (by omega)
          have d3 : decide (q < 1) = false := decide_eq_false (by omega)
          have d4 : decide (1048576 < q) = true := decide_eq_true (by omega)
          rw [show decide (RightP r q n) = false from decide_eq_false (fun h => h4 h.1.2.2.2)]
          go_enter Try.func41, Try.ntmps41
          go_wp2
          go_ret
          exact ⟨rfl, (Below.refl _ _).alloc (Nat.le_refl _) _⟩
      · have d1 : decide (r < 1) = false := decide_eq_false (by omega)
        have d2 : decide (1048576 < r) = false := decide_eq_false (by omega)
        have d3 : decide (q < 1) = true := decide_eq_true (by omega)
        rw [show decide (RightP r q n) = false from decide_eq_false (fun h => h3 h.1.2.2.1)]
        go_enter Try.func41, Try.ntmps41
        go_wp2
        go_ret
        exact ⟨rfl, (Below.refl _ _).alloc (Nat.le_refl _) _⟩
    · have d1 : decide (r < 1) = false := decide_eq_false (by omega)
      have d2 : decide (1048576 < r) = true := decide_eq_true (by omega)
      rw [show decide (RightP r q n) = false from decide_eq_false (fun h => h2 h.1.2.1)]
      go_enter Try.func41, Try.ntmps41
      go_wp2
      go_ret
      exact ⟨rfl, (Below.refl _ _).alloc (Nat.le_refl _) _⟩
  · have d1 : decide (r < 1) = true := decide_eq_true (by omega)
    rw [show decide (RightP r q n) = false from decide_eq_false (fun h => h1 h.1.1)]
    go_enter Try.func41, Try.ntmps41
    go_wp2
    go_ret
    exact ⟨rfl, (Below.refl _ _).alloc (Nat.le_refl _) _⟩

end Go.Proofs.Ytnnphileeeaibaa
