/-
  The statements' own small functions of layer 19 and the reference's Segment and Owner: contracts.
-/
import Derived.Test.YtkecpbdgcbgogaaRing
namespace Go.Proofs.Ytkecpbdgcbgogaa
set_option linter.unusedVariables false
set_option linter.unusedSimpArgs false
open Go.RowKit

def fewB (lo hi m c : Int) : Bool := decide (0 ≤ lo ∧ lo ≤ hi ∧ hi ≤ 300 ∧ 1 ≤ m ∧ m ≤ 64 ∧ 1 ≤ c ∧ c ≤ 1048576 ∧ (m ≤ 12 ∨ hi ≤ 40))

set_option maxHeartbeats 400000 in
theorem few_any (s b lo hi m c : Int) (w : World) :
    Calls Try.prog 12 #[jobV s b lo hi m c] w fun e w' => e = .returned (.bool (fewB lo hi m c)) ∧ Below w.heap.size w w' := by
  go_enter Try.func12, Try.ntmps12
  go_wp2
  all_goals go_ret
  all_goals refine ⟨ret_bool ?_, (Below.refl _ _).alloc (Nat.le_refl _) _⟩
  all_goals unfold fewB
  all_goals first | (simp; omega) | (rw [Bool.eq_iff_iff]; simp; omega)

set_option maxHeartbeats 400000 in
theorem given19_any (s b lo hi m c : Int) (w : World) :
    Calls Try.prog 16 #[jobV s b lo hi m c] w fun e w' => e = .returned (jobV s b lo hi m c) ∧ Below w.heap.size w w' := by
  go_enter Try.func16, Try.ntmps16
  go_wp2
  exact bodyPost_ret (v := jobV s b lo hi m c) (by simp [results, Try.results16, go_sem]) rfl ⟨rfl, ((Below.refl _ _).alloc (Nat.le_refl _) _).alloc (by simp) _⟩

set_option maxHeartbeats 400000 in
theorem rounds_any (s b lo hi m c : Int) (w : World) (hm1 : 1 ≤ m) (hm2 : m ≤ 1000000) :
    Calls Try.prog 46 #[jobV s b lo hi m c] w fun e w' => e = .returned (.int .i64 (2 * (m - 1))) ∧ Below w.heap.size w w' := by
  go_enter Try.func46, Try.ntmps46
  go_wp2
  go_ret
  exact ⟨rfl, (Below.refl _ _).alloc (Nat.le_refl _) _⟩

set_option maxHeartbeats 400000 in
theorem alive19_any (w : World) :
    Calls Try.prog 13 #[] w fun e w' => e = .returned (.bool true) ∧ Below w.heap.size w w' := by
  go_enter Try.func13, Try.ntmps13
  go_wp2_with fail
  ((with_reducible refine (segment_send 0 0 0 3 3 1 0 0 1 _ (by omega) (by omega) (by omega) (by omega) (by omega) (by omega) (by omega)).mono ?_); rintro e w1 ⟨rfl, hb1⟩)
  have k1 := Kept.of hb1
  clear hb1
  go_wp2_with fail
  ((with_reducible refine (segment_send 0 0 0 3 3 1 0 1 0 _ (by omega) (by omega) (by omega) (by omega) (by omega) (by omega) (by omega)).mono ?_); rintro e w2 ⟨rfl, hb2⟩)
  have k2 := k1.call hb2
  clear hb2 k1
  go_wp2_with fail
  ((with_reducible refine (rounds_any 0 0 0 3 3 1 _ (by omega) (by omega)).mono ?_); rintro e w3 ⟨rfl, hb3⟩)
  have k3 := k2.call hb3
  clear hb3 k2
  go_wp2
  go_ret
  exact ⟨rfl, ((Below.refl _ _).alloc (Nat.le_refl _) _).trans (k3.2.2.mono (by simp))⟩

set_option maxHeartbeats 400000 in
theorem refSegment_out (s b lo hi m c x p y : Int) (z : Bool) (w : World) (hm1 : 1 ≤ m) (hm2 : m ≤ 1000000) (h : x < 0 ∨ m ≤ x ∨ p < 0 ∨ 1 < p ∨ y < 0 ∨ m - 1 ≤ y) :
    Calls Try.prog 50 #[jobV s b lo hi m c, .int .i64 x, .int .i64 p, .int .i64 y, .bool z] w fun e w' => e = .returned (.tuple #[.int .i64 0, .bool false]) ∧ Below w.heap.size w w' := by
  go_enter Try.func50, Try.ntmps50
  go_wp2
  all_goals (go_ret2; exact ⟨rfl, (Below.refl _ _).alloc (Nat.le_refl _) _⟩)


set_option maxHeartbeats 400000 in
theorem refSegment_in (s b lo hi m c x p y : Int) (z : Bool) (w : World) (hm1 : 1 ≤ m) (hm2 : m ≤ 1000000) (hx1 : 0 ≤ x) (hx2 : x < m) (hp1 : 0 ≤ p) (hp2 : p ≤ 1) (hy1 : 0 ≤ y) (hy2 : y < m - 1) :
    Calls Try.prog 50 #[jobV s b lo hi m c, .int .i64 x, .int .i64 p, .int .i64 y, .bool z] w fun e w' => e = .returned (.tuple #[.int .i64 (if z then (x - y + p) % m else (x - y + p - 1) % m), .bool true]) ∧ Below w.heap.size w w' := by
  have hmz : ¬ m = 0 := by omega
  cases z
  all_goals
    go_enter Try.func50, Try.ntmps50
    go_wp2
    go_ret2
    exact ⟨rfl, (Below.refl _ _).alloc (Nat.le_refl _) _⟩

end Go.Proofs.Ytkecpbdgcbgogaa
