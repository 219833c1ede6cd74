/-
  RingOwners: Owner returns the worker of the reference, which sends the segment first in Gather: the walk.
-/
import Derived.Test.YtmnmjjackffnjaaRingLaw1
namespace Go.Proofs.Ytmnmjjackffnjaa
set_option linter.unusedVariables false
set_option linter.unusedSimpArgs false
open Go.RowKit

set_option maxHeartbeats 400000 in
theorem owner_out (s b lo hi m c g : Int) (w : World) (hm1 : 1 ≤ m) (h : g < 0 ∨ m ≤ g) :
    Calls Try.prog 21 #[jobV s b lo hi m c, .int .i64 g] w fun e w' => e = .returned (.tuple #[.int .i64 0, .bool false]) ∧ Below w.heap.size w w' := by
  go_enter Try.func21, Try.ntmps21
  go_wp2_with fail
  all_goals (go_ret2; exact ⟨rfl, (Below.refl _ _).alloc (Nat.le_refl _) _⟩)

set_option maxHeartbeats 400000 in
theorem owner_in (s b lo hi m c g : Int) (w : World) (hm1 : 1 ≤ m) (hm2 : m ≤ 64) (hg1 : 0 ≤ g) (hg2 : g < m) :
    Calls Try.prog 21 #[jobV s b lo hi m c, .int .i64 g] w fun e w' => e = .returned (.tuple #[.int .i64 ((g - 1) % m), .bool true]) ∧ Below w.heap.size w w' := by
  go_enter Try.func21, Try.ntmps21
  go_wp2_with (go_at_call 53; refine (around_any s b lo hi m c _ _ (by omega) (by omega) (by omega) (by omega)).mono ?_; rintro e w' ⟨rfl, hb⟩)
  go_ret2
  exact ⟨rfl, ((Below.refl _ _).alloc (Nat.le_refl _) _).trans (hb.mono (by simp))⟩

set_option maxHeartbeats 400000 in
theorem refOwner_out (s b lo hi m c g : Int) (w : World) (hm1 : 1 ≤ m) (h : g < 0 ∨ m ≤ g) :
    Calls Try.prog 22 #[jobV s b lo hi m c, .int .i64 g] w fun e w' => e = .returned (.tuple #[.int .i64 0, .bool false]) ∧ Below w.heap.size w w' := by
  go_enter Try.func22, Try.ntmps22
  go_wp2_with fail
  all_goals (go_ret2; exact ⟨rfl, (Below.refl _ _).alloc (Nat.le_refl _) _⟩)

/-- The round of Scatter in which a worker receives last: what it receives there. -/
theorem last_mod (x m : Int) : (x - (m - 2) - 1) % m = (x + 1) % m := by
  rw [show x - (m - 2) - 1 = (x + 1) + m * (-1) by omega, Int.add_mul_emod_self_left]

theorem own_iff (x g m : Int) (hm : 1 ≤ m) (hx1 : 0 ≤ x) (hx2 : x < m) (hg1 : 0 ≤ g) (hg2 : g < m) : (x + 1) % m = g ↔ x = (g - 1) % m := by
  constructor
  · rintro rfl
    rw [Int.emod_sub_emod, show x + 1 - 1 = x by omega, Int.emod_eq_of_lt hx1 hx2]
  · rintro rfl
    rw [Int.emod_add_emod, show g - 1 + 1 = g by omega, Int.emod_eq_of_lt hg1 hg2]

set_option maxHeartbeats 1000000 in
theorem refOwner_in (s b lo hi m c g : Int) (w : World) (hm1 : 2 ≤ m) (hm2 : m ≤ 64) (hg1 : 0 ≤ g) (hg2 : g < m) :
    Calls Try.prog 22 #[jobV s b lo hi m c, .int .i64 g] w fun e w' => e = .returned (.tuple #[.int .i64 ((g - 1) % m), .bool true]) ∧ Below w.heap.size w w' := by
  have q1 := Int.emod_nonneg (g - 1) (b := m) (by omega)
  have q2 := Int.emod_lt_of_pos (g - 1) (b := m) (by omega)
  have d1 : decide (g < 0) = false := by simp; omega
  have d2 : decide (m ≤ g) = false := by simp; omega
  go_enter Try.func22, Try.ntmps22
  go_wp2_with fail
  go_loopw [6] (fun i wr => ∃ k : Nat, (k : Int) ≤ (g - 1) % m ∧ i = .int .i64 k ∧ Kept (w.alloc (.cells #[.int .i64 s, .int .i64 b, .int .i64 lo, .int .i64 hi, .int .i64 m, .int .i64 c] 25)) wr) (fun i _ => 64 - (intOf i).toNat)
  case atStart => exact ⟨0, by omega, rfl, Kept.of (Below.refl _ _)⟩
  case round =>
    obtain ⟨k, hk, rfl, k0⟩ := hrel
    by_cases hkg : (k : Int) = (g - 1) % m
    · have h1 : ((((k : Int) - (m - 2) - 1) % m) == g) = true := by
        rw [last_mod]
        exact beq_iff_eq.2 ((own_iff _ _ _ (by omega) (by omega) (by omega) (by omega) (by omega)).2 hkg)
      have HK := Lib.hid hkg
      clear hkg
      go_wp2_with fail
      ((with_reducible refine (refSegment_in s b lo hi m c _ 0 _ false _ (by omega) (by omega) (by omega) (by omega) (by omega) (by omega) (by omega) (by omega)).mono ?_); rintro e w1 ⟨rfl, hb1⟩)
      have k1 := k0.call hb1
      clear hb1 k0
      go_wp2
      go_ret2
      exact ⟨ret_pair (congrArg (Value.int .i64) HK.out), ((Below.refl _ _).alloc (Nat.le_refl _) _).trans (k1.2.2.mono (by simp))⟩
    · have h1 : ((((k : Int) - (m - 2) - 1) % m) == g) = false := by
        rw [last_mod]
        exact beq_eq_false_iff_ne.2 (fun h => hkg ((own_iff _ _ _ (by omega) (by omega) (by omega) (by omega) (by omega)).1 h))
      have hlt : (k : Int) < (g - 1) % m := by omega
      go_wp2_with fail
      ((with_reducible refine (refSegment_in s b lo hi m c _ 0 _ false _ (by omega) (by omega) (by omega) (by omega) (by omega) (by omega) (by omega) (by omega)).mono ?_); rintro e w1 ⟨rfl, hb1⟩)
      have k1 := k0.call hb1
      clear hb1 k0
      go_wp2
      go_roundw
      case rel => exact ⟨k + 1, by omega, by go_num, k1⟩
      case measure => simp [intOf]; omega

set_option maxHeartbeats 1000000 in
theorem refOwner_one (s b lo hi c : Int) (w : World) :
    Calls Try.prog 22 #[jobV s b lo hi 1 c, .int .i64 0] w fun e w' => e = .returned (.tuple #[.int .i64 0, .bool true]) ∧ Below w.heap.size w w' := by
  go_enter Try.func22, Try.ntmps22
  go_wp2_with fail
  go_loopw [6] (fun i wr => ∃ k : Nat, k ≤ 1 ∧ i = .int .i64 k ∧ Kept (w.alloc (.cells #[.int .i64 s, .int .i64 b, .int .i64 lo, .int .i64 hi, .int .i64 1, .int .i64 c] 25)) wr) (fun i _ => 64 - (intOf i).toNat)
  case atStart => exact ⟨0, by omega, rfl, Kept.of (Below.refl _ _)⟩
  case round =>
    obtain ⟨k, hk, rfl, k0⟩ := hrel
    by_cases hlt : k < 1
    · go_wp2_with fail
      ((with_reducible refine (refSegment_out s b lo hi 1 c _ 0 _ false _ (by omega) (by omega) (by omega)).mono ?_); rintro e w1 ⟨rfl, hb1⟩)
      have k1 := k0.call hb1
      clear hb1 k0
      go_wp2
      go_roundw
      case rel => exact ⟨k + 1, by omega, by go_num, k1⟩
      case measure => simp [intOf]; omega
    · go_wp2
      go_ret2
      exact ⟨rfl, ((Below.refl _ _).alloc (Nat.le_refl _) _).trans (k0.2.2.mono (by simp))⟩

theorem refOwner_all (s b lo hi m c g : Int) (w : World) (hm1 : 1 ≤ m) (hm2 : m ≤ 64) (hg1 : 0 ≤ g) (hg2 : g < m) :
    Calls Try.prog 22 #[jobV s b lo hi m c, .int .i64 g] w fun e w' => e = .returned (.tuple #[.int .i64 ((g - 1) % m), .bool true]) ∧ Below w.heap.size w w' := by
  by_cases h : m = 1
  · subst h
    obtain rfl : g = 0 := by omega
    exact refOwner_one s b lo hi c w
  · exact refOwner_in s b lo hi m c g w (by omega) hm2 hg1 hg2

set_option maxHeartbeats 1000000 in
theorem ringOwners_not (s b lo hi m c g : Int) (w : World) (hf : fewB lo hi m c = false) :
    Calls Try.prog 4 #[jobV s b lo hi m c, .int .i64 g] w fun e w' => e = .returned (.bool true) ∧ Below w.heap.size w w' := by
  go_enter Try.func4, Try.ntmps4
  go_wp2_with fail
  ((with_reducible refine (few_any s b lo hi m c _).mono ?_); rintro e w1 ⟨rfl, hb1⟩)
  have k1 := Kept.of hb1
  clear hb1
  go_wp2_with fail
  ((with_reducible refine (alive19_any _).mono ?_); rintro e w2 ⟨rfl, hb2⟩)
  have k2 := k1.call hb2
  clear hb2 k1
  go_wp2
  go_ret
  exact ⟨rfl, ((Below.refl _ _).alloc (Nat.le_refl _) _).trans (k2.2.2.mono (by simp))⟩

set_option maxHeartbeats 1000000 in
theorem ringOwners_out (s b lo hi m c g : Int) (w : World) (hf : fewB lo hi m c = true) (hm1 : 1 ≤ m) (hm2 : m ≤ 64) (h : g < 0 ∨ m ≤ g) :
    Calls Try.prog 4 #[jobV s b lo hi m c, .int .i64 g] w fun e w' => e = .returned (.bool true) ∧ Below w.heap.size w w' := by
  have H := Lib.hid h
  clear h
  go_enter Try.func4, Try.ntmps4
  go_wp2_with fail
  ((with_reducible refine (few_any s b lo hi m c _).mono ?_); rintro e w1 ⟨rfl, hb1⟩)
  have k1 := Kept.of hb1
  clear hb1
  go_wp2_with fail
  ((with_reducible refine (given19_any s b lo hi m c _).mono ?_); rintro e w2 ⟨rfl, hb2⟩)
  have k2 := k1.call hb2
  clear hb2 k1
  go_wp2_with fail
  ((with_reducible refine (owner_out s b lo hi m c g _ (by omega) H.out).mono ?_); rintro e w3 ⟨rfl, hb3⟩)
  have k3 := k2.call hb3
  clear hb3 k2
  go_wp2_with fail
  ((with_reducible refine (refOwner_out s b lo hi m c g _ (by omega) H.out).mono ?_); rintro e w4 ⟨rfl, hb4⟩)
  have k4 := k3.call hb4
  clear hb4 k3
  go_wp2_with fail
  ((with_reducible refine (alive19_any _).mono ?_); rintro e w5 ⟨rfl, hb5⟩)
  have k5 := k4.call hb5
  clear hb5 k4
  go_wp2
  go_ret
  exact ⟨rfl, ((Below.refl _ _).alloc (Nat.le_refl _) _).trans (k5.2.2.mono (by simp))⟩

theorem first_mod (g m : Int) (hg1 : 0 ≤ g) (hg2 : g < m) : ((g - 1) % m - 0 + 1) % m = g := by
  rw [show (g - 1) % m - 0 + 1 = (g - 1) % m + 1 by omega, Int.emod_add_emod, show g - 1 + 1 = g by omega, Int.emod_eq_of_lt hg1 hg2]

set_option maxHeartbeats 1000000 in
theorem ringOwners_in (s b lo hi m c g : Int) (w : World) (hf : fewB lo hi m c = true) (hm1 : 1 ≤ m) (hm2 : m ≤ 64) (hg1 : 0 ≤ g) (hg2 : g < m) :
    Calls Try.prog 4 #[jobV s b lo hi m c, .int .i64 g] w fun e w' => e = .returned (.bool true) ∧ Below w.heap.size w w' := by
  have q1 := Int.emod_nonneg (g - 1) (b := m) (by omega)
  have q2 := Int.emod_lt_of_pos (g - 1) (b := m) (by omega)
  go_enter Try.func4, Try.ntmps4
  go_wp2_with fail
  ((with_reducible refine (few_any s b lo hi m c _).mono ?_); rintro e w1 ⟨rfl, hb1⟩)
  have k1 := Kept.of hb1
  clear hb1
  go_wp2_with fail
  ((with_reducible refine (given19_any s b lo hi m c _).mono ?_); rintro e w2 ⟨rfl, hb2⟩)
  have k2 := k1.call hb2
  clear hb2 k1
  go_wp2_with fail
  ((with_reducible refine (owner_in s b lo hi m c g _ (by omega) (by omega) (by omega) (by omega)).mono ?_); rintro e w3 ⟨rfl, hb3⟩)
  have k3 := k2.call hb3
  clear hb3 k2
  go_wp2_with fail
  ((with_reducible refine (refOwner_all s b lo hi m c g _ (by omega) (by omega) (by omega) (by omega)).mono ?_); rintro e w4 ⟨rfl, hb4⟩)
  have k4 := k3.call hb4
  clear hb4 k3
  by_cases h1 : m = 1
  · have h2 : (m == 1) = true := by simp [h1]
    have H := Lib.hid h1
    clear h1
    go_wp2_with fail
    ((with_reducible refine (alive19_any _).mono ?_); rintro e w5 ⟨rfl, hb5⟩)
    have k5 := k4.call hb5
    clear hb5 k4
    go_wp2
    go_ret
    exact ⟨rfl, ((Below.refl _ _).alloc (Nat.le_refl _) _).trans (k5.2.2.mono (by simp))⟩
  · have h2 : (m == 1) = false := by simp [h1]
    have h3 : 2 ≤ m := by omega
    clear h1
    go_wp2_with fail
    ((with_reducible refine (given19_any s b lo hi m c _).mono ?_); rintro e w5 ⟨rfl, hb5⟩)
    have k5 := k4.call hb5
    clear hb5 k4
    go_wp2_with fail
    ((with_reducible refine (segment_send s b lo hi m c ((g - 1) % m) 1 0 _ (by omega) (by omega) (by omega) (by omega) (by omega) (by omega) (by omega)).mono ?_); rintro e w6 ⟨rfl, hb6⟩)
    rw [first_mod g m hg1 hg2]
    have k6 := k5.call hb6
    clear hb6 k5
    go_wp2_with fail
    ((with_reducible refine (alive19_any _).mono ?_); rintro e w7 ⟨rfl, hb7⟩)
    have k7 := k6.call hb7
    clear hb7 k6
    go_wp2
    go_ret
    exact ⟨rfl, ((Below.refl _ _).alloc (Nat.le_refl _) _).trans (k7.2.2.mono (by simp))⟩

theorem ringOwners_any (s b lo hi m c g : Int) (w : World) :
    Calls Try.prog 4 #[jobV s b lo hi m c, .int .i64 g] w fun e w' => e = .returned (.bool true) ∧ Below w.heap.size w w' := by
  cases hf : fewB lo hi m c with
  | false => exact ringOwners_not s b lo hi m c g w hf
  | true =>
    have hf' := hf
    unfold fewB at hf'
    simp only [decide_eq_true_eq] at hf'
    by_cases h : g < 0 ∨ m ≤ g
    · exact ringOwners_out s b lo hi m c g w hf (by omega) (by omega) h
    · exact ringOwners_in s b lo hi m c g w hf (by omega) (by omega) (by omega) (by omega)

end Go.Proofs.Ytmnmjjackffnjaa
