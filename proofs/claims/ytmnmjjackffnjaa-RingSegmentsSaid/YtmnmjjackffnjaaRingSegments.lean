/-
  RingSegments: for all workers, phases and rounds, Segment and Rounds return the results of the reference: the walk and the row.
-/
import Derived.Test.YtmnmjjackffnjaaRingLaw1
namespace Go.Proofs.Ytmnmjjackffnjaa
open Go.RowKit

set_option maxHeartbeats 1000000 in
theorem ringSegments_not (s b lo hi m c x p y : Int) (z : Bool) (w : World) (hf : fewB lo hi m c = false) :
    Calls Try.prog 3 #[jobV s b lo hi m c, .agg #[.int .i64 x, .int .i64 p, .int .i64 y], .bool z] w fun e w' => e = .returned (.bool true) ∧ Below w.heap.size w w' := by
  go_enter Try.func3, Try.ntmps3
  go_wp2_with fail
  ((with_reducible refine (few_any s b lo hi m c _).mono ?_); rintro e w1 ⟨rfl, hb1⟩)
  have k1 := Kept.of hb1
  clear hb1
  go_wp2_with fail
  ((with_reducible refine (alive19_any _).mono ?_); rintro e w2 ⟨rfl, hb2⟩)
  have k2 := k1.call hb2
  clear hb2 k1
  go_wp2
  go_ret
  exact ⟨rfl, (((Below.refl _ _).alloc (Nat.le_refl _) _).alloc (by simp) _).trans (k2.2.2.mono (by simp; omega))⟩

set_option maxHeartbeats 1000000 in
theorem ringSegments_out (s b lo hi m c x p y : Int) (z : Bool) (w : World) (hf : fewB lo hi m c = true) (hm1 : 1 ≤ m) (hm2 : m ≤ 64) (h : x < 0 ∨ m ≤ x ∨ p < 0 ∨ 1 < p ∨ y < 0 ∨ m - 1 ≤ y) :
    Calls Try.prog 3 #[jobV s b lo hi m c, .agg #[.int .i64 x, .int .i64 p, .int .i64 y], .bool z] w fun e w' => e = .returned (.bool true) ∧ Below w.heap.size w w' := by
  have H := Lib.hid h
  clear h
  have q3 : IntKind.i64.wrap (m - 1) = m - 1 := IntWalk.i64_in _ (by omega)
  have q4 : IntKind.i64.wrap (2 * (m - 1)) = 2 * (m - 1) := IntWalk.i64_in _ (by omega)
  go_enter Try.func3, Try.ntmps3
  go_wp2_with fail
  ((with_reducible refine (few_any s b lo hi m c _).mono ?_); rintro e w1 ⟨rfl, hb1⟩)
  have k1 := Kept.of hb1
  clear hb1
  go_wp2_with fail
  go_quiet (fail)
  have k2 := k1.drewN nq
  clear k1
  go_wp2_with fail
  ((with_reducible refine (given19_any s b lo hi m c _).mono ?_); rintro e w2 ⟨rfl, hb2⟩)
  have k3 := k2.call hb2
  clear hb2 k2
  go_wp2_with fail
  ((with_reducible refine (segment_out s b lo hi m c x p y z _ (by omega) (by omega) H.out).mono ?_); rintro e w3 ⟨rfl, hb3⟩)
  have k4 := k3.call hb3
  clear hb3 k3
  go_wp2_with fail
  ((with_reducible refine (refSegment_out s b lo hi m c x p y z _ (by omega) (by omega) H.out).mono ?_); rintro e w4 ⟨rfl, hb4⟩)
  have k5 := k4.call hb4
  clear hb4 k4
  go_wp2_with fail
  go_region_held3 (fun w' => Kept ((w.alloc (.cells #[.int .i64 s, .int .i64 b, .int .i64 lo, .int .i64 hi, .int .i64 m, .int .i64 c] 25)).alloc (.cells #[.int .i64 x, .int .i64 p, .int .i64 y] 26)) w') (first | exact k5.drew | exact Kept.call (by assumption) hb | exact Kept.drew (by assumption))
    (first | (go_at_call 16; refine (alive19_any _).mono ?_; rintro e w6 ⟨rfl, hb⟩) | (go_at_call 17; refine (given19_any s b lo hi m c _).mono ?_; rintro e w6 ⟨rfl, hb⟩) | (go_at_call 20; refine (rounds_any s b lo hi m c _ (by omega) (by omega)).mono ?_; rintro e w6 ⟨rfl, hb⟩))
  go_wp2
  go_ret
  go_split_ands
  refine ⟨rfl, (((Below.refl _ _).alloc (Nat.le_refl _) _).alloc (by simp) _).trans (Below.mono (by assumption) (by simp; omega))⟩

set_option maxHeartbeats 1000000 in
theorem ringSegments_send (s b lo hi m c x p y : Int) (w : World) (hf : fewB lo hi m c = true) (hm1 : 1 ≤ m) (hm2 : m ≤ 64) (hx1 : 0 ≤ x) (hx2 : x < m) (hp1 : 0 ≤ p) (hp2 : p ≤ 1) (hy1 : 0 ≤ y) (hy2 : y < m - 1) :
    Calls Try.prog 3 #[jobV s b lo hi m c, .agg #[.int .i64 x, .int .i64 p, .int .i64 y], .bool true] w fun e w' => e = .returned (.bool true) ∧ Below w.heap.size w w' := by
  have q3 : IntKind.i64.wrap (m - 1) = m - 1 := IntWalk.i64_in _ (by omega)
  have q4 : IntKind.i64.wrap (2 * (m - 1)) = 2 * (m - 1) := IntWalk.i64_in _ (by omega)
  go_enter Try.func3, Try.ntmps3
  go_wp2_with fail
  ((with_reducible refine (few_any s b lo hi m c _).mono ?_); rintro e w1 ⟨rfl, hb1⟩)
  have k1 := Kept.of hb1
  clear hb1
  go_wp2_with fail
  go_quiet (fail)
  have k2 := k1.drewN nq
  clear k1
  go_wp2_with fail
  ((with_reducible refine (given19_any s b lo hi m c _).mono ?_); rintro e w2 ⟨rfl, hb2⟩)
  have k3 := k2.call hb2
  clear hb2 k2
  go_wp2_with fail
  ((with_reducible refine (segment_send s b lo hi m c x p y _ (by omega) (by omega) (by omega) (by omega) (by omega) (by omega) (by omega)).mono ?_); rintro e w3 ⟨rfl, hb3⟩)
  have k4 := k3.call hb3
  clear hb3 k3
  go_wp2_with fail
  ((with_reducible refine (refSegment_in s b lo hi m c x p y true _ (by omega) (by omega) (by omega) (by omega) (by omega) (by omega) (by omega) (by omega)).mono ?_); rintro e w4 ⟨rfl, hb4⟩)
  have k5 := k4.call hb4
  clear hb4 k4
  go_wp2_with fail
  go_region_held3 (fun w' => Kept ((w.alloc (.cells #[.int .i64 s, .int .i64 b, .int .i64 lo, .int .i64 hi, .int .i64 m, .int .i64 c] 25)).alloc (.cells #[.int .i64 x, .int .i64 p, .int .i64 y] 26)) w') (first | exact k5.drew | exact Kept.call (by assumption) hb | exact Kept.drew (by assumption))
    (first | (go_at_call 16; refine (alive19_any _).mono ?_; rintro e w6 ⟨rfl, hb⟩) | (go_at_call 17; refine (given19_any s b lo hi m c _).mono ?_; rintro e w6 ⟨rfl, hb⟩) | (go_at_call 20; refine (rounds_any s b lo hi m c _ (by omega) (by omega)).mono ?_; rintro e w6 ⟨rfl, hb⟩))
  go_wp2
  go_ret
  go_split_ands
  refine ⟨rfl, (((Below.refl _ _).alloc (Nat.le_refl _) _).alloc (by simp) _).trans (Below.mono (by assumption) (by simp; omega))⟩

set_option maxHeartbeats 1000000 in
theorem ringSegments_recv (s b lo hi m c x p y : Int) (w : World) (hf : fewB lo hi m c = true) (hm1 : 1 ≤ m) (hm2 : m ≤ 64) (hx1 : 0 ≤ x) (hx2 : x < m) (hp1 : 0 ≤ p) (hp2 : p ≤ 1) (hy1 : 0 ≤ y) (hy2 : y < m - 1) :
    Calls Try.prog 3 #[jobV s b lo hi m c, .agg #[.int .i64 x, .int .i64 p, .int .i64 y], .bool false] w fun e w' => e = .returned (.bool true) ∧ Below w.heap.size w w' := by
  have q3 : IntKind.i64.wrap (m - 1) = m - 1 := IntWalk.i64_in _ (by omega)
  have q4 : IntKind.i64.wrap (2 * (m - 1)) = 2 * (m - 1) := IntWalk.i64_in _ (by omega)
  go_enter Try.func3, Try.ntmps3
  go_wp2_with fail
  ((with_reducible refine (few_any s b lo hi m c _).mono ?_); rintro e w1 ⟨rfl, hb1⟩)
  have k1 := Kept.of hb1
  clear hb1
  go_wp2_with fail
  go_quiet (fail)
  have k2 := k1.drewN nq
  clear k1
  go_wp2_with fail
  ((with_reducible refine (given19_any s b lo hi m c _).mono ?_); rintro e w2 ⟨rfl, hb2⟩)
  have k3 := k2.call hb2
  clear hb2 k2
  go_wp2_with fail
  ((with_reducible refine (segment_recv s b lo hi m c x p y _ (by omega) (by omega) (by omega) (by omega) (by omega) (by omega) (by omega)).mono ?_); rintro e w3 ⟨rfl, hb3⟩)
  have k4 := k3.call hb3
  clear hb3 k3
  go_wp2_with fail
  ((with_reducible refine (refSegment_in s b lo hi m c x p y false _ (by omega) (by omega) (by omega) (by omega) (by omega) (by omega) (by omega) (by omega)).mono ?_); rintro e w4 ⟨rfl, hb4⟩)
  have k5 := k4.call hb4
  clear hb4 k4
  go_wp2_with fail
  go_region_held3 (fun w' => Kept ((w.alloc (.cells #[.int .i64 s, .int .i64 b, .int .i64 lo, .int .i64 hi, .int .i64 m, .int .i64 c] 25)).alloc (.cells #[.int .i64 x, .int .i64 p, .int .i64 y] 26)) w') (first | exact k5.drew | exact Kept.call (by assumption) hb | exact Kept.drew (by assumption))
    (first | (go_at_call 16; refine (alive19_any _).mono ?_; rintro e w6 ⟨rfl, hb⟩) | (go_at_call 17; refine (given19_any s b lo hi m c _).mono ?_; rintro e w6 ⟨rfl, hb⟩) | (go_at_call 20; refine (rounds_any s b lo hi m c _ (by omega) (by omega)).mono ?_; rintro e w6 ⟨rfl, hb⟩))
  go_wp2
  go_ret
  go_split_ands
  refine ⟨rfl, (((Below.refl _ _).alloc (Nat.le_refl _) _).alloc (by simp) _).trans (Below.mono (by assumption) (by simp; omega))⟩

theorem ringSegments_any (s b lo hi m c x p y : Int) (z : Bool) (w : World) :
    Calls Try.prog 3 #[jobV s b lo hi m c, .agg #[.int .i64 x, .int .i64 p, .int .i64 y], .bool z] w fun e w' => e = .returned (.bool true) ∧ Below w.heap.size w w' := by
  cases hf : fewB lo hi m c with
  | false => exact ringSegments_not s b lo hi m c x p y z w hf
  | true =>
    have hf' := hf
    unfold fewB at hf'
    simp only [decide_eq_true_eq] at hf'
    by_cases h : x < 0 ∨ m ≤ x ∨ p < 0 ∨ 1 < p ∨ y < 0 ∨ m - 1 ≤ y
    · exact ringSegments_out s b lo hi m c x p y z w hf (by omega) (by omega) h
    · cases z with
      | true => exact ringSegments_send s b lo hi m c x p y w hf (by omega) (by omega) (by omega) (by omega) (by omega) (by omega) (by omega) (by omega)
      | false => exact ringSegments_recv s b lo hi m c x p y w hf (by omega) (by omega) (by omega) (by omega) (by omega) (by omega) (by omega) (by omega)

end Go.Proofs.Ytmnmjjackffnjaa
