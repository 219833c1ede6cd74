/-
  BucketDivides: Buckets and Groups return the ranges of the reference: the walk.
-/
import Derived.Test.YtmnmjjackffnjaaBucket
namespace Go.Proofs.Ytmnmjjackffnjaa
set_option linter.unusedVariables false
set_option linter.unusedSimpArgs false
open Go.RowKit

set_option maxHeartbeats 1000000 in
theorem bucketDivides_big (n s : Int) (w : World) (h : 2000 < n) :
    Calls Try.prog 6 #[.int .i64 n, .int .i64 s] w fun e w' => e = .returned (.bool true) ∧ Below w.heap.size w w' := by
  go_enter Try.func6, Try.ntmps6
  go_wp2_with fail
  ((with_reducible refine (alive15_any _).mono ?_); rintro e w1 ⟨rfl, hb1⟩)
  go_wp2
  go_ret
  exact ⟨rfl, hb1⟩

set_option maxHeartbeats 1000000 in
theorem bucketDivides_none (n s : Int) (w : World) (hn1 : -9223372036854775808 ≤ n) (hs : s ≤ 9223372036854775807) (hn : n ≤ 2000) (h : n < 1 ∨ s < 1) :
    Calls Try.prog 6 #[.int .i64 n, .int .i64 s] w fun e w' => e = .returned (.bool true) ∧ Below w.heap.size w w' := by
  have H := Lib.hid h
  clear h
  go_enter Try.func6, Try.ntmps6
  go_wp2_with fail
  ((with_reducible refine (alive15_any _).mono ?_); rintro e w0 ⟨rfl, hb0⟩)
  go_wp2_with fail
  ((with_reducible refine (buckets_none n s _ (by omega) (by omega) (by omega) H.out).mono ?_); rintro e w1 ⟨A, cap, rfl, hown, hb1⟩)
  clear hown
  go_wp2_with fail
  ((with_reducible refine (back15_any A 0 cap [] _ rfl (Rd.nil _ _ _) (by omega)).mono ?_); rintro e w2 ⟨A2, cap2, rfl, hown2, hb2⟩)
  clear hown2
  go_wp2_with fail
  ((with_reducible refine (refBuckets_none n s _ H.out).mono ?_); rintro e w3 ⟨A3, cap3, rfl, hown3, hb3⟩)
  clear hown3
  go_wp2_with fail
  ((with_reducible refine (equalRef_any A2 A3 0 0 cap2 cap3 [] [] _ rfl rfl (Rd.nil _ _ _) (Rd.nil _ _ _) (by omega) (by omega)).mono ?_); rintro e w4 ⟨rfl, hb4⟩)
  have k4 := (((Kept.of hb0).call hb1).call hb2).call hb3 |>.call hb4
  clear hb0 hb1 hb2 hb3 hb4
  rw [decide_eq_true (rfl : ([] : List (Int × Int)) = [])]
  go_wp2_with fail
  ((with_reducible refine (groups_none n s _ (by omega) (by omega) (by omega) H.out).mono ?_); rintro e w5 ⟨A5, cap5, rfl, hown5, hb5⟩)
  clear hown5
  go_wp2_with fail
  ((with_reducible refine (back15_any A5 0 cap5 [] _ rfl (Rd.nil _ _ _) (by omega)).mono ?_); rintro e w6 ⟨A6, cap6, rfl, hown6, hb6⟩)
  clear hown6
  go_wp2_with fail
  ((with_reducible refine (refGroups_none n s _ H.out).mono ?_); rintro e w7 ⟨A7, cap7, rfl, hown7, hb7⟩)
  clear hown7
  go_wp2_with fail
  ((with_reducible refine (equalRef_any A6 A7 0 0 cap6 cap7 [] [] _ rfl rfl (Rd.nil _ _ _) (Rd.nil _ _ _) (by omega) (by omega)).mono ?_); rintro e w8 ⟨rfl, hb8⟩)
  have k8 := (((k4.call hb5).call hb6).call hb7).call hb8
  clear k4 hb5 hb6 hb7 hb8
  go_wp2
  go_ret
  exact ⟨by simp, k8.2.2⟩

set_option maxHeartbeats 1000000 in
theorem bucketDivides_some (a b : Nat) (w : World) (ha1 : 1 ≤ a) (ha : a ≤ 2000) (hb1 : 1 ≤ b) (hb : b ≤ 9223372036854775807) :
    Calls Try.prog 6 #[.int .i64 a, .int .i64 b] w fun e w' => e = .returned (.bool true) ∧ Below w.heap.size w w' := by
  have HL := Lib.hid (bucketsL_length a b)
  have HB := Lib.hid (blocksL_length a b)
  have hc := cnt_le a b
  go_enter Try.func6, Try.ntmps6
  go_wp2_with fail
  ((with_reducible refine (alive15_any _).mono ?_); rintro e w0 ⟨rfl, h0⟩)
  go_wp2_with fail
  ((with_reducible refine (buckets_any a b _ (by omega) (by omega) (by omega) (by omega)).mono ?_); rintro e w1 ⟨A, cap, rfl, hown, h1⟩)
  have R1 := Lib.hid (Rd.of_own hown)
  clear hown
  go_wp2_with fail
  ((with_reducible refine (back15_any A _ cap (bucketsL a b) _ HL.out R1.out (by omega)).mono ?_); rintro e w2 ⟨A2, cap2, rfl, hown2, h2⟩)
  have R2 := Lib.hid (Rd.of_own hown2)
  clear hown2
  go_wp2_with fail
  ((with_reducible refine (refBuckets_any a b _ (by omega) (by omega) (by omega) (by omega)).mono ?_); rintro e w3 ⟨A3, cap3, rfl, hown3, h3⟩)
  have R3 := Lib.hid (Rd.of_own hown3)
  clear hown3
  go_wp2_with fail
  ((with_reducible refine (equalRef_any A2 A3 _ _ cap2 cap3 (bucketsL a b) (bucketsL a b) _ HL.out HL.out (R2.out.below h3) R3.out (by omega) (by omega)).mono ?_); rintro e w4 ⟨rfl, h4⟩)
  have k4 := (((Kept.of h0).call h1).call h2).call h3 |>.call h4
  clear h0 h1 h2 h3 h4 R1 R2 R3
  rw [decide_eq_true (rfl : bucketsL a b = bucketsL a b)]
  go_wp2_with fail
  ((with_reducible refine (groups_any a b _ (by omega) (by omega) (by omega) (by omega)).mono ?_); rintro e w5 ⟨A5, cap5, rfl, hown5, h5⟩)
  have R5 := Lib.hid (Rd.of_own hown5)
  clear hown5
  go_wp2_with fail
  ((with_reducible refine (back15_any A5 _ cap5 (blocksL a b) _ HB.out R5.out (by omega)).mono ?_); rintro e w6 ⟨A6, cap6, rfl, hown6, h6⟩)
  have R6 := Lib.hid (Rd.of_own hown6)
  clear hown6
  go_wp2_with fail
  ((with_reducible refine (refGroups_any a b _ (by omega) (by omega) (by omega) (by omega)).mono ?_); rintro e w7 ⟨A7, cap7, rfl, hown7, h7⟩)
  have R7 := Lib.hid (Rd.of_own hown7)
  clear hown7
  go_wp2_with fail
  ((with_reducible refine (equalRef_any A6 A7 _ _ cap6 cap7 (blocksL a b) (blocksL a b) _ HB.out HB.out (R6.out.below h7) R7.out (by omega) (by omega)).mono ?_); rintro e w8 ⟨rfl, h8⟩)
  have k8 := (((k4.call h5).call h6).call h7).call h8
  clear k4 h5 h6 h7 h8
  go_wp2
  go_ret
  exact ⟨by simp, k8.2.2⟩

theorem bucketDivides_any (n s : Int) (w : World) (hn : -9223372036854775808 ≤ n ∧ n ≤ 9223372036854775807) (hs : -9223372036854775808 ≤ s ∧ s ≤ 9223372036854775807) :
    Calls Try.prog 6 #[.int .i64 n, .int .i64 s] w fun e w' => e = .returned (.bool true) ∧ Below w.heap.size w w' := by
  by_cases h : 2000 < n
  · exact bucketDivides_big n s w h
  · by_cases h2 : n < 1 ∨ s < 1
    · exact bucketDivides_none n s w (by omega) (by omega) (by omega) h2
    · obtain ⟨a, rfl⟩ := Int.eq_ofNat_of_zero_le (show 0 ≤ n by omega)
      obtain ⟨b, rfl⟩ := Int.eq_ofNat_of_zero_le (show 0 ≤ s by omega)
      exact bucketDivides_some a b w (by omega) (by omega) (by omega) (by omega)

end Go.Proofs.Ytmnmjjackffnjaa
