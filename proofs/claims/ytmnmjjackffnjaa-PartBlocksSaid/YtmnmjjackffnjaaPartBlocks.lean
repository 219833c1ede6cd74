/-
  PartBlocks: Blocks returns the ranges of the reference, as many as Count says: the walk.
-/
import Derived.Test.YtmnmjjackffnjaaPartEvens
namespace Go.Proofs.Ytmnmjjackffnjaa
set_option linter.unusedVariables false
set_option linter.unusedSimpArgs false
open Go.RowKit

set_option maxHeartbeats 1000000 in
theorem partBlocks_big (n s : Int) (w : World) (h : 3000 < n) :
    Calls Try.prog 10 #[.int .i64 n, .int .i64 s] w fun e w' => e = .returned (.bool true) ∧ Below w.heap.size w w' := by
  go_enter Try.func10, Try.ntmps10
  go_wp2_with fail
  ((with_reducible refine (alive04_any _).mono ?_); rintro e w1 ⟨rfl, hb1⟩)
  go_wp2
  go_ret
  exact ⟨rfl, hb1⟩

set_option maxHeartbeats 1000000 in
theorem partBlocks_none (n s : Int) (w : World) (hn1 : -9223372036854775808 ≤ n) (hs : s ≤ 9223372036854775807) (hn : n ≤ 3000) (h : n < 1 ∨ s < 1) :
    Calls Try.prog 10 #[.int .i64 n, .int .i64 s] w fun e w' => e = .returned (.bool true) ∧ Below w.heap.size w w' := by
  have H := Lib.hid h
  clear h
  go_enter Try.func10, Try.ntmps10
  go_wp2_with fail
  ((with_reducible refine (blocks_none n s _ (by omega) (by omega) (by omega) H.out).mono ?_); rintro e w1 ⟨A, cap, rfl, hown, hb1⟩)
  go_wp2_with fail
  ((with_reducible refine (refBlocks_none n s _ H.out).mono ?_); rintro e w2 ⟨A2, cap2, rfl, hown2, hb2⟩)
  have k2 := (Kept.of hb1).call hb2
  go_wp2_with fail
  ((with_reducible refine (alive04_any _).mono ?_); rintro e w3 ⟨rfl, hb3⟩)
  have k3 := k2.call hb3
  go_wp2_with fail
  ((with_reducible refine (back04_any A 0 cap [] _ rfl (Rd.nil _ _ _) (by omega)).mono ?_); rintro e w4 ⟨A4, cap4, rfl, hown4, hb4⟩)
  have k4 := k3.call hb4
  go_wp2_with fail
  ((with_reducible refine (equalRef_any A4 A2 0 0 cap4 cap2 [] [] _ rfl rfl (Rd.nil _ _ _) (Rd.nil _ _ _) (by omega) (by omega)).mono ?_); rintro e w5 ⟨rfl, hb5⟩)
  have k5 := k4.call hb5
  clear hb1 hb2 hb3 hb4 hb5 k2 k3 k4 hown hown2 hown4
  rw [decide_eq_true (rfl : ([] : List (Int × Int)) = [])]
  go_wp2_with fail
  ((with_reducible refine (count_any n s _ (by omega) (by omega) (by omega)).mono ?_); rintro e w6 ⟨rfl, rfl⟩)
  rw [← cnt_zero n s H.out]
  go_wp2
  go_ret
  exact ⟨rfl, k5.2.2⟩

set_option maxHeartbeats 1000000 in
theorem partBlocks_some (a b : Nat) (w : World) (ha1 : 1 ≤ a) (ha : a ≤ 3000) (hb1 : 1 ≤ b) (hb : b ≤ 9223372036854775807) :
    Calls Try.prog 10 #[.int .i64 a, .int .i64 b] w fun e w' => e = .returned (.bool true) ∧ Below w.heap.size w w' := by
  have HL := Lib.hid (blocksL_length a b)
  have hc := cnt_le a b
  have hc1 : 1 ≤ cnt a b := by rw [cnt_pos a b ha1 hb1]; exact Nat.le_add_left _ _
  have d1 : (((cnt a b : Nat) : Int) == 0) = false := by simp; omega
  go_enter Try.func10, Try.ntmps10
  go_wp2_with fail
  ((with_reducible refine (blocks_any a b _ (by omega) (by omega) (by omega) (by omega)).mono ?_); rintro e w1 ⟨A, cap, rfl, hown, hb1'⟩)
  have R1 := Lib.hid (Rd.of_own hown)
  clear hown
  go_wp2_with fail
  ((with_reducible refine (refBlocks_any a b _ (by omega) (by omega) (by omega) (by omega)).mono ?_); rintro e w2 ⟨A2, cap2, rfl, hown2, hb2⟩)
  have R2 := Lib.hid (Rd.of_own hown2)
  clear hown2
  go_wp2_with fail
  ((with_reducible refine (alive04_any _).mono ?_); rintro e w3 ⟨rfl, hb3⟩)
  have k3 := (Kept.of hb2).call hb3
  go_wp2_with fail
  ((with_reducible refine (back04_any A (cnt a b) cap (blocksL a b) _ HL.out (R1.out.kept k3) (by omega)).mono ?_); rintro e w4 ⟨A4, cap4, rfl, hown4, hb4⟩)
  have R4 := Lib.hid (Rd.of_own hown4)
  have k4 := k3.call hb4
  clear hown4 k3
  go_wp2_with fail
  ((with_reducible refine (equalRef_any A4 A2 (cnt a b) (cnt a b) cap4 cap2 (blocksL a b) (blocksL a b) _ HL.out HL.out R4.out ((R2.out.below hb3).below hb4) (by omega) (by omega)).mono ?_); rintro e w5 ⟨rfl, hb5⟩)
  have k5 := k4.call hb5
  clear hb2 hb3 hb4 hb5 k4
  rw [decide_eq_true (rfl : blocksL a b = blocksL a b)]
  go_wp2_with fail
  ((with_reducible refine (count_nat a b _ (by omega) (by omega)).mono ?_); rintro e w6 ⟨rfl, rfl⟩)
  go_wp2_with fail
  ((with_reducible refine (covers_any a A (cnt a b) cap (blocksL a b) _ HL.out (R1.out.kept k5) (by omega)).mono ?_); rintro e w6 ⟨rfl, hb6⟩)
  have k6 := k5.call hb6
  clear hb6 k5
  rw [covers_blocks a b ha1 hb1]
  go_wp2
  go_ret
  exact ⟨rfl, hb1'.trans (k6.2.2.mono hb1'.size)⟩

theorem partBlocks_any (n s : Int) (w : World) (hn : -9223372036854775808 ≤ n ∧ n ≤ 9223372036854775807) (hs : -9223372036854775808 ≤ s ∧ s ≤ 9223372036854775807) :
    Calls Try.prog 10 #[.int .i64 n, .int .i64 s] w fun e w' => e = .returned (.bool true) ∧ Below w.heap.size w w' := by
  by_cases h : 3000 < n
  · exact partBlocks_big n s w h
  · by_cases h2 : n < 1 ∨ s < 1
    · exact partBlocks_none n s w (by omega) (by omega) (by omega) h2
    · obtain ⟨a, rfl⟩ := Int.eq_ofNat_of_zero_le (show 0 ≤ n by omega)
      obtain ⟨b, rfl⟩ := Int.eq_ofNat_of_zero_le (show 0 ≤ s by omega)
      exact partBlocks_some a b w (by omega) (by omega) (by omega) (by omega)

end Go.Proofs.Ytmnmjjackffnjaa
