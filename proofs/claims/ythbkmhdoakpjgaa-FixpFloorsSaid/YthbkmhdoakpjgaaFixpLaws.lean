/-
  FixpProducts, FixpShifts, FixpMuls, FixpFloors: plain laws and the walks.
-/
import Derived.Test.YthbkmhdoakpjgaaFixp2
namespace Go.Proofs.Ythbkmhdoakpjgaa
set_option linter.unusedVariables false
set_option linter.unusedSimpArgs false
open Go.RowKit

theorem pHi_comm (a b : Int) : pHi b a = pHi a b := by unfold pHi; rw [Int.mul_comm]
theorem pLo_comm (a b : Int) : pLo b a = pLo a b := by unfold pLo; rw [Int.mul_comm]
theorem mulV_comm (a b : Int) (q : Nat) : mulV b a q = mulV a b q := by unfold mulV; rw [Int.mul_comm]

set_option maxHeartbeats 400000 in
theorem fixpProducts_any (a b : Int) (w : World) (ha : -9223372036854775808 ≤ a ∧ a ≤ 9223372036854775807) (hb : -9223372036854775808 ≤ b ∧ b ≤ 9223372036854775807) :
    Calls Try.prog 3 #[.int .i64 a, .int .i64 b] w fun e w' => e = .returned (.bool true) ∧ Below w.heap.size w w' := by
  have HA := Lib.hid ha
  have HB := Lib.hid hb
  clear ha hb
  have hl : (wrap64 (pLo a b) == wrap64 (a * b)) = true := by
    unfold pLo
    rw [wrap64_mod]
    simp
  go_enter Try.func3, Try.ntmps3
  go_wp2_with fail
  ((with_reducible refine (product_any a b _ HA.out HB.out).mono ?_); rintro e w1 ⟨rfl, hb1⟩)
  go_wp2_with fail
  ((with_reducible refine (refProduct_any a b _ HA.out HB.out).mono ?_); rintro e w2 ⟨rfl, rfl⟩)
  go_wp2_with fail
  ((with_reducible refine (product_any b a _ HB.out HA.out).mono ?_); rintro e w3 ⟨rfl, hb3⟩)
  rw [pHi_comm a b, pLo_comm a b]
  go_wp2_with fail
  ((with_reducible refine (alive01_any _).mono ?_); rintro e w4 ⟨rfl, hb4⟩)
  have k4 := ((Kept.of hb1).call hb3).call hb4
  clear hb1 hb3 hb4
  go_wp2
  go_ret
  exact ⟨rfl, k4.2.2⟩

set_option maxHeartbeats 400000 in
theorem fixpShifts_none (h l q : Int) (w : World) (hq : q < 0 ∨ 63 < q) :
    Calls Try.prog 4 #[.int .i64 h, .int .u64 l, .int .i64 q] w fun e w' => e = .returned (.bool true) ∧ Below w.heap.size w w' := by
  have HQ := Lib.hid hq
  go_enter Try.func4, Try.ntmps4
  go_wp2_with fail
  ((with_reducible refine (shift_none h l q _ HQ.out).mono ?_); rintro e w1 ⟨rfl, n1, rfl⟩)
  go_wp2_with fail
  ((with_reducible refine (refShift_none h l q _ HQ.out).mono ?_); rintro e w2 ⟨rfl, rfl⟩)
  go_wp2_with fail
  all_goals
    ((with_reducible refine (alive01_any _).mono ?_); rintro e w3 ⟨rfl, hb3⟩)
    go_wp2
    go_ret
    exact ⟨rfl, (below_drewN (Below.refl _ _) _).trans hb3⟩

theorem shift_two (h l : Int) (q : Nat) (hq : 1 ≤ q) (hl0 : 0 ≤ l) (hl : l < 18446744073709551616) :
    let l' := bits .or .u64 (l / 2) (IntKind.u64.wrap (IntKind.u64.wrap h * 9223372036854775808)); (0 ≤ l' ∧ l' < 18446744073709551616) ∧ shV (h / 2) l' (q - 1) = shV h l q := by
  obtain ⟨k, rfl⟩ : ∃ k, q = k + 1 := ⟨q - 1, by omega⟩
  have hs := shift_step h l (h * 18446744073709551616 + l) (by omega) (by omega)
  intro l'
  have hl' : l' = (h * 18446744073709551616 + l) / 2 % 18446744073709551616 := hs.2
  refine ⟨by omega, ?_⟩
  unfold shV
  rw [show k + 1 - 1 = k by omega]
  have e : h / 2 * 18446744073709551616 + l' = (h * 18446744073709551616 + l) / 2 := by omega
  rw [e, show (h * 18446744073709551616 + l) / 2 ^ (k + 1) = (h * 18446744073709551616 + l) / 2 / 2 ^ k from ?_]
  have h1 := @Int.ediv_ediv (h * 18446744073709551616 + l) 2 (2 ^ k)
  rw [if_neg (by omega)] at h1
  rw [h1, Int.pow_succ, Int.mul_comm 2, Int.sub_zero]

set_option maxHeartbeats 400000 in
theorem fixpShifts_some (h l : Int) (q : Nat) (w : World) (hq : q ≤ 63) (hl0 : 0 ≤ l) (hl : l < 18446744073709551616) :
    Calls Try.prog 4 #[.int .i64 h, .int .u64 l, .int .i64 q] w fun e w' => e = .returned (.bool true) ∧ Below w.heap.size w w' := by
  have HL := Lib.hid hl
  have HL0 := Lib.hid hl0
  clear hl
  by_cases h0 : q = 0
  · have d1 : decide ((q : Int) < 1) = true := decide_eq_true (by omega)
    have H0 := Lib.hid h0
    clear h0
    go_enter Try.func4, Try.ntmps4
    go_wp2_with fail
    ((with_reducible refine (shift_any h l q _ (by omega) HL0.out HL.out).mono ?_); rintro e w1 ⟨rfl, n1, rfl⟩)
    go_wp2_with fail
    ((with_reducible refine (refShift_any h l q _ (by omega) HL0.out HL.out).mono ?_); rintro e w2 ⟨rfl, rfl⟩)
    go_wp2_with fail
    ((with_reducible refine (alive01_any _).mono ?_); rintro e w3 ⟨rfl, hb3⟩)
    go_wp2
    go_ret
    exact ⟨rfl, (below_drewN (Below.refl _ _) _).trans hb3⟩
  · have d1 : decide ((q : Int) < 1) = false := decide_eq_false (by omega)
    have d2 : decide (63 < (q : Int)) = false := decide_eq_false (by omega)
    have hs := shift_two h l q (by omega) HL0.out HL.out
    obtain ⟨l', hl'⟩ : ∃ x, bits .or .u64 (l / 2) (IntKind.u64.wrap (IntKind.u64.wrap h * 9223372036854775808)) = x := ⟨_, rfl⟩
    rw [hl'] at hs
    have HS := Lib.hid hs
    have hq1 : 1 ≤ q := by omega
    clear hs h0
    go_enter Try.func4, Try.ntmps4
    go_wp2_with fail
    ((with_reducible refine (shift_any h l q _ (by omega) HL0.out HL.out).mono ?_); rintro e w1 ⟨rfl, n1, rfl⟩)
    go_wp2_with fail
    ((with_reducible refine (refShift_any h l q _ (by omega) HL0.out HL.out).mono ?_); rintro e w2 ⟨rfl, rfl⟩)
    go_wp2_with fail
    ((with_reducible refine (alive01_any _).mono ?_); rintro e w3 ⟨rfl, hb3⟩)
    go_wp2_with fail
    ((with_reducible refine (shift_any h l q _ (by omega) HL0.out HL.out).mono ?_); rintro e w4 ⟨rfl, n4, rfl⟩)
    go_wp2_with fail
    rw [show ((q : Int) - 1) = ((q - 1 : Nat) : Int) by omega]
    ((with_reducible refine (shift_any (h / 2) l' (q - 1) _ (by omega) HS.out.1.1 HS.out.1.2).mono ?_); rintro e w5 ⟨rfl, n5, rfl⟩)
    rw [HS.out.2]
    go_wp2
    go_ret
    exact ⟨by simp, below_drewN ((below_drewN (Below.refl _ _) n1).trans hb3) _⟩

theorem fixpShifts_any (h l q : Int) (w : World) (hh : -9223372036854775808 ≤ h ∧ h ≤ 9223372036854775807) (hl : 0 ≤ l ∧ l ≤ 18446744073709551615) (hq : -9223372036854775808 ≤ q ∧ q ≤ 9223372036854775807) :
    Calls Try.prog 4 #[.int .i64 h, .int .u64 l, .int .i64 q] w fun e w' => e = .returned (.bool true) ∧ Below w.heap.size w w' := by
  by_cases h1 : q < 0 ∨ 63 < q
  · exact fixpShifts_none h l q w h1
  · obtain ⟨k, rfl⟩ := Int.eq_ofNat_of_zero_le (show 0 ≤ q by omega)
    exact fixpShifts_some h l k w (by omega) hl.1 (by omega)

set_option maxHeartbeats 400000 in
theorem one_none (q : Int) (w : World) (hq : q < 0 ∨ 62 < q) : Calls Try.prog 30 #[.int .i64 q] w fun e w' => e = .returned (.int .i64 0) ∧ w = w' := by
  go_enter Try.func30, Try.ntmps30
  go_wp2
  all_goals (go_ret; exact ⟨rfl, rfl⟩)
set_option maxHeartbeats 400000 in
theorem refOne_none (q : Int) (w : World) (hq : q < 0 ∨ 62 < q) : Calls Try.prog 31 #[.int .i64 q] w fun e w' => e = .returned (.int .i64 0) ∧ w = w' := by
  go_enter Try.func31, Try.ntmps31
  go_wp2
  all_goals (go_ret; exact ⟨rfl, rfl⟩)
theorem two_pow_range (q : Nat) (h : q ≤ 62) : -9223372036854775808 ≤ (2 : Int) ^ q ∧ (2 : Int) ^ q ≤ 9223372036854775807 := by
  have h1 := pow_pos' q
  have h64 : 2 ^ q ≤ 2 ^ 62 := Nat.pow_le_pow_right (by omega) h
  have : ((2 ^ q : Nat) : Int) = (2 : Int) ^ q := by simp
  omega
theorem one_shl (q : Nat) (h : q ≤ 62) : wrap64 ((1 : Int) * 2 ^ q) = 2 ^ q := by
  have := two_pow_range q h
  rw [Int.one_mul]
  exact wrap64_id _ this.1 this.2
set_option maxHeartbeats 400000 in
theorem one_any (q : Nat) (w : World) (hq : q ≤ 62) : Calls Try.prog 30 #[.int .i64 q] w fun e w' => e = .returned (.int .i64 (2 ^ q)) ∧ w = w' := by
  have HO := Lib.hid (one_shl q hq)
  go_enter Try.func30, Try.ntmps30
  go_wp2
  go_ret
  refine ⟨ret_int ?_, rfl⟩
  have h := HO.out
  rw [Int.one_mul] at h
  exact h
set_option maxHeartbeats 400000 in
theorem refOne_any (q : Nat) (w : World) (hq : q ≤ 62) : Calls Try.prog 31 #[.int .i64 q] w fun e w' => e = .returned (.int .i64 (2 ^ q)) ∧ w = w' := by
  have HO := Lib.hid (one_shl q hq)
  go_enter Try.func31, Try.ntmps31
  go_wp2
  go_ret
  refine ⟨ret_int ?_, rfl⟩
  have h := HO.out
  rw [Int.one_mul] at h
  exact h

set_option maxHeartbeats 400000 in
theorem fixpMuls_none (a b q : Int) (w : World) (hq : q < 0 ∨ 62 < q) :
    Calls Try.prog 9 #[.int .i64 a, .int .i64 b, .int .i64 q] w fun e w' => e = .returned (.bool true) ∧ Below w.heap.size w w' := by
  have HQ := Lib.hid hq
  go_enter Try.func9, Try.ntmps9
  go_wp2_with fail
  ((with_reducible refine (mul_none a b q _ HQ.out).mono ?_); rintro e w1 ⟨rfl, hb1⟩)
  go_wp2_with fail
  ((with_reducible refine (refMul_none a b q _ HQ.out).mono ?_); rintro e w2 ⟨rfl, rfl⟩)
  go_wp2_with fail
  ((with_reducible refine (mul_none b a q _ HQ.out).mono ?_); rintro e w3 ⟨rfl, hb3⟩)
  go_wp2_with fail
  ((with_reducible refine (one_none q _ HQ.out).mono ?_); rintro e w4 ⟨rfl, rfl⟩)
  go_wp2_with fail
  ((with_reducible refine (refOne_none q _ HQ.out).mono ?_); rintro e w4 ⟨rfl, rfl⟩)
  go_wp2_with fail
  ((with_reducible refine (alive01_any _).mono ?_); rintro e w5 ⟨rfl, hb5⟩)
  have k5 := ((Kept.of hb1).call hb3).call hb5
  clear hb1 hb3 hb5
  go_wp2
  all_goals (go_ret; exact ⟨rfl, k5.2.2⟩)

theorem mul_one' (a : Int) (q : Nat) (ha : -9223372036854775808 ≤ a ∧ a ≤ 9223372036854775807) : mulV a (2 ^ q) q = a := by
  unfold mulV
  rw [Int.mul_ediv_cancel _ (by have := pow_pos' q; omega)]
  exact wrap64_id a ha.1 ha.2

set_option maxHeartbeats 400000 in
theorem fixpMuls_some (a b : Int) (q : Nat) (w : World) (ha : -9223372036854775808 ≤ a ∧ a ≤ 9223372036854775807) (hb : -9223372036854775808 ≤ b ∧ b ≤ 9223372036854775807) (hq : q ≤ 62) :
    Calls Try.prog 9 #[.int .i64 a, .int .i64 b, .int .i64 q] w fun e w' => e = .returned (.bool true) ∧ Below w.heap.size w w' := by
  have HA := Lib.hid ha
  have HB := Lib.hid hb
  have HO := Lib.hid (two_pow_range q hq)
  have d1 : decide ((q : Int) < 0) = false := decide_eq_false (by omega)
  have d2 : decide (62 < (q : Int)) = false := decide_eq_false (by omega)
  clear ha hb
  go_enter Try.func9, Try.ntmps9
  go_wp2_with fail
  ((with_reducible refine (mul_any a b q _ HA.out HB.out (by omega)).mono ?_); rintro e w1 ⟨rfl, hb1⟩)
  go_wp2_with fail
  ((with_reducible refine (refMul_any a b q _ HA.out HB.out (by omega)).mono ?_); rintro e w2 ⟨rfl, rfl⟩)
  go_wp2_with fail
  ((with_reducible refine (mul_any b a q _ HB.out HA.out (by omega)).mono ?_); rintro e w3 ⟨rfl, hb3⟩)
  rw [mulV_comm a b]
  go_wp2_with fail
  ((with_reducible refine (one_any q _ (by omega)).mono ?_); rintro e w4 ⟨rfl, rfl⟩)
  go_wp2_with fail
  ((with_reducible refine (refOne_any q _ (by omega)).mono ?_); rintro e w4 ⟨rfl, rfl⟩)
  go_wp2_with fail
  ((with_reducible refine (alive01_any _).mono ?_); rintro e w5 ⟨rfl, hb5⟩)
  go_wp2_with fail
  ((with_reducible refine (one_any q _ (by omega)).mono ?_); rintro e w4 ⟨rfl, rfl⟩)
  go_wp2_with fail
  ((with_reducible refine (mul_any a (2 ^ q) q _ HA.out HO.out (by omega)).mono ?_); rintro e w6 ⟨rfl, hb6⟩)
  rw [mul_one' a q HA.out]
  have k5 := (((Kept.of hb1).call hb3).call hb5).call hb6
  clear hb1 hb3 hb5 hb6
  go_wp2
  go_ret
  exact ⟨rfl, k5.2.2⟩

theorem fixpMuls_any (a b q : Int) (w : World) (ha : -9223372036854775808 ≤ a ∧ a ≤ 9223372036854775807) (hb : -9223372036854775808 ≤ b ∧ b ≤ 9223372036854775807) (hq : -9223372036854775808 ≤ q ∧ q ≤ 9223372036854775807) :
    Calls Try.prog 9 #[.int .i64 a, .int .i64 b, .int .i64 q] w fun e w' => e = .returned (.bool true) ∧ Below w.heap.size w w' := by
  by_cases h1 : q < 0 ∨ 62 < q
  · exact fixpMuls_none a b q w h1
  · obtain ⟨k, rfl⟩ := Int.eq_ofNat_of_zero_le (show 0 ≤ q by omega)
    exact fixpMuls_some a b k w ha hb (by omega)

end Go.Proofs.Ythbkmhdoakpjgaa
