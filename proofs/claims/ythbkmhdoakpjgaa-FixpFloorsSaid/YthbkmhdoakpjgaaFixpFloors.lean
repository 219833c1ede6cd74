/-
  FixpFloors: a product with a power of 2 below One is the number, shifted to the right: plain laws and the walk.
-/
import Derived.Test.YthbkmhdoakpjgaaFixpLaws
namespace Go.Proofs.Ythbkmhdoakpjgaa
set_option linter.unusedVariables false
set_option linter.unusedSimpArgs false
open Go.RowKit

theorem floor_eq (a : Int) (n m : Nat) (hm : m ≤ n) (ha : -9223372036854775808 ≤ a ∧ a ≤ 9223372036854775807) : mulV a (2 ^ m) n = a / 2 ^ (n - m) := by
  unfold mulV
  have hp := pow_pos' m
  have e : (2 : Int) ^ n = 2 ^ m * 2 ^ (n - m) := by rw [← Int.pow_add, show m + (n - m) = n by omega]
  rw [e, Int.mul_comm a, Int.mul_ediv_mul_of_pos _ _ hp]
  have hq := pow_pos' (n - m)
  generalize (2 : Int) ^ (n - m) = K at *
  have h1 : -9223372036854775808 ≤ a / K := (Int.le_ediv_iff_mul_le hq).2 (by
    have : 9223372036854775808 * 1 ≤ 9223372036854775808 * K := Int.mul_le_mul_of_nonneg_left (by omega) (by omega)
    omega)
  have h2 : a / K ≤ 9223372036854775807 := by
    have : a / K < 9223372036854775808 := Int.ediv_lt_of_lt_mul hq (by
      have : 9223372036854775808 * 1 ≤ 9223372036854775808 * K := Int.mul_le_mul_of_nonneg_left (by omega) (by omega)
      omega)
    omega
  exact wrap64_id _ h1 h2

theorem floor_any (a : Int) (n m : Nat) (w : World) (hm : m ≤ n) (hn : n ≤ 62) (ha : -9223372036854775808 ≤ a ∧ a ≤ 9223372036854775807) :
    Calls Try.prog 20 #[.int .i64 a, .int .i64 (2 ^ m), .int .i64 n] w fun e w' => e = .returned (.int .i64 (a / 2 ^ (n - m))) ∧ Below w.heap.size w w' := by
  have h := mul_any a (2 ^ m) n w ha (two_pow_range m (by omega)) hn
  rwa [floor_eq a n m hm ha] at h
theorem refMul_neg (a : Int) (n : Nat) (w : World) (ha : -9223372036854775808 ≤ a ∧ a ≤ 9223372036854775807) (hn : n ≤ 62) :
    Calls Try.prog 21 #[.int .i64 (-1), .int .i64 a, .int .i64 n] w fun e w' => e = .returned (.int .i64 (mulV a (-1) n)) ∧ w = w' := by
  have h := refMul_any (-1) a n w (by omega) ha hn
  rwa [mulV_comm a (-1)] at h

set_option maxHeartbeats 1000000 in
theorem fixpFloors_nat (a : Int) (q k : Nat) (w : World) (ha : -9223372036854775808 ≤ a ∧ a ≤ 9223372036854775807) (hq : q ≤ 255) (hk : k ≤ 255) :
    Calls Try.prog 5 #[.int .i64 a, .int .u8 q, .int .u8 k] w fun e w' => e = .returned (.bool true) ∧ Below w.heap.size w w' := by
  have HA := Lib.hid ha
  clear ha
  go_enter Try.func5, Try.ntmps5
  go_wp2_with fail
  rw [show ((q : Int) % 63) = ((q % 63 : Nat) : Int) by simp]
  obtain ⟨n, hn⟩ : ∃ n, q % 63 = n := ⟨_, rfl⟩
  rw [hn]
  have hn2 : n ≤ 62 := by omega
  clear hn
  rw [show ((k : Int) % ((n : Int) + 1)) = ((k % (n + 1) : Nat) : Int) by simp]
  obtain ⟨m, hm⟩ : ∃ m, k % (n + 1) = m := ⟨_, rfl⟩
  rw [hm]
  have hm2 : m ≤ n := by have := Nat.mod_lt k (show 0 < n + 1 by omega); omega
  clear hm
  have HO := Lib.hid (two_pow_range m (by omega))
  have HS := Lib.hid (one_shl m (by omega))
  have HF := Lib.hid (floor_eq a n m hm2 HA.out)
  have z1 : IntKind.i64.wrap ((n : Int) - (m : Int)) = (n : Int) - (m : Int) := IntWalk.i64_in _ (by omega)
  have z2 : 0 ≤ (n : Int) - (m : Int) := by omega
  have z3 : ((n : Int) - (m : Int)).toNat = n - m := by omega
  have z4 : IntKind.i64.wrap ((2 : Int) ^ m) = 2 ^ m := IntWalk.i64_in _ (by have := HO.out; omega)
  have F1 := fun W => Lib.hid (floor_any a n m W hm2 (by omega) HA.out)
  have F2 := fun W => Lib.hid (mul_any a (-1) n W HA.out (by omega) (by omega))
  have F3 := fun W => Lib.hid (refMul_neg a n W HA.out (by omega))
  refine wp_region_kept w (by kernel_rfl) (by kernel_rfl) (Kept.of (Below.refl _ _)) ?_
  repeat (go_big_quiet_step (first | (go_at_call 17; exact kept_call (alive01_any _)) | (go_at_call 21; with_reducible exact kept_same (F3 _).out) | (go_at_call 20; with_reducible exact kept_call (F1 _).out) | (go_at_call 20; with_reducible exact kept_call (F2 _).out)))
  refine wpQuiet_nil ?_
  rintro _ ⟨⟨w2, k2⟩, rfl⟩
  go_wp2
  go_ret
  exact ⟨rfl, k2.2.2⟩

theorem fixpFloors_any (a q k : Int) (w : World) (ha : -9223372036854775808 ≤ a ∧ a ≤ 9223372036854775807) (hq : 0 ≤ q ∧ q ≤ 255) (hk : 0 ≤ k ∧ k ≤ 255) :
    Calls Try.prog 5 #[.int .i64 a, .int .u8 q, .int .u8 k] w fun e w' => e = .returned (.bool true) ∧ Below w.heap.size w w' := by
  obtain ⟨x, rfl⟩ := Int.eq_ofNat_of_zero_le hq.1
  obtain ⟨y, rfl⟩ := Int.eq_ofNat_of_zero_le hk.1
  exact fixpFloors_nat a x y w ha (by omega) (by omega)

end Go.Proofs.Ythbkmhdoakpjgaa
