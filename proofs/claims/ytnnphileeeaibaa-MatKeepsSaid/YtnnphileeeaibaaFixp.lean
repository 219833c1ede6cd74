/-
  Contracts of package fixp and of its reference: Product, Shift, Mul.
-/
import Derived.Test.YtnnphileeeaibaaProg
import Derived.Test.YtnnphileeeaibaaBase
import Derived.Test.YtnnphileeeaibaaShelf
import Derived.Test.YtnnphileeeaibaaFixpPlain
namespace Go.Proofs.Ytnnphileeeaibaa
set_option linter.unusedVariables false
set_option linter.unusedSimpArgs false
open Go.RowKit

theorem mul64_any (x y : Int) (w : World) : Calls Try.prog 78 #[.int .u64 (IntKind.u64.wrap x), .int .u64 (IntKind.u64.wrap y)] w fun e w' =>
    e = .returned (.tuple #[.int .u64 (IntKind.u64.wrap x * IntKind.u64.wrap y / 18446744073709551616), .int .u64 (pLo x y)]) ∧ w = w' := by
  have hx : 0 ≤ IntKind.u64.wrap x ∧ IntKind.u64.wrap x < 18446744073709551616 := by rw [wu]; omega
  have hy : 0 ≤ IntKind.u64.wrap y ∧ IntKind.u64.wrap y < 18446744073709551616 := by rw [wu]; omega
  rw [← prod_lo x y]
  obtain ⟨a, ha⟩ := Int.eq_ofNat_of_zero_le hx.1
  obtain ⟨b, hb⟩ := Int.eq_ofNat_of_zero_le hy.1
  rw [ha] at hx ⊢
  rw [hb] at hy ⊢
  refine (Try.bits_Mul64 a b (by omega) (by omega) w).mono ?_
  rintro e w' ⟨rfl, rfl⟩
  exact ⟨by simp, rfl⟩

/-- The upper part behind k rounds. -/
def hiAt (h a b : Int) : Nat → Int
  | 0 => wrap64 h
  | 1 => wrap64 (wrap64 h - (if a < 0 then b else 0))
  | _ => wrap64 (wrap64 (wrap64 h - (if a < 0 then b else 0)) - (if b < 0 then a else 0))
theorem wrap64_wrap64 (x : Int) : wrap64 (wrap64 x) = wrap64 x := by unfold wrap64; omega

set_option maxHeartbeats 400000 in
theorem product_any (a b : Int) (w : World) (ha : -9223372036854775808 ≤ a ∧ a ≤ 9223372036854775807) (hb : -9223372036854775808 ≤ b ∧ b ≤ 9223372036854775807) :
    Calls Try.prog 72 #[.int .i64 a, .int .i64 b] w fun e w' => e = .returned (.tuple #[.int .i64 (pHi a b), .int .u64 (pLo a b)]) ∧ Below w.heap.size w w' := by
  have HP := Lib.hid (prod_hi a b ha hb)
  clear ha hb
  have i0 : ∀ w, (Instr.index 131 (.agg #[.int .i64 a, .int .i64 b, .int .i64 b, .int .i64 a]) (.int .i64 0)).run Try.prog w = .ok (.agg #[.int .i64 a, .int .i64 b]) w := fun _ => by kernel_rfl
  have i1 : ∀ w, (Instr.index 131 (.agg #[.int .i64 a, .int .i64 b, .int .i64 b, .int .i64 a]) (.int .i64 1)).run Try.prog w = .ok (.agg #[.int .i64 b, .int .i64 a]) w := fun _ => by kernel_rfl
  go_enter Try.func72, Try.ntmps72
  go_wp2_with fail
  ((with_reducible refine (mul64_any a b _).mono ?_); rintro e w1 ⟨rfl, rfl⟩)
  generalize IntKind.u64.wrap a * IntKind.u64.wrap b / 18446744073709551616 = h at *
  go_wp2_with fail
  go_loopw [4, 26] (fun v c wr => ∃ (k : Nat) (x : Int), k ≤ 2 ∧ c = .int .i64 k ∧ v = .int .i64 x ∧ Hid (x = hiAt h a b k) ∧ Below w.heap.size w wr) (fun _ c _ => 2 - (intOf c).toNat)
  case atStart => exact ⟨0, _, by omega, rfl, rfl, Lib.hid rfl, Below.refl _ _⟩
  case round =>
    obtain ⟨k, x, hk, rfl, rfl, hx, hb⟩ := hrel
    by_cases hlt : k < 2
    · by_cases h0 : k = 0
      · subst h0
        by_cases ha : a < 0
        all_goals
          go_wp2
          go_roundw
          case rel => exact ⟨1, _, by omega, rfl, rfl, Lib.hid (by have := hx.out; simp only [hiAt] at this ⊢; rw [this]; simp [ha, wrap64_wrap64]), hb.alloc hb.size _⟩
          case measure => simp [intOf]
      · obtain rfl : k = 1 := by omega
        by_cases ha : b < 0
        all_goals
          go_wp2
          go_roundw
          case rel => exact ⟨2, _, by omega, rfl, rfl, Lib.hid (by have := hx.out; simp only [hiAt] at this ⊢; rw [this]; simp [ha, wrap64_wrap64]), hb.alloc hb.size _⟩
          case measure => simp [intOf]
    · obtain rfl : k = 2 := by omega
      go_wp2
      go_ret2
      exact ⟨ret_pair (congrArg (Value.int .i64) (by rw [← HP.out]; exact hx.out)), hb⟩

set_option maxHeartbeats 400000 in
theorem shift_any (h l : Int) (q : Nat) (w : World) (hq : q ≤ 63) (hl0 : 0 ≤ l) (hl : l < 18446744073709551616) :
    Calls Try.prog 73 #[.int .i64 h, .int .u64 l, .int .i64 q] w fun e w' => e = .returned (.int .i64 (shV h l q)) ∧ ∃ n, w' = w.drewN n := by
  have HS := Lib.hid (shift_eq h l q hq hl0 hl)
  have q3 : IntKind.i64.wrap (64 - (q : Int)) = 64 - (q : Int) := IntWalk.i64_in _ (by omega)
  have q4 : 0 ≤ 64 - (q : Int) := by omega
  have q5 : (64 - (q : Int)).toNat = 64 - q := by omega
  clear hl
  go_enter Try.func73, Try.ntmps73
  go_wp2_with fail
  go_quiet (fail)
  go_wp2
  go_ret
  exact ⟨ret_int HS.out, _, rfl⟩

set_option maxHeartbeats 400000 in
theorem shift_none (h l q : Int) (w : World) (hq : q < 0 ∨ 63 < q) :
    Calls Try.prog 73 #[.int .i64 h, .int .u64 l, .int .i64 q] w fun e w' => e = .returned (.int .i64 0) ∧ ∃ n, w' = w.drewN n := by
  go_enter Try.func73, Try.ntmps73
  go_wp2
  all_goals (go_ret; exact ⟨rfl, 0, rfl⟩)

set_option maxHeartbeats 400000 in
theorem refShift_none (h l q : Int) (w : World) (hq : q < 0 ∨ 63 < q) :
    Calls Try.prog 68 #[.int .i64 h, .int .u64 l, .int .i64 q] w fun e w' => e = .returned (.int .i64 0) ∧ w = w' := by
  go_enter Try.func68, Try.ntmps68
  go_wp2
  all_goals (go_ret; exact ⟨rfl, rfl⟩)

/-- What the reference's shift has behind k rounds. -/
def ShAt (h l : Int) (k : Nat) (hh ll : Int) : Prop := hh = (h * 18446744073709551616 + l) / 2 ^ k / 18446744073709551616 ∧ ll = (h * 18446744073709551616 + l) / 2 ^ k % 18446744073709551616
theorem ShAt.start (h l : Int) (hl0 : 0 ≤ l) (hl : l < 18446744073709551616) : ShAt h l 0 h l := by
  unfold ShAt
  simp only [Int.pow_zero, Int.ediv_one]
  omega
theorem ShAt.next {h l hh ll : Int} {k : Nat} (s : ShAt h l k hh ll) : ShAt h l (k + 1) (hh / 2) (bits .or .u64 (ll / 2) (IntKind.u64.wrap (IntKind.u64.wrap hh * 9223372036854775808))) := by
  obtain ⟨h1, h2⟩ := s
  have := shift_step hh ll _ h1 h2
  unfold ShAt
  rw [ediv_pow_succ]
  exact this
theorem ShAt.done {h l hh ll : Int} {k : Nat} (s : ShAt h l k hh ll) : wrap64 ll = shV h l k := by
  rw [s.2, wrap64_mod]
  rfl

set_option maxHeartbeats 400000 in
theorem refShift_any (h l : Int) (q : Nat) (w : World) (hq : q ≤ 63) (hl0 : 0 ≤ l) (hl : l < 18446744073709551616) :
    Calls Try.prog 68 #[.int .i64 h, .int .u64 l, .int .i64 q] w fun e w' => e = .returned (.int .i64 (shV h l q)) ∧ w = w' := by
  have d1 : decide ((q : Int) < 0) = false := decide_eq_false (by omega)
  have d2 : decide (63 < (q : Int)) = false := decide_eq_false (by omega)
  have HS := Lib.hid (ShAt.start h l hl0 hl)
  clear hl hl0
  go_enter Try.func68, Try.ntmps68
  go_wp2_with fail
  go_loop [0, 1, 7] (fun x y c => ∃ (k : Nat) (hh ll : Int), k ≤ q ∧ c = .int .i64 k ∧ x = .int .i64 hh ∧ y = .int .u64 ll ∧ Hid (ShAt h l k hh ll)) (fun _ _ c => 64 - (intOf c).toNat)
  case atStart => exact ⟨0, h, l, by omega, rfl, rfl, rfl, HS⟩
  case round =>
    obtain ⟨k, hh, ll, hk, rfl, rfl, rfl, hs⟩ := hrel
    by_cases hlt : k < q
    · go_wp2
      go_round
      case rel => exact ⟨k + 1, _, _, by omega, by go_num, rfl, rfl, Lib.hid hs.out.next⟩
      case measure => simp [intOf]; omega
    · obtain rfl : k = q := by omega
      go_wp2
      go_ret
      exact ⟨ret_int hs.out.done, rfl⟩

end Go.Proofs.Ytnnphileeeaibaa
