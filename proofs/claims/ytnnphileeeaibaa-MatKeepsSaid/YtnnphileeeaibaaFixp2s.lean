/-
  Contracts and lemmas that stand in other texts too, laid for this seat.
-/
import Derived.Test.YtnnphileeeaibaaFixp
import Derived.Deep.DeepCutAuto
namespace Go.Proofs.Ytnnphileeeaibaa
set_option linter.unusedVariables false
set_option linter.unusedSimpArgs false
open Go.RowKit

set_option maxHeartbeats 2000000 in
theorem refProduct_any (a b : Int) (w : World) (ha : -9223372036854775808 ≤ a ∧ a ≤ 9223372036854775807) (hb : -9223372036854775808 ≤ b ∧ b ≤ 9223372036854775807) :
    Calls Try.prog 67 #[.int .i64 a, .int .i64 b] w fun e w' => e = .returned (.tuple #[.int .i64 (pHi a b), .int .u64 (pLo a b)]) ∧ w = w' := by
  have HA := Lib.hid ha
  have HB := Lib.hid hb
  clear ha hb
  go_enter Try.func67, Try.ntmps67
  go_upto_if 14 with (fail)
  go_cut [8] (fun s8 wx => ∃ sg : Int, s8 = .int .u64 sg ∧ Hid (sg = sgOf a) ∧ w = wx)
  case first =>
    by_cases han : a < 0
    · go_wp2_with fail
      go_meet
      exact ⟨_, rfl, Lib.hid (by simp [sgOf, han]), rfl⟩
    · go_wp2_with fail
      go_meet
      exact ⟨_, rfl, Lib.hid (by simp [sgOf, han]), rfl⟩
  case rest =>
    obtain ⟨sg, rfl, hsg, rfl⟩ := hcut
    go_wp2_with fail
    go_loop [6, 7, 9] (fun x y c => ∃ (k : Nat) (hi lo : Int), k ≤ 64 ∧ c = .int .i64 k ∧ x = .int .u64 hi ∧ y = .int .u64 lo ∧ Hid (Two (prT a b k) hi lo)) (fun _ _ c => 64 - (intOf c).toNat)
    case atStart => exact ⟨0, 0, 0, by omega, rfl, rfl, rfl, Lib.hid (by rw [prT_zero]; exact ⟨rfl, rfl⟩)⟩
    case round =>
      obtain ⟨k, hi, lo, hk, rfl, rfl, rfl, hT⟩ := hrel
      by_cases hlt : k < 64
      · cases hbit : (bits BinOp.and IntKind.u64 (IntKind.u64.wrap b / 2 ^ k) 1 == 0) with
        | true =>
          go_wp2
          go_round
          case rel => exact ⟨k + 1, hi, lo, by omega, by go_num, rfl, rfl, Lib.hid (by rw [prT_skip a b k hlt HB.out hbit]; exact hT.out)⟩
          case measure => simp [intOf]; omega
        | false =>
          obtain ⟨xl, hxl⟩ : ∃ x, IntKind.u64.wrap (IntKind.u64.wrap a * 2 ^ k) = x := ⟨_, rfl⟩
          have HXL := Lib.hid (hxl.symm.trans (xl_eq a k))
          by_cases hk0 : k = 0
          · have HX : Hid (Two (a * 2 ^ k) sg xl) := Lib.hid ⟨hsg.out.trans (by rw [hk0]; exact xh_zero a HA.out), HXL.out⟩
            have g0 : k ≤ 0 := by omega
            have t1 : ((k : Int) == 63) = false := by simp; omega
            have HS := Lib.hid (prT_step a b k (by omega) hbit)
            clear hk0
            go_wp2
            · go_round
              case rel => exact ⟨k + 1, _, _, by omega, by go_num, rfl, rfl, Lib.hid (by rw [HS.out]; exact hT.out.add_carry HX.out ‹_›)⟩
              case measure => simp [intOf]; omega
            · go_round
              case rel => exact ⟨k + 1, _, _, by omega, by go_num, rfl, rfl, Lib.hid (by rw [HS.out]; exact hT.out.add_plain HX.out ‹_›)⟩
              case measure => simp [intOf]; omega
          · have hk1 : 0 < k := by omega
            obtain ⟨xh, hxh⟩ : ∃ x, bits BinOp.or IntKind.u64 (IntKind.u64.wrap (sg * 2 ^ k)) (IntKind.u64.wrap a / 2 ^ (64 - k)) = x := ⟨_, rfl⟩
            have HX : Hid (Two (a * 2 ^ k) xh xl) := Lib.hid ⟨by rw [← hxh, hsg.out]; exact xh_eq a k (by omega) HA.out, HXL.out⟩
            have z1 : IntKind.i64.wrap (64 - (k : Int)) = 64 - (k : Int) := IntWalk.i64_in _ (by omega)
            have z2 : 0 ≤ 64 - (k : Int) := by omega
            have z3 : (64 - (k : Int)).toNat = 64 - k := by omega
            by_cases hk63 : k = 63
            · have t1 : ((k : Int) == 63) = true := by simp; omega
              obtain ⟨nl, hnl⟩ : ∃ x, bits BinOp.xor IntKind.u64 (if IntKind.u64.signed = true then -1 else IntKind.u64.max) xl = x := ⟨_, rfl⟩
              obtain ⟨nh, hnh⟩ : ∃ x, bits BinOp.xor IntKind.u64 (if IntKind.u64.signed = true then -1 else IntKind.u64.max) xh = x := ⟨_, rfl⟩
              have HR := Lib.hid HX.out.range
              have HNL := Lib.hid (hnl.symm.trans (not_u64 xl HR.out.2.1 HR.out.2.2))
              have HNH := Lib.hid (hnh.symm.trans (not_u64 xh HR.out.1.1 HR.out.1.2))
              have HS : Hid (prT a b (k + 1) = prT a b k + -(a * 2 ^ k)) := Lib.hid (by rw [hk63] at hbit ⊢; exact prT_last a b HB.out hbit)
              clear hk63
              cases hz : (IntKind.u64.wrap (nl + 1) == 0) with
              | true =>
                have HN : Hid (Two (-(a * 2 ^ k)) (IntKind.u64.wrap (nh + 1)) (IntKind.u64.wrap (nl + 1))) := Lib.hid (HX.out.neg_zero HNL.out HNH.out (beq_iff_eq.1 hz))
                go_wp2
                · go_round
                  case rel => exact ⟨k + 1, _, _, by omega, by go_num, rfl, rfl, Lib.hid (by rw [HS.out]; exact hT.out.add_carry HN.out ‹_›)⟩
                  case measure => simp [intOf]; omega
                · go_round
                  case rel => exact ⟨k + 1, _, _, by omega, by go_num, rfl, rfl, Lib.hid (by rw [HS.out]; exact hT.out.add_plain HN.out ‹_›)⟩
                  case measure => simp [intOf]; omega
              | false =>
                have HN : Hid (Two (-(a * 2 ^ k)) nh (IntKind.u64.wrap (nl + 1))) := Lib.hid (HX.out.neg_some HNL.out HNH.out (beq_eq_false_iff_ne.1 hz))
                go_wp2
                · go_round
                  case rel => exact ⟨k + 1, _, _, by omega, by go_num, rfl, rfl, Lib.hid (by rw [HS.out]; exact hT.out.add_carry HN.out ‹_›)⟩
                  case measure => simp [intOf]; omega
                · go_round
                  case rel => exact ⟨k + 1, _, _, by omega, by go_num, rfl, rfl, Lib.hid (by rw [HS.out]; exact hT.out.add_plain HN.out ‹_›)⟩
                  case measure => simp [intOf]; omega
            · have t1 : ((k : Int) == 63) = false := by simp; omega
              have HS := Lib.hid (prT_step a b k (by omega) hbit)
              go_wp2
              · go_round
                case rel => exact ⟨k + 1, _, _, by omega, by go_num, rfl, rfl, Lib.hid (by rw [HS.out]; exact hT.out.add_carry HX.out ‹_›)⟩
                case measure => simp [intOf]; omega
              · go_round
                case rel => exact ⟨k + 1, _, _, by omega, by go_num, rfl, rfl, Lib.hid (by rw [HS.out]; exact hT.out.add_plain HX.out ‹_›)⟩
                case measure => simp [intOf]; omega
      · obtain rfl : k = 64 := by omega
        go_wp2
        go_ret2
        obtain ⟨f1, f2⟩ := hT.out.done HA.out HB.out
        exact ⟨by rw [← f1, ← f2]; rfl, rfl⟩

theorem mul_eq (a b : Int) (q : Nat) : shV (pHi a b) (pLo a b) q = mulV a b q := by
  unfold shV mulV
  rw [p_whole]

set_option maxHeartbeats 400000 in
theorem mul_none (a b q : Int) (w : World) (hq : q < 0 ∨ 62 < q) :
    Calls Try.prog 57 #[.int .i64 a, .int .i64 b, .int .i64 q] w fun e w' => e = .returned (.int .i64 0) ∧ Below w.heap.size w w' := by
  go_enter Try.func57, Try.ntmps57
  go_wp2_with fail
  all_goals (go_ret; exact ⟨rfl, Below.refl _ _⟩)

set_option maxHeartbeats 400000 in
theorem mul_any (a b : Int) (q : Nat) (w : World) (ha : -9223372036854775808 ≤ a ∧ a ≤ 9223372036854775807) (hb : -9223372036854775808 ≤ b ∧ b ≤ 9223372036854775807) (hq : q ≤ 62) :
    Calls Try.prog 57 #[.int .i64 a, .int .i64 b, .int .i64 q] w fun e w' => e = .returned (.int .i64 (mulV a b q)) ∧ Below w.heap.size w w' := by
  have HA := Lib.hid ha
  have HB := Lib.hid hb
  have HL := Lib.hid (pLo_range a b)
  have d1 : decide ((q : Int) < 0) = false := decide_eq_false (by omega)
  have d2 : decide (62 < (q : Int)) = false := decide_eq_false (by omega)
  clear ha hb
  go_enter Try.func57, Try.ntmps57
  go_wp2_with fail
  ((with_reducible refine (product_any a b _ HA.out HB.out).mono ?_); rintro e w1 ⟨rfl, hb1⟩)
  go_wp2_with fail
  ((with_reducible refine (shift_any (pHi a b) (pLo a b) q _ (by omega) HL.out.1 HL.out.2).mono ?_); rintro e w2 ⟨rfl, n2, rfl⟩)
  rw [mul_eq]
  go_wp2
  go_ret
  exact ⟨rfl, below_drewN hb1 _⟩

set_option maxHeartbeats 400000 in
theorem refMul_none (a b q : Int) (w : World) (hq : q < 0 ∨ 62 < q) :
    Calls Try.prog 53 #[.int .i64 a, .int .i64 b, .int .i64 q] w fun e w' => e = .returned (.int .i64 0) ∧ w = w' := by
  go_enter Try.func53, Try.ntmps53
  go_wp2_with fail
  all_goals (go_ret; exact ⟨rfl, rfl⟩)

set_option maxHeartbeats 400000 in
theorem refMul_any (a b : Int) (q : Nat) (w : World) (ha : -9223372036854775808 ≤ a ∧ a ≤ 9223372036854775807) (hb : -9223372036854775808 ≤ b ∧ b ≤ 9223372036854775807) (hq : q ≤ 62) :
    Calls Try.prog 53 #[.int .i64 a, .int .i64 b, .int .i64 q] w fun e w' => e = .returned (.int .i64 (mulV a b q)) ∧ w = w' := by
  have HA := Lib.hid ha
  have HB := Lib.hid hb
  have HL := Lib.hid (pLo_range a b)
  have d1 : decide ((q : Int) < 0) = false := decide_eq_false (by omega)
  have d2 : decide (62 < (q : Int)) = false := decide_eq_false (by omega)
  clear ha hb
  go_enter Try.func53, Try.ntmps53
  go_wp2_with fail
  ((with_reducible refine (refProduct_any a b _ HA.out HB.out).mono ?_); rintro e w1 ⟨rfl, rfl⟩)
  go_wp2_with fail
  ((with_reducible refine (refShift_any (pHi a b) (pLo a b) q _ (by omega) HL.out.1 HL.out.2).mono ?_); rintro e w2 ⟨rfl, rfl⟩)
  rw [mul_eq]
  go_wp2
  go_ret
  exact ⟨rfl, rfl⟩

end Go.Proofs.Ytnnphileeeaibaa
