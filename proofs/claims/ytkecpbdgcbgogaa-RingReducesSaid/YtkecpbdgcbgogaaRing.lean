/-
  Contracts of package ring: around, scatter, gather, Segment, Rounds, Owner.
-/
import Derived.Test.YtkecpbdgcbgogaaProg
import Derived.Test.YtkecpbdgcbgogaaBase
namespace Go.Proofs.Ytkecpbdgcbgogaa
set_option linter.unusedVariables false
set_option linter.unusedSimpArgs false
open Go.RowKit

/-- A job, as a value. -/
abbrev jobV (s b lo hi m c : Int) : Value := .agg #[.int .i64 s, .int .i64 b, .int .i64 lo, .int .i64 hi, .int .i64 m, .int .i64 c]

theorem tmod_cases (n m : Int) (hm : 1 ≤ m) : (0 ≤ n.tmod m ∧ n.tmod m = n % m) ∨ (n.tmod m < 0 ∧ n.tmod m + m = n % m ∧ 0 < n % m) := by
  have e := Int.tmod_eq_emod (a := n) (b := m)
  have h1 := Int.emod_nonneg n (b := m) (by omega)
  have h2 := Int.emod_lt_of_pos n (b := m) (by omega)
  have h3 : (m.natAbs : Int) = m := by omega
  by_cases hc : 0 ≤ n ∨ m ∣ n
  · rw [if_pos hc] at e; left; omega
  · rw [if_neg hc] at e
    have h4 : n % m ≠ 0 := fun h => hc (Or.inr (Int.dvd_of_emod_eq_zero h))
    right; omega
theorem tmod_bounds (n m : Int) (hm : 1 ≤ m) : -m < n.tmod m ∧ n.tmod m < m := by
  have h1 := Int.emod_nonneg n (b := m) (by omega)
  have h2 := Int.emod_lt_of_pos n (b := m) (by omega)
  rcases tmod_cases n m hm with h | h <;> omega

set_option maxHeartbeats 400000 in
theorem around_any (s b lo hi m c n : Int) (w : World) (hm1 : 1 ≤ m) (hm2 : m ≤ 1000000) (hn1 : -1000000000 ≤ n) (hn2 : n ≤ 1000000000) :
    Calls Try.prog 55 #[jobV s b lo hi m c, .int .i64 n] w fun e w' => e = .returned (.int .i64 (n % m)) ∧ Below w.heap.size w w' := by
  have hb := tmod_bounds n m hm1
  have hmz : ¬ m = 0 := by omega
  go_enter Try.func55, Try.ntmps55
  go_wp2
  all_goals go_ret
  all_goals refine ⟨ret_int (by rcases tmod_cases n m hm1 with h | h <;> first | (show n.tmod m + m = _; omega) | (show n.tmod m = _; omega)), (Below.refl _ _).alloc (Nat.le_refl _) _⟩

set_option maxHeartbeats 400000 in
theorem scatter_any (s b lo hi m c x y : Int) (w : World) (hm1 : 1 ≤ m) (hm2 : m ≤ 1000000) (hx1 : -1000000 ≤ x) (hx2 : x ≤ 1000000) (hy1 : -1000000 ≤ y) (hy2 : y ≤ 1000000) :
    Calls Try.prog 69 #[jobV s b lo hi m c, .int .i64 x, .int .i64 y] w fun e w' => e = .returned (.int .i64 ((x - y) % m)) ∧ Below w.heap.size w w' := by
  go_enter Try.func69, Try.ntmps69
  go_wp2_with (go_at_call 55; refine (around_any s b lo hi m c _ _ (by omega) (by omega) (by omega) (by omega)).mono ?_; rintro e w' ⟨rfl, hb⟩)
  go_ret
  exact ⟨rfl, ((Below.refl _ _).alloc (Nat.le_refl _) _).trans (hb.mono (by simp))⟩

set_option maxHeartbeats 400000 in
theorem gather_any (s b lo hi m c x y : Int) (w : World) (hm1 : 1 ≤ m) (hm2 : m ≤ 1000000) (hx1 : -1000000 ≤ x) (hx2 : x ≤ 1000000) (hy1 : -1000000 ≤ y) (hy2 : y ≤ 1000000) :
    Calls Try.prog 70 #[jobV s b lo hi m c, .int .i64 x, .int .i64 y] w fun e w' => e = .returned (.int .i64 ((x + 1 - y) % m)) ∧ Below w.heap.size w w' := by
  go_enter Try.func70, Try.ntmps70
  go_wp2_with (go_at_call 55; refine (around_any s b lo hi m c _ _ (by omega) (by omega) (by omega) (by omega)).mono ?_; rintro e w' ⟨rfl, hb⟩)
  go_ret
  exact ⟨rfl, ((Below.refl _ _).alloc (Nat.le_refl _) _).trans (hb.mono (by simp))⟩

set_option maxHeartbeats 400000 in
theorem segment_out (s b lo hi m c x p y : Int) (z : Bool) (w : World) (hm1 : 1 ≤ m) (hm2 : m ≤ 1000000) (h : x < 0 ∨ m ≤ x ∨ p < 0 ∨ 1 < p ∨ y < 0 ∨ m - 1 ≤ y) :
    Calls Try.prog 45 #[jobV s b lo hi m c, .int .i64 x, .int .i64 p, .int .i64 y, .bool z] w fun e w' => e = .returned (.tuple #[.int .i64 0, .bool false]) ∧ Below w.heap.size w w' := by
  go_enter Try.func45, Try.ntmps45
  go_wp2_with fail
  all_goals (go_ret2; exact ⟨rfl, (Below.refl _ _).alloc (Nat.le_refl _) _⟩)

theorem send_mod0 (x y m : Int) : (x - y) % m = (x - y + 0) % m := by rw [Int.add_zero]
theorem send_mod1 (x y m : Int) : (x + 1 - y) % m = (x - y + 1) % m := by congr 1; omega
theorem recv_mod0 (x y m : Int) : ((x - 1) % m - y) % m = (x - y + 0 - 1) % m := by
  rw [Int.emod_sub_emod]
  congr 1
  omega
theorem recv_mod1 (x y m : Int) : ((x - 1) % m + 1 - y) % m = (x - y + 1 - 1) % m := by
  rw [show (x - 1) % m + 1 - y = (x - 1) % m - (y - 1) by omega, Int.emod_sub_emod]
  congr 1
  omega
theorem recv_mod0' (x y m : Int) : (x - 1 - y) % m = (x - y + 0 - 1) % m := by congr 1; omega

set_option maxHeartbeats 400000 in
theorem segment_send (s b lo hi m c x p y : Int) (w : World) (hm1 : 1 ≤ m) (hm2 : m ≤ 1000000) (hx1 : 0 ≤ x) (hx2 : x < m) (hp : p = 0 ∨ p = 1) (hy1 : 0 ≤ y) (hy2 : y < m - 1) :
    Calls Try.prog 45 #[jobV s b lo hi m c, .int .i64 x, .int .i64 p, .int .i64 y, .bool true] w fun e w' => e = .returned (.tuple #[.int .i64 ((x - y + p) % m), .bool true]) ∧ Below w.heap.size w w' := by
  have i0 : ∀ w, (Instr.index 120 (.agg #[.func (.func 69) #[] #[], .func (.func 70) #[] #[]]) (.int .i64 0)).run Try.prog w = .ok (.func (.func 69) #[] #[]) w := fun _ => by kernel_rfl
  have i1 : ∀ w, (Instr.index 120 (.agg #[.func (.func 69) #[] #[], .func (.func 70) #[] #[]]) (.int .i64 1)).run Try.prog w = .ok (.func (.func 70) #[] #[]) w := fun _ => by kernel_rfl
  rcases hp with rfl | rfl
  all_goals
    go_enter Try.func45, Try.ntmps45
    go_wp2_with (first | (go_at_call 69; refine (scatter_any s b lo hi m c _ _ _ (by omega) (by omega) (by omega) (by omega) (by omega) (by omega)).mono ?_; rintro e w' ⟨rfl, hb⟩) | (go_at_call 70; refine (gather_any s b lo hi m c _ _ _ (by omega) (by omega) (by omega) (by omega) (by omega) (by omega)).mono ?_; rintro e w' ⟨rfl, hb⟩))
    go_ret2
    refine ⟨ret_pair (by first | exact congrArg (Value.int .i64) (send_mod0 x y m) | exact congrArg (Value.int .i64) (send_mod1 x y m)), ((Below.refl _ _).alloc (Nat.le_refl _) _).trans (hb.mono (by simp))⟩

set_option maxHeartbeats 1000000 in
theorem segment_recv (s b lo hi m c x p y : Int) (w : World) (hm1 : 1 ≤ m) (hm2 : m ≤ 1000000) (hx1 : 0 ≤ x) (hx2 : x < m) (hp : p = 0 ∨ p = 1) (hy1 : 0 ≤ y) (hy2 : y < m - 1) :
    Calls Try.prog 45 #[jobV s b lo hi m c, .int .i64 x, .int .i64 p, .int .i64 y, .bool false] w fun e w' => e = .returned (.tuple #[.int .i64 ((x - y + p - 1) % m), .bool true]) ∧ Below w.heap.size w w' := by
  have i0 : ∀ w, (Instr.index 120 (.agg #[.func (.func 69) #[] #[], .func (.func 70) #[] #[]]) (.int .i64 0)).run Try.prog w = .ok (.func (.func 69) #[] #[]) w := fun _ => by kernel_rfl
  have i1 : ∀ w, (Instr.index 120 (.agg #[.func (.func 69) #[] #[], .func (.func 70) #[] #[]]) (.int .i64 1)).run Try.prog w = .ok (.func (.func 70) #[] #[]) w := fun _ => by kernel_rfl
  have q1 := Int.emod_nonneg (x - 1) (b := m) (by omega)
  have q2 := Int.emod_lt_of_pos (x - 1) (b := m) (by omega)
  have q3 : IntKind.i64.wrap (x - 1) = x - 1 := IntWalk.i64_in _ (by omega)
  rcases hp with rfl | rfl
  all_goals
    go_enter Try.func45, Try.ntmps45
    go_wp2_with fail
    go_region_held3 (fun w' => Kept (w.alloc (.cells #[.int .i64 s, .int .i64 b, .int .i64 lo, .int .i64 hi, .int .i64 m, .int .i64 c] 35)) w') (first | exact Kept.start _ | exact Kept.call (by assumption) hb | exact Kept.drew (by assumption))
      (first | (go_at_call 55; refine (around_any s b lo hi m c _ _ (by omega) (by omega) (by omega) (by omega)).mono ?_; rintro e w1 ⟨rfl, hb⟩) | (go_at_call 69; refine (scatter_any s b lo hi m c _ _ _ (by omega) (by omega) (by omega) (by omega) (by omega) (by omega)).mono ?_; rintro e w1 ⟨rfl, hb⟩) | (go_at_call 70; refine (gather_any s b lo hi m c _ _ _ (by omega) (by omega) (by omega) (by omega) (by omega) (by omega)).mono ?_; rintro e w1 ⟨rfl, hb⟩))
    go_wp2
    go_ret2
    go_split_ands
    refine ⟨ret_pair (by first | exact congrArg (Value.int .i64) (recv_mod0 x y m) | exact congrArg (Value.int .i64) (recv_mod0' x y m) | exact congrArg (Value.int .i64) (recv_mod1 x y m)), ?_⟩
    refine ((Below.refl _ _).alloc (Nat.le_refl _) _).trans (Below.mono (by assumption) (by simp))

end Go.Proofs.Ytkecpbdgcbgogaa
