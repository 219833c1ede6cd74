/-
  Contracts of package part and of its reference: Size, Count, Even, Blocks, Covers.
-/
import Derived.Test.YtmnmjjackffnjaaPart
namespace Go.Proofs.Ytmnmjjackffnjaa
set_option linter.unusedVariables false
set_option linter.unusedSimpArgs false
open Go.RowKit

set_option maxHeartbeats 400000 in
theorem size_any (x y : Int) (w : World) (hx : -2000000000000 ≤ x) (hx' : x ≤ 2000000000000) (hy : -2000000000000 ≤ y) (hy' : y ≤ 2000000000000) :
    Calls Try.prog 35 #[.agg #[.int .i64 x, .int .i64 y]] w fun e w' => e = .returned (.int .i64 (max (y - x) 0)) ∧ Below w.heap.size w w' := by
  go_enter Try.func35, Try.ntmps35
  go_wp2
  all_goals (go_ret; exact ⟨ret_int (by first | (show (0 : Int) = _; omega) | (show y - x = _; omega)), (Below.refl _ _).alloc (Nat.le_refl _) _⟩)

theorem cnt_zero (a b : Int) (h : a < 1 ∨ b < 1) : (0 : Int) = (cnt a.toNat b.toNat : Nat) := by
  unfold cnt
  rw [if_pos (by omega)]
  rfl

set_option maxHeartbeats 400000 in
theorem count_any (n s : Int) (w : World) (hn : -9223372036854775808 ≤ n) (hn2 : n ≤ 1000000000) (hs : s ≤ 9223372036854775807) :
    Calls Try.prog 42 #[.int .i64 n, .int .i64 s] w fun e w' => e = .returned (.int .i64 (cnt n.toNat s.toNat)) ∧ w = w' := by
  by_cases h1 : n < 1
  · go_enter Try.func42, Try.ntmps42
    go_wp2
    go_ret
    exact ⟨ret_int (cnt_zero _ _ (by omega)), rfl⟩
  · by_cases h2 : s < 1
    · go_enter Try.func42, Try.ntmps42
      go_wp2
      go_ret
      exact ⟨ret_int (cnt_zero _ _ (by omega)), rfl⟩
    · have q1 : 0 ≤ (n - 1) / s := Int.ediv_nonneg (by omega) (by omega)
      have q2 : (n - 1) / s ≤ n - 1 := Int.ediv_le_self _ (by omega)
      go_enter Try.func42, Try.ntmps42
      go_wp2
      go_ret
      refine ⟨ret_int ?_, rfl⟩
      obtain ⟨a, rfl⟩ := Int.eq_ofNat_of_zero_le (show 0 ≤ n by omega)
      obtain ⟨b, rfl⟩ := Int.eq_ofNat_of_zero_le (show 0 ≤ s by omega)
      simp only [cnt, Int.toNat_natCast]
      rw [if_neg (by omega), show ((a : Int) - 1) = ((a - 1 : Nat) : Int) by omega]
      simp

theorem bound_val (i n k m : Nat) (hi : i ≤ 100000000) (hn : n ≤ 1000000000) (hk1 : 1 ≤ k) (hik : i ≤ k) (hm : m ≤ i) : wrap64 (wrap64 ((i : Int) * wrap64 ((n : Int) / (k : Int))) + (m : Int)) = ((i * (n / k) + m : Nat) : Int) := by
  have h1 : n / k ≤ n := Nat.div_le_self _ _
  have h2 : i * (n / k) ≤ n := Nat.le_trans (Nat.mul_le_mul_right _ hik) (Nat.mul_div_le n k)
  have e0 : wrap64 ((n : Int) / (k : Int)) = ((n / k : Nat) : Int) := by
    rw [show ((n : Int) / (k : Int)) = ((n / k : Nat) : Int) by simp]
    generalize n / k = q at *
    exact IntWalk.wrap64_in _ (by omega)
  have e1 : wrap64 ((i : Int) * ((n / k : Nat) : Int)) = ((i * (n / k) : Nat) : Int) := by
    rw [show (i : Int) * ((n / k : Nat) : Int) = ((i * (n / k) : Nat) : Int) by simp]
    generalize i * (n / k) = q at *
    exact IntWalk.wrap64_in _ (by omega)
  rw [e0, e1]
  generalize i * (n / k) = q at *
  rw [IntWalk.wrap64_in _ (by omega)]
  omega

theorem bnd_le (n k i : Nat) (hk : 1 ≤ k) (h : i ≤ k) : bnd n k i ≤ n := by
  unfold bnd
  have h1 : k * (n / k) + n % k = n := Nat.div_add_mod n k
  have h2 : i * (n / k) ≤ k * (n / k) := Nat.mul_le_mul_right _ h
  omega

set_option maxHeartbeats 400000 in
theorem bound_any (i n k bn bk : Nat) (w : World) (hi : i ≤ 100000000) (hn : n ≤ 1000000000) (hk1 : 1 ≤ k) (hk : k ≤ 100000000) (hik : i ≤ k) (c1 : w.cell? ⟨bn, 0, none⟩ = some (.int .i64 n)) (c2 : w.cell? ⟨bk, 0, none⟩ = some (.int .i64 k)) :
    Calls Try.prog 56 #[.int .i64 i, .pointer (some ⟨bn, 0, none⟩), .pointer (some ⟨bk, 0, none⟩)] w fun e w' => e = .returned (.int .i64 (bnd n k i)) ∧ ∃ nq, w' = w.drewN nq := by
  go_enter Try.func56, Try.ntmps56
  go_wp2_with fail
  go_quiet (fail)
  go_wp2
  all_goals go_ret
  · have h' : n % k ≤ i := by
      have : ((n % k : Nat) : Int) = (n : Int) % (k : Int) := by simp
      omega
    refine ⟨ret_int ?_, _, rfl⟩
    show wrap64 (wrap64 ((i : Int) * wrap64 ((n : Int) / (k : Int))) + (n : Int) % (k : Int)) = _
    have e : (n : Int) % (k : Int) = ((n % k : Nat) : Int) := by simp
    rw [e, bound_val i n k (n % k) hi hn hk1 hik h']
    unfold bnd
    rw [Nat.min_eq_right h']
  · have h' : i ≤ n % k := by
      have : ((n % k : Nat) : Int) = (n : Int) % (k : Int) := by simp
      omega
    refine ⟨ret_int ?_, _, rfl⟩
    show wrap64 (wrap64 ((i : Int) * wrap64 ((n : Int) / (k : Int))) + (i : Int)) = _
    rw [bound_val i n k i hi hn hk1 hik (Nat.le_refl _)]
    unfold bnd
    rw [Nat.min_eq_left h']

theorem even_at (n k i : Nat) (h : i < k) : (evenL n k)[i]? = some ((bnd n k i : Int), (bnd n k (i + 1) : Int)) := by
  simp [evenL, h]
theorem blocks_at (n s i : Nat) (h : i < cnt n s) : (blocksL n s)[i]? = some (((i * s : Nat) : Int), ((i * s + min s (n - i * s) : Nat) : Int)) := by
  simp [blocksL, h]

set_option maxHeartbeats 400000 in
theorem even_none (n k : Int) (w : World) (h : n < 0 ∨ k < 1) :
    Calls Try.prog 34 #[.int .i64 n, .int .i64 k] w (OwnRet w 30 2 0 (rv [])) := by
  go_enter Try.func34, Try.ntmps34
  go_wp2
  all_goals (go_ret; exact ⟨none, 0, rfl, World.ownsRow_nil _ _ _ _, ((Below.refl _ _).alloc (Nat.le_refl _) _).alloc (by simp) _⟩)

set_option maxHeartbeats 1000000 in
theorem even_any (n k : Nat) (w : World) (hn : n ≤ 1000000000) (hk1 : 1 ≤ k) (hk : k ≤ 10000000) :
    Calls Try.prog 34 #[.int .i64 n, .int .i64 k] w (OwnRet w 30 2 k (rv (evenL n k))) := by
  have d1 : decide ((n : Int) < 0) = false := decide_eq_false (by omega)
  have d2 : decide ((k : Int) < 1) = false := decide_eq_false (by omega)
  go_enter Try.func34, Try.ntmps34
  go_wp2_with fail
  have hW0 : Below w.heap.size w ((w.alloc (.cells #[.int .i64 n] 3)).alloc (.cells #[.int .i64 k] 3)) := ((Below.refl _ _).alloc (Nat.le_refl _) _).alloc (by simp) _
  go_loopw [6, 16] (fun v c wr => ∃ i : Nat, i ≤ k ∧ c = .int .i64 i ∧ Coll ((w.alloc (.cells #[.int .i64 n] 3)).alloc (.cells #[.int .i64 k] 3)) 30 (evenL n k) i v wr) (fun _ c _ => k - (intOf c).toNat)
  case atStart => exact ⟨0, by omega, rfl, Coll.start _ _ _⟩
  case round =>
    obtain ⟨i, hi, rfl, hcoll⟩ := hrel
    by_cases hlt : i < k
    · have k0 := Kept.of hcoll.2.2
      have b1 : wr.cell? ⟨w.heap.size, 0, none⟩ = some (.int .i64 n) := by rw [k0.1 _ _ (by simp; omega)]; simp
      have b2 : wr.cell? ⟨w.heap.size + 1, 0, none⟩ = some (.int .i64 k) := by rw [k0.1 _ _ (by simp)]; simp
      have HX := Lib.hid (even_at n k i hlt)
      have hsz := k0.2.1
      clear k0
      go_wp2_with fail
      ((with_reducible refine (bound_any i n k _ _ _ (by omega) (by omega) (by omega) (by omega) (by omega) (by exact b1) (by exact b2)).mono ?_); rintro e w1 ⟨rfl, nq, rfl⟩)
      go_wp2_with fail
      rw [show ((i : Int) + 1) = ((i + 1 : Nat) : Int) by omega]
      ((with_reducible refine (bound_any (i + 1) n k _ _ _ (by omega) (by omega) (by omega) (by omega) (by omega) (cell_drewN b1 _) (cell_drewN b2 _)).mono ?_); rintro e w1 ⟨rfl, nq2, rfl⟩)
      go_wp2_with (at_builtin; go_must (refine wpList_push slPart rfl _ _ rfl ((w.alloc (.cells #[.int .i64 n] 3)).alloc (.cells #[.int .i64 k] 3)).heap.size _ i (rv ((evenL n k).take i)) rfl (by exact hcoll.2.1) #[.int .i64 (bnd n k i), .int .i64 (bnd n k (i + 1))] _ rfl (by simp) rfl (two_cells _ _) (by unfold maxLen; omega) (by omega) hsz ?_); intro A' cap' w1 hown1 hb1)
      go_roundw
      case rel => exact ⟨i + 1, by omega, by go_num, hcoll.next HX hown1 ((below_drewN (Below.refl _ _) _).trans hb1)⟩
      case measure => simp [intOf]; omega
    · go_wp2
      go_ret
      exact (hcoll.done (Lib.hid (evenL_length n k)) hi hlt).lift hW0

end Go.Proofs.Ytmnmjjackffnjaa
