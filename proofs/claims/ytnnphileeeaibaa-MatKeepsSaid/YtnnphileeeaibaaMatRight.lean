/-
  Contracts of mat: sides, Right, row.
-/
import Derived.Test.YtnnphileeeaibaaMatPlain
namespace Go.Proofs.Ytnnphileeeaibaa
set_option linter.unusedVariables false
set_option linter.unusedSimpArgs false
set_option maxRecDepth 100000
open Go.RowKit

/-- Rows and columns that a grid may have. -/
def SideP (r q : Int) : Prop := 1 ≤ r ∧ r ≤ 1048576 ∧ 1 ≤ q ∧ q ≤ 1048576
instance (r q : Int) : Decidable (SideP r q) := inferInstanceAs (Decidable (_ ∧ _))
/-- A grid that is right. -/
def RightP (r q : Int) (n : Nat) : Prop := SideP r q ∧ (n : Int) = r * q
instance (r q : Int) (n : Nat) : Decidable (RightP r q n) := inferInstanceAs (Decidable (_ ∧ _))
theorem wrap_ok (x : Int) (h1 : -9223372036854775808 ≤ x) (h2 : x ≤ 9223372036854775807) : IntKind.i64.wrap x = x := by rw [IntKind.wrap_i64]; omega
theorem side_wrap {r q : Int} (h : SideP r q) : wrap64 (r * q) = r * q := by
  obtain ⟨h1, h2, h3, h4⟩ := h
  have a : 0 ≤ r * q := Int.mul_nonneg (by omega) (by omega)
  have b : r * q ≤ 1048576 * 1048576 := Int.mul_le_mul h2 h4 (by omega) (by omega)
  exact wrap64_id _ (by omega) (by omega)

set_option maxHeartbeats 1000000 in
theorem sides_any (r q : Int) (w : World) :
    Calls Try.prog 60 #[.int .i64 r, .int .i64 q] w fun e w' => e = .returned (.bool (decide (SideP r q))) ∧ w = w' := by
  by_cases h1 : 1 ≤ r
  · by_cases h2 : r ≤ 1048576
    · by_cases h3 : 1 ≤ q
      · by_cases h4 : q ≤ 1048576
        · have d1 : decide (r < 1) = false := decide_eq_false (by omega)
          have d2 : decide (1048576 < r) = false := decide_eq_false (by omega)
          have d3 : decide (q < 1) = false := decide_eq_false (by omega)
          have d4 : decide (1048576 < q) = false := decide_eq_false (by omega)
          rw [show decide (SideP r q) = true from decide_eq_true ⟨h1, h2, h3, h4⟩]
          go_enter Try.func60, Try.ntmps60
          go_wp2
          go_ret
          exact ⟨rfl, rfl⟩
        · have d1 : decide (r < 1) = false := decide_eq_false (by omega)
          have d2 : decide (1048576 < r) = false := decide_eq_false (by omega)
          have d3 : decide (q < 1) = false := decide_eq_false (by omega)
          have d4 : decide (1048576 < q) = true := decide_eq_true (by omega)
          rw [show decide (SideP r q) = false from decide_eq_false (fun h => h4 h.2.2.2)]
          go_enter Try.func60, Try.ntmps60
          go_wp2
          go_ret
          exact ⟨rfl, rfl⟩
      · have d1 : decide (r < 1) = false := decide_eq_false (by omega)
        have d2 : decide (1048576 < r) = false := decide_eq_false (by omega)
        have d3 : decide (q < 1) = true := decide_eq_true (by omega)
        rw [show decide (SideP r q) = false from decide_eq_false (fun h => h3 h.2.2.1)]
        go_enter Try.func60, Try.ntmps60
        go_wp2
        go_ret
        exact ⟨rfl, rfl⟩
    · have d1 : decide (r < 1) = false := decide_eq_false (by omega)
      have d2 : decide (1048576 < r) = true := decide_eq_true (by omega)
      rw [show decide (SideP r q) = false from decide_eq_false (fun h => h2 h.2.1)]
      go_enter Try.func60, Try.ntmps60
      go_wp2
      go_ret
      exact ⟨rfl, rfl⟩
  · have d1 : decide (r < 1) = true := decide_eq_true (by omega)
    rw [show decide (SideP r q) = false from decide_eq_false (fun h => h1 h.1)]
    go_enter Try.func60, Try.ntmps60
    go_wp2
    go_ret
    exact ⟨rfl, rfl⟩

set_option maxHeartbeats 1000000 in
theorem right_any (r q : Int) (A : Option Addr) (n c : Nat) (w : World) (hn : n ≤ 1000000000) :
    Calls Try.prog 42 #[.agg #[.int .i64 r, .int .i64 q, .slice A n c]] w fun e w' => e = .returned (.bool (decide (RightP r q n))) ∧ Below w.heap.size w w' := by
  obtain ⟨b, hb⟩ : ∃ b, decide (SideP r q) = b := ⟨_, rfl⟩
  have C := fun W => sides_any r q W
  rw [hb] at C
  have HC := Lib.hid C
  have HB := Lib.hid hb
  clear C hb
  cases b
  · rw [show decide (RightP r q n) = false from decide_eq_false (fun h => (of_decide_eq_false HB.out) h.1)]
    clear HB
    go_enter Try.func42, Try.ntmps42
    go_wp2_with fail
    ((with_reducible refine (HC.out _).mono ?_); rintro e w1 ⟨rfl, rfl⟩)
    go_wp2
    go_ret
    exact ⟨rfl, (Below.refl _ _).alloc (Nat.le_refl _) _⟩
  · have hs : SideP r q := of_decide_eq_true HB.out
    have hw := side_wrap hs
    rw [show decide (RightP r q n) = decide ((n : Int) = r * q) from by
      by_cases h : (n : Int) = r * q
      · rw [decide_eq_true h, decide_eq_true (show RightP r q n from ⟨hs, h⟩)]
      · rw [decide_eq_false h, decide_eq_false (show ¬ RightP r q n from fun k => h k.2)]]
    obtain ⟨m, hm⟩ : ∃ m, r * q = m := ⟨_, rfl⟩
    have hw' : wrap64 (r * q) = m := hw.trans hm
    rw [hm]
    clear HB hs hm hw
    go_enter Try.func42, Try.ntmps42
    go_wp2_with fail
    ((with_reducible refine (HC.out _).mono ?_); rintro e w1 ⟨rfl, rfl⟩)
    go_wp2
    go_ret
    exact ⟨ret_bool (by simp [hw', BEq.beq]), (Below.refl _ _).alloc (Nat.le_refl _) _⟩

set_option maxHeartbeats 1000000 in
/-- A row. -/
theorem row_any (R C k n cap g o : Nat) (w : World) (hk : k < R) (hC : 1 ≤ C) (hn : R * C = n) (hcap : n ≤ cap) (hcm : cap ≤ 9223372036854775807) :
    Calls Try.prog 61 #[.agg #[.int .i64 R, .int .i64 C, .slice (some ⟨g, o, none⟩) n cap], .int .i64 k] w fun e w' => e = .returned (.slice (some ⟨g, o + k * C, none⟩) C C) ∧ Below w.heap.size w w' := by
  obtain ⟨p, hp⟩ : ∃ p, k * C = p := ⟨_, rfl⟩
  have hpn : p + C ≤ n := by
    rw [← hp, ← hn]
    calc k * C + C = (k + 1) * C := by rw [Nat.add_mul, Nat.one_mul]
      _ ≤ R * C := Nat.mul_le_mul_right _ hk
  have hkp : k ≤ p := by rw [← hp]; exact Nat.le_mul_of_pos_right _ hC
  have e1 : wrap64 ((k : Int) * (C : Int)) = (p : Int) := by rw [← Int.natCast_mul, hp]; exact wrap64_id _ (by omega) (by omega)
  have e2 : wrap64 (((k : Int) + 1) * (C : Int)) = (p : Int) + (C : Int) := by
    rw [Int.add_mul, Int.one_mul, ← Int.natCast_mul, hp]; exact wrap64_id _ (by omega) (by omega)
  rw [hp]
  clear hp hk hn
  go_enter Try.func61, Try.ntmps61
  go_wp2_with fail
  go_quiet (fail)
  go_wp2
  go_ret
  rw [show p + C - p = C by omega]
  exact ⟨rfl, below_drewN ((Below.refl _ _).alloc (Nat.le_refl _) _) _⟩

end Go.Proofs.Ytnnphileeeaibaa
