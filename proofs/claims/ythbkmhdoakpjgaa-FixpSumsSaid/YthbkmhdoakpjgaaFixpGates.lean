/-
  Relu, Gate, Sub; FixpGates: the walk.
-/
import Derived.Test.YthbkmhdoakpjgaaFixpSum
import Derived.Test.YthbkmhdoakpjgaaOpen
namespace Go.Proofs.Ythbkmhdoakpjgaa
set_option linter.unusedVariables false
set_option linter.unusedSimpArgs false
open Go.RowKit

def gateV (a g : Int) : Int := if 0 < a then g else 0
set_option maxHeartbeats 400000 in
theorem relu_any (a : Int) (w : World) : Calls Try.prog 39 #[.int .i64 a] w fun e w' => e = .returned (.int .i64 (gateV a a)) ∧ w = w' := by
  unfold gateV
  go_enter Try.func39, Try.ntmps39
  by_cases h : 0 < a
  · rw [if_pos h]
    go_wp2
    all_goals (go_ret; exact ⟨ret_int (by omega), rfl⟩)
  · rw [if_neg h]
    go_wp2
    all_goals (go_ret; exact ⟨ret_int (by omega), rfl⟩)
set_option maxHeartbeats 400000 in
theorem gate_any (a g : Int) (w : World) : Calls Try.prog 41 #[.int .i64 a, .int .i64 g] w fun e w' => e = .returned (.int .i64 (gateV a g)) ∧ w = w' := by
  unfold gateV
  by_cases h : 0 < a
  · rw [if_pos h]
    go_enter Try.func41, Try.ntmps41
    go_wp2
    go_ret
    exact ⟨rfl, rfl⟩
  · rw [if_neg h]
    go_enter Try.func41, Try.ntmps41
    go_wp2
    go_ret
    exact ⟨rfl, rfl⟩
set_option maxHeartbeats 400000 in
theorem refGate_any (a g : Int) (w : World) : Calls Try.prog 40 #[.int .i64 a, .int .i64 g] w fun e w' => e = .returned (.int .i64 (gateV a g)) ∧ w = w' := by
  unfold gateV
  by_cases h : 0 < a
  · rw [if_pos h]
    go_enter Try.func40, Try.ntmps40
    go_wp2
    go_ret
    exact ⟨rfl, rfl⟩
  · rw [if_neg h]
    go_enter Try.func40, Try.ntmps40
    go_wp2
    go_ret
    exact ⟨rfl, rfl⟩
set_option maxHeartbeats 400000 in
theorem sub_any (a g : Int) (w : World) : Calls Try.prog 42 #[.int .i64 a, .int .i64 g] w fun e w' => e = .returned (.int .i64 (wrap64 (a - g))) ∧ w = w' := by
  go_enter Try.func42, Try.ntmps42
  go_wp2
  go_ret
  exact ⟨ret_int (by unfold wrap64; omega), rfl⟩

theorem rd_lit1 {w : World} {g : Nat} {t : TypeId} {size n : Nat} {cs : Array Value} (h : w.heap[g]? = some (.cells cs t (0, 0))) (hl : cs.size = n * size) : Rd w size (some ⟨g, 0, none⟩) n cs.toList := by
  refine ⟨by simpa using hl, fun _ => ⟨g, 0, rfl, ?_, fun j u hu => ?_⟩⟩
  · rcases Nat.lt_or_ge g w.heap.size with h1 | h1
    · exact h1
    · rw [Array.getElem?_eq_none h1] at h; cases h
  · rw [cell_of_row _ _ _ _ _ _ h, ← hu]; simp
theorem rd_new1 (w : World) (cs : Array Value) (t : TypeId) (size n : Nat) (hl : cs.size = n * size) : Rd (w.alloc (.cells cs t)) size (some ⟨w.heap.size, 0, none⟩) n cs.toList :=
  rd_lit1 (t := t) (by show (w.heap.push _)[w.heap.size]? = _; simp) hl

theorem sum_back (a g : Int) (h : -9223372036854775808 ≤ a ∧ a ≤ 9223372036854775807) : sumW [wrap64 (a - g), g] = a := by
  simp only [sumW, List.foldl_cons, List.foldl_nil]
  unfold wrap64
  omega

set_option maxHeartbeats 1000000 in
theorem fixpGates_any (a g : Int) (w : World) (ha : -9223372036854775808 ≤ a ∧ a ≤ 9223372036854775807) (hg : -9223372036854775808 ≤ g ∧ g ≤ 9223372036854775807) :
    Calls Try.prog 12 #[.int .i64 a, .int .i64 g] w fun e w' => e = .returned (.bool true) ∧ Below w.heap.size w w' := by
  have HB := Lib.hid (sum_back a g ha)
  go_enter Try.func12, Try.ntmps12
  go_wp2_with fail
  ((with_reducible refine (alive01_any _).mono ?_); rintro e w1 ⟨rfl, hb1⟩)
  go_wp2_with fail
  ((with_reducible refine (relu_any a _).mono ?_); rintro e w2 ⟨rfl, rfl⟩)
  go_wp2_with fail
  ((with_reducible refine (refGate_any a a _).mono ?_); rintro e w2 ⟨rfl, rfl⟩)
  go_wp2_with fail
  ((with_reducible refine (gate_any a g _).mono ?_); rintro e w2 ⟨rfl, rfl⟩)
  go_wp2_with fail
  ((with_reducible refine (refGate_any a g _).mono ?_); rintro e w2 ⟨rfl, rfl⟩)
  go_wp2_with fail
  ((with_reducible refine (sub_any a g _).mono ?_); rintro e w2 ⟨rfl, rfl⟩)
  go_wp2_with fail
  ((with_reducible refine (sub_any a g _).mono ?_); rintro e w2 ⟨rfl, rfl⟩)
  go_wp2_with fail
  ((with_reducible refine (fixpSum_any (some ⟨w1.heap.size, 0, none⟩) 2 2 [wrap64 (a - g), g] _ rfl (rd_new1 w1 #[.int .i64 (wrap64 (a - g)), .int .i64 g] 2 1 2 rfl) (by omega)).mono ?_); rintro e w2 ⟨rfl, hb2⟩)
  rw [HB.out]
  go_wp2
  go_ret
  exact ⟨rfl, (hb1.alloc hb1.size _).trans (hb2.mono (by have := hb1.size; simp; omega))⟩

end Go.Proofs.Ythbkmhdoakpjgaa
