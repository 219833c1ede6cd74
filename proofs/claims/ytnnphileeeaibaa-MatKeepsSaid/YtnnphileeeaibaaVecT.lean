/-
  Contracts and lemmas that stand in other texts too, laid for this seat.
-/
import Derived.Test.YtnnphileeeaibaaVecS
namespace Go.Proofs.Ytnnphileeeaibaa
set_option linter.unusedVariables false
set_option linter.unusedSimpArgs false
open Go.RowKit

set_option maxHeartbeats 1000000 in
theorem differ_le (A B : Option Addr) (n m c d : Nat) (a b : List Int) (w : World) (ha : a.length = n) (hb : b.length = m) (h : Rd w 1 A n (iv a)) (h' : Rd w 1 B m (iv b)) (hn : n ≤ 10000000) (hm : m ≤ 10000000) (hnm : n ≤ m) :
    Calls Try.prog 75 #[.slice A n c, .slice B m d] w fun e w' => e = .returned (.int .i64 (diffL a b)) ∧ Below w.heap.size w w' := by
  have HA := Lib.hid ha
  have HB := Lib.hid hb
  have HR := Lib.hid h
  have HR' := Lib.hid h'
  clear ha hb h h'
  go_enter Try.func75, Try.ntmps75
  go_wp2_with fail
  go_loopw [13] (fun i wr => ∃ k : Nat, k ≤ n ∧ i = .int .i64 k ∧ Below w.heap.size w wr ∧ Hid (diffL a b = diffFrom (a.drop k) (b.drop k) k)) (fun i _ => n - (intOf i).toNat)
  case atStart => exact ⟨0, by omega, rfl, Below.refl _ _, Lib.hid rfl⟩
  case round =>
    obtain ⟨k, hk, rfl, hb, he⟩ := hrel
    by_cases h1 : k < n
    · obtain ⟨g, o, x, rfl, hbl, hx, c1⟩ := iv_at HA.out (HR.out.below hb) (show k < n by omega)
      obtain ⟨g', o', y, rfl, hbl', hy, c2⟩ := iv_at HB.out (HR'.out.below hb) (show k < m by omega)
      have HX := Lib.hid hx
      have HY := Lib.hid hy
      clear hx hy
      have i1 : (0 : Int) ≤ (k : Int) := by omega
      have i2 : (k : Int) < (n : Int) := by omega
      have i3 : (k : Int) < (m : Int) := by omega
      by_cases hxy : x = y
      · subst hxy
        go_wp2_with fail
        go_quiet (fail)
        go_wp2
        go_roundw
        case rel => exact ⟨k + 1, by omega, by go_num, below_drewN hb _, diff_on he HX HY⟩
        case measure => simp [intOf]; omega
      · have hne : (x != y) = true := by simp [hxy]
        go_wp2_with fail
        go_quiet (fail)
        go_wp2
        go_ret
        exact ⟨ret_int (diff_hit he HX HY hxy), below_drewN hb _⟩
    · obtain rfl : k = n := by omega
      by_cases hq : k = m
      · have e1 : ((k : Int) == (m : Int)) = true := by simp [hq]
        have HQ := Lib.hid hq
        clear hq
        go_wp2
        go_ret
        exact ⟨ret_int (diff_end he HA HB (by have := HQ.out; omega) (by have := HQ.out; omega)), hb⟩
      · have e1 : ((k : Int) == (m : Int)) = false := by simp; omega
        go_wp2
        go_ret
        exact ⟨ret_int (diff_short he HA HB (by omega)), hb⟩

set_option maxHeartbeats 1000000 in
theorem differ_gt (A B : Option Addr) (n m c d : Nat) (a b : List Int) (w : World) (ha : a.length = n) (hb : b.length = m) (h : Rd w 1 A n (iv a)) (h' : Rd w 1 B m (iv b)) (hn : n ≤ 10000000) (hm : m ≤ 10000000) (hnm : m < n) :
    Calls Try.prog 75 #[.slice A n c, .slice B m d] w fun e w' => e = .returned (.int .i64 (diffL a b)) ∧ Below w.heap.size w w' := by
  have HA := Lib.hid ha
  have HB := Lib.hid hb
  have HR := Lib.hid h
  have HR' := Lib.hid h'
  clear ha hb h h'
  go_enter Try.func75, Try.ntmps75
  go_wp2_with fail
  go_loopw [13] (fun i wr => ∃ k : Nat, k ≤ m ∧ i = .int .i64 k ∧ Below w.heap.size w wr ∧ Hid (diffL a b = diffFrom (a.drop k) (b.drop k) k)) (fun i _ => m - (intOf i).toNat)
  case atStart => exact ⟨0, by omega, rfl, Below.refl _ _, Lib.hid rfl⟩
  case round =>
    obtain ⟨k, hk, rfl, hb, he⟩ := hrel
    by_cases h1 : k < m
    · obtain ⟨g, o, x, rfl, hbl, hx, c1⟩ := iv_at HA.out (HR.out.below hb) (show k < n by omega)
      obtain ⟨g', o', y, rfl, hbl', hy, c2⟩ := iv_at HB.out (HR'.out.below hb) (show k < m by omega)
      have HX := Lib.hid hx
      have HY := Lib.hid hy
      clear hx hy
      have i1 : (0 : Int) ≤ (k : Int) := by omega
      have i2 : (k : Int) < (n : Int) := by omega
      have i3 : (k : Int) < (m : Int) := by omega
      by_cases hxy : x = y
      · subst hxy
        go_wp2_with fail
        go_quiet (fail)
        go_wp2
        go_roundw
        case rel => exact ⟨k + 1, by omega, by go_num, below_drewN hb _, diff_on he HX HY⟩
        case measure => simp [intOf]; omega
      · have hne : (x != y) = true := by simp [hxy]
        go_wp2_with fail
        go_quiet (fail)
        go_wp2
        go_ret
        exact ⟨ret_int (diff_hit he HX HY hxy), below_drewN hb _⟩
    · obtain rfl : k = m := by omega
      by_cases hq : n = k
      · have e1 : ((n : Int) == (k : Int)) = true := by simp [hq]
        have HQ := Lib.hid hq
        clear hq
        go_wp2
        go_ret
        exact ⟨ret_int (diff_end he HA HB (by have := HQ.out; omega) (by have := HQ.out; omega)), hb⟩
      · have e1 : ((n : Int) == (k : Int)) = false := by simp; omega
        go_wp2
        go_ret
        exact ⟨ret_int (diff_short he HA HB (by omega)), hb⟩

theorem differ_any (A B : Option Addr) (n m c d : Nat) (a b : List Int) (w : World) (ha : a.length = n) (hb : b.length = m) (h : Rd w 1 A n (iv a)) (h' : Rd w 1 B m (iv b)) (hn : n ≤ 10000000) (hm : m ≤ 10000000) :
    Calls Try.prog 75 #[.slice A n c, .slice B m d] w fun e w' => e = .returned (.int .i64 (diffL a b)) ∧ Below w.heap.size w w' := by
  by_cases hnm : n ≤ m
  · exact differ_le A B n m c d a b w ha hb h h' hn hm hnm
  · exact differ_gt A B n m c d a b w ha hb h h' hn hm (by omega)

set_option maxHeartbeats 400000 in
theorem vecSame_any (A B : Option Addr) (n m c d : Nat) (a b : List Int) (w : World) (ha : a.length = n) (hb : b.length = m) (h : Rd w 1 A n (iv a)) (h' : Rd w 1 B m (iv b)) (hn : n ≤ 10000000) (hm : m ≤ 10000000) :
    Calls Try.prog 59 #[.slice A n c, .slice B m d] w fun e w' => e = .returned (.bool (decide (a = b))) ∧ Below w.heap.size w w' := by
  have HA := Lib.hid ha
  have HB := Lib.hid hb
  have HR := Lib.hid h
  have HR' := Lib.hid h'
  clear ha hb h h'
  go_enter Try.func59, Try.ntmps59
  go_wp2_with fail
  ((with_reducible refine (differ_any A B n m c d a b _ HA.out HB.out HR.out HR'.out (by omega) (by omega)).mono ?_); rintro e w1 ⟨rfl, hb1⟩)
  go_wp2
  go_ret
  exact ⟨ret_bool (same_iff a b), hb1⟩

end Go.Proofs.Ytnnphileeeaibaa
