/-
  Contracts of package vec and of its reference: Differ, Same.
-/
import Derived.Test.YthbkmhdoakpjgaaVec4
namespace Go.Proofs.Ythbkmhdoakpjgaa
set_option linter.unusedVariables false
set_option linter.unusedSimpArgs false
open Go.RowKit

def diffFrom : List Int → List Int → Int → Int
  | [], [], _ => -1
  | [], _ :: _, i => i
  | _ :: _, [], i => i
  | x :: a, y :: b, i => if x = y then diffFrom a b (i + 1) else i
def diffL (a b : List Int) : Int := diffFrom a b 0
theorem diff_comm : ∀ (a b : List Int) (i : Int), diffFrom a b i = diffFrom b a i
  | [], [], _ => rfl
  | [], _ :: _, _ => rfl
  | _ :: _, [], _ => rfl
  | x :: a, y :: b, i => by
    simp only [diffFrom]
    by_cases h : x = y
    · rw [if_pos h, if_pos h.symm, diff_comm a b]
    · rw [if_neg h, if_neg (fun e => h e.symm)]
theorem diff_neg : ∀ (a b : List Int) (i : Int), 0 ≤ i → (diffFrom a b i < 0 ↔ a = b)
  | [], [], _, _ => by simp [diffFrom]
  | [], _ :: _, i, h => by simp [diffFrom]; omega
  | _ :: _, [], i, h => by simp [diffFrom]; omega
  | x :: a, y :: b, i, h => by
    simp only [diffFrom]
    by_cases e : x = y
    · rw [if_pos e, diff_neg a b (i + 1) (by omega)]; simp [e]
    · rw [if_neg e]; simp [e]; omega
theorem same_iff (a b : List Int) : decide (diffL a b < 0) = decide (a = b) := by
  rw [Bool.eq_iff_iff]
  simp only [decide_eq_true_eq]
  exact diff_neg a b 0 (by omega)
theorem diff_on {a b : List Int} {k : Nat} {x v : Int} (hv : Hid (v = diffFrom (a.drop k) (b.drop k) k)) (ha : Hid (a[k]? = some x)) (hb : Hid (b[k]? = some x)) : Hid (v = diffFrom (a.drop (k + 1)) (b.drop (k + 1)) ((k + 1 : Nat) : Int)) := by
  obtain ⟨h1, e1⟩ := List.getElem?_eq_some_iff.1 ha.out
  obtain ⟨h2, e2⟩ := List.getElem?_eq_some_iff.1 hb.out
  refine Lib.hid ?_
  rw [hv.out, List.drop_eq_getElem_cons h1, List.drop_eq_getElem_cons h2, e1, e2]
  simp only [diffFrom, if_true]
  rfl
theorem diff_hit {a b : List Int} {k : Nat} {x y v : Int} (hv : Hid (v = diffFrom (a.drop k) (b.drop k) k)) (ha : Hid (a[k]? = some x)) (hb : Hid (b[k]? = some y)) (h : x ≠ y) : (k : Int) = v := by
  obtain ⟨h1, e1⟩ := List.getElem?_eq_some_iff.1 ha.out
  obtain ⟨h2, e2⟩ := List.getElem?_eq_some_iff.1 hb.out
  rw [hv.out, List.drop_eq_getElem_cons h1, List.drop_eq_getElem_cons h2, e1, e2]
  simp only [diffFrom]
  rw [if_neg h]
theorem diff_end {a b : List Int} {k n m : Nat} {v : Int} (hv : Hid (v = diffFrom (a.drop k) (b.drop k) k)) (ha : Hid (a.length = n)) (hb : Hid (b.length = m)) (h1 : n ≤ k) (h2 : m ≤ k) : -1 = v := by
  rw [hv.out, List.drop_eq_nil_of_le (by have := ha.out; omega), List.drop_eq_nil_of_le (by have := hb.out; omega)]
  rfl
theorem diff_short {a b : List Int} {k n m : Nat} {v : Int} (hv : Hid (v = diffFrom (a.drop k) (b.drop k) k)) (ha : Hid (a.length = n)) (hb : Hid (b.length = m)) (h : (n ≤ k ∧ k < m) ∨ (m ≤ k ∧ k < n)) : (k : Int) = v := by
  have e1 := ha.out
  have e2 := hb.out
  rcases h with ⟨h1, h2⟩ | ⟨h1, h2⟩
  · rw [hv.out, List.drop_eq_nil_of_le (by omega), List.drop_eq_getElem_cons (show k < b.length by omega)]
    rfl
  · rw [hv.out, (show b.drop k = [] from List.drop_eq_nil_of_le (by omega)), List.drop_eq_getElem_cons (show k < a.length by omega)]
    rfl

set_option maxHeartbeats 1000000 in
theorem refDiffer_any (A B : Option Addr) (n m c d : Nat) (a b : List Int) (w : World) (ha : a.length = n) (hb : b.length = m) (h : Rd w 1 A n (iv a)) (h' : Rd w 1 B m (iv b)) (hn : n ≤ 10000000) (hm : m ≤ 10000000) :
    Calls Try.prog 38 #[.slice A n c, .slice B m d] w fun e w' => e = .returned (.int .i64 (diffL a b)) ∧ Below w.heap.size w w' := by
  have HA := Lib.hid ha
  have HB := Lib.hid hb
  have HR := Lib.hid h
  have HR' := Lib.hid h'
  clear ha hb h h'
  go_enter Try.func38, Try.ntmps38
  go_wp2_with fail
  go_loopw [5] (fun i wr => ∃ k : Nat, k ≤ n + m ∧ i = .int .i64 k ∧ Below w.heap.size w wr ∧ Hid (diffL a b = diffFrom (a.drop k) (b.drop k) k)) (fun i _ => n + m - (intOf i).toNat)
  case atStart => exact ⟨0, by omega, rfl, Below.refl _ _, Lib.hid rfl⟩
  case round =>
    obtain ⟨k, hk, rfl, hb, he⟩ := hrel
    by_cases h1 : k < n
    · by_cases h2 : k < m
      · obtain ⟨g, o, x, rfl, hbl, hx, c1⟩ := iv_at HA.out (HR.out.below hb) h1
        obtain ⟨g', o', y, rfl, hbl', hy, c2⟩ := iv_at HB.out (HR'.out.below hb) h2
        have HX := Lib.hid hx
        have HY := Lib.hid hy
        clear hx hy
        have i1 : (0 : Int) ≤ (k : Int) := by omega
        have i2 : (k : Int) < (n : Int) := by omega
        have i3 : (k : Int) < (m : Int) := by omega
        have g1 : decide (n ≤ k) = false := decide_eq_false (by omega)
        have g2 : decide (m ≤ k) = false := decide_eq_false (by omega)
        by_cases hxy : x = y
        · subst hxy
          go_wp2_with fail
          go_quiet (fail)
          go_wp2
          go_roundw
          case rel => exact ⟨k + 1, by omega, by go_num, below_drewN hb _, diff_on he HX HY⟩
          case measure => simp [intOf]; omega
        · go_wp2_with fail
          go_quiet (fail)
          go_wp2
          go_ret
          exact ⟨ret_int (diff_hit he HX HY hxy), below_drewN hb _⟩
      · have g1 : decide (n ≤ k) = false := decide_eq_false (by omega)
        have g2 : decide (m ≤ k) = true := decide_eq_true (by omega)
        go_wp2_with fail
        go_quiet (fail)
        go_wp2
        go_ret
        exact ⟨ret_int (diff_short he HA HB (by omega)), below_drewN hb _⟩
    · by_cases h2 : k < m
      · have g1 : decide (n ≤ k) = true := decide_eq_true (by omega)
        go_wp2_with fail
        go_quiet (fail)
        go_wp2
        go_ret
        exact ⟨ret_int (diff_short he HA HB (by omega)), below_drewN hb _⟩
      · go_wp2
        go_ret
        exact ⟨ret_int (diff_end he HA HB (by omega) (by omega)), hb⟩

set_option maxHeartbeats 1000000 in
theorem differ_le (A B : Option Addr) (n m c d : Nat) (a b : List Int) (w : World) (ha : a.length = n) (hb : b.length = m) (h : Rd w 1 A n (iv a)) (h' : Rd w 1 B m (iv b)) (hn : n ≤ 10000000) (hm : m ≤ 10000000) (hnm : n ≤ m) :
    Calls Try.prog 37 #[.slice A n c, .slice B m d] w fun e w' => e = .returned (.int .i64 (diffL a b)) ∧ Below w.heap.size w w' := by
  have HA := Lib.hid ha
  have HB := Lib.hid hb
  have HR := Lib.hid h
  have HR' := Lib.hid h'
  clear ha hb h h'
  go_enter Try.func37, Try.ntmps37
  go_wp2_with fail
  go_loopw [13] (fun i wr => ∃ k : Nat, k ≤ n ∧ i = .int .i64 k ∧ Below w.heap.size w wr ∧ Hid (diffL a b = diffFrom (a.drop k) (b.drop k) k)) (fun i _ => n - (intOf i).toNat)
  case atStart => exact ⟨0, by omega, rfl, Below.refl _ _, Lib.hid rfl⟩
  case round =>
    obtain ⟨k, hk, rfl, hb, he⟩ := hrel
    by_cases h1 : k < n
    · obtain ⟨g, o, x, rfl, hbl, hx, c1⟩ := iv_at HA.out (HR.out.below hb) (show k < n by omega)
      obtain ⟨g', o', y, rfl, hbl', hy, c2⟩ := iv_at HB.out (HR'.out.below hb) (show k < m by omega)
      have HX := Lib.hid hx
      have HY := Lib.hid hy
      clear hx hy
      have i1 : (0 : Int) ≤ (k : Int) := by omega
      have i2 : (k : Int) < (n : Int) := by omega
      have i3 : (k : Int) < (m : Int) := by omega
      by_cases hxy : x = y
      · subst hxy
        go_wp2_with fail
        go_quiet (fail)
        go_wp2
        go_roundw
        case rel => exact ⟨k + 1, by omega, by go_num, below_drewN hb _, diff_on he HX HY⟩
        case measure => simp [intOf]; omega
      · have hne : (x != y) = true := by simp [hxy]
        go_wp2_with fail
        go_quiet (fail)
        go_wp2
        go_ret
        exact ⟨ret_int (diff_hit he HX HY hxy), below_drewN hb _⟩
    · obtain rfl : k = n := by omega
      by_cases hq : k = m
      · have e1 : ((k : Int) == (m : Int)) = true := by simp [hq]
        have HQ := Lib.hid hq
        clear hq
        go_wp2
        go_ret
        exact ⟨ret_int (diff_end he HA HB (by have := HQ.out; omega) (by have := HQ.out; omega)), hb⟩
      · have e1 : ((k : Int) == (m : Int)) = false := by simp; omega
        go_wp2
        go_ret
        exact ⟨ret_int (diff_short he HA HB (by omega)), hb⟩

set_option maxHeartbeats 1000000 in
theorem differ_gt (A B : Option Addr) (n m c d : Nat) (a b : List Int) (w : World) (ha : a.length = n) (hb : b.length = m) (h : Rd w 1 A n (iv a)) (h' : Rd w 1 B m (iv b)) (hn : n ≤ 10000000) (hm : m ≤ 10000000) (hnm : m < n) :
    Calls Try.prog 37 #[.slice A n c, .slice B m d] w fun e w' => e = .returned (.int .i64 (diffL a b)) ∧ Below w.heap.size w w' := by
  have HA := Lib.hid ha
  have HB := Lib.hid hb
  have HR := Lib.hid h
  have HR' := Lib.hid h'
  clear ha hb h h'
  go_enter Try.func37, Try.ntmps37
  go_wp2_with fail
  go_loopw [13] (fun i wr => ∃ k : Nat, k ≤ m ∧ i = .int .i64 k ∧ Below w.heap.size w wr ∧ Hid (diffL a b = diffFrom (a.drop k) (b.drop k) k)) (fun i _ => m - (intOf i).toNat)
  case atStart => exact ⟨0, by omega, rfl, Below.refl _ _, Lib.hid rfl⟩
  case round =>
    obtain ⟨k, hk, rfl, hb, he⟩ := hrel
    by_cases h1 : k < m
    · obtain ⟨g, o, x, rfl, hbl, hx, c1⟩ := iv_at HA.out (HR.out.below hb) (show k < n by omega)
      obtain ⟨g', o', y, rfl, hbl', hy, c2⟩ := iv_at HB.out (HR'.out.below hb) (show k < m by omega)
      have HX := Lib.hid hx
      have HY := Lib.hid hy
      clear hx hy
      have i1 : (0 : Int) ≤ (k : Int) := by omega
      have i2 : (k : Int) < (n : Int) := by omega
      have i3 : (k : Int) < (m : Int) := by omega
      by_cases hxy : x = y
      · subst hxy
        go_wp2_with fail
        go_quiet (fail)
        go_wp2
        go_roundw
        case rel => exact ⟨k + 1, by omega, by go_num, below_drewN hb _, diff_on he HX HY⟩
        case measure => simp [intOf]; omega
      · have hne : (x != y) = true := by simp [hxy]
        go_wp2_with fail
        go_quiet (fail)
        go_wp2
        go_ret
        exact ⟨ret_int (diff_hit he HX HY hxy), below_drewN hb _⟩
    · obtain rfl : k = m := by omega
      by_cases hq : n = k
      · have e1 : ((n : Int) == (k : Int)) = true := by simp [hq]
        have HQ := Lib.hid hq
        clear hq
        go_wp2
        go_ret
        exact ⟨ret_int (diff_end he HA HB (by have := HQ.out; omega) (by have := HQ.out; omega)), hb⟩
      · have e1 : ((n : Int) == (k : Int)) = false := by simp; omega
        go_wp2
        go_ret
        exact ⟨ret_int (diff_short he HA HB (by omega)), hb⟩

theorem differ_any (A B : Option Addr) (n m c d : Nat) (a b : List Int) (w : World) (ha : a.length = n) (hb : b.length = m) (h : Rd w 1 A n (iv a)) (h' : Rd w 1 B m (iv b)) (hn : n ≤ 10000000) (hm : m ≤ 10000000) :
    Calls Try.prog 37 #[.slice A n c, .slice B m d] w fun e w' => e = .returned (.int .i64 (diffL a b)) ∧ Below w.heap.size w w' := by
  by_cases hnm : n ≤ m
  · exact differ_le A B n m c d a b w ha hb h h' hn hm hnm
  · exact differ_gt A B n m c d a b w ha hb h h' hn hm (by omega)

set_option maxHeartbeats 400000 in
theorem refSame_any (A B : Option Addr) (n m c d : Nat) (a b : List Int) (w : World) (ha : a.length = n) (hb : b.length = m) (h : Rd w 1 A n (iv a)) (h' : Rd w 1 B m (iv b)) (hn : n ≤ 10000000) (hm : m ≤ 10000000) :
    Calls Try.prog 27 #[.slice A n c, .slice B m d] w fun e w' => e = .returned (.bool (decide (a = b))) ∧ Below w.heap.size w w' := by
  have HA := Lib.hid ha
  have HB := Lib.hid hb
  have HR := Lib.hid h
  have HR' := Lib.hid h'
  clear ha hb h h'
  go_enter Try.func27, Try.ntmps27
  go_wp2_with fail
  ((with_reducible refine (refDiffer_any A B n m c d a b _ HA.out HB.out HR.out HR'.out (by omega) (by omega)).mono ?_); rintro e w1 ⟨rfl, hb1⟩)
  go_wp2
  go_ret
  exact ⟨ret_bool (same_iff a b), hb1⟩

set_option maxHeartbeats 400000 in
theorem vecSame_any (A B : Option Addr) (n m c d : Nat) (a b : List Int) (w : World) (ha : a.length = n) (hb : b.length = m) (h : Rd w 1 A n (iv a)) (h' : Rd w 1 B m (iv b)) (hn : n ≤ 10000000) (hm : m ≤ 10000000) :
    Calls Try.prog 36 #[.slice A n c, .slice B m d] w fun e w' => e = .returned (.bool (decide (a = b))) ∧ Below w.heap.size w w' := by
  have HA := Lib.hid ha
  have HB := Lib.hid hb
  have HR := Lib.hid h
  have HR' := Lib.hid h'
  clear ha hb h h'
  go_enter Try.func36, Try.ntmps36
  go_wp2_with fail
  ((with_reducible refine (differ_any A B n m c d a b _ HA.out HB.out HR.out HR'.out (by omega) (by omega)).mono ?_); rintro e w1 ⟨rfl, hb1⟩)
  go_wp2
  go_ret
  exact ⟨ret_bool (same_iff a b), hb1⟩

end Go.Proofs.Ythbkmhdoakpjgaa
