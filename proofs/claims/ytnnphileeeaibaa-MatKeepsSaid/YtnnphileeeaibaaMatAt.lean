/-
  At of both sides at any grid and place; given, Few; grids that come in.
-/
import Derived.Test.YtnnphileeeaibaaMatTurn
import Derived.Test.YtnnphileeeaibaaNumsOpen
namespace Go.Proofs.Ytnnphileeeaibaa
set_option linter.unusedVariables false
set_option linter.unusedSimpArgs false
set_option maxRecDepth 100000
open Go.RowKit

/-- The element of a grid, 0 where there is none. -/
def atV (r q : Int) (n : Nat) (l : List Int) (i j : Int) : Int := if RightP r q n ∧ (0 ≤ i ∧ i < r) ∧ (0 ≤ j ∧ j < q) then l.getD (i * q + j).toNat 0 else 0

set_option maxHeartbeats 1000000 in
/-- An element of a grid that is right. -/
theorem at_good (R C n i j : Nat) (A : Option Addr) (c : Nat) (l : List Int) (w : World) (hR : 1 ≤ R ∧ R ≤ 1048576) (hC : 1 ≤ C ∧ C ≤ 1048576) (hn : R * C = n) (hn' : n ≤ 1000000000) (hl : l.length = n) (hi : i < R) (hj : j < C) (h : Rd w 1 A n (iv l)) (hcap : n ≤ c) (hcm : c ≤ 9223372036854775807) :
    Calls Try.prog 43 #[.agg #[.int .i64 R, .int .i64 C, .slice A n c], .int .i64 i, .int .i64 j] w fun e w' => e = .returned (.int .i64 (l.getD (i * C + j) 0)) ∧ Below w.heap.size w w' := by
  have hrt : decide (RightP R C n) = true := decide_eq_true ⟨⟨by omega, by omega, by omega, by omega⟩, by rw [← hn]; exact Int.natCast_mul R C⟩
  have C1 := fun A c W => right_any R C A n c W hn'
  rw [hrt] at C1
  have HC := Lib.hid C1
  obtain ⟨k, hk⟩ : ∃ k, i * C + j = k := ⟨_, rfl⟩
  have hkn : k < n := by rw [← hk, ← hn]; exact row_lt i j R C hi hj
  obtain ⟨g, o, x, rfl, hb, hx, hc⟩ := iv_at hl h hkn
  rw [hk, List.getD_eq_getElem?_getD, hx]
  obtain ⟨p, hp⟩ : ∃ p, o + i * C = p := ⟨_, rfl⟩
  have HROW := Lib.hid (fun W => hp ▸ row_any R C i n c g o W hi hC.1 hn hcap hcm)
  have hc2 : w.cell? ⟨g, p + j, none⟩ = some (.int .i64 x) := by rw [← hp, Nat.add_assoc, hk]; exact hc
  have HB0 := Lib.hid (fun w1 (hb1 : Below (w.heap.size + 1) (w.alloc (.cells #[.int .i64 R, .int .i64 C, .slice (some ⟨g, o, none⟩) n c] 51)) w1) => Blk.below (Blk.new w 51 #[.int .i64 R, .int .i64 C, .slice (some ⟨g, o, none⟩) n c]) hb1 (by simp))
  have d1 : decide ((i : Int) < 0) = false := decide_eq_false (by omega)
  have d2 : decide ((R : Int) ≤ (i : Int)) = false := decide_eq_false (by omega)
  have d3 : decide ((j : Int) < 0) = false := decide_eq_false (by omega)
  have d4 : decide ((C : Int) ≤ (j : Int)) = false := decide_eq_false (by omega)
  have i3 : (0 : Int) ≤ (j : Int) := by omega
  have i4 : (j : Int) < (C : Int) := by omega
  have HX := Lib.hid hc2
  clear hrt C1 hk h hx hp hl hn hc hc2
  go_enter Try.func43, Try.ntmps43
  go_wp2_with fail
  ((with_reducible refine (HC.out _ _ _).mono ?_); rintro e w1 ⟨rfl, hb1⟩)
  have hb1' : Below (w.heap.size + 1) (w.alloc (.cells #[.int .i64 R, .int .i64 C, .slice (some ⟨g, o, none⟩) n c] 51)) w1 := by simpa using hb1
  have hb2 := HB0.out w1 hb1'
  have y0 : w1.cell? ⟨w.heap.size, 0, none⟩ = some (.int .i64 R) := hb2.cell 0
  have y1 : w1.cell? ⟨w.heap.size, 1, none⟩ = some (.int .i64 C) := hb2.cell 1
  have y2 : w1.cell? ⟨w.heap.size, 2, none⟩ = some (.slice (some ⟨g, o, none⟩) n c) := hb2.cell 2
  have ly := hb2.lt
  have hk1 : Below w.heap.size w w1 := ((Below.refl _ _).alloc (Nat.le_refl _) _).trans (hb1'.mono (by omega))
  clear hb1 hb1' hb2 HB0
  go_wp2_with fail
  ((with_reducible refine (HROW.out _).mono ?_); rintro e w2 ⟨rfl, hb2⟩)
  have hk2 := ((Kept.of hk1).call hb2).2.2
  have y3 : w2.cell? ⟨g, p + j, none⟩ = some (.int .i64 x) := (hk2.cell (p := ⟨g, p + j, none⟩) hb).trans HX.out
  have hgw : g < w2.heap.size := Nat.lt_of_lt_of_le hb hk2.size
  clear y0 y1 y2 ly hb2
  go_wp2_with fail
  go_ret
  exact ⟨rfl, hk2⟩

set_option maxHeartbeats 2000000 in
theorem at_any (r q : Int) (n : Nat) (A : Option Addr) (c : Nat) (l : List Int) (i j : Int) (w : World) (hn' : n ≤ 1000000000) (hl : l.length = n) (h : Rd w 1 A n (iv l)) (hcap : n ≤ c) (hcm : c ≤ 9223372036854775807) :
    Calls Try.prog 43 #[.agg #[.int .i64 r, .int .i64 q, .slice A n c], .int .i64 i, .int .i64 j] w fun e w' => e = .returned (.int .i64 (atV r q n l i j)) ∧ Below w.heap.size w w' := by
  have C1 := fun W => right_any r q A n c W hn'
  by_cases hr : RightP r q n
  · have hr2 := hr
    obtain ⟨⟨a1, a2, a3, a4⟩, a5⟩ := hr2
    rw [show decide (RightP r q n) = true from decide_eq_true hr] at C1
    have HC := Lib.hid C1
    have HB0 := Lib.hid (fun w1 (hb1 : Below (w.heap.size + 1) (w.alloc (.cells #[.int .i64 r, .int .i64 q, .slice A n c] 51)) w1) => Blk.below (Blk.new w 51 #[.int .i64 r, .int .i64 q, .slice A n c]) hb1 (by simp))
    by_cases ok : (0 ≤ i ∧ i < r) ∧ (0 ≤ j ∧ j < q)
    · obtain ⟨R, rfl⟩ := Int.eq_ofNat_of_zero_le (show 0 ≤ r by omega)
      obtain ⟨C, rfl⟩ := Int.eq_ofNat_of_zero_le (show 0 ≤ q by omega)
      obtain ⟨i, rfl⟩ := Int.eq_ofNat_of_zero_le ok.1.1
      obtain ⟨j, rfl⟩ := Int.eq_ofNat_of_zero_le ok.2.1
      have e : atV (R : Int) (C : Int) n l (i : Int) (j : Int) = l.getD (i * C + j) 0 := by
        rw [atV, if_pos ⟨hr, ok⟩]
        congr 1
      rw [e]
      exact at_good R C n i j A c l w (by omega) (by omega) (Int.ofNat.inj (by rw [Int.ofNat_eq_natCast, Int.ofNat_eq_natCast, Int.natCast_mul]; exact a5.symm)) hn' hl (by omega) (by omega) h hcap hcm
    · rw [show atV r q n l i j = 0 by rw [atV, if_neg (fun k => ok k.2)]]
      have a6 : n ≤ 1000000000 := hn'
      clear hr a5 C1 h hl
      by_cases b1 : i < 0
      · have d1 : decide (i < 0) = true := decide_eq_true b1
        go_enter Try.func43, Try.ntmps43
        go_wp2_with fail
        ((with_reducible refine (HC.out _).mono ?_); rintro e w1 ⟨rfl, hb1⟩)
        have hb1' : Below (w.heap.size + 1) (w.alloc (.cells #[.int .i64 r, .int .i64 q, .slice A n c] 51)) w1 := by simpa using hb1
        have hb2 := HB0.out w1 hb1'
        have y0 : w1.cell? ⟨w.heap.size, 0, none⟩ = some (.int .i64 r) := hb2.cell 0
        have y1 : w1.cell? ⟨w.heap.size, 1, none⟩ = some (.int .i64 q) := hb2.cell 1
        have ly := hb2.lt
        have hk1 : Below w.heap.size w w1 := ((Below.refl _ _).alloc (Nat.le_refl _) _).trans (hb1'.mono (by omega))
        clear hb1 hb1' hb2
        go_wp2
        go_ret
        exact ⟨rfl, hk1⟩
      · have d1 : decide (i < 0) = false := decide_eq_false b1
        by_cases b2 : r ≤ i
        · have d2 : decide (r ≤ i) = true := decide_eq_true b2
          go_enter Try.func43, Try.ntmps43
          go_wp2_with fail
          ((with_reducible refine (HC.out _).mono ?_); rintro e w1 ⟨rfl, hb1⟩)
          have hb1' : Below (w.heap.size + 1) (w.alloc (.cells #[.int .i64 r, .int .i64 q, .slice A n c] 51)) w1 := by simpa using hb1
          have hb2 := HB0.out w1 hb1'
          have y0 : w1.cell? ⟨w.heap.size, 0, none⟩ = some (.int .i64 r) := hb2.cell 0
          have y1 : w1.cell? ⟨w.heap.size, 1, none⟩ = some (.int .i64 q) := hb2.cell 1
          have ly := hb2.lt
          have hk1 : Below w.heap.size w w1 := ((Below.refl _ _).alloc (Nat.le_refl _) _).trans (hb1'.mono (by omega))
          clear hb1 hb1' hb2
          go_wp2
          go_ret
          exact ⟨rfl, hk1⟩
        · have d2 : decide (r ≤ i) = false := decide_eq_false b2
          by_cases b3 : j < 0
          · have d3 : decide (j < 0) = true := decide_eq_true b3
            go_enter Try.func43, Try.ntmps43
            go_wp2_with fail
            ((with_reducible refine (HC.out _).mono ?_); rintro e w1 ⟨rfl, hb1⟩)
            have hb1' : Below (w.heap.size + 1) (w.alloc (.cells #[.int .i64 r, .int .i64 q, .slice A n c] 51)) w1 := by simpa using hb1
            have hb2 := HB0.out w1 hb1'
            have y0 : w1.cell? ⟨w.heap.size, 0, none⟩ = some (.int .i64 r) := hb2.cell 0
            have y1 : w1.cell? ⟨w.heap.size, 1, none⟩ = some (.int .i64 q) := hb2.cell 1
            have ly := hb2.lt
            have hk1 : Below w.heap.size w w1 := ((Below.refl _ _).alloc (Nat.le_refl _) _).trans (hb1'.mono (by omega))
            clear hb1 hb1' hb2
            go_wp2
            go_ret
            exact ⟨rfl, hk1⟩
          · have d3 : decide (j < 0) = false := decide_eq_false b3
            have b4 : q ≤ j := by omega
            have d4 : decide (q ≤ j) = true := decide_eq_true b4
            clear ok
            go_enter Try.func43, Try.ntmps43
            go_wp2_with fail
            ((with_reducible refine (HC.out _).mono ?_); rintro e w1 ⟨rfl, hb1⟩)
            have hb1' : Below (w.heap.size + 1) (w.alloc (.cells #[.int .i64 r, .int .i64 q, .slice A n c] 51)) w1 := by simpa using hb1
            have hb2 := HB0.out w1 hb1'
            have y0 : w1.cell? ⟨w.heap.size, 0, none⟩ = some (.int .i64 r) := hb2.cell 0
            have y1 : w1.cell? ⟨w.heap.size, 1, none⟩ = some (.int .i64 q) := hb2.cell 1
            have ly := hb2.lt
            have hk1 : Below w.heap.size w w1 := ((Below.refl _ _).alloc (Nat.le_refl _) _).trans (hb1'.mono (by omega))
            clear hb1 hb1' hb2
            go_wp2
            go_ret
            exact ⟨rfl, hk1⟩
  · rw [show decide (RightP r q n) = false from decide_eq_false hr] at C1
    have HC := Lib.hid C1
    rw [show atV r q n l i j = 0 by rw [atV, if_neg (fun k => hr k.1)]]
    clear hr C1 h hl
    go_enter Try.func43, Try.ntmps43
    go_wp2_with fail
    ((with_reducible refine (HC.out _).mono ?_); rintro e w1 ⟨rfl, hb1⟩)
    have hk1 : Below w.heap.size w w1 := by
      have hb1' : Below (w.heap.size + 1) (w.alloc (.cells #[.int .i64 r, .int .i64 q, .slice A n c] 51)) w1 := by simpa using hb1
      exact ((Below.refl _ _).alloc (Nat.le_refl _) _).trans (hb1'.mono (by omega))
    clear hb1
    go_wp2
    go_ret
    exact ⟨rfl, hk1⟩

set_option maxHeartbeats 2000000 in
theorem refAt_any (r q : Int) (n : Nat) (A : Option Addr) (c : Nat) (l : List Int) (i j : Int) (w : World) (hn' : n ≤ 1000000000) (hl : l.length = n) (h : Rd w 1 A n (iv l)) (hcap : n ≤ c) (hcm : c ≤ 9223372036854775807) :
    Calls Try.prog 44 #[.agg #[.int .i64 r, .int .i64 q, .slice A n c], .int .i64 i, .int .i64 j] w fun e w' => e = .returned (.int .i64 (atV r q n l i j)) ∧ Below w.heap.size w w' := by
  have C1 := fun W => refRight_any r q A n c W hn'
  by_cases hr : RightP r q n
  · have hr2 := hr
    obtain ⟨⟨a1, a2, a3, a4⟩, a5⟩ := hr2
    rw [show decide (RightP r q n) = true from decide_eq_true hr] at C1
    have HC := Lib.hid C1
    have HB0 := Lib.hid (fun w1 (hb1 : Below (w.heap.size + 1) (w.alloc (.cells #[.int .i64 r, .int .i64 q, .slice A n c] 55)) w1) => Blk.below (Blk.new w 55 #[.int .i64 r, .int .i64 q, .slice A n c]) hb1 (by simp))
    by_cases ok : (0 ≤ i ∧ i < r) ∧ (0 ≤ j ∧ j < q)
    · obtain ⟨R, rfl⟩ := Int.eq_ofNat_of_zero_le (show 0 ≤ r by omega)
      obtain ⟨C, rfl⟩ := Int.eq_ofNat_of_zero_le (show 0 ≤ q by omega)
      obtain ⟨i, rfl⟩ := Int.eq_ofNat_of_zero_le ok.1.1
      obtain ⟨j, rfl⟩ := Int.eq_ofNat_of_zero_le ok.2.1
      have e : atV (R : Int) (C : Int) n l (i : Int) (j : Int) = l.getD (i * C + j) 0 := by
        rw [atV, if_pos ⟨hr, ok⟩]
        congr 1
      rw [e]
      exact refAt_good R C n i j A c l w (by omega) (by omega) (Int.ofNat.inj (by rw [Int.ofNat_eq_natCast, Int.ofNat_eq_natCast, Int.natCast_mul]; exact a5.symm)) hn' hl (by omega) (by omega) h
    · rw [show atV r q n l i j = 0 by rw [atV, if_neg (fun k => ok k.2)]]
      have a6 : n ≤ 1000000000 := hn'
      clear hr a5 C1 h hl
      by_cases b1 : i < 0
      · have d1 : decide (i < 0) = true := decide_eq_true b1
        go_enter Try.func44, Try.ntmps44
        go_wp2_with fail
        ((with_reducible refine (HC.out _).mono ?_); rintro e w1 ⟨rfl, hb1⟩)
        have hb1' : Below (w.heap.size + 1) (w.alloc (.cells #[.int .i64 r, .int .i64 q, .slice A n c] 55)) w1 := by simpa using hb1
        have hb2 := HB0.out w1 hb1'
        have y0 : w1.cell? ⟨w.heap.size, 0, none⟩ = some (.int .i64 r) := hb2.cell 0
        have y1 : w1.cell? ⟨w.heap.size, 1, none⟩ = some (.int .i64 q) := hb2.cell 1
        have ly := hb2.lt
        have hk1 : Below w.heap.size w w1 := ((Below.refl _ _).alloc (Nat.le_refl _) _).trans (hb1'.mono (by omega))
        clear hb1 hb1' hb2
        go_wp2
        go_ret
        exact ⟨rfl, hk1⟩
      · have d1 : decide (i < 0) = false := decide_eq_false b1
        by_cases b2 : r ≤ i
        · have d2 : decide (r ≤ i) = true := decide_eq_true b2
          go_enter Try.func44, Try.ntmps44
          go_wp2_with fail
          ((with_reducible refine (HC.out _).mono ?_); rintro e w1 ⟨rfl, hb1⟩)
          have hb1' : Below (w.heap.size + 1) (w.alloc (.cells #[.int .i64 r, .int .i64 q, .slice A n c] 55)) w1 := by simpa using hb1
          have hb2 := HB0.out w1 hb1'
          have y0 : w1.cell? ⟨w.heap.size, 0, none⟩ = some (.int .i64 r) := hb2.cell 0
          have y1 : w1.cell? ⟨w.heap.size, 1, none⟩ = some (.int .i64 q) := hb2.cell 1
          have ly := hb2.lt
          have hk1 : Below w.heap.size w w1 := ((Below.refl _ _).alloc (Nat.le_refl _) _).trans (hb1'.mono (by omega))
          clear hb1 hb1' hb2
          go_wp2
          go_ret
          exact ⟨rfl, hk1⟩
        · have d2 : decide (r ≤ i) = false := decide_eq_false b2
          by_cases b3 : j < 0
          · have d3 : decide (j < 0) = true := decide_eq_true b3
            go_enter Try.func44, Try.ntmps44
            go_wp2_with fail
            ((with_reducible refine (HC.out _).mono ?_); rintro e w1 ⟨rfl, hb1⟩)
            have hb1' : Below (w.heap.size + 1) (w.alloc (.cells #[.int .i64 r, .int .i64 q, .slice A n c] 55)) w1 := by simpa using hb1
            have hb2 := HB0.out w1 hb1'
            have y0 : w1.cell? ⟨w.heap.size, 0, none⟩ = some (.int .i64 r) := hb2.cell 0
            have y1 : w1.cell? ⟨w.heap.size, 1, none⟩ = some (.int .i64 q) := hb2.cell 1
            have ly := hb2.lt
            have hk1 : Below w.heap.size w w1 := ((Below.refl _ _).alloc (Nat.le_refl _) _).trans (hb1'.mono (by omega))
            clear hb1 hb1' hb2
            go_wp2
            go_ret
            exact ⟨rfl, hk1⟩
          · have d3 : decide (j < 0) = false := decide_eq_false b3
            have b4 : q ≤ j := by omega
            have d4 : decide (q ≤ j) = true := decide_eq_true b4
            clear ok
            go_enter Try.func44, Try.ntmps44
            go_wp2_with fail
            ((with_reducible refine (HC.out _).mono ?_); rintro e w1 ⟨rfl, hb1⟩)
            have hb1' : Below (w.heap.size + 1) (w.alloc (.cells #[.int .i64 r, .int .i64 q, .slice A n c] 55)) w1 := by simpa using hb1
            have hb2 := HB0.out w1 hb1'
            have y0 : w1.cell? ⟨w.heap.size, 0, none⟩ = some (.int .i64 r) := hb2.cell 0
            have y1 : w1.cell? ⟨w.heap.size, 1, none⟩ = some (.int .i64 q) := hb2.cell 1
            have ly := hb2.lt
            have hk1 : Below w.heap.size w w1 := ((Below.refl _ _).alloc (Nat.le_refl _) _).trans (hb1'.mono (by omega))
            clear hb1 hb1' hb2
            go_wp2
            go_ret
            exact ⟨rfl, hk1⟩
  · rw [show decide (RightP r q n) = false from decide_eq_false hr] at C1
    have HC := Lib.hid C1
    rw [show atV r q n l i j = 0 by rw [atV, if_neg (fun k => hr k.1)]]
    clear hr C1 h hl
    go_enter Try.func44, Try.ntmps44
    go_wp2_with fail
    ((with_reducible refine (HC.out _).mono ?_); rintro e w1 ⟨rfl, hb1⟩)
    have hk1 : Below w.heap.size w w1 := by
      have hb1' : Below (w.heap.size + 1) (w.alloc (.cells #[.int .i64 r, .int .i64 q, .slice A n c] 55)) w1 := by simpa using hb1
      exact ((Below.refl _ _).alloc (Nat.le_refl _) _).trans (hb1'.mono (by omega))
    clear hb1
    go_wp2
    go_ret
    exact ⟨rfl, hk1⟩

theorem given07_any (r q : Int) (A : Option Addr) (n c : Nat) (w : World) :
    Calls Try.prog 39 #[.agg #[.int .i64 r, .int .i64 q, .slice A n c]] w fun e w' => e = .returned (.agg #[.int .i64 r, .int .i64 q, .slice A n c]) ∧ Below w.heap.size w w' := by
  go_enter Try.func39, Try.ntmps39
  go_wp2
  exact bodyPost_ret (v := .agg #[.int .i64 r, .int .i64 q, .slice A n c]) (by simp [results, Try.results39, go_sem]) rfl ⟨rfl, ((Below.refl _ _).alloc (Nat.le_refl _) _).alloc (by simp) _⟩

theorem few07_any (r q : Int) (A : Option Addr) (n c : Nat) (w : World) (hn : n ≤ 9223372036854775807) :
    Calls Try.prog 38 #[.agg #[.int .i64 r, .int .i64 q, .slice A n c]] w fun e w' => e = .returned (.bool (decide (n ≤ 600))) ∧ Below w.heap.size w w' := by
  by_cases h : n ≤ 600
  · rw [decide_eq_true h]
    go_enter Try.func38, Try.ntmps38
    go_wp2
    go_ret
    exact ⟨by first | rfl | exact ret_bool (by simp; omega), (Below.refl _ _).alloc (Nat.le_refl _) _⟩
  · rw [decide_eq_false h]
    go_enter Try.func38, Try.ntmps38
    go_wp2
    go_ret
    exact ⟨by first | rfl | exact ret_bool (by simp; omega), (Below.refl _ _).alloc (Nat.le_refl _) _⟩

end Go.Proofs.Ytnnphileeeaibaa
