/-
  PartCovers: Covers returns the result of the reference, and Size the numbers of indices: the walk.
-/
import Derived.Test.YtmnmjjackffnjaaPart4
namespace Go.Proofs.Ytmnmjjackffnjaa
set_option linter.unusedVariables false
set_option linter.unusedSimpArgs false
open Go.RowKit

theorem size_pos (x y : Int) (w : World) (hx : -2000000000000 ≤ x) (hx' : x ≤ 2000000000000) (hy : -2000000000000 ≤ y) (hy' : y ≤ 2000000000000) (h : x < y) :
    Calls Try.prog 35 #[.agg #[.int .i64 x, .int .i64 y]] w fun e w' => e = .returned (.int .i64 (y - x)) ∧ Below w.heap.size w w' := by
  have h1 := size_any x y w hx hx' hy hy'
  rwa [show max (y - x) 0 = y - x by omega] at h1
theorem size_zero (x y : Int) (w : World) (hx : -2000000000000 ≤ x) (hx' : x ≤ 2000000000000) (hy : -2000000000000 ≤ y) (hy' : y ≤ 2000000000000) (h : ¬ x < y) :
    Calls Try.prog 35 #[.agg #[.int .i64 x, .int .i64 y]] w fun e w' => e = .returned (.int .i64 0) ∧ Below w.heap.size w w' := by
  have h1 := size_any x y w hx hx' hy hy'
  rwa [show max (y - x) 0 = 0 by omega] at h1

set_option maxHeartbeats 2000000 in
theorem partCovers_any (i : Int) (A : Option Addr) (n cap : Nat) (l : List (Int × Int)) (w : World) (hm : n ≤ 9223372036854775807) (hl : l.length = n) (h : Rd w 2 A n (rv l)) :
    Calls Try.prog 9 #[.int .i64 i, .slice A n cap] w fun e w' => e = .returned (.bool true) ∧ Below w.heap.size w w' := by
  have HL := Lib.hid hl
  have HR := Lib.hid h
  clear hl h
  by_cases hn : 300 < n
  · go_enter Try.func9, Try.ntmps9
    go_wp2_with fail
    ((with_reducible refine (alive04_any _).mono ?_); rintro e w1 ⟨rfl, hb1⟩)
    go_wp2
    go_ret
    exact ⟨rfl, hb1⟩
  · have d0 : decide ((300 : Int) < (n : Int)) = false := decide_eq_false (by omega)
    go_enter Try.func9, Try.ntmps9
    go_wp2_with fail
    go_loopw [14] (fun c wr => ∃ k : Nat, k ≤ n ∧ c = .int .i64 k ∧ Below w.heap.size w wr) (fun c _ => n - (intOf c).toNat)
    case atStart => exact ⟨0, by omega, rfl, Below.refl _ _⟩
    case round =>
      obtain ⟨k, hk, rfl, hb⟩ := hrel
      by_cases hlt : k < n
      · obtain ⟨b, o, x, y, rfl, hbl, hx, c1, c2⟩ := rd_at HL.out (HR.out.below hb) hlt
        clear hx
        by_cases ho : 1099511627776 < max x y ∨ min x y < -1099511627776
        · go_wp2_with fail
          all_goals
            ((with_reducible refine (alive04_any _).mono ?_); rintro e w1 ⟨rfl, hb1⟩)
            go_wp2
            go_ret
            exact ⟨rfl, (hb.alloc hb.size _).trans (hb1.mono (by have := hb.size; simp; omega))⟩
        · by_cases hxy : x < y
          · go_wp2_with fail
            all_goals
              ((with_reducible refine (size_pos x y _ (by omega) (by omega) (by omega) (by omega) (by omega)).mono ?_); rintro e w1 ⟨rfl, hb1⟩)
              have hb2 := (hb.alloc hb.size _).trans (hb1.mono (by have := hb.size; simp; omega))
              clear hb1
              go_wp2
              go_roundw
              case rel => exact ⟨k + 1, by omega, by go_num, hb2⟩
              case measure => simp [intOf]; omega
          · go_wp2_with fail
            all_goals
              ((with_reducible refine (size_zero x y _ (by omega) (by omega) (by omega) (by omega) (by omega)).mono ?_); rintro e w1 ⟨rfl, hb1⟩)
              have hb2 := (hb.alloc hb.size _).trans (hb1.mono (by have := hb.size; simp; omega))
              clear hb1
              go_wp2
              go_roundw
              case rel => exact ⟨k + 1, by omega, by go_num, hb2⟩
              case measure => simp [intOf]; omega
      · go_wp2_with fail
        ((with_reducible refine (alive04_any _).mono ?_); rintro e w1 ⟨rfl, hb1⟩)
        go_wp2_with fail
        have hb1' := hb.trans (hb1.mono hb.size)
        ((with_reducible refine (given04_any A n cap l _ HL.out (HR.out.below hb1') (by omega)).mono ?_); rintro e w2 ⟨A', cap', rfl, hown, hb2⟩)
        go_wp2_with fail
        ((with_reducible refine (covers_any i A' n cap' l _ HL.out (Rd.of_own hown) (by omega)).mono ?_); rintro e w3 ⟨rfl, hb3⟩)
        have k3 := ((Kept.of hb1').call hb2).call hb3
        clear hb1 hb2 hb3 hown hb1'
        go_wp2_with fail
        ((with_reducible refine (refCovers_any i A n cap l _ HL.out (HR.out.kept k3) (by omega)).mono ?_); rintro e w4 ⟨rfl, hb4⟩)
        go_wp2
        go_ret
        exact ⟨by simp, (k3.call hb4).2.2⟩

end Go.Proofs.Ytmnmjjackffnjaa
