/-
  PartEvens and PartBlocks: Even and Blocks return the ranges of the reference: plain laws and the walks.
-/
import Derived.Test.YtmnmjjackffnjaaPart4
namespace Go.Proofs.Ytmnmjjackffnjaa
set_option linter.unusedVariables false
set_option linter.unusedSimpArgs false
open Go.RowKit

theorem covers_drop (n : Int) (l : List (Int × Int)) (f : Nat → Int) (h : ∀ i x, l[i]? = some x → x = (f i, f (i + 1)) ∧ f i ≤ f (i + 1)) (he : f l.length = n) : ∀ d k, k + d = l.length → coversFrom n (l.drop k) (f k) = true := by
  intro d
  induction d with
  | zero =>
    intro k hk
    rw [List.drop_eq_nil_of_le (by omega)]
    simp [coversFrom, ← he, show k = l.length by omega]
  | succ d ih =>
    intro k hk
    have hlt : k < l.length := by omega
    obtain ⟨e, hle⟩ := h k _ (List.getElem?_eq_getElem hlt)
    rw [covers_step n l k (f k) (f (k + 1)) (f k) (by rw [List.getElem?_eq_getElem hlt, e]), if_neg (by omega)]
    exact ih (k + 1) (by omega)

theorem covers_even (n k : Nat) (hk : 1 ≤ k) : coversL n (evenL n k) = true := by
  have h := covers_drop n (evenL n k) (fun i => (bnd n k i : Int)) (fun i x hx => by
    have hi : i < k := by have := (List.getElem?_eq_some_iff.1 hx).1; rw [evenL_length] at this; exact this
    rw [even_at n k i hi] at hx
    injection hx with hx
    exact ⟨hx.symm, by have := bnd_mono n k i (i + 1) (by omega); omega⟩) (by rw [evenL_length, bnd_k n k hk]) k 0 (by rw [evenL_length]; omega)
  simpa [coversL, bnd_zero] using h

theorem covers_blocks (a b : Nat) (ha : 1 ≤ a) (hb : 1 ≤ b) : coversL a (blocksL a b) = true := by
  have h := covers_drop a (blocksL a b) (fun i => ((min (i * b) a : Nat) : Int)) (fun i x hx => by
    have hi : i < cnt a b := by have := (List.getElem?_eq_some_iff.1 hx).1; rw [blocksL_length] at this; exact this
    have hin := (lt_cnt a b i ha hb).1 hi
    rw [blocks_at a b i hi] at hx
    injection hx with hx
    have e1 : (i + 1) * b = i * b + b := by rw [Nat.add_mul]; omega
    rw [← hx, e1]
    generalize i * b = q at *
    refine ⟨?_, by omega⟩
    rw [Nat.min_eq_left (show q ≤ a by omega)]
    congr 2
    omega) (by
      rw [blocksL_length, Nat.min_eq_right ?_]
      have := (lt_cnt a b (cnt a b) ha hb).2
      rcases Nat.lt_or_ge (cnt a b * b) a with h | h
      · exact absurd (this h) (by omega)
      · exact h) (cnt a b) 0 (by rw [blocksL_length]; omega)
  simpa [coversL] using h

set_option maxHeartbeats 1000000 in
theorem partEvens_big (n k : Int) (w : World) (h : 3000 < n ∨ 3000 < k) :
    Calls Try.prog 8 #[.int .i64 n, .int .i64 k] w fun e w' => e = .returned (.bool true) ∧ Below w.heap.size w w' := by
  go_enter Try.func8, Try.ntmps8
  go_wp2_with fail
  all_goals
    ((with_reducible refine (alive04_any _).mono ?_); rintro e w1 ⟨rfl, hb1⟩)
    go_wp2
    go_ret
    exact ⟨rfl, hb1⟩

set_option maxHeartbeats 1000000 in
theorem partEvens_none (n k : Int) (w : World) (hn : n ≤ 3000) (hk : k ≤ 3000) (h : n < 0 ∨ k < 1) :
    Calls Try.prog 8 #[.int .i64 n, .int .i64 k] w fun e w' => e = .returned (.bool true) ∧ Below w.heap.size w w' := by
  go_enter Try.func8, Try.ntmps8
  go_wp2_with fail
  ((with_reducible refine (even_none n k _ h).mono ?_); rintro e w1 ⟨A, cap, rfl, hown, hb1⟩)
  go_wp2_with fail
  ((with_reducible refine (alive04_any _).mono ?_); rintro e w2 ⟨rfl, hb2⟩)
  have k2 := (Kept.of hb1).call hb2
  go_wp2_with fail
  ((with_reducible refine (back04_any A 0 cap [] _ rfl (Rd.nil _ _ _) (by omega)).mono ?_); rintro e w3 ⟨A3, cap3, rfl, hown3, hb3⟩)
  have k3 := k2.call hb3
  go_wp2_with fail
  ((with_reducible refine (refEven_none n k _ h).mono ?_); rintro e w4 ⟨A4, cap4, rfl, hown4, hb4⟩)
  have k4 := k3.call hb4
  go_wp2_with fail
  ((with_reducible refine (equalRef_any A3 A4 0 0 cap3 cap4 [] [] _ rfl rfl (Rd.nil _ _ _) (Rd.nil _ _ _) (by omega) (by omega)).mono ?_); rintro e w5 ⟨rfl, hb5⟩)
  have k5 := k4.call hb5
  clear hb1 hb2 hb3 hb4 hb5 k2 k3 k4 hown hown3 hown4
  go_wp2
  all_goals (go_ret; exact ⟨by simp, k5.2.2⟩)

set_option maxHeartbeats 1000000 in
theorem partEvens_some (n k : Nat) (w : World) (hn : n ≤ 3000) (hk1 : 1 ≤ k) (hk : k ≤ 3000) :
    Calls Try.prog 8 #[.int .i64 n, .int .i64 k] w fun e w' => e = .returned (.bool true) ∧ Below w.heap.size w w' := by
  have d1 : decide ((n : Int) < 0) = false := decide_eq_false (by omega)
  have d2 : decide ((k : Int) < 1) = false := decide_eq_false (by omega)
  have HL := Lib.hid (evenL_length n k)
  go_enter Try.func8, Try.ntmps8
  go_wp2_with fail
  ((with_reducible refine (even_any n k _ (by omega) (by omega) (by omega)).mono ?_); rintro e w1 ⟨A, cap, rfl, hown, hb1⟩)
  have R1 := Lib.hid (Rd.of_own hown)
  clear hown
  go_wp2_with fail
  ((with_reducible refine (alive04_any _).mono ?_); rintro e w2 ⟨rfl, hb2⟩)
  go_wp2_with fail
  ((with_reducible refine (back04_any A k cap (evenL n k) _ HL.out (R1.out.below hb2) (by omega)).mono ?_); rintro e w3 ⟨A3, cap3, rfl, hown3, hb3⟩)
  have R3 := Lib.hid (Rd.of_own hown3)
  clear hown3
  go_wp2_with fail
  ((with_reducible refine (refEven_any n k _ (by omega) (by omega) (by omega)).mono ?_); rintro e w4 ⟨A4, cap4, rfl, hown4, hb4⟩)
  have R4 := Lib.hid (Rd.of_own hown4)
  clear hown4
  go_wp2_with fail
  ((with_reducible refine (equalRef_any A3 A4 k k cap3 cap4 (evenL n k) (evenL n k) _ HL.out HL.out (R3.out.below hb4) R4.out (by omega) (by omega)).mono ?_); rintro e w5 ⟨rfl, hb5⟩)
  have k5 := (((Kept.of hb2).call hb3).call hb4).call hb5
  clear hb2 hb3 hb4 hb5
  rw [decide_eq_true (rfl : evenL n k = evenL n k)]
  go_wp2_with fail
  ((with_reducible refine (covers_any n A k cap (evenL n k) _ HL.out (R1.out.kept k5) (by omega)).mono ?_); rintro e w6 ⟨rfl, hb6⟩)
  have k6 := k5.call hb6
  clear hb6 k5
  rw [covers_even n k hk1]
  go_wp2_with fail
  ((with_reducible refine (back04_any A k cap (evenL n k) _ HL.out (R1.out.kept k6) (by omega)).mono ?_); rintro e w7 ⟨A7, cap7, rfl, hown7, hb7⟩)
  have R7 := Lib.hid (Rd.of_own hown7)
  have k7 := k6.call hb7
  clear hown7 k6 hb7
  go_wp2_with fail
  ((with_reducible refine (refCovers_any n A7 k cap7 (evenL n k) _ HL.out R7.out (by omega)).mono ?_); rintro e w8 ⟨rfl, hb8⟩)
  have k8 := k7.call hb8
  clear k7 hb8
  rw [covers_even n k hk1]
  go_wp2
  go_ret
  exact ⟨rfl, hb1.trans (k8.2.2.mono hb1.size)⟩

theorem partEvens_any (n k : Int) (w : World) :
    Calls Try.prog 8 #[.int .i64 n, .int .i64 k] w fun e w' => e = .returned (.bool true) ∧ Below w.heap.size w w' := by
  by_cases h : 3000 < n ∨ 3000 < k
  · exact partEvens_big n k w h
  · by_cases h2 : n < 0 ∨ k < 1
    · exact partEvens_none n k w (by omega) (by omega) h2
    · obtain ⟨a, rfl⟩ := Int.eq_ofNat_of_zero_le (show 0 ≤ n by omega)
      obtain ⟨b, rfl⟩ := Int.eq_ofNat_of_zero_le (show 0 ≤ k by omega)
      exact partEvens_some a b w (by omega) (by omega) (by omega)

end Go.Proofs.Ytmnmjjackffnjaa
