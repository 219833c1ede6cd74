/-
  The example of the chapter of vec; VecHashes and VecChanges.
-/
import Derived.Test.YthbkmhdoakpjgaaVec3
namespace Go.Proofs.Ythbkmhdoakpjgaa
set_option linter.unusedVariables false
set_option linter.unusedSimpArgs false
open Go.RowKit

theorem rd_lit' {w : World} {g : Nat} {t : TypeId} {size n : Nat} {cs : Array Value} (h : w.heap[g]? = some (.cells cs t (0, 0))) (hl : cs.size = n * size) : Rd w size (some ⟨g, 0, none⟩) n cs.toList := by
  refine ⟨by simpa using hl, fun _ => ⟨g, 0, rfl, ?_, fun j u hu => ?_⟩⟩
  · rcases Nat.lt_or_ge g w.heap.size with h1 | h1
    · exact h1
    · rw [Array.getElem?_eq_none h1] at h; cases h
  · rw [cell_of_row _ _ _ _ _ _ h, ← hu]; simp
theorem rd_new' (w : World) (cs : Array Value) (t : TypeId) (size n : Nat) (hl : cs.size = n * size) : Rd (w.alloc (.cells cs t)) size (some ⟨w.heap.size, 0, none⟩) n cs.toList :=
  rd_lit' (t := t) (by show (w.heap.push _)[w.heap.size]? = _; simp) hl

theorem sum_alive : sumL [[1, 2], [10, 20]] = some [11, 22] := by simp [sumL, sumFrom, addL, addAt, wrap64]
theorem rdV_one {w : World} {A0 : Option Addr} {n0 c0 : Nat} {x : List Int} (h0 : x.length = n0) (h1 : Rd w 1 A0 n0 (iv x)) : RdV w [(A0, n0, c0)] [x] := by
  refine ⟨rfl, fun i s z e1 e2 => ?_⟩
  match i, e1, e2 with
  | 0, e1, e2 =>
    injection e1 with e1
    injection e2 with e2
    subst e1 e2
    exact ⟨h0, h1⟩
  | (i + 1), e1, e2 => simp at e1
theorem rdV_two {w : World} {A0 A1 : Option Addr} {n0 c0 n1 c1 : Nat} {x y : List Int} (h0 : x.length = n0) (h1 : Rd w 1 A0 n0 (iv x)) (h2 : y.length = n1) (h3 : Rd w 1 A1 n1 (iv y)) : RdV w [(A0, n0, c0), (A1, n1, c1)] [x, y] := by
  refine ⟨rfl, fun i s z e1 e2 => ?_⟩
  match i, e1, e2 with
  | 0, e1, e2 =>
    injection e1 with e1
    injection e2 with e2
    subst e1 e2
    exact ⟨h0, h1⟩
  | 1, e1, e2 =>
    injection e1 with e1
    injection e2 with e2
    subst e1 e2
    exact ⟨h2, h3⟩
  | (i + 2), e1, e2 => simp at e1

set_option maxHeartbeats 1000000 in
theorem alive03_any (w : World) : Calls Try.prog 23 #[] w fun e w' => e = .returned (.bool true) ∧ Below w.heap.size w w' := by
  go_enter Try.func23, Try.ntmps23
  go_wp2_with fail
  have r1 := ((rd_new' w #[.int .i64 1, .int .i64 2] 2 1 2 rfl).alloc (.cells #[.int .i64 10, .int .i64 20] 2)).alloc (.cells #[.slice (some ⟨w.heap.size, 0, none⟩) 2 2, .slice (some ⟨w.heap.size + 1, 0, none⟩) 2 2] 34)
  have r2 := (rd_new' (w.alloc (.cells #[.int .i64 1, .int .i64 2] 2)) #[.int .i64 10, .int .i64 20] 2 1 2 rfl).alloc (.cells #[.slice (some ⟨w.heap.size, 0, none⟩) 2 2, .slice (some ⟨w.heap.size + 1, 0, none⟩) 2 2] 34)
  have r3 := rd_new' ((w.alloc (.cells #[.int .i64 1, .int .i64 2] 2)).alloc (.cells #[.int .i64 10, .int .i64 20] 2)) #[.slice (some ⟨w.heap.size, 0, none⟩) 2 2, .slice (some ⟨w.heap.size + 1, 0, none⟩) 2 2] 34 1 2 rfl
  rw [World.size_alloc] at r2 r3
  rw [World.size_alloc] at r3
  have hs := vecSum_any (some ⟨w.heap.size + 1 + 1, 0, none⟩) 2 2 [(some ⟨w.heap.size, 0, none⟩, 2, 2), (some ⟨w.heap.size + 1, 0, none⟩, 2, 2)] [[1, 2], [10, 20]] _ rfl (by omega) (by omega) (by omega) (by omega) r3 (rdV_two rfl r1 rfl r2) (by simp)
  rw [sum_alive] at hs
  have HS := Lib.hid hs
  clear r1 r2 r3 hs
  (with_reducible refine HS.out.mono ?_)
  rintro e W ⟨A, cap, rfl, hown, hbW⟩
  obtain ⟨A', cap', hv, _, _, hf⟩ := own_form hown
  injection hv with hA _ hC
  subst hA hC
  obtain ⟨g, rfl, hg1, hg2⟩ := hf (by simp)
  have c1 : W.cell? ⟨g, 0, none⟩ = some (.int .i64 11) := hown.cellAt 0 (by simp)
  have c2 : W.cell? ⟨g, 1, none⟩ = some (.int .i64 22) := hown.cellAt 1 (by simp)
  clear hown hf hg1
  go_wp2_with fail
  ((with_reducible refine (hash_any _ 0 _ [] _ rfl (Rd.nil _ _ _) (by omega)).mono ?_); rintro e w2 ⟨rfl, rfl⟩)
  go_wp2
  go_ret
  refine ⟨by simp [hashL, hashF], ?_⟩
  refine Below.alloc ?_ (by have := hbW.size; simp at this; omega) _
  exact ((((Below.refl _ _).alloc (Nat.le_refl _) _).alloc (by simp) _).alloc (by simp; omega) _).trans (hbW.mono (by simp; omega))

theorem few_one (n : Nat) : fewL [n] = decide (n ≤ 1500) := by
  unfold fewL fewN
  simp
  omega
theorem few_two (n m : Nat) (hn : n ≤ 2000 ∨ True) : fewL [n, m] = decide (min n 2000 + min m 2000 ≤ 1500) := by
  unfold fewL fewN
  simp

/-- 'Few' of one vector. -/
theorem few1_any (A : Option Addr) (n cap g : Nat) (w : World) (hn : n ≤ 9223372036854775807) (h : Rd w 1 (some ⟨g, 0, none⟩) 1 [.slice A n cap]) :
    Calls Try.prog 22 #[.slice (some ⟨g, 0, none⟩) 1 1] w fun e w' => e = .returned (.bool (decide (n ≤ 1500))) ∧ w = w' := by
  have h1 := few03_any (some ⟨g, 0, none⟩) 1 1 [(A, n, cap)] w rfl (by simpa using hn) h (by omega)
  rw [← few_one]
  exact h1

set_option maxHeartbeats 1000000 in
theorem vecHashes_any (A : Option Addr) (n cap : Nat) (l : List Int) (w : World) (hm : n ≤ 9223372036854775807) (hl : l.length = n) (h : Rd w 1 A n (iv l)) :
    Calls Try.prog 7 #[.slice A n cap] w fun e w' => e = .returned (.bool true) ∧ Below w.heap.size w w' := by
  have HL := Lib.hid hl
  have HR := Lib.hid h
  clear hl h
  by_cases hn : n ≤ 1500
  · have d1 : decide (n ≤ 1500) = true := decide_eq_true hn
    go_enter Try.func7, Try.ntmps7
    go_wp2_with fail
    ((with_reducible refine (few1_any A n cap _ _ hm (rd_new' w #[.slice A n cap] 32 1 1 rfl)).mono ?_); rintro e w1 ⟨rfl, rfl⟩)
    rw [d1]
    go_wp2_with fail
    ((with_reducible refine (alive03_any _).mono ?_); rintro e w2 ⟨rfl, hb2⟩)
    have hb := ((Below.refl w.heap.size w).alloc (Nat.le_refl _) _).trans (hb2.mono (by simp))
    clear hb2
    go_wp2_with fail
    ((with_reducible refine (hash_any A n cap l _ HL.out (HR.out.below hb) (by omega)).mono ?_); rintro e w3 ⟨rfl, rfl⟩)
    go_wp2_with fail
    ((with_reducible refine (refHash_any A n cap l _ HL.out (HR.out.below hb) (by omega)).mono ?_); rintro e w3 ⟨rfl, rfl⟩)
    go_wp2
    go_ret
    exact ⟨rfl, hb⟩
  · have d1 : decide (n ≤ 1500) = false := decide_eq_false hn
    go_enter Try.func7, Try.ntmps7
    go_wp2_with fail
    ((with_reducible refine (few1_any A n cap _ _ hm (rd_new' w #[.slice A n cap] 32 1 1 rfl)).mono ?_); rintro e w1 ⟨rfl, rfl⟩)
    rw [d1]
    go_wp2_with fail
    ((with_reducible refine (alive03_any _).mono ?_); rintro e w2 ⟨rfl, hb2⟩)
    have hb := ((Below.refl w.heap.size w).alloc (Nat.le_refl _) _).trans (hb2.mono (by simp))
    clear hb2
    go_wp2
    go_ret
    exact ⟨rfl, hb⟩

end Go.Proofs.Ythbkmhdoakpjgaa
