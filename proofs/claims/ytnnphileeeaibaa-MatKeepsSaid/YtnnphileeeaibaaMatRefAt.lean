/-
  The reference's At.
-/
import Derived.Test.YtnnphileeeaibaaMatRef
namespace Go.Proofs.Ytnnphileeeaibaa
set_option linter.unusedVariables false
set_option linter.unusedSimpArgs false
set_option maxRecDepth 100000
open Go.RowKit

set_option maxHeartbeats 1000000 in
/-- An element of a grid that is right. -/
theorem refAt_good (R C n i j : Nat) (A : Option Addr) (c : Nat) (l : List Int) (w : World) (hR : 1 ≤ R ∧ R ≤ 1048576) (hC : 1 ≤ C ∧ C ≤ 1048576) (hn : R * C = n) (hn' : n ≤ 1000000000) (hl : l.length = n) (hi : i < R) (hj : j < C) (h : Rd w 1 A n (iv l)) :
    Calls Try.prog 44 #[.agg #[.int .i64 R, .int .i64 C, .slice A n c], .int .i64 i, .int .i64 j] w fun e w' => e = .returned (.int .i64 (l.getD (i * C + j) 0)) ∧ Below w.heap.size w w' := by
  have hrt : decide (RightP R C n) = true := decide_eq_true ⟨⟨by omega, by omega, by omega, by omega⟩, by rw [← hn]; exact Int.natCast_mul R C⟩
  have C1 := fun W => refRight_any R C A n c W hn'
  rw [hrt] at C1
  have HC := Lib.hid C1
  obtain ⟨k, hk⟩ : ∃ k, i * C + j = k := ⟨_, rfl⟩
  have hkn : k < n := by rw [← hk, ← hn]; exact row_lt i j R C hi hj
  obtain ⟨g, o, x, rfl, hb, hx, hc⟩ := iv_at hl h hkn
  rw [hk, List.getD_eq_getElem?_getD, hx]
  have HB0 := Lib.hid (fun w1 (hb1 : Below (w.heap.size + 1) (w.alloc (.cells #[.int .i64 R, .int .i64 C, .slice (some ⟨g, o, none⟩) n c] 55)) w1) => Blk.below (Blk.new w 55 #[.int .i64 R, .int .i64 C, .slice (some ⟨g, o, none⟩) n c]) hb1 (by simp))
  have hiC : i * C ≤ n := by rw [← hn]; exact Nat.mul_le_mul_right _ (by omega)
  obtain ⟨p, hp⟩ : ∃ p, i * C = p := ⟨_, rfl⟩
  have hpj : p + j = k := by rw [← hp]; exact hk
  have i1 : (0 : Int) ≤ (p : Int) + (j : Int) := by omega
  have i3 : (0 : Int) ≤ (k : Int) := by omega
  have i4 : (k : Int) < (n : Int) := by omega
  have i2 : (p : Int) + (j : Int) < (n : Int) := by rw [← Int.natCast_add, hpj]; exact i4
  have d1 : decide ((i : Int) < 0) = false := decide_eq_false (by omega)
  have d2 : decide ((R : Int) ≤ (i : Int)) = false := decide_eq_false (by omega)
  have d3 : decide ((j : Int) < 0) = false := decide_eq_false (by omega)
  have d4 : decide ((C : Int) ≤ (j : Int)) = false := decide_eq_false (by omega)
  have e1 : wrap64 ((i : Int) * (C : Int)) = (p : Int) := by rw [← Int.natCast_mul, hp]; exact wrap64_id _ (by omega) (by omega)
  have hc2 : w.cell? ⟨g, o + (p + j), none⟩ = some (.int .i64 x) := by rw [hpj]; exact hc
  have HX := Lib.hid hc
  have HPJ := Lib.hid hpj
  clear hrt C1 hk h hx hiC hn hp hl
  go_enter Try.func44, Try.ntmps44
  go_wp2_with fail
  ((with_reducible refine (HC.out _).mono ?_); rintro e w1 ⟨rfl, hb1⟩)
  have hb1' : Below (w.heap.size + 1) (w.alloc (.cells #[.int .i64 R, .int .i64 C, .slice (some ⟨g, o, none⟩) n c] 55)) w1 := by simpa using hb1
  have hb2 := HB0.out w1 hb1'
  have y0 : w1.cell? ⟨w.heap.size, 0, none⟩ = some (.int .i64 R) := hb2.cell 0
  have y1 : w1.cell? ⟨w.heap.size, 1, none⟩ = some (.int .i64 C) := hb2.cell 1
  have y2 : w1.cell? ⟨w.heap.size, 2, none⟩ = some (.slice (some ⟨g, o, none⟩) n c) := hb2.cell 2
  have ly := hb2.lt
  have hk1 : Below w.heap.size w w1 := ((Below.refl _ _).alloc (Nat.le_refl _) _).trans (hb1'.mono (by omega))
  have y3 : w1.cell? ⟨g, o + k, none⟩ = some (.int .i64 x) := (hk1.cell (p := ⟨g, o + k, none⟩) hb).trans HX.out
  have hgw : g < w1.heap.size := Nat.lt_of_lt_of_le hb hk1.size
  clear hb1 hb1' hb2 hc hc2 HB0
  go_wp2_with fail
  go_ret
  exact ⟨rfl, hk1⟩

end Go.Proofs.Ytnnphileeeaibaa
