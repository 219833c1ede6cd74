/-
  Of.
-/
import Derived.Test.YtnnphileeeaibaaMatAt
namespace Go.Proofs.Ytnnphileeeaibaa
set_option linter.unusedVariables false
set_option linter.unusedSimpArgs false
set_option maxRecDepth 100000
open Go.RowKit

set_option maxHeartbeats 2000000 in
/-- Of a grid that is right: a copy of its own. -/
theorem of_right (r q : Int) (A : Option Addr) (n c : Nat) (l : List Int) (w : World) (hr : RightP r q n) (hn : n ≤ 10000000) (hl : l.length = n) (h : Rd w 1 A n (iv l)) :
    Calls Try.prog 40 #[.int .i64 r, .int .i64 q, .slice A n c] w fun e w' => ∃ A' c', e = .returned (.tuple #[.agg #[.int .i64 r, .int .i64 q, .slice A' n c'], .bool true]) ∧ w'.ownsRow w.heap.size 2 1 (.slice A' n c') n (iv l) ∧ Below w.heap.size w w' := by
  obtain ⟨W0, hW0⟩ : ∃ W0, w.alloc (.cells #[.int .i64 0, .int .i64 0, .slice none 0 0] 51) = W0 := ⟨_, rfl⟩
  have k0 : Below w.heap.size w W0 := by rw [← hW0]; exact (Below.refl _ _).alloc (Nat.le_refl _) _
  have b0 : Blk W0 w.heap.size 51 #[.int .i64 0, .int .i64 0, .slice none 0 0] := by rw [← hW0]; exact Blk.new _ _ _
  have C2 := fun A c W => right_any r q A n c W (by omega)
  rw [show decide (RightP r q n) = true from decide_eq_true hr] at C2
  have HC1 := Lib.hid (vecClone_any A n c l W0 hl (h.below k0) hn)
  have HC2 := Lib.hid C2
  have HW := Lib.hid hW0
  have HB0 := Lib.hid b0
  have HK := Lib.hid k0
  clear hW0 b0 k0 C2 h hl hr
  go_enter Try.func40, Try.ntmps40
  go_wp2_with fail
  rw [HW.out]
  ((with_reducible refine HC1.out.mono ?_); rintro e w1 ⟨A', c', rfl, hown, hb1⟩)
  obtain ⟨W2, hW2⟩ : ∃ W2, w1.alloc (.cells #[.int .i64 r, .int .i64 q, .slice A' n c'] 51) = W2 := ⟨_, rfl⟩
  have k2 : Below w1.heap.size w1 W2 := by rw [← hW2]; exact (Below.refl _ _).alloc (Nat.le_refl _) _
  have o2 : Blk W2 w1.heap.size 51 #[.int .i64 r, .int .i64 q, .slice A' n c'] := by rw [← hW2]; exact Blk.new _ _ _
  have HB2 := Lib.hid ((HB0.out.kept hb1).kept k2)
  have HO2 := Lib.hid o2
  have HOW := Lib.hid (own_below hown k2)
  have KK := Lib.hid (((Kept.of HK.out).call hb1).call k2).2.2
  have HW2 := Lib.hid hW2
  clear hW2 k2 o2 hown hb1
  go_wp2_with fail
  rw [HW2.out]
  ((with_reducible refine (HC2.out _ _ _).mono ?_); rintro e w3 ⟨rfl, hb3⟩)
  have m2 := HO2.out.kept hb3
  have m0 := HB2.out.kept hb3
  have y0 : w3.cell? ⟨w1.heap.size, 0, none⟩ = some (.int .i64 r) := m2.cell 0
  have y1 : w3.cell? ⟨w1.heap.size, 1, none⟩ = some (.int .i64 q) := m2.cell 1
  have y2 : w3.cell? ⟨w1.heap.size, 2, none⟩ = some (.slice A' n c') := m2.cell 2
  have ly := m2.lt
  have x0 : w3.cell? ⟨w.heap.size, 0, none⟩ = some (.int .i64 0) := m0.cell 0
  have x1 : w3.cell? ⟨w.heap.size, 1, none⟩ = some (.int .i64 0) := m0.cell 1
  have x2 : w3.cell? ⟨w.heap.size, 2, none⟩ = some (.slice none 0 0) := m0.cell 2
  have f0 := m0.frozen 0
  have f1 := m0.frozen 1
  have f2 := m0.frozen 2
  have lx := m0.lt
  have HM0 := Lib.hid m0
  have HO3 := Lib.hid (own_below HOW.out hb3)
  have K3 := Lib.hid ((Kept.of KK.out).call hb3).2.2
  clear m2 m0 hb3 HW HW2
  go_wp2_with fail
  have hst := set3 HM0.out (.int .i64 r) (.int .i64 q) (.slice A' n c')
  have hz := HK.out.size
  exact bodyPost_ret (v := .tuple #[.agg #[.int .i64 r, .int .i64 q, .slice A' n c'], .bool true]) (by simp [results, Try.results40, go_sem, x0, x1, x2, lx]) rfl ⟨_, _, rfl, own_base (HO3.out.kept hst.1 (.inr (own_blk_ne HO3.out HM0.out (by decide)))) hz, below_gr K3.out K3.out.size hst.1 (Nat.le_refl _)⟩

set_option maxHeartbeats 2000000 in
theorem of_wrong (r q : Int) (A : Option Addr) (n c : Nat) (l : List Int) (w : World) (hr : ¬ RightP r q n) (hn : n ≤ 10000000) (hl : l.length = n) (h : Rd w 1 A n (iv l)) :
    Calls Try.prog 40 #[.int .i64 r, .int .i64 q, .slice A n c] w fun e w' => e = .returned (.tuple #[.agg #[.int .i64 0, .int .i64 0, .slice none 0 0], .bool false]) ∧ Below w.heap.size w w' := by
  obtain ⟨W0, hW0⟩ : ∃ W0, w.alloc (.cells #[.int .i64 0, .int .i64 0, .slice none 0 0] 51) = W0 := ⟨_, rfl⟩
  have k0 : Below w.heap.size w W0 := by rw [← hW0]; exact (Below.refl _ _).alloc (Nat.le_refl _) _
  have b0 : Blk W0 w.heap.size 51 #[.int .i64 0, .int .i64 0, .slice none 0 0] := by rw [← hW0]; exact Blk.new _ _ _
  have C2 := fun A c W => right_any r q A n c W (by omega)
  rw [show decide (RightP r q n) = false from decide_eq_false hr] at C2
  have HC1 := Lib.hid (vecClone_any A n c l W0 hl (h.below k0) hn)
  have HC2 := Lib.hid C2
  have HW := Lib.hid hW0
  have HB0 := Lib.hid b0
  have HK := Lib.hid k0
  clear hW0 b0 k0 C2 h hl hr
  go_enter Try.func40, Try.ntmps40
  go_wp2_with fail
  rw [HW.out]
  ((with_reducible refine HC1.out.mono ?_); rintro e w1 ⟨A', c', rfl, hown, hb1⟩)
  obtain ⟨W2, hW2⟩ : ∃ W2, w1.alloc (.cells #[.int .i64 r, .int .i64 q, .slice A' n c'] 51) = W2 := ⟨_, rfl⟩
  have k2 : Below w1.heap.size w1 W2 := by rw [← hW2]; exact (Below.refl _ _).alloc (Nat.le_refl _) _
  have HB2 := Lib.hid ((HB0.out.kept hb1).kept k2)
  have KK := Lib.hid (((Kept.of HK.out).call hb1).call k2).2.2
  have HW2 := Lib.hid hW2
  clear hW2 k2 hown hb1
  go_wp2_with fail
  rw [HW2.out]
  ((with_reducible refine (HC2.out _ _ _).mono ?_); rintro e w3 ⟨rfl, hb3⟩)
  have m0 := HB2.out.kept hb3
  have x0 : w3.cell? ⟨w.heap.size, 0, none⟩ = some (.int .i64 0) := m0.cell 0
  have x1 : w3.cell? ⟨w.heap.size, 1, none⟩ = some (.int .i64 0) := m0.cell 1
  have x2 : w3.cell? ⟨w.heap.size, 2, none⟩ = some (.slice none 0 0) := m0.cell 2
  have f0 := m0.frozen 0
  have f1 := m0.frozen 1
  have f2 := m0.frozen 2
  have lx := m0.lt
  have HM0 := Lib.hid m0
  have K3 := Lib.hid ((Kept.of KK.out).call hb3).2.2
  clear m0 hb3 HW HW2
  go_wp2_with fail
  have hst := set3 HM0.out (.int .i64 0) (.int .i64 0) (.slice none 0 0)
  exact bodyPost_ret (v := .tuple #[.agg #[.int .i64 0, .int .i64 0, .slice none 0 0], .bool false]) (by simp [results, Try.results40, go_sem, x0, x1, x2, lx]) rfl ⟨rfl, below_gr K3.out K3.out.size hst.1 (Nat.le_refl _)⟩

end Go.Proofs.Ytnnphileeeaibaa
