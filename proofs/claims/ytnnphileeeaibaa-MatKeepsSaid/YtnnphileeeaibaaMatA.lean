/-
  Contracts of package mat's law: back, and Same of the reference's grids.
-/
import Derived.Test.YtnnphileeeaibaaMatZ
namespace Go.Proofs.Ytnnphileeeaibaa
set_option linter.unusedVariables false
set_option linter.unusedSimpArgs false
set_option maxRecDepth 100000
open Go.RowKit

set_option maxHeartbeats 400000 in
theorem back07_any (r q : Int) (A : Option Addr) (n c : Nat) (w : World) :
    Calls Try.prog 26 #[.agg #[.int .i64 r, .int .i64 q, .slice A n c]] w fun e w' => e = .returned (.agg #[.int .i64 r, .int .i64 q, .slice A n c]) ∧ Below w.heap.size w w' := by
  go_enter Try.func26, Try.ntmps26
  go_wp2
  exact bodyPost_ret (v := .agg #[.int .i64 r, .int .i64 q, .slice A n c]) (by simp [results, Try.results26, go_sem]) rfl ⟨rfl, ((Below.refl _ _).alloc (Nat.le_refl _) _).alloc (by simp) _⟩

set_option maxHeartbeats 2000000 in
/-- Two grids that hold the same numbers. -/
theorem refMatSame_any (r q : Int) (A B : Option Addr) (n c d : Nat) (l : List Int) (w : World) (hl : l.length = n) (h : Rd w 1 A n (iv l)) (h' : Rd w 1 B n (iv l)) (hn : n ≤ 1000000) :
    Calls Try.prog 25 #[.agg #[.int .i64 r, .int .i64 q, .slice A n c], .agg #[.int .i64 r, .int .i64 q, .slice B n d]] w fun e w' => e = .returned (.bool true) ∧ Below w.heap.size w w' := by
  have HL := Lib.hid hl
  have HH := Lib.hid h
  have HH' := Lib.hid h'
  clear hl h h'
  obtain ⟨w0, hw0⟩ : ∃ w0, (w.alloc (.cells #[.int .i64 r, .int .i64 q, .slice A n c] 55)).alloc (.cells #[.int .i64 r, .int .i64 q, .slice B n d] 55) = w0 := ⟨_, rfl⟩
  have HW := Lib.hid hw0
  have HK0 : Hid (Below w.heap.size w w0) := Lib.hid (by rw [← hw0]; exact (((Kept.of (Below.refl _ w)).alloc _).alloc _).2.2)
  have HA0 : Hid (Blk w0 w.heap.size 55 #[.int .i64 r, .int .i64 q, .slice A n c]) := Lib.hid (by rw [← hw0]; exact (Blk.new w _ _).alloc _)
  have HB0 : Hid (Blk w0 (w.heap.size + 1) 55 #[.int .i64 r, .int .i64 q, .slice B n d]) := Lib.hid (by rw [← hw0]; exact Blk.new' _ _ (by simp))
  clear hw0
  go_enter Try.func25, Try.ntmps25
  go_wp2_with fail
  rw [HW.out]
  go_loopw [5] (fun i wr => ∃ j : Nat, j ≤ n ∧ i = .int .i64 j ∧ Below w0.heap.size w0 wr) (fun i _ => n - (intOf i).toNat)
  case atStart => exact ⟨0, by omega, rfl, Below.refl _ _⟩
  case round =>
    obtain ⟨j, hj, rfl, hb⟩ := hrel
    have hA := HA0.out.kept hb
    have hB := HB0.out.kept hb
    have a2 : wr.cell? ⟨w.heap.size, 2, none⟩ = some (.slice A n c) := hA.cell 2
    have b2 : wr.cell? ⟨w.heap.size + 1, 2, none⟩ = some (.slice B n d) := hB.cell 2
    have HB := Lib.hid hb
    have hk := ((Kept.of HK0.out).call hb).2.2
    by_cases hlt : j < n
    · obtain ⟨g, o, x, rfl, hbl, hx, c1⟩ := iv_at HL.out (HH.out.below hk) hlt
      obtain ⟨g', o', y, rfl, hbl', hy, c2⟩ := iv_at HL.out (HH'.out.below hk) hlt
      obtain rfl : x = y := by rw [hx] at hy; injection hy
      clear hA hB hk hb hx hy
      go_wp2_with fail
      go_quiet (fail)
      go_wp2
      go_roundw
      case rel => exact ⟨j + 1, by omega, by go_num, below_drewN HB.out _⟩
      case measure => simp [intOf]; omega
    · obtain rfl : j = n := by omega
      clear hA hB hb
      go_wp2
      go_ret
      exact ⟨rfl, hk⟩

end Go.Proofs.Ytnnphileeeaibaa
