/-
  alive; New of mat; New of the reference where there is no grid.
-/
import Derived.Test.YtnnphileeeaibaaMatMul
namespace Go.Proofs.Ytnnphileeeaibaa
set_option linter.unusedVariables false
set_option linter.unusedSimpArgs false
set_option maxRecDepth 100000
open Go.RowKit

theorem rd_cells (w : World) (l : List Int) : Rd (w.alloc (.cells (iv l).toArray 2)) 1 (some ⟨w.heap.size, 0, none⟩) l.length (iv l) := by
  refine ⟨by rw [iv_length, Nat.mul_one], fun h => ⟨w.heap.size, 0, rfl, by simp, fun j u hu => ?_⟩⟩
  have := (Blk.new w 2 (iv l).toArray).cell (0 + j)
  rw [this, Nat.zero_add, ← hu]
  simp

set_option maxHeartbeats 2000000 in
theorem alive07_any (w : World) : Calls Try.prog 23 #[] w fun e w' => e = .returned (.bool true) ∧ Below w.heap.size w w' := by
  have e1 : mulN [1, 2, 3, 4] [1, 1] 0 2 = [3, 7] := by simp [mulN, natL, rowL, dotL, dotF, mulQ, mulV, wrap64, List.range_succ]
  obtain ⟨w0, hw0⟩ : ∃ w0, (w.alloc (.cells #[.int .i64 1, .int .i64 2, .int .i64 3, .int .i64 4] 2)).alloc (.cells #[.int .i64 1, .int .i64 1] 2) = w0 := ⟨_, rfl⟩
  have k0 : Below w.heap.size w w0 := by rw [← hw0]; exact ((Below.refl _ _).alloc (Nat.le_refl _) _).alloc (by simp) _
  have r1 : Rd w0 1 (some ⟨w.heap.size, 0, none⟩) 4 (iv [1, 2, 3, 4]) := by rw [← hw0]; exact (rd_cells w [1, 2, 3, 4]).alloc _
  have r2 : Rd w0 1 (some ⟨w.heap.size + 1, 0, none⟩) 2 (iv [1, 1]) := by rw [← hw0]; have := rd_cells (w.alloc (.cells #[.int .i64 1, .int .i64 2, .int .i64 3, .int .i64 4] 2)) [1, 1]; simp only [World.size_alloc] at this; exact this
  have C := mul_good 2 2 4 4 w.heap.size 0 _ 2 [1, 2, 3, 4] [1, 1] 0 w0 (by omega) (by omega) rfl (by omega) (by omega) (by omega) rfl rfl r1 r2 (by intro x hx; simp at hx; constructor <;> omega) (by intro x hx; simp at hx; subst hx; constructor <;> omega)
  rw [e1] at C
  have HC := Lib.hid C
  have HW := Lib.hid hw0
  clear C e1 r1 r2 hw0
  go_enter Try.func23, Try.ntmps23
  go_wp2_with fail
  rw [HW.out]
  (refine HC.out.mono ?_; rintro e w1 ⟨A, c, rfl, hO, hb1⟩)
  obtain ⟨_, _, q1, _, _, q6⟩ := own_form hO
  injection q1 with q4
  subst q4
  obtain ⟨g, rfl, _, hg⟩ := q6 (by omega)
  have c0 : w1.cell? ⟨g, 0, none⟩ = some (.int .i64 3) := hO.cellAt 0 (by omega)
  have c1 : w1.cell? ⟨g, 1, none⟩ = some (.int .i64 7) := hO.cellAt 1 (by omega)
  have k1 := ((Kept.of k0).call hb1).2.2
  clear hO q6 hb1 HC HW k0
  go_wp2
  go_ret
  exact ⟨rfl, k1⟩

/-- No grid comes back. -/
theorem new_not (r q : Int) (w : World) (h : ¬ SideP r q ∨ 1048576 < r * q) :
    Calls Try.prog 45 #[.int .i64 r, .int .i64 q] w fun e w' => e = .returned (.agg #[.int .i64 0, .int .i64 0, .slice none 0 0]) ∧ Below w.heap.size w w' := by
  obtain ⟨b, hb⟩ : ∃ b, decide (SideP r q) = b := ⟨_, rfl⟩
  have C := fun W => sides_any r q W
  rw [hb] at C
  have HC := Lib.hid C
  have HB := Lib.hid hb
  have HH := Lib.hid h
  clear C hb h
  cases b
  · clear HB HH
    go_enter Try.func45, Try.ntmps45
    go_wp2_with fail
    ((with_reducible refine (HC.out _).mono ?_); rintro e w1 ⟨rfl, rfl⟩)
    go_wp2
    refine bodyPost_ret (v := .agg #[.int .i64 0, .int .i64 0, .slice none 0 0]) (by simp [results, Try.results45, go_sem]) rfl ⟨rfl, ?_⟩
    exact (Below.refl _ _).alloc (Nat.le_refl _) _
  · have hs : SideP r q := of_decide_eq_true HB.out
    have hw := side_wrap hs
    have hgt : 1048576 < r * q := by rcases HH.out with h | h; exact absurd hs h; exact h
    obtain ⟨m, hm⟩ : ∃ m, r * q = m := ⟨_, rfl⟩
    have hw' : wrap64 (r * q) = m := hw.trans hm
    rw [hm] at hgt
    clear HB HH hs hm hw
    go_enter Try.func45, Try.ntmps45
    go_wp2_with fail
    ((with_reducible refine (HC.out _).mono ?_); rintro e w1 ⟨rfl, rfl⟩)
    have d1 : decide (1048576 < m) = true := decide_eq_true hgt
    go_wp2
    refine bodyPost_ret (v := .agg #[.int .i64 0, .int .i64 0, .slice none 0 0]) (by simp [results, Try.results45, go_sem]) rfl ⟨rfl, ?_⟩
    exact (Below.refl _ _).alloc (Nat.le_refl _) _

set_option maxHeartbeats 1000000 in
theorem new_good (r q n : Nat) (w : World) (hr : 1 ≤ r ∧ r ≤ 1048576) (hq : 1 ≤ q ∧ q ≤ 1048576) (hn : n ≤ 1048576) (he : r * q = n) :
    Calls Try.prog 45 #[.int .i64 r, .int .i64 q] w (GridRet w r q n) := by
  obtain ⟨i0, hi0, q0, q1, q2⟩ := info_parts slVec.info
  have HH' := Lib.hid (fun (w0 : World) (hw0 : w.alloc (.cells #[.int .i64 0, .int .i64 0, .slice none 0 0] 51) = w0) => (⟨by rw [← hw0]; exact (Below.refl _ _).alloc (Nat.le_refl _) _, by rw [← hw0]; exact Blk.new _ _ _⟩ : Below w.heap.size w w0 ∧ Blk w0 w.heap.size 51 #[.int .i64 0, .int .i64 0, .slice none 0 0]))
  have C := fun W => sides_any r q W
  rw [show decide (SideP r q) = true from decide_eq_true ⟨by omega, by omega, by omega, by omega⟩] at C
  have HC := Lib.hid C
  have he' : IntKind.i64.wrap ((r : Int) * (q : Int)) = (n : Int) := by rw [← Int.natCast_mul, he]; exact wrap_ok _ (by omega) (by omega)
  have he2 : wrap64 ((r : Int) * (q : Int)) = (n : Int) := by rw [← Int.natCast_mul, he]; exact wrap64_id _ (by omega) (by omega)
  have e5 : decide ((1048576 : Int) < (n : Int)) = false := decide_eq_false (by omega)
  clear C he
  go_enter Try.func45, Try.ntmps45
  go_wp2_with fail
  ((with_reducible refine (HC.out _).mono ?_); rintro e w1 ⟨rfl, rfl⟩)
  go_wp2_with (at_make; obtain ⟨w0, hw0⟩ : ∃ w0, w.alloc (.cells #[.int .i64 0, .int .i64 0, .slice none 0 0] 51) = w0 := ⟨_, rfl⟩; rw [hw0]; have KD := Lib.hid (HH'.out w0 hw0).1; have SD := Lib.hid (HH'.out w0 hw0).2; clear hw0; go_must (refine wpList_make_full w0 rfl _ _ _ rfl w0.heap.size 2 i0 (.int .i64 0) 1 slVec.slice hi0 q0 q1 .i64 .i64 _ _ n rfl rfl rfl rfl (by rw [q2]; omega) (by unfold maxLen; omega) (Nat.le_refl _) ?_); go_must (intro w2 hown2 hg2; (have K2 := Lib.hid (Below.grown (Below.refl w0.heap.size w0) hg2 (Nat.le_refl _) (by simp))); (have O2 := Lib.hid hown2); (have s0 := (SD.out.kept K2.out).cell 0); (have s1 := (SD.out.kept K2.out).cell 1); (have s2 := (SD.out.kept K2.out).cell 2); (have f0 := (SD.out.kept K2.out).frozen 0); (have f1 := (SD.out.kept K2.out).frozen 1); (have f2 := (SD.out.kept K2.out).frozen 2); (have ls := (SD.out.kept K2.out).lt); clear hown2 hg2))
  have S2 := SD.out.kept K2.out
  have hst := set3 S2 (.int .i64 r) (.int .i64 q) (.slice (some ⟨w0.heap.size, 0, none⟩) n n)
  have hz := KD.out.size
  have o2 := O2.out
  rw [iv_zeros] at o2
  exact bodyPost_ret (v := .agg #[.int .i64 r, .int .i64 q, .slice (some ⟨w0.heap.size, 0, none⟩) n n]) (by simp [results, Try.results45, go_sem, s0, s1, s2, ls]) rfl ⟨_, _, rfl, own_base (o2.kept hst.1 (.inr (own_blk_ne o2 S2 (by decide)))) hz, below_gr ((Kept.of KD.out).call K2.out).2.2 (Nat.le_trans hz K2.out.size) hst.1 (Nat.le_refl _)⟩

end Go.Proofs.Ytnnphileeeaibaa
