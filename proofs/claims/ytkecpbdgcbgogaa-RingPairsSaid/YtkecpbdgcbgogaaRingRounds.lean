/-
  RingRounds: the walk.
-/
import Derived.Test.YtkecpbdgcbgogaaActions
namespace Go.Proofs.Ytkecpbdgcbgogaa
set_option linter.unusedVariables false
set_option linter.unusedSimpArgs false
open Go.RowKit

theorem few_spec {lo hi m c : Int} (h : fewB lo hi m c = true) : 0 ≤ lo ∧ lo ≤ hi ∧ hi ≤ 300 ∧ 1 ≤ m ∧ m ≤ 64 ∧ 1 ≤ c ∧ c ≤ 1048576 ∧ (m ≤ 12 ∨ hi ≤ 40) := by simpa [fewB] using h

set_option maxHeartbeats 1000000 in
theorem ringRounds_far (s b lo hi m c x p r : Int) (w : World) (hf : fewB lo hi m c = false) :
    Calls Try.prog 3 #[jobV s b lo hi m c, .agg #[.int .i64 x, .int .i64 p, .int .i64 r]] w fun e w' => e = .returned (.bool true) ∧ Below w.heap.size w w' := by
  have C := fun W => few_any s b lo hi m c W
  rw [hf] at C
  have HF := Lib.hid C
  clear C hf
  go_enter Try.func3, Try.ntmps3
  go_wp2_with fail
  ((with_reducible refine (HF.out _).mono ?_); rintro e w1 ⟨rfl, hb1⟩)
  go_wp2_with fail
  ((with_reducible refine (alive19_any _).mono ?_); rintro e w2 ⟨rfl, hb2⟩)
  go_wp2
  go_ret
  exact ⟨rfl, ((((Kept.of (Below.refl _ w)).alloc _).alloc _).call hb1 |>.call hb2).2.2⟩

set_option maxRecDepth 100000 in
set_option maxHeartbeats 4000000 in
theorem ringRounds_near (s b lo hi m c x p r : Int) (w : World) (hf : fewB lo hi m c = true) :
    Calls Try.prog 3 #[jobV s b lo hi m c, .agg #[.int .i64 x, .int .i64 p, .int .i64 r]] w fun e w' => e = .returned (.bool true) ∧ Below w.heap.size w w' := by
  have C := fun W => few_any s b lo hi m c W
  rw [hf] at C
  have HF := Lib.hid C
  obtain ⟨h0, h1, h2, hm1, hm2, hc1, hc2, _⟩ := few_spec hf
  have C1 := fun W => roundY_any s b lo hi m c x p r W h0 h1 (by omega) hm1 (by omega) (by omega)
  have C2 := fun W => refRoundY_any s b lo hi m c x p r W h0 h1 (by omega) hm1 (by omega) (by omega)
  have C3 := fun W => actions_any s b lo hi m c x W h0 h1 (by omega) hm1 (by omega) (by omega)
  have C4 := fun W => refActions_any s b lo hi m c x W h0 h1 (by omega) hm1 (by omega) (by omega)
  have hlR := rY_le s b lo hi m c x p r h0 h1 (by omega) hm1
  have hlA := actTo_le s b lo hi m c x (m - 1).toNat (2 * (m - 1).toNat) h0 h1 (by omega) hm1
  rw [show actTo s b lo hi m c x (m - 1).toNat (2 * (m - 1).toNat) = actionsL s b lo hi m c x from rfl] at hlA
  generalize rY s b lo hi m c x p r = R at *
  generalize actionsL s b lo hi m c x = L at *
  obtain ⟨nR, hnR⟩ : ∃ n, R.length = n := ⟨_, rfl⟩
  obtain ⟨nL, hnL⟩ : ∃ n, L.length = n := ⟨_, rfl⟩
  rw [hnR] at C1 C2 hlR
  rw [hnL] at C3 C4 hlA
  have hlA' : nL ≤ 1000000 := by omega
  have HC1 := Lib.hid C1
  have HC2 := Lib.hid C2
  have HC3 := Lib.hid C3
  have HC4 := Lib.hid C4
  have HB1 := Lib.hid (fun A c W h => back19_any A nR c R W hnR h (by omega))
  have HB2 := Lib.hid (fun A c W h => back19_any A nL c L W hnL h hlA')
  have HS1 := Lib.hid (fun A B c d W h h' => same19_any A B nR c d R W hnR h h' (by omega))
  have HS2 := Lib.hid (fun A B c d W h h' => same19_any A B nL c d L W hnL h h' hlA')
  clear C C1 C2 C3 C4 hf hnR hnL hlR hlA hlA'
  go_enter Try.func3, Try.ntmps3
  go_wp2_with fail
  obtain ⟨w0, hw0⟩ : ∃ w0, (w.alloc (.cells #[.int .i64 s, .int .i64 b, .int .i64 lo, .int .i64 hi, .int .i64 m, .int .i64 c] 25)).alloc (.cells #[.int .i64 x, .int .i64 p, .int .i64 r] 26) = w0 := ⟨_, rfl⟩
  have k0 : Below w.heap.size w w0 := by rw [← hw0]; exact ((Below.refl _ _).alloc (Nat.le_refl _) _).alloc (by simp) _
  have J0 : Blk w0 w.heap.size 25 #[.int .i64 s, .int .i64 b, .int .i64 lo, .int .i64 hi, .int .i64 m, .int .i64 c] := by rw [← hw0]; exact (Blk.new w _ _).alloc _
  have N0 : Blk w0 (w.heap.size + 1) 26 #[.int .i64 x, .int .i64 p, .int .i64 r] := by rw [← hw0]; exact Blk.new' _ _ (by simp)
  rw [hw0]
  clear hw0
  ((with_reducible refine (HF.out _).mono ?_); rintro e w1 ⟨rfl, hb1⟩)
  have HJ1 := Lib.hid (J0.kept hb1)
  have HN1 := Lib.hid (N0.kept hb1)
  have HK1 := Lib.hid (((Kept.of k0).call hb1).2.2)
  clear hb1 J0 N0 k0
  have n0 : w1.cell? ⟨w.heap.size + 1, 0, none⟩ = some (.int .i64 x) := HN1.out.cell 0
  have n1 : w1.cell? ⟨w.heap.size + 1, 1, none⟩ = some (.int .i64 p) := HN1.out.cell 1
  have n2 : w1.cell? ⟨w.heap.size + 1, 2, none⟩ = some (.int .i64 r) := HN1.out.cell 2
  go_wp2_with fail
  go_quiet (fail)
  go_wp2_with fail
  obtain ⟨W1, hW1⟩ : ∃ W1, w1.drewN nq = W1 := ⟨_, rfl⟩
  have J1 : Blk W1 w.heap.size 25 #[.int .i64 s, .int .i64 b, .int .i64 lo, .int .i64 hi, .int .i64 m, .int .i64 c] := by rw [← hW1]; exact HJ1.out.drewN nq
  have HKW := Lib.hid (show Below w.heap.size w W1 by rw [← hW1]; exact below_drewN HK1.out nq)
  rw [hW1]
  clear hW1 n0 n1 n2
  have j0 : W1.cell? ⟨w.heap.size, 0, none⟩ = some (.int .i64 s) := J1.cell 0
  have j1 : W1.cell? ⟨w.heap.size, 1, none⟩ = some (.int .i64 b) := J1.cell 1
  have j2 : W1.cell? ⟨w.heap.size, 2, none⟩ = some (.int .i64 lo) := J1.cell 2
  have j3 : W1.cell? ⟨w.heap.size, 3, none⟩ = some (.int .i64 hi) := J1.cell 3
  have j4 : W1.cell? ⟨w.heap.size, 4, none⟩ = some (.int .i64 m) := J1.cell 4
  have j5 : W1.cell? ⟨w.heap.size, 5, none⟩ = some (.int .i64 c) := J1.cell 5
  have lj := J1.lt
  clear J1
  go_region_held3 (fun w' => Kept W1 w') (first | exact kk | exact kk.alloc _ | exact Kept.start W1) (first
    | (go_at_call 13; (with_reducible refine (alive19_any _).mono ?_); rintro e w2 ⟨rfl, hb2⟩; have kk := (Kept.start W1).call hb2; clear hb2)
    | (go_at_call 16; (with_reducible refine (given19_any _ _ _ _ _ _ _).mono ?_); rintro e w3 ⟨rfl, hb3⟩; replace kk := kk.call hb3; try replace HRb := Lib.hid (HRb.out.below hb3); clear hb3)
    | (go_at_call 17; (with_reducible refine (HC1.out _).mono ?_); rintro e w4 ⟨A4, c4, rfl, hown, hb4⟩; replace kk := kk.call hb4; have HRa := Lib.hid (Rd.of_own hown); clear hown hb4)
    | (go_at_call 19; (with_reducible refine (HC3.out _).mono ?_); rintro e w5 ⟨A5, c5, rfl, hown, hb5⟩; replace kk := kk.call hb5; have HLa := Lib.hid (Rd.of_own hown); clear hown hb5)
    | (go_at_call 15; (with_reducible refine (HB1.out _ _ _ HRa.out).mono ?_); rintro e w6 ⟨A6, c6, rfl, hown, hb6⟩; replace kk := kk.call hb6; have HRb := Lib.hid (Rd.of_own hown); clear hown hb6)
    | (go_at_call 15; (with_reducible refine (HB2.out _ _ _ HLa.out).mono ?_); rintro e w7 ⟨A7, c7, rfl, hown, hb7⟩; replace kk := kk.call hb7; have HLb := Lib.hid (Rd.of_own hown); clear hown hb7)
    | (go_at_call 18; (with_reducible refine (HC2.out _).mono ?_); rintro e w8 ⟨A8, c8, rfl, hown, hb8⟩; replace kk := kk.call hb8; replace HRb := Lib.hid (HRb.out.below hb8); have HRc := Lib.hid (Rd.of_own hown); clear hown hb8)
    | (go_at_call 20; (with_reducible refine (HC4.out _).mono ?_); rintro e w9 ⟨A9, c9, rfl, hown, hb9⟩; replace kk := kk.call hb9; replace HLb := Lib.hid (HLb.out.below hb9); have HLc := Lib.hid (Rd.of_own hown); clear hown hb9)
    | (go_at_call 14; (with_reducible refine (HS1.out _ _ _ _ _ HRb.out HRc.out).mono ?_); rintro e w10 ⟨rfl, hb10⟩; replace kk := kk.call hb10; clear hb10)
    | (go_at_call 14; (with_reducible refine (HS2.out _ _ _ _ _ HLb.out HLc.out).mono ?_); rintro e w11 ⟨rfl, hb11⟩; replace kk := kk.call hb11; clear hb11))
  all_goals go_wp2_with fail
  all_goals go_ret
  all_goals exact ⟨rfl, ((Kept.of HKW.out).call kk.2.2).2.2⟩

theorem ringRounds_any (s b lo hi m c x p r : Int) (w : World) :
    Calls Try.prog 3 #[jobV s b lo hi m c, .agg #[.int .i64 x, .int .i64 p, .int .i64 r]] w fun e w' => e = .returned (.bool true) ∧ Below w.heap.size w w' := by
  cases hf : fewB lo hi m c
  · exact ringRounds_far s b lo hi m c x p r w hf
  · exact ringRounds_near s b lo hi m c x p r w hf

theorem ringRounds_row (s b lo hi m c x p r : Int) (w : World) (hlo : -9223372036854775808 ≤ lo ∧ lo ≤ 9223372036854775807) (hx : -9223372036854775808 ≤ x ∧ x ≤ 9223372036854775807) (hp : -9223372036854775808 ≤ p ∧ p ≤ 9223372036854775807) (hr : -9223372036854775808 ≤ r ∧ r ≤ 9223372036854775807) :
    Calls Try.prog 3 #[jobV s b lo hi m c, .agg #[.int .i64 x, .int .i64 p, .int .i64 r]] w fun e w' => e = .returned (.bool true) ∧ Below w.heap.size w w' :=
  ringRounds_any s b lo hi m c x p r w

end Go.Proofs.Ytkecpbdgcbgogaa
