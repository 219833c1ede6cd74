/-
  BucketFinds: the walk.
-/
import Derived.Test.YtmnmjjackffnjaaFind2
namespace Go.Proofs.Ytmnmjjackffnjaa
set_option linter.unusedVariables false
set_option linter.unusedSimpArgs false
open Go.RowKit

theorem guardPlaceRef : Try.prog.eqGuardType Try.prog.depth 69 = false := by kernel_rfl
attribute [go_sem] guardPlaceRef

theorem refFind_all (i n b w c : Int) (W : World) (hn : n ≤ 1000000) (hb : b ≤ 9223372036854775807) (hw2 : w ≤ 1000) (hc : c ≤ 9223372036854775807) :
    Calls Try.prog 50 #[.int .i64 i, .int .i64 n, .int .i64 b, .int .i64 w, .int .i64 c] W (FindRet (findR i n b w c) W) := by
  by_cases h : ofL i (bucketsI n b) < 0 ∨ w < 1 ∨ c < 1
  · have e : findR i n b w c = ((0, 0, 0), false) := by unfold findR; rw [if_pos h]
    rw [e]
    exact refFind_none i n b w c W hn hb h
  · unfold findR
    rw [if_neg h]
    rcases ofL_cases i (bucketsI n b) (buckets_unique n b i) with ⟨k0, ⟨x, y⟩, h0, hi0, hof, hu⟩ | ⟨hno, hof⟩
    · obtain ⟨q1, q2, q3⟩ := buckets_in n b k0 _ h0
      dsimp only at q1 q2 q3
      obtain ⟨m, s, hs, hi⟩ := segs_find x y w i (by omega) hi0.1 hi0.2
      rcases ofL_cases i (segsL x y w) (segs_unique x y w i q2) with ⟨m0, ⟨x2, y2⟩, hm0, him, hofm, _⟩ | ⟨hno, _⟩
      · have := refFind_some i n b w c x y x2 y2 k0 m0 W hn hb (by omega) hw2 (by omega) hc h0 hof hm0 hofm
        simp only [hof, show ((k0 : Int)).toNat = k0 from rfl, getD_some h0, hofm, show ((m0 : Int)).toNat = m0 from rfl, getD_some hm0]
        exact this
      · exact absurd hi (hno s (List.mem_of_getElem? hs))
    · omega

set_option maxHeartbeats 1000000 in
theorem bucketFinds_far (i n b k c : Int) (w : World) (h : 600 < n ∨ 200 < k) :
    Calls Try.prog 13 #[.int .i64 i, .agg #[.int .i64 n, .int .i64 b, .int .i64 k, .int .i64 c]] w fun e w' => e = .returned (.bool true) ∧ Below w.heap.size w w' := by
  by_cases hn : 600 < n
  · go_enter Try.func13, Try.ntmps13
    go_wp2_with fail
    go_quiet (fail)
    go_wp2_with fail
    ((with_reducible refine (alive15_any _).mono ?_); rintro e w1 ⟨rfl, hb1⟩)
    go_wp2
    go_ret
    exact ⟨rfl, (((Kept.of (Below.refl _ w)).alloc _).drewN nq |>.call hb1).2.2⟩
  · have hk : 200 < k := by omega
    clear h
    go_enter Try.func13, Try.ntmps13
    go_wp2_with fail
    go_quiet (fail)
    go_wp2_with fail
    ((with_reducible refine (alive15_any _).mono ?_); rintro e w1 ⟨rfl, hb1⟩)
    go_wp2
    go_ret
    exact ⟨rfl, (((Kept.of (Below.refl _ w)).alloc _).drewN nq |>.call hb1).2.2⟩

set_option maxHeartbeats 2000000 in
theorem bucketFinds_near (i n b k c : Int) (w : World) (hn0 : -9223372036854775808 ≤ n) (hb : b ≤ 9223372036854775807) (hc : c ≤ 9223372036854775807) (hn : n ≤ 600) (hk : k ≤ 200) :
    Calls Try.prog 13 #[.int .i64 i, .agg #[.int .i64 n, .int .i64 b, .int .i64 k, .int .i64 c]] w fun e w' => e = .returned (.bool true) ∧ Below w.heap.size w w' := by
  have C1 := fun W => find_any i n b k c W hn0 (by omega) hb (by omega) hc
  have C2 := fun W => refFind_all i n b k c W (by omega) hb (by omega) hc
  generalize findR i n b k c = F at *
  obtain ⟨⟨f1, f2, f3⟩, ok⟩ := F
  have HC1 := Lib.hid C1
  have HC2 := Lib.hid C2
  clear C1 C2
  go_enter Try.func13, Try.ntmps13
  go_wp2_with fail
  go_quiet (fail)
  go_wp2_with fail
  ((with_reducible refine (HC1.out _).mono ?_); rintro e w1 ⟨rfl, hb1⟩)
  have k1 := (((Kept.of (Below.refl _ w)).alloc _).drewN nq).call hb1
  have HK1 := Lib.hid k1.2.2
  obtain ⟨w2, hw2⟩ : ∃ w2, w1.alloc (.cells #[.int .i64 f1, .int .i64 f2, .int .i64 f3] 66) = w2 := ⟨_, rfl⟩
  have P2 : Blk w2 w1.heap.size 66 #[.int .i64 f1, .int .i64 f2, .int .i64 f3] := by rw [← hw2]; exact Blk.new _ _ _
  have HK2 := Lib.hid (show Below w.heap.size w w2 by rw [← hw2]; exact (k1.alloc _).2.2)
  have HW2 := Lib.hid hw2
  clear hb1 k1 hw2
  go_wp2_with fail
  rw [HW2.out]
  clear HW2
  ((with_reducible refine (HC2.out _).mono ?_); rintro e w3 ⟨rfl, hb3⟩)
  obtain ⟨w4, hw4⟩ : ∃ w4, w3.alloc (.cells #[.int .i64 f1, .int .i64 f2, .int .i64 f3] 69) = w4 := ⟨_, rfl⟩
  have hb4 : Below w3.heap.size w3 w4 := by rw [← hw4]; exact (Below.refl _ _).alloc (Nat.le_refl _) _
  have Q4 : Blk w4 w3.heap.size 69 #[.int .i64 f1, .int .i64 f2, .int .i64 f3] := by rw [← hw4]; exact Blk.new _ _ _
  have k4 := ((Kept.of hb3).call hb4).2.2
  have P4 := P2.kept k4
  have HK4 := Lib.hid (((Kept.of HK2.out).call k4).2.2)
  have HP4 := Lib.hid P4
  have HQ4 := Lib.hid Q4
  have HW4 := Lib.hid hw4
  clear hb3 hb4 P2 k4 hw4
  go_wp2_with fail
  rw [HW4.out]
  clear HW4
  ((with_reducible refine (alive15_any _).mono ?_); rintro e w5 ⟨rfl, hb5⟩)
  have P5 := HP4.out.kept hb5
  have Q5 := HQ4.out.kept hb5
  have a0 : w5.cell? ⟨w1.heap.size, 0, none⟩ = some (.int .i64 f1) := P5.cell 0
  have a1 : w5.cell? ⟨w1.heap.size, 1, none⟩ = some (.int .i64 f2) := P5.cell 1
  have a2 : w5.cell? ⟨w1.heap.size, 2, none⟩ = some (.int .i64 f3) := P5.cell 2
  have b0 : w5.cell? ⟨w3.heap.size, 0, none⟩ = some (.int .i64 f1) := Q5.cell 0
  have b1 : w5.cell? ⟨w3.heap.size, 1, none⟩ = some (.int .i64 f2) := Q5.cell 1
  have b2 : w5.cell? ⟨w3.heap.size, 2, none⟩ = some (.int .i64 f3) := Q5.cell 2
  have HK5 := Lib.hid (((Kept.of HK4.out).call hb5).2.2)
  clear P4 Q4 P5 Q5 hb5
  cases ok
  all_goals
    go_wp2_with fail
    go_ret
    exact ⟨rfl, HK5.out⟩

theorem bucketFinds_any (i n b k c : Int) (w : World) (hi : -9223372036854775808 ≤ i ∧ i ≤ 9223372036854775807) (hn : -9223372036854775808 ≤ n ∧ n ≤ 9223372036854775807) (hb : -9223372036854775808 ≤ b ∧ b ≤ 9223372036854775807) (hk : -9223372036854775808 ≤ k ∧ k ≤ 9223372036854775807) (hc : -9223372036854775808 ≤ c ∧ c ≤ 9223372036854775807) :
    Calls Try.prog 13 #[.int .i64 i, .agg #[.int .i64 n, .int .i64 b, .int .i64 k, .int .i64 c]] w fun e w' => e = .returned (.bool true) ∧ Below w.heap.size w w' := by
  by_cases h : 600 < n ∨ 200 < k
  · exact bucketFinds_far i n b k c w h
  · exact bucketFinds_near i n b k c w hn.1 hb.2 hc.2 (by omega) (by omega)

end Go.Proofs.Ytmnmjjackffnjaa
