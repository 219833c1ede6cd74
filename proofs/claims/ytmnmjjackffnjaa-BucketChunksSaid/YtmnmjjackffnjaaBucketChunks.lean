/-
  BucketChunks: the walk.
-/
import Derived.Test.YtmnmjjackffnjaaBucket
import Derived.Test.YtmnmjjackffnjaaSegs2
namespace Go.Proofs.Ytmnmjjackffnjaa
set_option linter.unusedVariables false
set_option linter.unusedSimpArgs false
open Go.RowKit

set_option maxHeartbeats 400000 in
theorem bucketChunks_big (lo n k s : Int) (w : World) (h : 500 < k) :
    Calls Try.prog 12 #[.int .u16 lo, .int .u16 n, .agg #[.int .i64 k, .int .i64 s]] w fun e w' => e = .returned (.bool true) ∧ Below w.heap.size w w' := by
  go_enter Try.func12, Try.ntmps12
  go_wp2_with fail
  go_quiet (fail)
  go_wp2_with fail
  ((with_reducible refine (alive15_any _).mono ?_); rintro e w1 ⟨rfl, hb1⟩)
  go_wp2
  go_ret
  exact ⟨rfl, (((Kept.of (Below.refl _ w)).alloc _).drewN nq |>.call hb1).2.2⟩

theorem segs_same (l : List (Int × Int)) : decide (l = l) = true := decide_eq_true rfl

set_option maxHeartbeats 2000000 in
theorem bucketChunks_near (lo n k s : Int) (w : World) (hlo : 0 ≤ lo ∧ lo ≤ 65535) (hn : 0 ≤ n ∧ n ≤ 65535) (hk : k ≤ 500) (hs : s ≤ 9223372036854775807) :
    Calls Try.prog 12 #[.int .u16 lo, .int .u16 n, .agg #[.int .i64 k, .int .i64 s]] w fun e w' => e = .returned (.bool true) ∧ Below w.heap.size w w' := by
  obtain ⟨hlo0, hlo1⟩ := hlo
  obtain ⟨hn0, hn1⟩ := hn
  obtain ⟨d, hd⟩ : ∃ d, n % 600 = d := ⟨_, rfl⟩
  obtain ⟨hi, hhi⟩ : ∃ hi, lo + d = hi := ⟨_, rfl⟩
  have hd0 : 0 ≤ d ∧ d < 600 := by omega
  have HCh := Lib.hid (fun W => chunks_any lo hi s W hlo0 (by omega) (by omega) hs)
  have HRf := Lib.hid (fun W => refChunks_any lo hi s W hlo0 (by omega) (by omega) hs)
  have HMs := Lib.hid (fun W => messages_any lo hi k s W hlo0 (by omega) (by omega) (by omega) hs)
  have HRM := Lib.hid (fun W => refMessages_any lo hi k s W hlo0 (by omega) (by omega) (by omega) hs)
  have hlen : (chunksL lo hi s).length ≤ 1000000 := by
    rw [chunksL_length]
    have := cnt_le (hi - lo).toNat s.toNat
    omega
  obtain ⟨m, hm⟩ : ∃ m, (chunksL lo hi s).length = m := ⟨_, rfl⟩
  obtain ⟨q, hq⟩ : ∃ q, msgsF s (segsL lo hi k) = q := ⟨_, rfl⟩
  rw [hm] at HCh HRf hlen
  rw [hq] at HMs HRM
  have HM := Lib.hid hm
  have h500 : ¬ 500 < k := by omega
  clear hm hq
  go_enter Try.func12, Try.ntmps12
  go_wp2_with fail
  go_quiet (fail)
  go_wp2_with fail
  obtain ⟨W1, hW1⟩ : ∃ W1, ((w.alloc (.cells #[.int .i64 k, .int .i64 s] 60)).drewN nq).alloc (.cells #[.int .i64 lo, .int .i64 hi] 30) = W1 := ⟨_, rfl⟩
  have k1 : Below w.heap.size w W1 := by rw [← hW1]; exact (((Kept.of (Below.refl _ w)).alloc _).drewN nq |>.alloc _).2.2
  have b1 : Blk W1 (w.heap.size + 1) 30 #[.int .i64 lo, .int .i64 hi] := by rw [← hW1]; exact Blk.new' _ _ (by simp)
  have c0 : W1.cell? ⟨w.heap.size + 1, 0, none⟩ = some (.int .i64 lo) := b1.cell 0
  have c1 : W1.cell? ⟨w.heap.size + 1, 1, none⟩ = some (.int .i64 hi) := b1.cell 1
  have lt1 := b1.lt
  rw [hW1]
  have HK1 := Lib.hid k1
  have HBk := Lib.hid (fun A c W h => back15_any A m c (chunksL lo hi s) W HM.out h hlen)
  have HEq := Lib.hid (fun A B c d W h h' => equalRef_any A B m m c d (chunksL lo hi s) (chunksL lo hi s) W HM.out HM.out h h' hlen hlen)
  clear hW1 k1 b1
  go_region_held3 (fun w' => Kept W1 w') (first | exact kk | exact kk.alloc _ | exact Kept.start W1) (first
    | (go_at_call 27; (with_reducible refine (alive15_any _).mono ?_); rintro e w2 ⟨rfl, hb2⟩; have kk := (Kept.start W1).call hb2; clear hb2)
    | (go_at_call 45; (with_reducible refine (HCh.out _).mono ?_); rintro e w3 ⟨A3, c3, rfl, hown, hb3⟩; replace kk := kk.call hb3; have HR3 := Lib.hid (Rd.of_own hown); clear hown hb3)
    | (go_at_call 29; (with_reducible refine (HBk.out _ _ _ HR3.out).mono ?_); rintro e w4 ⟨A4, c4, rfl, hown, hb4⟩; replace kk := kk.call hb4; have HR4 := Lib.hid (Rd.of_own hown); clear hown hb4)
    | (go_at_call 46; (with_reducible refine (HRf.out _).mono ?_); rintro e w5 ⟨A5, c5, rfl, hown, hb5⟩; replace kk := kk.call hb5; replace HR4 := Lib.hid (HR4.out.below hb5); have HR5 := Lib.hid (Rd.of_own hown); clear hown hb5)
    | (go_at_call 28; (with_reducible refine (HEq.out _ _ _ _ _ HR4.out HR5.out).mono ?_); rintro e w6 ⟨rfl, hb6⟩; replace kk := kk.call hb6; clear hb6; try rw [segs_same])
    | (go_at_call 47; (with_reducible refine (HMs.out _).mono ?_); rintro e w7 ⟨rfl, hb7⟩; replace kk := kk.call hb7; clear hb7)
    | (go_at_call 48; (with_reducible refine (HRM.out _).mono ?_); rintro e w8 ⟨rfl, hb8⟩; replace kk := kk.call hb8; clear hb8))
  all_goals go_wp2_with fail
  all_goals go_ret
  all_goals exact ⟨rfl, ((Kept.of HK1.out).call kk.2.2).2.2⟩

theorem bucketChunks_any (lo n k s : Int) (w : World) (hlo : 0 ≤ lo ∧ lo ≤ 65535) (hn : 0 ≤ n ∧ n ≤ 65535) (hk : -9223372036854775808 ≤ k ∧ k ≤ 9223372036854775807) (hs : -9223372036854775808 ≤ s ∧ s ≤ 9223372036854775807) :
    Calls Try.prog 12 #[.int .u16 lo, .int .u16 n, .agg #[.int .i64 k, .int .i64 s]] w fun e w' => e = .returned (.bool true) ∧ Below w.heap.size w w' := by
  by_cases h : 500 < k
  · exact bucketChunks_big lo n k s w h
  · exact bucketChunks_near lo n k s w hlo hn (by omega) hs.2

end Go.Proofs.Ytmnmjjackffnjaa
