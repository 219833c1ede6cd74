/-
  BucketSegments: the walk.
-/
import Derived.Test.YtmnmjjackffnjaaBucket
import Derived.Test.YtmnmjjackffnjaaSegs2
namespace Go.Proofs.Ytmnmjjackffnjaa
set_option linter.unusedVariables false
set_option linter.unusedSimpArgs false
open Go.RowKit

set_option maxHeartbeats 400000 in
theorem bucketSegments_big (lo n k : Int) (w : World) (h : 500 < k) :
    Calls Try.prog 11 #[.int .u16 lo, .int .u16 n, .int .i64 k] w fun e w' => e = .returned (.bool true) ∧ Below w.heap.size w w' := by
  go_enter Try.func11, Try.ntmps11
  go_wp2_with fail
  ((with_reducible refine (alive15_any _).mono ?_); rintro e w1 ⟨rfl, hb1⟩)
  go_wp2
  go_ret
  exact ⟨rfl, hb1⟩

/-- What stands behind the ranges' comparison. -/
theorem segs_same (l : List (Int × Int)) : decide (l = l) = true := decide_eq_true rfl

set_option maxHeartbeats 2000000 in
theorem bucketSegments_none (lo n k : Int) (w : World) (hlo : 0 ≤ lo ∧ lo ≤ 65535) (hn : 0 ≤ n ∧ n ≤ 65535) (hk : k ≤ 500) (hk1 : k < 1) :
    Calls Try.prog 11 #[.int .u16 lo, .int .u16 n, .int .i64 k] w fun e w' => e = .returned (.bool true) ∧ Below w.heap.size w w' := by

  obtain ⟨hlo0, hlo1⟩ := hlo
  obtain ⟨hn0, hn1⟩ := hn
  obtain ⟨d, hd⟩ : ∃ d, n % 600 = d := ⟨_, rfl⟩
  obtain ⟨hi, hhi⟩ : ∃ hi, lo + d = hi := ⟨_, rfl⟩
  have hd0 : 0 ≤ d ∧ d < 600 := by omega
  have HSg := Lib.hid (fun W => segments_any lo hi k W hlo0 (by omega) (by omega) (by omega))
  have HRf := Lib.hid (fun W => refSegments_any lo hi k W hlo0 (by omega) (by omega) (by omega))
  have hlen := segsL_length lo hi k (by omega)
  have HLEN := Lib.hid hlen
  have hm : k.toNat ≤ 500 := by omega
  have HFst := Lib.hid (fun (h : 1 ≤ k) => segs_at lo hi k 0 (by omega) (by omega))
  have HLst := Lib.hid (fun (h : 1 ≤ k) => segs_at lo hi k (k.toNat - 1) (by omega) (by omega))
  have HD := Lib.hid hd
  have HH := Lib.hid hhi
  have h500 : ¬ 500 < k := by omega
  have hle : lo ≤ hi := by omega
  clear hlen
  go_enter Try.func11, Try.ntmps11
  go_wp2_with fail
  obtain ⟨w0, hw0⟩ : ∃ w0, w.alloc (.cells #[.int .i64 lo, .int .i64 hi] 30) = w0 := ⟨_, rfl⟩
  have k0 : Below w.heap.size w w0 := by rw [← hw0]; exact (Below.refl _ _).alloc (Nat.le_refl _) _
  have b0 : Blk w0 w.heap.size 30 #[.int .i64 lo, .int .i64 hi] := by rw [← hw0]; exact Blk.new _ _ _
  rw [hw0]
  clear hw0 hd hhi
  ((with_reducible refine (HSg.out _).mono ?_); rintro e W1 ⟨A, c, rfl, hown, hb1⟩)
  have k1 := ((Kept.of k0).call hb1).2.2
  have b1 := b0.kept hb1
  have c0 : W1.cell? ⟨w.heap.size, 0, none⟩ = some (.int .i64 lo) := b1.cell 0
  have c1 : W1.cell? ⟨w.heap.size, 1, none⟩ = some (.int .i64 hi) := b1.cell 1
  have lt1 := b1.lt
  rw [HLEN.out] at hown ⊢
  have HR := Lib.hid (Rd.of_own hown)
  have HBk := Lib.hid (fun W hb => back15_any A k.toNat c (segsL lo hi k) W HLEN.out (HR.out.below hb) (by omega))
  have HK1 := Lib.hid k1
  have HB1 := Lib.hid b1
  clear hown hb1 k0 b0 k1 b1
  go_wp2_with fail
  go_region_held3 (fun w' => Kept W1 w') (first | exact kk | exact kk.alloc _ | exact Kept.start W1) (first
    | (go_at_call 29; (with_reducible refine (HBk.out _ (Kept.start W1).2.2).mono ?_); rintro e w2 ⟨A2, c2, rfl, hown, hb2⟩; have kk := (Kept.start W1).call hb2; have HR2 := Lib.hid (Rd.of_own hown); clear hown hb2)
    | (go_at_call 44; (with_reducible refine (HRf.out _).mono ?_); rintro e w3 ⟨A3, c3, rfl, hown, hb3⟩; replace kk := kk.call hb3; replace HR2 := Lib.hid (HR2.out.below hb3); have HR3 := Lib.hid (Rd.of_own hown); clear hown hb3; rw [HLEN.out])
    | (go_at_call 28; (with_reducible refine (equalRef_any A2 A3 k.toNat k.toNat c2 c3 (segsL lo hi k) (segsL lo hi k) _ HLEN.out HLEN.out HR2.out (by have := HR3.out; rwa [HLEN.out] at this) (by omega) (by omega)).mono ?_); rintro e w4 ⟨rfl, hb4⟩; replace kk := kk.call hb4; clear hb4; rw [segs_same]))
  go_wp2_with fail
  have d1 : decide (k < 1) = true := decide_eq_true hk1
  have HKK := Lib.hid kk
  clear kk HRf HBk HR2 HR3 c0 c1
  refine wp_region_kept w4 (by kernel_rfl) (by kernel_rfl) (Kept.of (Below.refl _ _)) ?_
  repeat (go_big_quiet_step ((go_at_call 27; with_reducible exact kept_call (alive15_any _))))
  refine wpQuiet_nil ?_
  rintro _ ⟨⟨w9, k9⟩, rfl⟩
  go_wp2
  go_ret
  exact ⟨rfl, (((Kept.of HK1.out).call HKK.out.2.2).call k9.2.2).2.2⟩

set_option maxHeartbeats 2000000 in
theorem bucketSegments_some (lo n k : Int) (w : World) (hlo : 0 ≤ lo ∧ lo ≤ 65535) (hn : 0 ≤ n ∧ n ≤ 65535) (hk : k ≤ 500) (hk1 : 1 ≤ k) :
    Calls Try.prog 11 #[.int .u16 lo, .int .u16 n, .int .i64 k] w fun e w' => e = .returned (.bool true) ∧ Below w.heap.size w w' := by

  obtain ⟨hlo0, hlo1⟩ := hlo
  obtain ⟨hn0, hn1⟩ := hn
  obtain ⟨d, hd⟩ : ∃ d, n % 600 = d := ⟨_, rfl⟩
  obtain ⟨hi, hhi⟩ : ∃ hi, lo + d = hi := ⟨_, rfl⟩
  have hd0 : 0 ≤ d ∧ d < 600 := by omega
  have HSg := Lib.hid (fun W => segments_any lo hi k W hlo0 (by omega) (by omega) (by omega))
  have HRf := Lib.hid (fun W => refSegments_any lo hi k W hlo0 (by omega) (by omega) (by omega))
  have hlen := segsL_length lo hi k (by omega)
  have HLEN := Lib.hid hlen
  have hm : k.toNat ≤ 500 := by omega
  have HFst := Lib.hid (fun (h : 1 ≤ k) => segs_at lo hi k 0 (by omega) (by omega))
  have HLst := Lib.hid (fun (h : 1 ≤ k) => segs_at lo hi k (k.toNat - 1) (by omega) (by omega))
  have HD := Lib.hid hd
  have HH := Lib.hid hhi
  have h500 : ¬ 500 < k := by omega
  have hle : lo ≤ hi := by omega
  clear hlen
  go_enter Try.func11, Try.ntmps11
  go_wp2_with fail
  obtain ⟨w0, hw0⟩ : ∃ w0, w.alloc (.cells #[.int .i64 lo, .int .i64 hi] 30) = w0 := ⟨_, rfl⟩
  have k0 : Below w.heap.size w w0 := by rw [← hw0]; exact (Below.refl _ _).alloc (Nat.le_refl _) _
  have b0 : Blk w0 w.heap.size 30 #[.int .i64 lo, .int .i64 hi] := by rw [← hw0]; exact Blk.new _ _ _
  rw [hw0]
  clear hw0 hd hhi
  ((with_reducible refine (HSg.out _).mono ?_); rintro e W1 ⟨A, c, rfl, hown, hb1⟩)
  have k1 := ((Kept.of k0).call hb1).2.2
  have b1 := b0.kept hb1
  have c0 : W1.cell? ⟨w.heap.size, 0, none⟩ = some (.int .i64 lo) := b1.cell 0
  have c1 : W1.cell? ⟨w.heap.size, 1, none⟩ = some (.int .i64 hi) := b1.cell 1
  have lt1 := b1.lt
  rw [HLEN.out] at hown ⊢
  have HR := Lib.hid (Rd.of_own hown)
  have HO := Lib.hid hown
  have HB0 := Lib.hid b1
  have HBk := Lib.hid (fun W hb => back15_any A k.toNat c (segsL lo hi k) W HLEN.out (HR.out.below hb) (by omega))
  have HK1 := Lib.hid k1
  have HB1 := Lib.hid b1
  clear hown hb1 k0 b0 k1 b1
  go_wp2_with fail
  go_region_held3 (fun w' => Kept W1 w') (first | exact kk | exact kk.alloc _ | exact Kept.start W1) (first
    | (go_at_call 29; (with_reducible refine (HBk.out _ (Kept.start W1).2.2).mono ?_); rintro e w2 ⟨A2, c2, rfl, hown, hb2⟩; have kk := (Kept.start W1).call hb2; have HR2 := Lib.hid (Rd.of_own hown); clear hown hb2)
    | (go_at_call 44; (with_reducible refine (HRf.out _).mono ?_); rintro e w3 ⟨A3, c3, rfl, hown, hb3⟩; replace kk := kk.call hb3; replace HR2 := Lib.hid (HR2.out.below hb3); have HR3 := Lib.hid (Rd.of_own hown); clear hown hb3; rw [HLEN.out])
    | (go_at_call 28; (with_reducible refine (equalRef_any A2 A3 k.toNat k.toNat c2 c3 (segsL lo hi k) (segsL lo hi k) _ HLEN.out HLEN.out HR2.out (by have := HR3.out; rwa [HLEN.out] at this) (by omega) (by omega)).mono ?_); rintro e w4 ⟨rfl, hb4⟩; replace kk := kk.call hb4; clear hb4; rw [segs_same]))
  have HO4 := Lib.hid (own_below HO.out kk.2.2)
  have HB4 := Lib.hid (HB0.out.kept kk.2.2)
  have HKK := Lib.hid kk
  clear kk HRf HBk HR2 HR3 c0 c1
  obtain ⟨m, hm'⟩ : ∃ m, k.toNat = m := ⟨_, rfl⟩
  obtain ⟨p, hp⟩ : ∃ p, p + 1 = m := ⟨m - 1, by omega⟩
  have hF := HFst.out hk1
  have hL := HLst.out hk1
  have hO := HO4.out
  rw [hm'] at hL hO HLEN
  rw [show m - 1 = p by omega] at hL
  rw [bnd_zero, show ((0 : Nat) : Int) + lo = lo by omega] at hF
  rw [hp, bnd_k _ _ (by omega), show ((hi - lo).toNat : Int) + lo = hi by omega] at hL
  obtain ⟨_, _, qa, _, _, qb⟩ := own_form hO
  injection qa with qa
  subst qa
  obtain ⟨g, rfl, _, hg⟩ := qb (by omega)
  have hsl : (segsL lo hi k).length = m := HLEN.out
  have e0 : w4.cell? ⟨g, 0, none⟩ = some (.int .i64 lo) := by
    have h1 := rv_get (segsL lo hi k) 0 (by omega)
    obtain ⟨h2, h3⟩ := List.getElem?_eq_some_iff.1 hF
    rw [h3] at h1
    exact (hO.cellAt 0 (by omega)).trans h1.1
  have e1 : w4.cell? ⟨g, p * 2 + 1, none⟩ = some (.int .i64 hi) := by
    have h1 := rv_get (segsL lo hi k) p (by omega)
    obtain ⟨h2, h3⟩ := List.getElem?_eq_some_iff.1 hL
    rw [h3] at h1
    exact (hO.cellAt (p * 2 + 1) (by omega)).trans h1.2
  have c0 : w4.cell? ⟨w.heap.size, 0, none⟩ = some (.int .i64 lo) := HB4.out.cell 0
  have c1 : w4.cell? ⟨w.heap.size, 1, none⟩ = some (.int .i64 hi) := HB4.out.cell 1
  have lt4 := HB4.out.lt
  have a0 : W1.cell? ⟨w.heap.size, 0, none⟩ = some (.int .i64 lo) := HB1.out.cell 0
  have a1 : W1.cell? ⟨w.heap.size, 1, none⟩ = some (.int .i64 hi) := HB1.out.cell 1
  have d1 : decide (k < 1) = false := decide_eq_false (by omega)
  have hkm : (m : Int) = k := by rw [← hm']; exact Int.toNat_of_nonneg (by omega)
  have d2 : ((m : Int) == k) = true := beq_iff_eq.2 hkm
  have zz : IntKind.i64.wrap ((m : Int) - 1) = (p : Int) := by rw [← hp]; exact (wrap_ok _ (by clear hkm d1 d2; omega) (by clear hkm d1 d2; omega)).trans (by clear hkm d1 d2; omega)
  clear hkm
  have i1 : (0 : Int) ≤ (p : Int) := by omega
  have i2 : (p : Int) < (m : Int) := by omega
  have i3 : 0 < m := by omega
  rw [hm']
  clear hF hL hO qb hsl hm' hp HO4 HO HFst HLst HLEN
  go_wp2_with fail
  refine wp_region_kept w4 (by kernel_rfl) (by kernel_rfl) (Kept.of (Below.refl _ _)) ?_
  have KC := fun (u : KW w4) b o h => KW.cells u b o h
  repeat (go_big_quiet_step ((go_at_call 27; with_reducible exact kept_call (alive15_any _))))
  refine wpQuiet_nil ?_
  rintro _ ⟨⟨w9, k9⟩, rfl⟩
  clear KC
  go_wp2
  go_ret
  exact ⟨rfl, (((Kept.of HK1.out).call HKK.out.2.2).call k9.2.2).2.2⟩

theorem bucketSegments_any (lo n k : Int) (w : World) (hlo : 0 ≤ lo ∧ lo ≤ 65535) (hn : 0 ≤ n ∧ n ≤ 65535) (hk : -9223372036854775808 ≤ k ∧ k ≤ 9223372036854775807) :
    Calls Try.prog 11 #[.int .u16 lo, .int .u16 n, .int .i64 k] w fun e w' => e = .returned (.bool true) ∧ Below w.heap.size w w' := by
  by_cases h : 500 < k
  · exact bucketSegments_big lo n k w h
  · by_cases h1 : k < 1
    · exact bucketSegments_none lo n k w hlo hn (by omega) h1
    · exact bucketSegments_some lo n k w hlo hn (by omega) (by omega)

end Go.Proofs.Ytmnmjjackffnjaa
