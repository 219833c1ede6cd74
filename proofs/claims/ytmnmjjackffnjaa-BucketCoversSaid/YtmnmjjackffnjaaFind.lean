/-
  Contracts: Find and the reference's Find.
-/
import Derived.Test.YtmnmjjackffnjaaBucket
import Derived.Test.YtmnmjjackffnjaaFindPlain2
namespace Go.Proofs.Ytmnmjjackffnjaa
set_option linter.unusedVariables false
set_option linter.unusedSimpArgs false
open Go.RowKit

theorem buckets_all (n b : Int) (w : World) (hn0 : -9223372036854775808 ≤ n) (hn : n ≤ 1000000) (hb : b ≤ 9223372036854775807) :
    Calls Try.prog 30 #[.int .i64 n, .int .i64 b] w (OwnRet w 30 2 (bucketsI n b).length (rv (bucketsI n b))) := by
  by_cases h : n < 1 ∨ b < 1
  · have e : bucketsI n b = [] := by rw [bucketsI, blocksI_no h]; rfl
    rw [e]
    exact buckets_none n b w hn0 (by omega) hb h
  · obtain ⟨a, rfl⟩ := Int.eq_ofNat_of_zero_le (show 0 ≤ n by omega)
    obtain ⟨d, rfl⟩ := Int.eq_ofNat_of_zero_le (show 0 ≤ b by omega)
    have e : bucketsI a d = bucketsL a d := by rw [bucketsI, blocksI_nat a d (by omega) (by omega)]; rfl
    rw [e, bucketsL_length]
    exact buckets_any a d w (by omega) (by omega) (by omega) (by omega)
theorem refBuckets_all (n b : Int) (w : World) (hn : n ≤ 1000000) (hb : b ≤ 9223372036854775807) :
    Calls Try.prog 31 #[.int .i64 n, .int .i64 b] w (OwnRet w 23 2 (bucketsI n b).length (rv (bucketsI n b))) := by
  by_cases h : n < 1 ∨ b < 1
  · have e : bucketsI n b = [] := by rw [bucketsI, blocksI_no h]; rfl
    rw [e]
    exact refBuckets_none n b w h
  · obtain ⟨a, rfl⟩ := Int.eq_ofNat_of_zero_le (show 0 ≤ n by omega)
    obtain ⟨d, rfl⟩ := Int.eq_ofNat_of_zero_le (show 0 ≤ b by omega)
    have e : bucketsI a d = bucketsL a d := by rw [bucketsI, blocksI_nat a d (by omega) (by omega)]; rfl
    rw [e, bucketsL_length]
    exact refBuckets_any a d w (by omega) (by omega) (by omega) (by omega)
theorem buckets_le (n b : Int) (hn : n ≤ 1000000) : (bucketsI n b).length ≤ 1000000 := by
  rw [bucketsI, List.length_reverse, blocksI_length]
  have := cnt_le n.toNat b.toNat
  omega
theorem buckets_in (n b : Int) (k : Nat) (r : Int × Int) (h : (bucketsI n b)[k]? = some r) : 0 ≤ r.1 ∧ r.1 ≤ r.2 ∧ r.2 ≤ n := by
  obtain ⟨h1, h2, q, _, _, h3, e⟩ := bucketsI_at n b k (List.getElem?_eq_some_iff.1 h).1
  rw [e] at h
  injection h with h
  subst h
  dsimp only
  omega

set_option maxHeartbeats 1000000 in
theorem refFind_none (i n b w c : Int) (W : World) (hn : n ≤ 1000000) (hb : b ≤ 9223372036854775807) (h : ofL i (bucketsI n b) < 0 ∨ w < 1 ∨ c < 1) :
    Calls Try.prog 50 #[.int .i64 i, .int .i64 n, .int .i64 b, .int .i64 w, .int .i64 c] W fun e w' => e = .returned (.tuple #[.agg #[.int .i64 0, .int .i64 0, .int .i64 0], .bool false]) ∧ Below W.heap.size W w' := by
  have hle := buckets_le n b hn
  have C1 := fun W => refBuckets_all n b W hn hb
  have C2 := fun A c W h => refOf_any i A (bucketsI n b).length c (bucketsI n b) W rfl h hle
  generalize ofL i (bucketsI n b) = K at *
  generalize (bucketsI n b).length = m at *
  generalize rv (bucketsI n b) = cs at *
  have HC1 := Lib.hid C1
  have HC2 := Lib.hid C2
  have fin : Hid (∃ d1 d2 d3 : Bool, decide (K < 0) = d1 ∧ decide (w < 1) = d2 ∧ decide (c < 1) = d3 ∧ (d1 || d2 || d3) = true) := Lib.hid ⟨_, _, _, rfl, rfl, rfl, by simp; omega⟩
  obtain ⟨d1, d2, d3, e1, e2, e3, hd⟩ := fin.out
  clear C1 C2 h fin
  cases d1 <;> cases d2 <;> cases d3 <;> first | (simp at hd; done) | skip
  all_goals
    clear hd
    go_enter Try.func50, Try.ntmps50
    go_wp2_with fail
    obtain ⟨w0, hw0⟩ : ∃ w0, W.alloc (.cells #[.int .i64 0, .int .i64 0, .int .i64 0] 69) = w0 := ⟨_, rfl⟩
    have k0 : Below W.heap.size W w0 := by rw [← hw0]; exact (Below.refl _ _).alloc (Nat.le_refl _) _
    have P0 : Blk w0 W.heap.size 69 #[.int .i64 0, .int .i64 0, .int .i64 0] := by rw [← hw0]; exact Blk.new _ _ _
    rw [hw0]
    clear hw0
    ((with_reducible refine (HC1.out _).mono ?_); rintro e w1 ⟨A, cA, rfl, hown, hb1⟩)
    have HR := Lib.hid (Rd.of_own hown)
    have P1 := P0.kept hb1
    have k1 := ((Kept.of k0).call hb1).2.2
    clear hown hb1 P0 k0
    go_wp2_with fail
    ((with_reducible refine (HC2.out _ _ _ HR.out).mono ?_); rintro e w2 ⟨rfl, hb2⟩)
    have P2 := P1.kept hb2
    have k2 := ((Kept.of k1).call hb2).2.2
    have HP2 := Lib.hid P2
    have HK2 := Lib.hid k2
    have p0 : w2.cell? ⟨W.heap.size, 0, none⟩ = some (.int .i64 0) := P2.cell 0
    have p1 : w2.cell? ⟨W.heap.size, 1, none⟩ = some (.int .i64 0) := P2.cell 1
    have p2 : w2.cell? ⟨W.heap.size, 2, none⟩ = some (.int .i64 0) := P2.cell 2
    have f0 := P2.frozen 0
    have f1 := P2.frozen 1
    have f2 := P2.frozen 2
    have lp := P2.lt
    clear P1 k1 hb2 P2 k2
    go_wp2
    refine bodyPost_ret (v := .tuple #[.agg #[.int .i64 0, .int .i64 0, .int .i64 0], .bool false]) (by simp [results, Try.results50, go_sem, p0, p1, p2, lp]) rfl ⟨rfl, ?_⟩
    exact ((HK2.out.setCell (p := ⟨W.heap.size, 0, none⟩) (Nat.le_refl _) _).setCell (p := ⟨W.heap.size, 1, none⟩) (Nat.le_refl _) _).setCell (p := ⟨W.heap.size, 2, none⟩) (Nat.le_refl _) _

set_option maxHeartbeats 2000000 in
theorem refFind_some (i n b w c x y x2 y2 : Int) (k0 m0 : Nat) (W : World) (hn : n ≤ 1000000) (hb : b ≤ 9223372036854775807) (hw1 : 1 ≤ w) (hw2 : w ≤ 1000) (hc1 : 1 ≤ c) (hc : c ≤ 9223372036854775807)
    (h0 : (bucketsI n b)[k0]? = some (x, y)) (hK : ofL i (bucketsI n b) = (k0 : Int)) (hs : (segsL x y w)[m0]? = some (x2, y2)) (hM : ofL i (segsL x y w) = (m0 : Int)) :
    Calls Try.prog 50 #[.int .i64 i, .int .i64 n, .int .i64 b, .int .i64 w, .int .i64 c] W fun e w' => e = .returned (.tuple #[.agg #[.int .i64 k0, .int .i64 m0, .int .i64 (ofL i (chunksL x2 y2 c))], .bool true]) ∧ Below W.heap.size W w' := by
  have hle := buckets_le n b hn
  obtain ⟨q1, q2, q3⟩ := buckets_in n b k0 _ h0
  dsimp only at q1 q2 q3
  obtain ⟨s1, s2, s3⟩ := segs_in x y w q2 _ (List.mem_of_getElem? hs)
  dsimp only at s1 s2 s3
  have hk0 := (List.getElem?_eq_some_iff.1 h0).1
  have hm0 := (List.getElem?_eq_some_iff.1 hs).1
  have hsl := segsL_length x y w q2
  have hcl : (chunksL x2 y2 c).length ≤ 1000000 := by rw [chunksL_length]; have := cnt_le (y2 - x2).toNat c.toNat; omega
  have C1 := fun W => refBuckets_all n b W hn hb
  have C2 := fun A c W h => refOf_any i A (bucketsI n b).length c (bucketsI n b) W rfl h hle
  have C3 := fun W => refSegments_any x y w W q1 q2 (by omega) (by omega)
  have C4 := fun A c W h => refOf_any i A (segsL x y w).length c (segsL x y w) W rfl h (by omega)
  have C5 := fun W => refChunks_any x2 y2 c W (by omega) s2 (by omega) hc
  have C6 := fun A d W h => refOf_any i A (chunksL x2 y2 c).length d (chunksL x2 y2 c) W rfl h hcl
  rw [hK] at C2
  rw [hM] at C4
  have HX := Lib.hid h0
  have HY := Lib.hid hs
  obtain ⟨nb, hnb⟩ : ∃ v, (bucketsI n b).length = v := ⟨_, rfl⟩
  obtain ⟨ns, hns⟩ : ∃ v, (segsL x y w).length = v := ⟨_, rfl⟩
  obtain ⟨nc, hnc⟩ : ∃ v, (chunksL x2 y2 c).length = v := ⟨_, rfl⟩
  rw [hnb] at C1 C2 hk0
  rw [hns] at C3 C4 hm0
  rw [hnc] at C5 C6
  have HNB := Lib.hid hnb
  have HNS := Lib.hid hns
  generalize ofL i (chunksL x2 y2 c) = R at *
  have HC1 := Lib.hid C1
  have HC2 := Lib.hid C2
  have HC3 := Lib.hid C3
  have HC4 := Lib.hid C4
  have HC5 := Lib.hid C5
  have HC6 := Lib.hid C6
  have d1 : decide ((k0 : Int) < 0) = false := decide_eq_false (by omega)
  have i1 : (0 : Int) ≤ (k0 : Int) := by omega
  have i2 : (k0 : Int) < (nb : Int) := by omega
  have i3 : (0 : Int) ≤ (m0 : Int) := by omega
  have i4 : (m0 : Int) < (ns : Int) := by omega
  clear C1 C2 C3 C4 C5 C6 h0 hK hs hM hnb hns hnc hsl
  go_enter Try.func50, Try.ntmps50
  go_wp2_with fail
  obtain ⟨w0, hw0⟩ : ∃ w0, W.alloc (.cells #[.int .i64 0, .int .i64 0, .int .i64 0] 69) = w0 := ⟨_, rfl⟩
  have k00 : Below W.heap.size W w0 := by rw [← hw0]; exact (Below.refl _ _).alloc (Nat.le_refl _) _
  have P0 : Blk w0 W.heap.size 69 #[.int .i64 0, .int .i64 0, .int .i64 0] := by rw [← hw0]; exact Blk.new _ _ _
  rw [hw0]
  clear hw0
  ((with_reducible refine (HC1.out _).mono ?_); rintro e w1 ⟨A, cA, rfl, hown, hb1⟩)
  have hRd := Rd.of_own hown
  obtain ⟨g, o, x', y', hA, hg, hxy, c0, c1⟩ := rd_at HNB.out hRd hk0
  subst hA
  rw [HX.out] at hxy
  injection hxy with hxy
  injection hxy with f1 f2
  subst f1 f2
  have HR := Lib.hid hRd
  have P1 := P0.kept hb1
  have k1 := ((Kept.of k00).call hb1).2.2
  clear hown hb1 P0 k00 hRd
  go_wp2_with fail
  ((with_reducible refine (HC2.out _ _ _ HR.out).mono ?_); rintro e w2 ⟨rfl, hb2⟩)
  have P2 := P1.kept hb2
  have k2 := ((Kept.of k1).call hb2).2.2
  replace c0 := (hb2.cell (p := ⟨g, o + k0 * 2, none⟩) hg).trans c0
  replace c1 := (hb2.cell (p := ⟨g, o + k0 * 2 + 1, none⟩) hg).trans c1
  clear P1 k1 hb2 hg
  go_wp2_with fail
  ((with_reducible refine (HC3.out _).mono ?_); rintro e w3 ⟨A3, c3, rfl, hown3, hb3⟩)
  have hRd := Rd.of_own hown3
  obtain ⟨g3, o3, x', y', hA, hg, hxy, d0, d1'⟩ := rd_at HNS.out hRd hm0
  subst hA
  rw [HY.out] at hxy
  injection hxy with hxy
  injection hxy with f1 f2
  subst f1 f2
  have HR3 := Lib.hid hRd
  have P3 := P2.kept hb3
  have k3 := ((Kept.of k2).call hb3).2.2
  clear hown3 hb3 P2 k2 hRd c0 c1
  go_wp2_with fail
  ((with_reducible refine (HC4.out _ _ _ HR3.out).mono ?_); rintro e w4 ⟨rfl, hb4⟩)
  have P4 := P3.kept hb4
  have k4 := ((Kept.of k3).call hb4).2.2
  replace d0 := (hb4.cell (p := ⟨g3, o3 + m0 * 2, none⟩) hg).trans d0
  replace d1' := (hb4.cell (p := ⟨g3, o3 + m0 * 2 + 1, none⟩) hg).trans d1'
  clear P3 k3 hb4 hg
  go_wp2_with fail
  ((with_reducible refine (HC5.out _).mono ?_); rintro e w5 ⟨A5, c5, rfl, hown5, hb5⟩)
  have HR5 := Lib.hid (Rd.of_own hown5)
  have P5 := P4.kept hb5
  have k5 := ((Kept.of k4).call hb5).2.2
  clear hown5 hb5 P4 k4 d0 d1'
  go_wp2_with fail
  ((with_reducible refine (HC6.out _ _ _ HR5.out).mono ?_); rintro e w6 ⟨rfl, hb6⟩)
  have P6 := P5.kept hb6
  have HK6 := Lib.hid (((Kept.of k5).call hb6).2.2)
  have p0 : w6.cell? ⟨W.heap.size, 0, none⟩ = some (.int .i64 0) := P6.cell 0
  have p1 : w6.cell? ⟨W.heap.size, 1, none⟩ = some (.int .i64 0) := P6.cell 1
  have p2 : w6.cell? ⟨W.heap.size, 2, none⟩ = some (.int .i64 0) := P6.cell 2
  have z0 := P6.frozen 0
  have z1 := P6.frozen 1
  have z2 := P6.frozen 2
  have lp := P6.lt
  clear P5 k5 hb6 P6
  go_wp2
  refine bodyPost_ret (v := .tuple #[.agg #[.int .i64 k0, .int .i64 m0, .int .i64 R], .bool true]) (by simp [results, Try.results50, go_sem, p0, p1, p2, lp]) rfl ⟨rfl, ?_⟩
  exact ((HK6.out.setCell (p := ⟨W.heap.size, 0, none⟩) (Nat.le_refl _) _).setCell (p := ⟨W.heap.size, 1, none⟩) (Nat.le_refl _) _).setCell (p := ⟨W.heap.size, 2, none⟩) (Nat.le_refl _) _

end Go.Proofs.Ytmnmjjackffnjaa
