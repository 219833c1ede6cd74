/-
  The reference's rounds.
-/
import Derived.Test.YtkecpbdgcbgogaaRoundIn
namespace Go.Proofs.Ytkecpbdgcbgogaa
set_option linter.unusedVariables false
set_option linter.unusedSimpArgs false
open Go.RowKit

set_option maxHeartbeats 1000000 in
theorem refChunks19_any (s b lo hi m c : Int) (q : Nat) (w : World) (h0 : 0 ≤ lo) (h1 : lo ≤ hi) (h2 : hi ≤ 1000) (hm2 : m ≤ 1000) (hq : (q : Int) < m) (hc : c ≤ 9223372036854775807) :
    Calls Try.prog 51 #[jobV s b lo hi m c, .int .i64 q] w (OwnRet w 23 2 (chS lo hi m c q).length (rv (chS lo hi m c q))) := by
  have CSg := fun W => refSegments_any lo hi m W h0 h1 (by omega) (by omega)
  have hlen := segsL_length lo hi m h1
  rw [hlen] at CSg
  obtain ⟨n, hn⟩ : ∃ n, m.toNat = n := ⟨_, rfl⟩
  rw [hn] at CSg hlen
  have HCSg := Lib.hid CSg
  obtain ⟨a1, a2, a3⟩ := segR_in lo hi m q h1 hq
  have HA1 := Lib.hid (segs_at lo hi m q h1 hq)
  obtain ⟨x1, hx1'⟩ : ∃ v, (segR lo hi m q).1 = v := ⟨_, rfl⟩
  obtain ⟨y1, hy1'⟩ : ∃ v, (segR lo hi m q).2 = v := ⟨_, rfl⟩
  rw [hx1', hy1'] at a2
  rw [hx1'] at a1
  rw [hy1'] at a3
  have HC1 := Lib.hid (fun W => refChunks_any x1 y1 c W (by omega) a2 (by omega) hc)
  have e1 : chS lo hi m c q = chunksL x1 y1 c := by rw [chS, hx1', hy1']
  have HA1' : Hid ((segsL lo hi m)[q]? = some (x1, y1)) := Lib.hid (by rw [HA1.out, ← hx1', ← hy1']; rfl)
  rw [e1]
  have HL := Lib.hid hlen
  have i1 : (0 : Int) ≤ (q : Int) := by omega
  have i2 : (q : Int) < (n : Int) := by omega
  obtain ⟨W0, hW0⟩ : ∃ W0, w.alloc (.cells #[.int .i64 s, .int .i64 b, .int .i64 lo, .int .i64 hi, .int .i64 m, .int .i64 c] 25) = W0 := ⟨_, rfl⟩
  have k0 : Below w.heap.size w W0 := by rw [← hW0]; exact (Below.refl _ _).alloc (Nat.le_refl _) _
  have J0 : Blk W0 w.heap.size 25 #[.int .i64 s, .int .i64 b, .int .i64 lo, .int .i64 hi, .int .i64 m, .int .i64 c] := by rw [← hW0]; exact Blk.new w _ _
  have j2 : W0.cell? ⟨w.heap.size, 2, none⟩ = some (.int .i64 lo) := J0.cell 2
  have j3 : W0.cell? ⟨w.heap.size, 3, none⟩ = some (.int .i64 hi) := J0.cell 3
  have j4 : W0.cell? ⟨w.heap.size, 4, none⟩ = some (.int .i64 m) := J0.cell 4
  have j5 : W0.cell? ⟨w.heap.size, 5, none⟩ = some (.int .i64 c) := J0.cell 5
  have lj := J0.lt
  have HK0 := Lib.hid k0
  have HW0 := Lib.hid hW0
  clear e1 hx1' hy1' CSg HA1 hlen hn hW0 k0 J0
  go_enter Try.func51, Try.ntmps51
  go_wp2_with fail
  rw [HW0.out]
  clear HW0
  refine wp_region_early (Kept W0) [0, 1, 2, 3, 5, 8, 9] [4, 6, 7] [10, 11] (by kernel_rfl) (by kernel_rfl) (Kept.start W0) ?_
  simp only [List.filterMap_cons, List.filterMap_nil, List.getElem?_cons_succ, List.getElem?_cons_zero]
  refine early_step (.pointer (some ⟨w.heap.size, 2, none⟩)) rfl (fun W hW => ?_) ?_
  · obtain ⟨hc, -, -⟩ := hW
    go_simp
  go_simp
  refine early_step (.agg #[.int .i64 lo, .int .i64 hi]) rfl (fun W hW => ?_) ?_
  · obtain ⟨hc, -, -⟩ := hW
    go_simp
  go_simp
  refine early_step (.pointer (some ⟨w.heap.size, 4, none⟩)) rfl (fun W hW => ?_) ?_
  · obtain ⟨hc, -, -⟩ := hW
    go_simp
  go_simp
  refine early_step (.int .i64 m) rfl (fun W hW => ?_) ?_
  · obtain ⟨hc, -, -⟩ := hW
    go_simp
  go_simp
  refine early_step (.int .i64 q) rfl (fun W hW => ?_) ?_
  · obtain ⟨hc, -, -⟩ := hW
    go_simp
  go_simp
  refine early_step (.pointer (some ⟨w.heap.size, 5, none⟩)) rfl (fun W hW => ?_) ?_
  · obtain ⟨hc, -, -⟩ := hW
    go_simp
  go_simp
  refine early_step (.int .i64 c) rfl (fun W hW => ?_) ?_
  · obtain ⟨hc, -, -⟩ := hW
    go_simp
  go_simp
  change RestW _ _ _ _ _ (_ :: _ :: _ :: []) _ _
  unfold RestW
  go_wp2_with fail
  ((with_reducible refine (HCSg.out _).mono ?_); rintro e w2 ⟨A, cA, rfl, hown, hb2⟩)
  have kk := (Kept.start W0).call hb2
  obtain ⟨g, o, x', y', rfl, hg, hxy, d0, d1⟩ := rd_at HL.out (Rd.of_own hown) (show q < n by omega)
  rw [HA1'.out] at hxy
  injection hxy with hxy
  injection hxy with f1 f2
  subst f1 f2
  have HKK := Lib.hid kk
  clear hown hb2 kk
  go_wp2_with fail
  refine ⟨HKK.out, ?_⟩
  unfold RestW
  go_wp2_with fail
  refine ⟨HKK.out, ?_⟩
  unfold RestW
  go_wp2_with fail
  refine ⟨HKK.out, ?_⟩
  unfold RestW
  change wpList _ _ _ (_ :: _ :: []) _ _
  go_wp2_with fail
  ((with_reducible refine (HC1.out _).mono ?_); rintro e w4 ⟨A', c', rfl, hown4, hb4⟩)
  have HO4 := Lib.hid (own_base hown4 HKK.out.2.1)
  have kk := HKK.out.call hb4
  clear hown4 hb4
  go_wp2_with fail
  refine NoPanic.normal ?_
  go_wp2_with fail
  go_ret
  exact ⟨A', c', rfl, own_base HO4.out HK0.out.size, ((Kept.of HK0.out).call kk.2.2).2.2⟩

set_option maxHeartbeats 400000 in
theorem refRound_out (s b lo hi m c x p r : Int) (w : World) (hm1 : 1 ≤ m) (hm2 : m ≤ 1000000) (h : x < 0 ∨ m ≤ x ∨ p < 0 ∨ 1 < p ∨ r < 0 ∨ m - 1 ≤ r) :
    Calls Try.prog 18 #[jobV s b lo hi m c, .int .i64 x, .int .i64 p, .int .i64 r] w fun e w' => e = .returned (.slice none 0 0) ∧ Below w.heap.size w w' := by
  have HS := Lib.hid (fun z W => refSegment_out s b lo hi m c x p r z W hm1 hm2 h)
  clear h
  go_enter Try.func18, Try.ntmps18
  go_wp2_with fail
  ((with_reducible refine (HS.out _ _).mono ?_); rintro e w1 ⟨rfl, hb1⟩)
  go_wp2_with fail
  go_ret
  exact ⟨rfl, (((Kept.of (Below.refl _ w)).alloc _).call hb1).2.2⟩

set_option maxRecDepth 100000 in
set_option maxHeartbeats 4000000 in
theorem refRound_in (s b lo hi m c x p r : Int) (w : World) (h0 : 0 ≤ lo) (h1 : lo ≤ hi) (h2 : hi ≤ 1000) (hm2 : m ≤ 1000) (hx1 : 0 ≤ x) (hx2 : x < m) (hp : p = 0 ∨ p = 1) (hr1 : 0 ≤ r) (hr2 : r < m - 1) (hc : c ≤ 9223372036854775807) :
    Calls Try.prog 18 #[jobV s b lo hi m c, .int .i64 x, .int .i64 p, .int .i64 r] w (OwnRet w 85 9 (roundR s b lo hi m c x p r).length (acts (roundR s b lo hi m c x p r))) := by
  have z1 := Int.emod_nonneg (x - r + p) (b := m) (by omega)
  have z2 := Int.emod_lt_of_pos (x - r + p) (b := m) (by omega)
  have z3 := Int.emod_nonneg (x - r + p - 1) (b := m) (by omega)
  have z4 := Int.emod_lt_of_pos (x - r + p - 1) (b := m) (by omega)
  obtain ⟨q1, hq1⟩ := Int.eq_ofNat_of_zero_le z1
  obtain ⟨q2, hq2⟩ := Int.eq_ofNat_of_zero_le z3
  have e : roundR s b lo hi m c x p r = roundL s b p r (chS lo hi m c q1) (chS lo hi m c q2) := by unfold roundR; rw [hq1, hq2]; rfl
  rw [e]
  have CS := fun W => refSegment_in s b lo hi m c x p r true W (by omega) (by omega) hx1 hx2 (by omega) (by omega) hr1 hr2
  have CR := fun W => refSegment_in s b lo hi m c x p r false W (by omega) (by omega) hx1 hx2 (by omega) (by omega) hr1 hr2
  simp only [if_true] at CS
  rw [hq1] at CS z2
  simp only [Bool.false_eq_true, if_false] at CR
  rw [hq2] at CR z4
  have HCS := Lib.hid CS
  have HCR := Lib.hid CR
  have hle1 := chS_le lo hi m c q1 h1 (by omega) h0 z2
  have hle2 := chS_le lo hi m c q2 h1 (by omega) h0 z4
  have HC1 := Lib.hid (fun W => refChunks19_any s b lo hi m c q1 W h0 h1 h2 hm2 z2 hc)
  have HC2 := Lib.hid (fun W => refChunks19_any s b lo hi m c q2 W h0 h1 h2 hm2 z4 hc)
  obtain ⟨xs, hxs⟩ : ∃ v, chS lo hi m c q1 = v := ⟨_, rfl⟩
  obtain ⟨ys, hys⟩ : ∃ v, chS lo hi m c q2 = v := ⟨_, rfl⟩
  rw [hxs] at HC1 hle1 ⊢
  rw [hys] at HC2 hle2 ⊢
  obtain ⟨n1, hn1⟩ : ∃ v, xs.length = v := ⟨_, rfl⟩
  obtain ⟨n2, hn2⟩ : ∃ v, ys.length = v := ⟨_, rfl⟩
  rw [hn1] at HC1 hle1
  rw [hn2] at HC2 hle2
  have HN1 := Lib.hid hn1
  have HN2 := Lib.hid hn2
  obtain ⟨pb, hpb⟩ : ∃ pb, decide (p = 0) = pb := ⟨_, rfl⟩
  have hpe : (p == 0) = pb := by rw [← hpb]; rfl
  have HPB := Lib.hid hpb
  clear e hxs hys hn1 hn2 CS CR hq1 hq2 z1 z3 hpb
  go_enter Try.func18, Try.ntmps18
  go_wp2_with fail
  obtain ⟨w0, hw0⟩ : ∃ w0, w.alloc (.cells #[.int .i64 s, .int .i64 b, .int .i64 lo, .int .i64 hi, .int .i64 m, .int .i64 c] 25) = w0 := ⟨_, rfl⟩
  have k0 : Below w.heap.size w w0 := by rw [← hw0]; exact (Below.refl _ _).alloc (Nat.le_refl _) _
  have J0 : Blk w0 w.heap.size 25 #[.int .i64 s, .int .i64 b, .int .i64 lo, .int .i64 hi, .int .i64 m, .int .i64 c] := by rw [← hw0]; exact Blk.new w _ _
  rw [hw0]
  clear hw0
  ((with_reducible refine (HCS.out _).mono ?_); rintro e wa ⟨rfl, hba⟩)
  have Ja := J0.kept hba
  have ka := ((Kept.of k0).call hba).2.2
  have j0 : wa.cell? ⟨w.heap.size, 0, none⟩ = some (.int .i64 s) := Ja.cell 0
  have j1 : wa.cell? ⟨w.heap.size, 1, none⟩ = some (.int .i64 b) := Ja.cell 1
  have j2 : wa.cell? ⟨w.heap.size, 2, none⟩ = some (.int .i64 lo) := Ja.cell 2
  have j3 : wa.cell? ⟨w.heap.size, 3, none⟩ = some (.int .i64 hi) := Ja.cell 3
  have j4 : wa.cell? ⟨w.heap.size, 4, none⟩ = some (.int .i64 m) := Ja.cell 4
  have j5 : wa.cell? ⟨w.heap.size, 5, none⟩ = some (.int .i64 c) := Ja.cell 5
  clear hba J0 k0
  go_wp2_with fail
  ((with_reducible refine (HCR.out _).mono ?_); rintro e wb ⟨rfl, hbb⟩)
  have Jb := Ja.kept hbb
  have kb := ((Kept.of ka).call hbb).2.2
  clear j0 j1 j2 j3 j4 j5 hbb Ja ka
  have j0 : wb.cell? ⟨w.heap.size, 0, none⟩ = some (.int .i64 s) := Jb.cell 0
  have j1 : wb.cell? ⟨w.heap.size, 1, none⟩ = some (.int .i64 b) := Jb.cell 1
  have j2 : wb.cell? ⟨w.heap.size, 2, none⟩ = some (.int .i64 lo) := Jb.cell 2
  have j3 : wb.cell? ⟨w.heap.size, 3, none⟩ = some (.int .i64 hi) := Jb.cell 3
  have j4 : wb.cell? ⟨w.heap.size, 4, none⟩ = some (.int .i64 m) := Jb.cell 4
  have j5 : wb.cell? ⟨w.heap.size, 5, none⟩ = some (.int .i64 c) := Jb.cell 5
  go_wp2_with fail
  ((with_reducible refine (HC1.out _).mono ?_); rintro e wc ⟨A1, c1, rfl, hown1, hbc⟩)
  have Jc := Jb.kept hbc
  have kc := ((Kept.of kb).call hbc).2.2
  have HO1 := Lib.hid hown1
  clear j0 j1 j2 j3 j4 j5 hbc Jb kb hown1
  have j0 : wc.cell? ⟨w.heap.size, 0, none⟩ = some (.int .i64 s) := Jc.cell 0
  have j1 : wc.cell? ⟨w.heap.size, 1, none⟩ = some (.int .i64 b) := Jc.cell 1
  have j2 : wc.cell? ⟨w.heap.size, 2, none⟩ = some (.int .i64 lo) := Jc.cell 2
  have j3 : wc.cell? ⟨w.heap.size, 3, none⟩ = some (.int .i64 hi) := Jc.cell 3
  have j4 : wc.cell? ⟨w.heap.size, 4, none⟩ = some (.int .i64 m) := Jc.cell 4
  have j5 : wc.cell? ⟨w.heap.size, 5, none⟩ = some (.int .i64 c) := Jc.cell 5
  go_wp2_with fail
  ((with_reducible refine (HC2.out _).mono ?_); rintro e wd ⟨A2, c2, rfl, hown2, hbd⟩)
  have HJd := Lib.hid (Jc.kept hbd)
  have HKd := Lib.hid (((Kept.of kc).call hbd).2.2)
  have HX := Lib.hid ((Rd.of_own HO1.out).below hbd)
  have HY := Lib.hid (Rd.of_own hown2)
  clear j0 j1 j2 j3 j4 j5 hbd Jc kc hown2 HO1
  go_wp2_with fail
  go_loopw [15, 16] (fun v i wr => ∃ k n : Nat, k ≤ max n1 n2 ∧ i = .int .i64 k ∧ CollA wd 85 n (rdTo s b p r xs ys k) v wr) (fun _ i _ => max n1 n2 - (intOf i).toNat)
  case atStart => exact ⟨0, 0, by omega, rfl, by simpa [rdTo] using CollA.start wd _⟩
  case round =>
    obtain ⟨k, n, hk, rfl, hcoll⟩ := hrel
    have hrl := rdTo_le s b p r xs ys k
    rw [hcoll.len] at hrl
    have Jr := HJd.out.below hcoll.2.2 HJd.out.lt
    have rX := HX.out.below hcoll.2.2
    have rY := HY.out.below hcoll.2.2
    have j0 : wr.cell? ⟨w.heap.size, 0, none⟩ = some (.int .i64 s) := Jr.cell 0
    have j1 : wr.cell? ⟨w.heap.size, 1, none⟩ = some (.int .i64 b) := Jr.cell 1
    have j2 : wr.cell? ⟨w.heap.size, 2, none⟩ = some (.int .i64 lo) := Jr.cell 2
    have j3 : wr.cell? ⟨w.heap.size, 3, none⟩ = some (.int .i64 hi) := Jr.cell 3
    have j4 : wr.cell? ⟨w.heap.size, 4, none⟩ = some (.int .i64 m) := Jr.cell 4
    have j5 : wr.cell? ⟨w.heap.size, 5, none⟩ = some (.int .i64 c) := Jr.cell 5
    have lj := Jr.lt
    have HCo := Lib.hid hcoll
    have hzr := hcoll.2.2.size
    obtain ⟨⟨Av, cv, rfl⟩, hownv, _⟩ := hcoll
    have HOv := Lib.hid hownv
    have i1 : (0 : Int) ≤ (k : Int) := by omega
    clear hownv Jr
    by_cases hlt : k < max n1 n2
    · by_cases hc1 : k < n1
      · go_upto_if 65 with (fail)
        obtain ⟨w1, hw1⟩ : ∃ w1, wr.alloc (.cells #[.int .i64 s, .int .i64 b, .int .i64 p, .int .i64 r, .int .i64 k] 74) = w1 := ⟨_, rfl⟩
        have k1 : Below wr.heap.size wr w1 := by rw [← hw1]; exact (Below.refl _ _).alloc (Nat.le_refl _) _
        have T1 : Blk w1 wr.heap.size 74 #[.int .i64 s, .int .i64 b, .int .i64 p, .int .i64 r, .int .i64 k] := by rw [← hw1]; exact Blk.new _ _ _
        rw [hw1]
        clear hw1 j0 j1 j2 j3 j4 j5
        have HT1 := Lib.hid T1
        have HCo1 := Lib.hid (HCo.out.below k1)
        have HO1 := Lib.hid (own_below HOv.out k1)
        have HX1 := Lib.hid (rX.below k1)
        have HY1 := Lib.hid (rY.below k1)
        have hz1 : wd.heap.size ≤ w1.heap.size := Nat.le_trans hzr k1.size
        clear k1 T1 rX rY HOv
        go_cut [15] (fun v wq => ∃ n', n' ≤ n + 1 ∧ CollA wd 85 n' (rdTo s b p r xs ys k ++ sendAt s b p r xs k) v wq ∧ Blk wq wr.heap.size 74 #[.int .i64 s, .int .i64 b, .int .i64 p, .int .i64 r, .int .i64 k])
        case first =>
          obtain ⟨g1, o1, x1, y1, rfl, hg1, hx, d0, d1⟩ := rd_at HN1.out HX1.out hc1
          have i2 : (k : Int) < (n1 : Int) := by omega
          have HXn : Hid (sendAt s b p r xs k = [((true, false), (s, b, p, r, (k : Int)), (x1, y1))]) := Lib.hid (by unfold sendAt; rw [hx])
          have q0 : w1.cell? ⟨wr.heap.size, 0, none⟩ = some (.int .i64 s) := HT1.out.cell 0
          have q1c : w1.cell? ⟨wr.heap.size, 1, none⟩ = some (.int .i64 b) := HT1.out.cell 1
          have q2c : w1.cell? ⟨wr.heap.size, 2, none⟩ = some (.int .i64 p) := HT1.out.cell 2
          have q3c : w1.cell? ⟨wr.heap.size, 3, none⟩ = some (.int .i64 r) := HT1.out.cell 3
          have q4c : w1.cell? ⟨wr.heap.size, 4, none⟩ = some (.int .i64 k) := HT1.out.cell 4
          have lt1 := HT1.out.lt
          clear hx
          go_wp2_with fail
          refine wp_region_mix' w1 [0] [1, 2, 3, 4, 5, 6] 7 [8, 9] (by kernel_rfl) (by kernel_rfl) (by kernel_rfl) (Kept.of (Below.refl _ _)) ?_
          refine ⟨_, _, rfl, .inl ⟨rfl, fun w => rfl⟩, ?_⟩
          simp only [PureW, List.filterMap_cons, List.filterMap_nil, List.getElem?_cons_succ, List.getElem?_cons_zero]
          go_simp
          change wpQuiet _ _ _ _ (_ :: _ :: _ :: _ :: _ :: _ ::  []) _
          have KC := fun (u : KW w1) b o h => KW.cells u b o h
          iterate 6 (go_big_quiet_step (fail))
          refine wpQuiet_nil ?_
          rintro ⟨u, ku⟩
          change wpList _ _ _ (_ :: _ :: _ :: []) _ _
          dsimp only
          clear KC
          have HU := Lib.hid (own_below HO1.out ku.2.2)
          have HKu := Lib.hid ku.2.2
          have hzu : wd.heap.size ≤ u.heap.size := Nat.le_trans hz1 ku.2.1
          clear ku
          go_wp2_with (at_builtin; go_must (refine wpList_pushG slRefAct rfl _ _ rfl wd.heap.size _ n (acts (rdTo s b p r xs ys k)) rfl HU.out (actV ((true, false), (s, b, p, r, (k : Int)), (x1, y1))).toArray u.heap.size rfl rfl rfl (actV_cells _) (by unfold maxLen; omega) (by omega) hzu ?_); intro A' c' wv hown' hb' hgr')
          refine NoPanic.normal ?_
          go_wp2_with fail
          go_meet
          rw [HXn.out]
          exact ⟨n + 1, Nat.le_refl _, HCo1.out.next hown' ((HKu.out.mono hz1).trans hb'), Blk.other (HT1.out.kept HKu.out) HU.out hgr' (by decide)⟩
        case rest =>
          obtain ⟨n', hn', hcq, hTq⟩ := hcut
          have HCq := Lib.hid hcq
          have HTq := Lib.hid hTq
          have hzq := hcq.2.2.size
          have HYq := Lib.hid (HY.out.below hcq.2.2)
          obtain ⟨⟨Aq, cq, rfl⟩, hownq, _⟩ := hcq
          have HOq := Lib.hid hownq
          clear hTq hownq HX1 HY1 HO1 HCo1
          by_cases hc2 : k < n2
          · obtain ⟨g2, o2, x2, y2, rfl, hg2, hx, e0, e1⟩ := rd_at HN2.out HYq.out hc2
            have i3 : (k : Int) < (n2 : Int) := by omega
            have HYn : Hid (recvAt s b p r ys k = [((false, pb), (s, b, p, r, (k : Int)), (x2, y2))]) := Lib.hid (by unfold recvAt; rw [hx, HPB.out])
            have q0 : wc.cell? ⟨wr.heap.size, 0, none⟩ = some (.int .i64 s) := HTq.out.cell 0
            have q1c : wc.cell? ⟨wr.heap.size, 1, none⟩ = some (.int .i64 b) := HTq.out.cell 1
            have q2c : wc.cell? ⟨wr.heap.size, 2, none⟩ = some (.int .i64 p) := HTq.out.cell 2
            have q3c : wc.cell? ⟨wr.heap.size, 3, none⟩ = some (.int .i64 r) := HTq.out.cell 3
            have q4c : wc.cell? ⟨wr.heap.size, 4, none⟩ = some (.int .i64 k) := HTq.out.cell 4
            have lt1 := HTq.out.lt
            clear hx
            go_wp2_with fail
            refine wp_region_mix' wc [0] [1, 2, 3, 4, 5, 6, 7, 8] 9 [10, 11] (by kernel_rfl) (by kernel_rfl) (by kernel_rfl) (Kept.of (Below.refl _ _)) ?_
            refine ⟨_, _, rfl, .inl ⟨rfl, fun w => rfl⟩, ?_⟩
            simp only [PureW, List.filterMap_cons, List.filterMap_nil, List.getElem?_cons_succ, List.getElem?_cons_zero]
            go_simp
            change wpQuiet _ _ _ _ (_ :: _ :: _ :: _ :: _ :: _ :: _ :: _ ::  []) _
            have KC := fun (u : KW wc) b o h => KW.cells u b o h
            iterate 8 (go_big_quiet_step (fail))
            refine wpQuiet_nil ?_
            rintro ⟨u, ku⟩
            change wpList _ _ _ (_ :: _ :: _ :: []) _ _
            dsimp only
            clear KC
            have HU := Lib.hid (own_below HOq.out ku.2.2)
            have HKu := Lib.hid ku.2.2
            have hzu : wd.heap.size ≤ u.heap.size := Nat.le_trans hzq ku.2.1
            clear ku
            go_wp2_with (at_builtin; go_must (refine wpList_pushG slRefAct rfl _ _ rfl wd.heap.size _ n' (acts (rdTo s b p r xs ys k ++ sendAt s b p r xs k)) rfl HU.out (actV ((false, pb), (s, b, p, r, (k : Int)), (x2, y2))).toArray u.heap.size rfl rfl rfl (actV_cells _) (by unfold maxLen; omega) (by omega) hzu ?_); intro A' c' wv hown' hb' hgr')
            refine NoPanic.normal ?_
            go_wp2_with fail
            go_roundw
            case rel => exact ⟨k + 1, n' + 1, by omega, by go_num, by rw [rdTo_succ, rdAt_eq, ← List.append_assoc, HYn.out]; exact HCq.out.next hown' ((HKu.out.mono hzq).trans hb')⟩
            case measure => simp [intOf]; omega
          · have HYn : Hid (recvAt s b p r ys k = []) := Lib.hid (by unfold recvAt; rw [List.getElem?_eq_none (by rw [HN2.out]; omega)])
            go_wp2_with fail
            go_roundw
            case rel => exact ⟨k + 1, n', by omega, by go_num, by rw [rdTo_succ, rdAt_eq, ← List.append_assoc, HYn.out, List.append_nil]; exact HCq.out⟩
            case measure => simp [intOf]; omega
      · have HXn : Hid (sendAt s b p r xs k = []) := Lib.hid (by unfold sendAt; rw [List.getElem?_eq_none (by rw [HN1.out]; omega)])
        have hc2 : k < n2 := by omega
        go_upto_if 65 with (fail)
        obtain ⟨w1, hw1⟩ : ∃ w1, wr.alloc (.cells #[.int .i64 s, .int .i64 b, .int .i64 p, .int .i64 r, .int .i64 k] 74) = w1 := ⟨_, rfl⟩
        have k1 : Below wr.heap.size wr w1 := by rw [← hw1]; exact (Below.refl _ _).alloc (Nat.le_refl _) _
        have T1 : Blk w1 wr.heap.size 74 #[.int .i64 s, .int .i64 b, .int .i64 p, .int .i64 r, .int .i64 k] := by rw [← hw1]; exact Blk.new _ _ _
        rw [hw1]
        clear hw1 j0 j1 j2 j3 j4 j5
        have HT1 := Lib.hid T1
        have HCo1 := Lib.hid (HCo.out.below k1)
        have HO1 := Lib.hid (own_below HOv.out k1)
        have HX1 := Lib.hid (rX.below k1)
        have HY1 := Lib.hid (rY.below k1)
        have hz1 : wd.heap.size ≤ w1.heap.size := Nat.le_trans hzr k1.size
        clear k1 T1 rX rY HOv
        obtain ⟨g2, o2, x2, y2, rfl, hg2, hx, e0, e1⟩ := rd_at HN2.out HY1.out hc2
        have i3 : (k : Int) < (n2 : Int) := by omega
        have HYn : Hid (recvAt s b p r ys k = [((false, pb), (s, b, p, r, (k : Int)), (x2, y2))]) := Lib.hid (by unfold recvAt; rw [hx, HPB.out])
        have q0 : w1.cell? ⟨wr.heap.size, 0, none⟩ = some (.int .i64 s) := HT1.out.cell 0
        have q1c : w1.cell? ⟨wr.heap.size, 1, none⟩ = some (.int .i64 b) := HT1.out.cell 1
        have q2c : w1.cell? ⟨wr.heap.size, 2, none⟩ = some (.int .i64 p) := HT1.out.cell 2
        have q3c : w1.cell? ⟨wr.heap.size, 3, none⟩ = some (.int .i64 r) := HT1.out.cell 3
        have q4c : w1.cell? ⟨wr.heap.size, 4, none⟩ = some (.int .i64 k) := HT1.out.cell 4
        have lt1 := HT1.out.lt
        clear hx
        go_wp2_with fail
        refine wp_region_mix' w1 [0] [1, 2, 3, 4, 5, 6, 7, 8] 9 [10, 11] (by kernel_rfl) (by kernel_rfl) (by kernel_rfl) (Kept.of (Below.refl _ _)) ?_
        refine ⟨_, _, rfl, .inl ⟨rfl, fun w => rfl⟩, ?_⟩
        simp only [PureW, List.filterMap_cons, List.filterMap_nil, List.getElem?_cons_succ, List.getElem?_cons_zero]
        go_simp
        change wpQuiet _ _ _ _ (_ :: _ :: _ :: _ :: _ :: _ :: _ :: _ ::  []) _
        have KC := fun (u : KW w1) b o h => KW.cells u b o h
        iterate 8 (go_big_quiet_step (fail))
        refine wpQuiet_nil ?_
        rintro ⟨u, ku⟩
        change wpList _ _ _ (_ :: _ :: _ :: []) _ _
        dsimp only
        clear KC
        have HU := Lib.hid (own_below HO1.out ku.2.2)
        have HKu := Lib.hid ku.2.2
        have hzu : wd.heap.size ≤ u.heap.size := Nat.le_trans hz1 ku.2.1
        clear ku
        go_wp2_with (at_builtin; go_must (refine wpList_pushG slRefAct rfl _ _ rfl wd.heap.size _ n (acts (rdTo s b p r xs ys k)) rfl HU.out (actV ((false, pb), (s, b, p, r, (k : Int)), (x2, y2))).toArray u.heap.size rfl rfl rfl (actV_cells _) (by unfold maxLen; omega) (by omega) hzu ?_); intro A' c' wv hown' hb' hgr')
        refine NoPanic.normal ?_
        go_wp2_with fail
        go_roundw
        case rel => exact ⟨k + 1, n + 1, by omega, by go_num, by rw [rdTo_succ, rdAt_eq, HXn.out, List.nil_append, HYn.out]; exact HCo1.out.next hown' ((HKu.out.mono hz1).trans hb')⟩
        case measure => simp [intOf]; omega
    · obtain rfl : k = max n1 n2 := by omega
      have eL : rdTo s b p r xs ys (max n1 n2) = roundL s b p r xs ys := by rw [roundL, HN1.out, HN2.out]
      rw [eL] at HCo
      have HLN := Lib.hid HCo.out.len
      clear rX rY j0 j1 j2 j3 j4 j5 eL
      go_wp2
      go_ret
      rw [HLN.out]
      exact HCo.out.done.lift HKd.out

end Go.Proofs.Ytkecpbdgcbgogaa
