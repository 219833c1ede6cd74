/-
  The reference: New where there is no grid, Outer.
-/
import Derived.Test.YtnnphileeeaibaaMatRefAt
namespace Go.Proofs.Ytnnphileeeaibaa
set_option linter.unusedVariables false
set_option linter.unusedSimpArgs false
set_option maxRecDepth 100000
open Go.RowKit

set_option maxHeartbeats 1000000 in
theorem refNew_not (r q : Int) (w : World) (h : r < 1 ∨ q < 1) :
    Calls Try.prog 46 #[.int .i64 r, .int .i64 q] w fun e w' => e = .returned NoGrid ∧ Below w.heap.size w w' := by
  by_cases h1 : r < 1
  · have d1 : decide (r < 1) = true := decide_eq_true h1
    go_enter Try.func46, Try.ntmps46
    go_wp2
    refine bodyPost_ret (v := .agg #[.int .i64 0, .int .i64 0, .slice none 0 0]) (by simp [results, Try.results46, go_sem]) rfl ⟨rfl, ?_⟩
    exact (Below.refl _ _).alloc (Nat.le_refl _) _
  · have d1 : decide (r < 1) = false := decide_eq_false h1
    have h2 : q < 1 := by omega
    have d3 : decide (q < 1) = true := decide_eq_true h2
    by_cases h3 : 1048576 < r
    · have d2 : decide (1048576 < r) = true := decide_eq_true h3
      go_enter Try.func46, Try.ntmps46
      go_wp2
      refine bodyPost_ret (v := .agg #[.int .i64 0, .int .i64 0, .slice none 0 0]) (by simp [results, Try.results46, go_sem]) rfl ⟨rfl, ?_⟩
      exact (Below.refl _ _).alloc (Nat.le_refl _) _
    · have d2 : decide (1048576 < r) = false := decide_eq_false h3
      go_enter Try.func46, Try.ntmps46
      go_wp2
      refine bodyPost_ret (v := .agg #[.int .i64 0, .int .i64 0, .slice none 0 0]) (by simp [results, Try.results46, go_sem]) rfl ⟨rfl, ?_⟩
      exact (Below.refl _ _).alloc (Nat.le_refl _) _

set_option maxHeartbeats 1000000 in
theorem refOuter_not (A B : Option Addr) (n m c d : Nat) (q : Int) (w : World) (hn : n ≤ 1000000) (hm : m ≤ 1000000) (h : n = 0 ∨ m = 0) :
    Calls Try.prog 27 #[.slice A n c, .slice B m d, .int .i64 q] w fun e w' => e = .returned NoGrid ∧ Below w.heap.size w w' := by
  have C0 := fun W => refNew_not n m W (by omega)
  simp only [NoGrid] at C0
  have HC := Lib.hid C0
  clear C0
  obtain ⟨W0, hW0⟩ : ∃ W0, w.alloc (.cells #[.int .i64 0, .int .i64 0, .slice none 0 0] 55) = W0 := ⟨_, rfl⟩
  have k0 : Below w.heap.size w W0 := by rw [← hW0]; exact (Below.refl _ _).alloc (Nat.le_refl _) _
  have b0 : Blk W0 w.heap.size 55 #[.int .i64 0, .int .i64 0, .slice none 0 0] := by rw [← hW0]; exact Blk.new _ _ _
  have HW := Lib.hid hW0
  have HB0 := Lib.hid b0
  have HK := Lib.hid k0
  clear hW0 b0 k0
  go_enter Try.func27, Try.ntmps27
  go_wp2_with fail
  rw [HW.out]
  ((with_reducible refine (HC.out _).mono ?_); rintro e w1 ⟨rfl, hb1⟩)
  obtain ⟨W2, hW2⟩ : ∃ W2, w1.alloc (.cells #[.int .i64 0, .int .i64 0, .slice none 0 0] 55) = W2 := ⟨_, rfl⟩
  have k2 : Below w1.heap.size w1 W2 := by rw [← hW2]; exact (Below.refl _ _).alloc (Nat.le_refl _) _
  have o2 : Blk W2 w1.heap.size 55 #[.int .i64 0, .int .i64 0, .slice none 0 0] := by rw [← hW2]; exact Blk.new _ _ _
  have b2 := (HB0.out.kept hb1).kept k2
  have y0 : W2.cell? ⟨w1.heap.size, 0, none⟩ = some (.int .i64 0) := o2.cell 0
  have y1 : W2.cell? ⟨w1.heap.size, 1, none⟩ = some (.int .i64 0) := o2.cell 1
  have y2 : W2.cell? ⟨w1.heap.size, 2, none⟩ = some (.slice none 0 0) := o2.cell 2
  have x0 : W2.cell? ⟨w.heap.size, 0, none⟩ = some (.int .i64 0) := b2.cell 0
  have x1 : W2.cell? ⟨w.heap.size, 1, none⟩ = some (.int .i64 0) := b2.cell 1
  have x2 : W2.cell? ⟨w.heap.size, 2, none⟩ = some (.slice none 0 0) := b2.cell 2
  have f0 := b2.frozen 0
  have f1 := b2.frozen 1
  have f2 := b2.frozen 2
  have l2 := b2.lt
  have ly := o2.lt
  have HB2 := Lib.hid b2
  have KK := Lib.hid (((Kept.of HK.out).call hb1).call k2).2.2
  clear hb1 k2 o2 b2
  have HW2 := Lib.hid hW2
  clear hW2
  go_wp2_with fail
  rw [HW2.out]
  go_loopw [8] (fun i wr => i = .int .i64 0 ∧ wr = W2) (fun _ _ => 0)
  case atStart => exact ⟨rfl, rfl⟩
  case round =>
    obtain ⟨rfl, rfl⟩ := hrel
    go_wp2
    refine bodyPost_ret (v := .agg #[.int .i64 0, .int .i64 0, .slice none 0 0]) (by simp [results, Try.results27, go_sem, x0, x1, x2, l2]) rfl ⟨rfl, ?_⟩
    exact below_gr KK.out KK.out.size (set3 HB2.out _ _ _).1 (Nat.le_refl _)

set_option maxHeartbeats 2000000 in
theorem refOuter_good (n m p : Nat) (A B : Option Addr) (c d : Nat) (ly lx : List Int) (q : Int) (w : World) (hn : 1 ≤ n ∧ n ≤ 1000) (hm : 1 ≤ m ∧ m ≤ 1000) (hp : n * m = p) (hp' : 1 ≤ p ∧ p ≤ 1048576) (hly : ly.length = n) (hlx : lx.length = m)
    (h : Rd w 1 A n (iv ly)) (h' : Rd w 1 B m (iv lx)) (h1 : ∀ v ∈ ly, In1 v) (h2 : ∀ v ∈ lx, In1 v) :
    Calls Try.prog 27 #[.slice A n c, .slice B m d, .int .i64 q] w (GridOf w n m p (outN ly lx q)) := by
  have he : IntKind.i64.wrap ((n : Int) * (m : Int)) = (p : Int) := by rw [← Int.natCast_mul, hp]; exact wrap_ok _ (by omega) (by omega)
  have HC := Lib.hid (fun W => refNew07_any n m p W hn.1 hm.1 (by omega) (by omega) hp'.2 he)
  obtain ⟨W0, hW0⟩ : ∃ W0, w.alloc (.cells #[.int .i64 0, .int .i64 0, .slice none 0 0] 55) = W0 := ⟨_, rfl⟩
  have k0 : Below w.heap.size w W0 := by rw [← hW0]; exact (Below.refl _ _).alloc (Nat.le_refl _) _
  have b0 : Blk W0 w.heap.size 55 #[.int .i64 0, .int .i64 0, .slice none 0 0] := by rw [← hW0]; exact Blk.new _ _ _
  have HW := Lib.hid hW0
  have HB0 := Lib.hid b0
  have HK := Lib.hid k0
  have HRY := Lib.hid (h.below k0)
  have HRX := Lib.hid (h'.below k0)
  have HLY := Lib.hid hly
  have HLX := Lib.hid hlx
  have HIN := Lib.hid (And.intro h1 h2)
  have HP := Lib.hid hp
  clear hW0 b0 k0 h h' h1 h2 hly hlx hp he
  go_enter Try.func27, Try.ntmps27
  go_wp2_with fail
  rw [HW.out]
  ((with_reducible refine (HC.out _).mono ?_); rintro e w1 ⟨A', c', rfl, hown, hb1⟩)
  obtain ⟨_, _, q1, q2, q3, q6⟩ := own_form hown
  injection q1 with q4 q5 q7
  subst q4 q7
  obtain ⟨g, rfl, hg0, hg1⟩ := q6 (by omega)
  obtain ⟨W2, hW2⟩ : ∃ W2, w1.alloc (.cells #[.int .i64 n, .int .i64 m, .slice (some ⟨g, 0, none⟩) p c'] 55) = W2 := ⟨_, rfl⟩
  have k2 : Below w1.heap.size w1 W2 := by rw [← hW2]; exact (Below.refl _ _).alloc (Nat.le_refl _) _
  have o2 : Blk W2 w1.heap.size 55 #[.int .i64 n, .int .i64 m, .slice (some ⟨g, 0, none⟩) p c'] := by rw [← hW2]; exact Blk.new _ _ _
  have HB1 := Lib.hid ((HB0.out.kept hb1).kept k2)
  have HO2 := Lib.hid o2
  have HOW := Lib.hid (own_below hown k2)
  have KK := Lib.hid ((Kept.of (Below.refl W0.heap.size W0)).call hb1 |>.call k2).2.2
  have z01 := hb1.size
  have z12 : w1.heap.size < W2.heap.size := o2.lt
  clear hb1 k2 o2 hown q6
  have HW2 := Lib.hid hW2
  clear hW2
  go_wp2_with fail
  rw [HW2.out]
  clear HW2 HW
  go_loopw [8] (fun i wr => ∃ k : Nat, k ≤ p ∧ i = .int .i64 k ∧ wr.ownsRow W0.heap.size 2 1 (.slice (some ⟨g, 0, none⟩) p c') p (iv (fillL p (outF ly lx q) k)) ∧ W2.grownBy wr (some g)) (fun i _ => p - (intOf i).toNat)
  case atStart => exact ⟨0, by omega, rfl, by rw [fillL_zero]; exact HOW.out, World.grownBy.refl _ _⟩
  case round =>
    obtain ⟨k, hk, rfl, ho, hg⟩ := hrel
    have hBr : Below W0.heap.size W0 wr := below_gr KK.out KK.out.size hg hg0
    have m2 : Blk wr w1.heap.size 55 #[.int .i64 n, .int .i64 m, .slice (some ⟨g, 0, none⟩) p c'] := HO2.out.grown hg (by simp; omega)
    have y0 : wr.cell? ⟨w1.heap.size, 0, none⟩ = some (.int .i64 n) := m2.cell 0
    have y1 : wr.cell? ⟨w1.heap.size, 1, none⟩ = some (.int .i64 m) := m2.cell 1
    have y2 : wr.cell? ⟨w1.heap.size, 2, none⟩ = some (.slice (some ⟨g, 0, none⟩) p c') := m2.cell 2
    have lm := m2.lt
    by_cases hlt : k < p
    · obtain ⟨i, hi⟩ : ∃ i, k / m = i := ⟨_, rfl⟩
      obtain ⟨j, hj⟩ : ∃ j, k % m = j := ⟨_, rfl⟩
      have hin : i < n := by rw [← hi]; exact (Nat.div_lt_iff_lt_mul (by omega)).2 (by rw [HP.out]; exact hlt)
      have hjm : j < m := by rw [← hj]; exact Nat.mod_lt _ (by omega)
      obtain ⟨gy, oy, y, rfl, hbly, hy, cy⟩ := iv_at HLY.out (HRY.out.below hBr) hin
      obtain ⟨gx, ox, x, rfl, hblx, hx, cx⟩ := iv_at HLX.out (HRX.out.below hBr) hjm
      have HMU := Lib.hid (fun W => refMulQ_any y x q W (HIN.out.1 y (List.mem_of_getElem? hy)) (HIN.out.2 x (List.mem_of_getElem? hx)))
      have hF : outF ly lx q k = mulQ y x q := by
        rw [outF, HLX.out, hi, hj, List.getD_eq_getElem?_getD, hy, List.getD_eq_getElem?_getD, hx]
        rfl
      have HF := Lib.hid hF
      have zq : (k : Int).tdiv (m : Int) = (i : Int) := by rw [← hi]; rfl
      have zr : (k : Int).tmod (m : Int) = (j : Int) := by rw [← hj]; rfl
      have hm0 : ((m : Int) == 0) = false := by simp; omega
      have i0 : (0 : Int) ≤ (i : Int) := by omega
      have i1 : (i : Int) < (n : Int) := by omega
      have i2 : (0 : Int) ≤ (j : Int) := by omega
      have i3 : (j : Int) < (m : Int) := by omega
      have i4 : (0 : Int) ≤ (k : Int) := by omega
      have i5 : (k : Int) < (p : Int) := by omega
      have HOO := Lib.hid ho
      have HG := Lib.hid hg
      clear ho hg hBr hy hx hF hi hj m2
      go_wp2_with fail
      refine wp_region_mix' wr [] [0, 1, 2, 3, 4, 5, 6, 7, 8, 9, 10, 11, 12, 13, 14, 15, 16, 17, 18, 19] 20 [] (by kernel_rfl) (by kernel_rfl) (by kernel_rfl) (Kept.of (Below.refl _ _)) ?_
      simp only [PureW, List.filterMap_cons, List.filterMap_nil, List.getElem?_cons_succ, List.getElem?_cons_zero]
      go_simp
      change wpQuiet _ _ _ _ (_ :: _ :: _ :: _ :: _ :: _ :: _ :: _ :: _ :: _ :: _ :: _ :: _ :: _ :: _ :: _ :: _ :: _ :: _ :: _ :: []) _
      have KC := fun (u : KW wr) b o h => KW.cells u b o h
      iterate 20 (go_big_quiet_step (first | (go_at_call 53; (with_reducible exact kept_same (HMU.out _)))))
      refine wpQuiet_nil ?_
      rintro ⟨w5, k5⟩
      change wpList _ _ _ (_ :: []) _ _
      dsimp only
      clear KC
      have hO5 := own_below HOO.out k5.2.2
      obtain ⟨u, hu⟩ : ∃ u, w5.cell? ⟨g, k, none⟩ = some u := by
        rw [hO5.cellAt k (by omega), iv_get _ _ (by rw [fillL_length]; exact hlt)]
        exact ⟨_, rfl⟩
      have fu := hO5.frozenAt k
      have hlg : g < w5.heap.size := (hO5.lt g rfl).2
      have HS := Lib.hid (hO5.stored k (.int .i64 (mulQ y x q)))
      have HK5 := Lib.hid k5.2.2
      clear k5 hO5 y0 y1 y2 cy cx
      go_wp2_with fail
      refine NoPanic.normal ?_
      go_wp2
      go_roundw
      case rel =>
        refine ⟨k + 1, by omega, by go_num, ?_, HG.out.trans (gr_below_first HK5.out HS.out.2)⟩
        have h3 := HS.out.1
        rw [iv_set, ← HF.out, fillL_set _ _ _ hlt, HF.out] at h3
        exact h3
      case measure => simp [intOf]; omega
    · obtain rfl : k = p := by omega
      have m3 := HB1.out.grown hg (by simp; have := HB0.out.lt; omega)
      have f0 := m3.frozen 0
      have f1 := m3.frozen 1
      have f2 := m3.frozen 2
      have x0 : wr.cell? ⟨w.heap.size, 0, none⟩ = some (.int .i64 0) := m3.cell 0
      have x1 : wr.cell? ⟨w.heap.size, 1, none⟩ = some (.int .i64 0) := m3.cell 1
      have x2 : wr.cell? ⟨w.heap.size, 2, none⟩ = some (.slice none 0 0) := m3.cell 2
      have l3 := m3.lt
      have HM3 := Lib.hid m3
      have HOO := Lib.hid ho
      have HBR := Lib.hid hBr
      clear ho hBr m3 m2 hg
      go_wp2_with fail
      have hst := set3 HM3.out (.int .i64 n) (.int .i64 m) (.slice (some ⟨g, 0, none⟩) k c')
      have hz := HK.out.size
      have ho5 := HOO.out.kept hst.1 (.inr (own_blk_ne HOO.out HM3.out (by decide)))
      rw [fillL_all _ _ _ (Nat.le_refl _), show natL k (outF ly lx q) = outN ly lx q by rw [outN, HLY.out, HLX.out, HP.out]] at ho5
      exact bodyPost_ret (v := .agg #[.int .i64 n, .int .i64 m, .slice (some ⟨g, 0, none⟩) k c']) (by simp [results, Try.results27, go_sem, x0, x1, x2, l3]) rfl ⟨_, _, rfl, own_base ho5 hz, below_gr ((Kept.of HK.out).call HBR.out).2.2 (Nat.le_trans hz HBR.out.size) hst.1 (Nat.le_refl _)⟩

end Go.Proofs.Ytnnphileeeaibaa
