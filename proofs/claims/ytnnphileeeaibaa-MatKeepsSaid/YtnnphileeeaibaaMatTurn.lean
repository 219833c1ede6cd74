/-
  The reference's Turn.
-/
import Derived.Test.YtnnphileeeaibaaMatRef2
import Derived.Test.YtnnphileeeaibaaEarly
namespace Go.Proofs.Ytnnphileeeaibaa
set_option linter.unusedVariables false
set_option linter.unusedSimpArgs false
set_option maxRecDepth 100000
open Go.RowKit

theorem sone_int (x : Int) : ∀ u ∈ (#[Value.int .i64 x] : Array Value).toList, u.oneCell' = true := one_cells x

theorem set2of3 {w : World} {g : Nat} {t : TypeId} {x y z : Value} (h : Blk w g t #[x, y, z]) (c : Value) :
    w.grownBy (w.setCell ⟨g, 2, none⟩ c) (some g) ∧ Blk (w.setCell ⟨g, 2, none⟩ c) g t #[x, y, c] :=
  ⟨gr_set (p := ⟨g, 2, none⟩) (World.grownBy.refl w _) (.inl rfl) c, by simpa using h.set_ 2 c⟩

/-- What the loops of Turn have made. -/
def TurnSt (wr W2 : World) (t R C i : Nat) (l : List Int) : Prop :=
  ∃ A' c', Blk wr t 55 #[.int .i64 C, .int .i64 R, .slice A' i c'] ∧ wr.ownsRow W2.heap.size 2 1 (.slice A' i c') i (iv (natL i (turnF l R C))) ∧ But (fun b => b = t ∨ W2.heap.size ≤ b) W2 wr

set_option maxHeartbeats 1000000 in
theorem refTurn_not (w : World) :
    Calls Try.prog 28 #[.agg #[.int .i64 0, .int .i64 0, .slice none 0 0]] w fun e w' => e = .returned NoGrid ∧ Below w.heap.size w w' := by
  have hr : decide (RightP 0 0 0) = false := decide_eq_false (fun hs => by have := hs.1.1; omega)
  have C1 := fun W => refRight_any 0 0 none 0 0 W (by omega)
  rw [hr] at C1
  have HC := Lib.hid C1
  obtain ⟨W0, hW0⟩ : ∃ W0, (w.alloc (.cells #[.int .i64 0, .int .i64 0, .slice none 0 0] 55)).alloc (.cells #[.int .i64 0, .int .i64 0, .slice none 0 0] 55) = W0 := ⟨_, rfl⟩
  have k0 : Below w.heap.size w W0 := by rw [← hW0]; exact ((Below.refl _ _).alloc (Nat.le_refl _) _).alloc (by simp) _
  have b0 : Blk W0 w.heap.size 55 #[.int .i64 0, .int .i64 0, .slice none 0 0] := by rw [← hW0]; exact (Blk.new _ _ _).alloc _
  have b1 : Blk W0 (w.heap.size + 1) 55 #[.int .i64 0, .int .i64 0, .slice none 0 0] := by rw [← hW0]; exact Blk.new' _ _ (by simp)
  have a0 : W0.cell? ⟨w.heap.size, 0, none⟩ = some (.int .i64 0) := b0.cell 0
  have a1 : W0.cell? ⟨w.heap.size, 1, none⟩ = some (.int .i64 0) := b0.cell 1
  have a2 : W0.cell? ⟨w.heap.size, 2, none⟩ = some (.slice none 0 0) := b0.cell 2
  have HW := Lib.hid hW0
  have HB1 := Lib.hid b1
  have HK := Lib.hid k0
  clear hW0 b1 k0 b0 hr C1
  go_enter Try.func28, Try.ntmps28
  go_wp2_with fail
  rw [HW.out]
  go_wp2_with fail
  ((with_reducible refine (HC.out _).mono ?_); rintro e w1 ⟨rfl, hb1⟩)
  have b2 := HB1.out.kept hb1
  have x0 : w1.cell? ⟨w.heap.size + 1, 0, none⟩ = some (.int .i64 0) := b2.cell 0
  have x1 : w1.cell? ⟨w.heap.size + 1, 1, none⟩ = some (.int .i64 0) := b2.cell 1
  have x2 : w1.cell? ⟨w.heap.size + 1, 2, none⟩ = some (.slice none 0 0) := b2.cell 2
  have f0 := b2.frozen 0
  have f1 := b2.frozen 1
  have f2 := b2.frozen 2
  have l2 := b2.lt
  have HB2 := Lib.hid b2
  have KK := Lib.hid ((Kept.of HK.out).call hb1).2.2
  clear hb1 b2 a0 a1 a2
  go_wp2
  refine bodyPost_ret (v := .agg #[.int .i64 0, .int .i64 0, .slice none 0 0]) (by simp [results, Try.results28, go_sem, x0, x1, x2, l2]) rfl ⟨rfl, ?_⟩
  exact below_gr KK.out KK.out.size (set3 HB2.out _ _ _).1 (by omega)

set_option maxHeartbeats 4000000 in
theorem refTurn_good (R C n : Nat) (A : Option Addr) (c : Nat) (l : List Int) (w : World) (hR : 1 ≤ R ∧ R ≤ 1048576) (hC : 1 ≤ C ∧ C ≤ 1048576) (hn : R * C = n) (hn' : n ≤ 1048576) (hl : l.length = n) (h : Rd w 1 A n (iv l)) :
    Calls Try.prog 28 #[.agg #[.int .i64 R, .int .i64 C, .slice A n c]] w (GridOf w C R n (turnN l R C)) := by
  have hrt : decide (RightP R C n) = true := decide_eq_true ⟨⟨by omega, by omega, by omega, by omega⟩, by rw [← hn]; exact Int.natCast_mul R C⟩
  have C1 := fun W => refRight_any R C A n c W (by omega)
  rw [hrt] at C1
  have HC1 := Lib.hid C1
  obtain ⟨W0, hW0⟩ : ∃ W0, (w.alloc (.cells #[.int .i64 R, .int .i64 C, .slice A n c] 55)).alloc (.cells #[.int .i64 0, .int .i64 0, .slice none 0 0] 55) = W0 := ⟨_, rfl⟩
  have k0 : Below w.heap.size w W0 := by rw [← hW0]; exact ((Below.refl _ _).alloc (Nat.le_refl _) _).alloc (by simp) _
  have b0 : Blk W0 w.heap.size 55 #[.int .i64 R, .int .i64 C, .slice A n c] := by rw [← hW0]; exact (Blk.new _ _ _).alloc _
  have b1 : Blk W0 (w.heap.size + 1) 55 #[.int .i64 0, .int .i64 0, .slice none 0 0] := by rw [← hW0]; exact Blk.new' _ _ (by simp)
  have a0 : W0.cell? ⟨w.heap.size, 0, none⟩ = some (.int .i64 R) := b0.cell 0
  have a1 : W0.cell? ⟨w.heap.size, 1, none⟩ = some (.int .i64 C) := b0.cell 1
  have a2 : W0.cell? ⟨w.heap.size, 2, none⟩ = some (.slice A n c) := b0.cell 2
  have lt0 := b0.lt
  have HW := Lib.hid hW0
  have HB0 := Lib.hid b0
  have HB1 := Lib.hid b1
  have HK := Lib.hid k0
  have HRL := Lib.hid (h.below k0)
  have HLT := Lib.hid h.lt
  have HL := Lib.hid hl
  have HN := Lib.hid hn
  clear hW0 b0 b1 k0 hrt C1 h hl hn
  go_enter Try.func28, Try.ntmps28
  go_wp2_with fail
  rw [HW.out]
  go_wp2_with fail
  ((with_reducible refine (HC1.out _).mono ?_); rintro e w1 ⟨rfl, hb1⟩)
  have m0 := HB0.out.kept hb1
  have y0 : w1.cell? ⟨w.heap.size, 0, none⟩ = some (.int .i64 R) := m0.cell 0
  have y1 : w1.cell? ⟨w.heap.size, 1, none⟩ = some (.int .i64 C) := m0.cell 1
  have ly := m0.lt
  have HM0 := Lib.hid m0
  have HM1 := Lib.hid (HB1.out.kept hb1)
  have HR1 := Lib.hid (HRL.out.below hb1)
  have HK1 := Lib.hid ((Kept.of HK.out).call hb1).2.2
  clear hb1 m0 a0 a1 a2 lt0 HW HC1
  obtain ⟨W2, hW2⟩ : ∃ W2, w1.alloc (.cells #[.int .i64 C, .int .i64 R, .slice none 0 0] 55) = W2 := ⟨_, rfl⟩
  have k2 : Below w1.heap.size w1 W2 := by rw [← hW2]; exact (Below.refl _ _).alloc (Nat.le_refl _) _
  have o2 : Blk W2 w1.heap.size 55 #[.int .i64 C, .int .i64 R, .slice none 0 0] := by rw [← hW2]; exact Blk.new _ _ _
  have HW2 := Lib.hid hW2
  have HM02 := Lib.hid (HM0.out.kept k2)
  have HM12 := Lib.hid (HM1.out.kept k2)
  have HR2 := Lib.hid (HR1.out.below k2)
  have HK2 := Lib.hid ((Kept.of HK1.out).call (k2.mono HK1.out.size |> fun h => k2)).2.2
  have HO2 := Lib.hid o2
  have z0 : w.heap.size + 1 < w1.heap.size := HM1.out.lt
  have z12 : w1.heap.size < W2.heap.size := o2.lt
  clear hW2 k2 o2
  go_wp2_with fail
  rw [HW2.out]
  clear HW2 y0 y1
  go_loopw [4] (fun i wr => ∃ j : Nat, j ≤ C ∧ i = .int .i64 j ∧ TurnSt wr W2 w1.heap.size R C (j * R) l) (fun i _ => C - (intOf i).toNat)
  case atStart => exact ⟨0, by omega, rfl, none, 0, by rw [Nat.zero_mul]; exact HO2.out, by rw [Nat.zero_mul]; exact World.ownsRow_nil _ _ _ _, But.refl _ _⟩
  case round =>
    obtain ⟨j, hj, rfl, hst⟩ := hrel
    have HST := Lib.hid hst
    have m0 : Blk wr w.heap.size 55 #[.int .i64 R, .int .i64 C, .slice A n c] := by
      obtain ⟨_, _, _, _, hbut⟩ := hst
      exact HM02.out.but hbut (by omega)
    have y0 : wr.cell? ⟨w.heap.size, 0, none⟩ = some (.int .i64 R) := m0.cell 0
    have y1 : wr.cell? ⟨w.heap.size, 1, none⟩ = some (.int .i64 C) := m0.cell 1
    have ly := m0.lt
    clear hst m0
    by_cases hlt : j < C
    · go_wp2_with fail
      clear y0 y1
      go_loopw [5] (fun i wr => ∃ r : Nat, r ≤ R ∧ i = .int .i64 r ∧ TurnSt wr W2 w1.heap.size R C (j * R + r) l) (fun i _ => R - (intOf i).toNat)
      case atStart => exact ⟨0, by omega, rfl, HST.out⟩
      case round =>
        obtain ⟨r, hr, rfl, A', c', ht, ho, hbut⟩ := hrel
        have m0 : Blk wr w.heap.size 55 #[.int .i64 R, .int .i64 C, .slice A n c] := HM02.out.but hbut (by omega)
        have y0 : wr.cell? ⟨w.heap.size, 0, none⟩ = some (.int .i64 R) := m0.cell 0
        have y1 : wr.cell? ⟨w.heap.size, 1, none⟩ = some (.int .i64 C) := m0.cell 1
        have y2 : wr.cell? ⟨w.heap.size, 2, none⟩ = some (.slice A n c) := m0.cell 2
        have ly := m0.lt
        by_cases hrt : r < R
        · obtain ⟨i, hi⟩ : ∃ i, j * R + r = i := ⟨_, rfl⟩
          rw [hi] at ht ho
          have hin : i < n := by rw [← hi, ← HN.out, Nat.mul_comm R C]; exact row_lt j r C R hlt hrt
          have hF : turnF l R C i = l.getD (r * C + j) 0 := by rw [turnF, ← hi, row_div _ _ _ hrt, row_mod _ _ _ hrt]
          have hRw : Rd wr 1 A n (iv l) := HR2.out.but hbut (fun b o e h0 => by have := HLT.out b o e h0; omega)
          have HAT := Lib.hid (refAt_good R C n r j A c l wr.drew hR hC HN.out (by omega) HL.out hrt hlt hRw.drew)
          have x2 : wr.cell? ⟨w1.heap.size, 2, none⟩ = some (.slice A' i c') := ht.cell 2
          have lx := ht.lt
          have HT := Lib.hid ht
          have HO := Lib.hid ho
          have HBU := Lib.hid hbut
          have HF := Lib.hid hF
          have HI := Lib.hid hi
          clear ht ho hbut hF hi m0 hRw
          go_wp2_with fail
          refine wp_region_early (Kept wr) [0, 1, 2, 3, 4] [5, 6] [7, 8, 9] (by kernel_rfl) (by kernel_rfl) (Kept.start wr) ?_
          simp only [List.filterMap_cons, List.filterMap_nil, List.getElem?_cons_succ, List.getElem?_cons_zero]
          refine early_step (.pointer (some ⟨w1.heap.size, 2, none⟩)) rfl (fun W hW => ?_) ?_
          · obtain ⟨hc, -, -⟩ := hW
            go_simp
          go_simp
          refine early_step (.slice A' i c') rfl (fun W hW => ?_) ?_
          · obtain ⟨hc, -, -⟩ := hW
            go_simp
          go_simp
          refine early_step (.agg #[.int .i64 R, .int .i64 C, .slice A n c]) rfl (fun W hW => ?_) ?_
          · obtain ⟨hc, -, -⟩ := hW
            go_simp
          go_simp
          refine early_step (.int .i64 r) rfl (fun W hW => ?_) ?_
          · obtain ⟨hc, -, -⟩ := hW
            go_simp
          go_simp
          refine early_step (.int .i64 j) rfl (fun W hW => ?_) ?_
          · obtain ⟨hc, -, -⟩ := hW
            go_simp
          go_simp
          change RestW _ _ _ _ _ (_ :: _ :: []) _ _
          unfold RestW
          go_wp2_with fail
          ((with_reducible refine HAT.out.mono ?_); rintro e w5 ⟨rfl, hb5⟩)
          have k5 := (Kept.start wr).call hb5
          clear hb5
          go_wp2_with fail
          refine ⟨k5, ?_⟩
          unfold RestW
          go_wp2_with fail
          refine ⟨k5.alloc _, ?_⟩
          unfold RestW
          change wpList _ _ _ (_ :: _ :: _ :: []) _ (w5.alloc (.cells #[.int .i64 (l.getD (r * C + j) 0)] 2))
          clear y0 y1 y2 x2
          have hO5 := own_below HO.out k5.2.2
          have hz5 : W2.heap.size ≤ w5.heap.size := Nat.le_trans HBU.out.size k5.2.1
          have HO5 := Lib.hid hO5
          have HT5 := Lib.hid (HT.out.kept k5.2.2)
          have HK5 := Lib.hid k5.2.2
          clear k5 hO5
          go_wp2_with (at_builtin; go_must (refine wpList_pushG slI64 rfl _ _ rfl W2.heap.size _ i (iv (natL i (turnF l R C))) rfl HO5.out #[.int .i64 (l.getD (r * C + j) 0)] w5.heap.size rfl rfl rfl (sone_int _) (by unfold maxLen; omega) (by omega) hz5 ?_); go_must (intro A2 c2 w6 hown6 hb6 hg6; (have HO6 := Lib.hid hown6); (have HG6 := Lib.hid hg6); (have HT6 := Lib.hid (HT5.out.other HO5.out hg6 (by decide))); (have l6 := HT6.out.lt); (have f6 := HT6.out.frozen 2); (have x6 : w6.cell? ⟨w1.heap.size, 2, none⟩ = some (.slice A' i c') := HT6.out.cell 2); clear hown6 hb6 hg6))
          refine NoPanic.normal ?_
          go_wp2
          go_roundw
          case rel =>
            have hst := set2of3 HT6.out (.slice A2 (i + 1) c2)
            refine ⟨r + 1, by omega, by go_num, A2, c2, ?_, ?_, ?_⟩
            · rw [show j * R + (r + 1) = i + 1 by rw [← HI.out]; rfl]
              exact hst.2
            · rw [show j * R + (r + 1) = i + 1 by rw [← HI.out]; rfl, natL_succ, iv_append, HF.out]
              exact HO6.out.kept hst.1 (.inr (own_blk_ne HO6.out HT6.out (by decide)))
            · exact ((HBU.out.call HK5.out).trans (But.of_own HG6.out (fun g e => .inr (HO5.out.lt g e).1))).trans (But.of_gr hst.1 (.inl rfl))
          case measure => simp [intOf]; omega
        · obtain rfl : r = R := by omega
          have HX := Lib.hid (And.intro ht (And.intro ho hbut))
          clear ht ho hbut m0
          go_wp2
          go_roundw
          case rel => exact ⟨j + 1, by omega, by go_num, A', c', by rw [Nat.add_mul, Nat.one_mul]; exact HX.out.1, by rw [Nat.add_mul, Nat.one_mul]; exact HX.out.2.1, HX.out.2.2⟩
          case measure => simp [intOf]; omega
    · obtain rfl : j = C := by omega
      obtain ⟨A', c', ht, ho, hbut⟩ := HST.out
      have hjn : j * R = n := by rw [Nat.mul_comm]; exact HN.out
      rw [hjn] at ht ho
      have q0 : wr.cell? ⟨w1.heap.size, 0, none⟩ = some (.int .i64 j) := ht.cell 0
      have q1 : wr.cell? ⟨w1.heap.size, 1, none⟩ = some (.int .i64 R) := ht.cell 1
      have q2 : wr.cell? ⟨w1.heap.size, 2, none⟩ = some (.slice A' n c') := ht.cell 2
      have lq := ht.lt
      have m1 : Blk wr (w.heap.size + 1) 55 #[.int .i64 0, .int .i64 0, .slice none 0 0] := HM12.out.but hbut (by omega)
      have x0 : wr.cell? ⟨w.heap.size + 1, 0, none⟩ = some (.int .i64 0) := m1.cell 0
      have x1 : wr.cell? ⟨w.heap.size + 1, 1, none⟩ = some (.int .i64 0) := m1.cell 1
      have x2 : wr.cell? ⟨w.heap.size + 1, 2, none⟩ = some (.slice none 0 0) := m1.cell 2
      have f0 := m1.frozen 0
      have f1 := m1.frozen 1
      have f2 := m1.frozen 2
      have l2 := m1.lt
      have HM3 := Lib.hid m1
      have HO := Lib.hid ho
      have hzw := HK1.out.size
      have HBR := Lib.hid (HK2.out.trans (hbut.below (Nat.le_trans hzw (Nat.le_of_lt z12)) (fun i hi => by omega)))
      clear ht ho hbut m1 HST hjn
      go_wp2_with fail
      have hst := set3 HM3.out (.int .i64 j) (.int .i64 R) (.slice A' n c')
      have ho5 := HO.out.kept hst.1 (.inr (own_blk_ne HO.out HM3.out (by decide)))
      rw [show natL n (turnF l R j) = turnN l R j by rw [turnN, Nat.mul_comm, HN.out]] at ho5
      exact bodyPost_ret (v := .agg #[.int .i64 j, .int .i64 R, .slice A' n c']) (by simp [results, Try.results28, go_sem, x0, x1, x2, l2]) rfl ⟨_, _, rfl, own_base ho5 (Nat.le_trans hzw (Nat.le_of_lt z12)), below_gr HBR.out HBR.out.size hst.1 (by omega)⟩

end Go.Proofs.Ytnnphileeeaibaa
