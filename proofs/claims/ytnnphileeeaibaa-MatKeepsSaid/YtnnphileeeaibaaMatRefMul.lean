/-
  The reference's Mul and Back.
-/
import Derived.Test.YtnnphileeeaibaaMatTurns
namespace Go.Proofs.Ytnnphileeeaibaa
set_option linter.unusedVariables false
set_option linter.unusedSimpArgs false
set_option maxRecDepth 100000
open Go.RowKit

set_option maxHeartbeats 1000000 in
theorem refMul_not (r q : Int) (A : Option Addr) (n c : Nat) (B : Option Addr) (m d : Nat) (k : Int) (w : World) (hn : n ≤ 1000000000) (hm : m ≤ 9223372036854775807) (h : ¬ RightP r q n ∨ (m : Int) ≠ q) :
    Calls Try.prog 51 #[.agg #[.int .i64 r, .int .i64 q, .slice A n c], .slice B m d, .int .i64 k] w fun e w' => e = .returned (.tuple #[.slice none 0 0, .bool false]) ∧ Below w.heap.size w w' := by
  obtain ⟨b, hb⟩ : ∃ b, decide (RightP r q n) = b := ⟨_, rfl⟩
  have C1 := fun W => refRight_any r q A n c W hn
  rw [hb] at C1
  have HC := Lib.hid C1
  have d1 : b = true → ((m : Int) != q) = true := fun e => by
    subst e
    rcases h with h | h
    · exact absurd (of_decide_eq_true hb) h
    · simp [h]
  obtain ⟨W0, hW0⟩ : ∃ W0, w.alloc (.cells #[.int .i64 r, .int .i64 q, .slice A n c] 55) = W0 := ⟨_, rfl⟩
  have k0 : Below w.heap.size w W0 := by rw [← hW0]; exact (Below.refl _ _).alloc (Nat.le_refl _) _
  have b0 : Blk W0 w.heap.size 55 #[.int .i64 r, .int .i64 q, .slice A n c] := by rw [← hW0]; exact Blk.new _ _ _
  have a0 : W0.cell? ⟨w.heap.size, 0, none⟩ = some (.int .i64 r) := b0.cell 0
  have a1 : W0.cell? ⟨w.heap.size, 1, none⟩ = some (.int .i64 q) := b0.cell 1
  have a2 : W0.cell? ⟨w.heap.size, 2, none⟩ = some (.slice A n c) := b0.cell 2
  have la := b0.lt
  have HW := Lib.hid hW0
  have HB0 := Lib.hid b0
  have HK := Lib.hid k0
  clear hW0 b0 k0 C1 hb h
  go_enter Try.func51, Try.ntmps51
  go_wp2_with fail
  rw [HW.out]
  go_wp2_with fail
  ((with_reducible refine (HC.out _).mono ?_); rintro e w1 ⟨rfl, hb1⟩)
  have m0 := HB0.out.kept hb1
  have y0 : w1.cell? ⟨w.heap.size, 1, none⟩ = some (.int .i64 q) := m0.cell 1
  have ly0 := m0.lt
  have k1 := Lib.hid ((Kept.of HK.out).call hb1).2.2
  clear hb1 m0 a0 a1 a2 la
  cases b
  · clear d1
    go_wp2
    go_ret2
    exact ⟨rfl, k1.out⟩
  · have d2 := d1 rfl
    clear d1
    go_wp2
    go_ret2
    exact ⟨rfl, k1.out⟩

theorem dot_start (q : Int) (a b : List Int) : Hid (dotL q a b = dotF q (a.drop 0) (b.drop 0) 0) := Lib.hid rfl

set_option maxHeartbeats 4000000 in
theorem refMul_good (R C n : Nat) (A : Option Addr) (c : Nat) (B : Option Addr) (d : Nat) (l x : List Int) (q : Int) (w : World) (hR : 1 ≤ R ∧ R ≤ 1048576) (hC : 1 ≤ C ∧ C ≤ 1048576) (hn : R * C = n) (hn' : n ≤ 1048576) (hl : l.length = n) (hxl : x.length = C)
    (h : Rd w 1 A n (iv l)) (hx : Rd w 1 B C (iv x)) (h1 : ∀ v ∈ l, In1 v) (h2 : ∀ v ∈ x, In1 v) :
    Calls Try.prog 51 #[.agg #[.int .i64 R, .int .i64 C, .slice A n c], .slice B C d, .int .i64 q] w fun e w' => ∃ A' c', e = .returned (.tuple #[.slice A' R c', .bool true]) ∧ w'.ownsRow w.heap.size 2 1 (.slice A' R c') R (iv (mulN l x q R)) ∧ Below w.heap.size w w' := by
  have hrt : decide (RightP R C n) = true := decide_eq_true ⟨⟨by omega, by omega, by omega, by omega⟩, by rw [← hn]; exact Int.natCast_mul R C⟩
  have C1 := fun W => refRight_any R C A n c W (by omega)
  rw [hrt] at C1
  have HC1 := Lib.hid C1
  obtain ⟨W0, hW0⟩ : ∃ W0, w.alloc (.cells #[.int .i64 R, .int .i64 C, .slice A n c] 55) = W0 := ⟨_, rfl⟩
  have k0 : Below w.heap.size w W0 := by rw [← hW0]; exact (Below.refl _ _).alloc (Nat.le_refl _) _
  have b0 : Blk W0 w.heap.size 55 #[.int .i64 R, .int .i64 C, .slice A n c] := by rw [← hW0]; exact Blk.new _ _ _
  have a0 : W0.cell? ⟨w.heap.size, 0, none⟩ = some (.int .i64 R) := b0.cell 0
  have a1 : W0.cell? ⟨w.heap.size, 1, none⟩ = some (.int .i64 C) := b0.cell 1
  have a2 : W0.cell? ⟨w.heap.size, 2, none⟩ = some (.slice A n c) := b0.cell 2
  have la := b0.lt
  have HW := Lib.hid hW0
  have HB0 := Lib.hid b0
  have HK := Lib.hid k0
  have HR0 := Lib.hid (h.below k0)
  have HX0 := Lib.hid (hx.below k0)
  have HL := Lib.hid (And.intro hl hxl)
  have HIN := Lib.hid (And.intro h1 h2)
  have HN := Lib.hid hn
  clear hW0 b0 k0 C1 hrt h hx hl hxl h1 h2 hn
  go_enter Try.func51, Try.ntmps51
  go_wp2_with fail
  rw [HW.out]
  go_wp2_with fail
  ((with_reducible refine (HC1.out _).mono ?_); rintro e w1 ⟨rfl, hb1⟩)
  have m1 := HB0.out.kept hb1
  have y1 : w1.cell? ⟨w.heap.size, 1, none⟩ = some (.int .i64 C) := m1.cell 1
  have ly := m1.lt
  have d1 : ((C : Int) != (C : Int)) = false := by simp
  have HM1 := Lib.hid m1
  have HR1 := Lib.hid (HR0.out.below hb1)
  have HX1 := Lib.hid (HX0.out.below hb1)
  have HK1 := Lib.hid ((Kept.of HK.out).call hb1).2.2
  clear hb1 m1 a0 a1 a2 la HC1 HB0
  go_wp2_with fail
  clear y1 d1
  go_loopw [8, 9] (fun v i wr => ∃ (k : Nat) (A' : Option Addr) (c' : Nat), k ≤ R ∧ i = .int .i64 k ∧ v = .slice A' k c' ∧ wr.ownsRow w1.heap.size 2 1 (.slice A' k c') k (iv (natL k fun j => dotL q (rowL l C j) x)) ∧ Below w1.heap.size w1 wr) (fun _ i _ => R - (intOf i).toNat)
  case atStart => exact ⟨0, none, 0, by omega, rfl, rfl, World.ownsRow_nil _ _ _ _, Below.refl _ _⟩
  case round =>
    obtain ⟨k, A', c', hk, rfl, rfl, ho, hb⟩ := hrel
    have m1 := HM1.out.kept hb
    have y0 : wr.cell? ⟨w.heap.size, 0, none⟩ = some (.int .i64 R) := m1.cell 0
    have ly' := m1.lt
    have HO := Lib.hid ho
    have HB := Lib.hid hb
    clear m1 ho hb
    by_cases hlt : k < R
    · go_wp2_with fail
      clear y0
      go_loopw [10, 11] (fun v i ws => ∃ (j : Nat) (s : Int), j ≤ C ∧ i = .int .i64 j ∧ v = .int .i64 s ∧ Below wr.heap.size wr ws ∧ Hid (dotL q (rowL l C k) x = dotF q ((rowL l C k).drop j) (x.drop j) s)) (fun _ i _ => C - (intOf i).toNat)
      case atStart => exact ⟨0, 0, by omega, rfl, rfl, Below.refl _ _, dot_start _ _ _⟩
      case round =>
        rename World => ws
        obtain ⟨j, s, hj, rfl, rfl, hbs, he⟩ := hrel
        have hB1 := HB.out.trans (hbs.mono HB.out.size)
        have m2 := HM1.out.kept hB1
        have y0 : ws.cell? ⟨w.heap.size, 0, none⟩ = some (.int .i64 R) := m2.cell 0
        have y1 : ws.cell? ⟨w.heap.size, 1, none⟩ = some (.int .i64 C) := m2.cell 1
        have y2 : ws.cell? ⟨w.heap.size, 2, none⟩ = some (.slice A n c) := m2.cell 2
        have ly2 := m2.lt
        by_cases hjt : j < C
        · obtain ⟨g', o', z, rfl, hbz, hz, cz⟩ := iv_at HL.out.2 (HX1.out.below hB1) hjt
          have hkl : k * C + j < n := by rw [← HN.out]; exact row_lt k j R C hlt hjt
          obtain ⟨v, hv⟩ : ∃ v, l[k * C + j]? = some v := ⟨_, List.getElem?_eq_getElem (by rw [HL.out.1]; exact hkl)⟩
          have hvd : l.getD (k * C + j) 0 = v := by rw [List.getD_eq_getElem?_getD, hv]; rfl
          have HRw := HR1.out.below hB1
          have HAT := fun (u : KW ws) => refAt_good R C n k j A c l u.w hR hC HN.out (by omega) HL.out.1 hlt hjt (HRw.kept u.h)
          rw [hvd] at HAT
          have HDA := Lib.hid HAT
          have HMU := Lib.hid (fun W => refMulQ_any v z q W (HIN.out.1 v (List.mem_of_getElem? hv)) (HIN.out.2 z (List.mem_of_getElem? hz)))
          have HXk : Hid ((rowL l C k)[j]? = some v) := Lib.hid (by rw [rowL_get hjt]; exact hv)
          have HYk := Lib.hid hz
          have HB1' := Lib.hid hbs
          have i0 : (0 : Int) ≤ (j : Int) := by omega
          have i1 : (j : Int) < (C : Int) := by omega
          clear hkl hv hvd HRw HAT hz hbs hB1 m2
          go_wp2_with fail
          refine wp_region_kept ws (by kernel_rfl) (by kernel_rfl) (Kept.of (Below.refl _ _)) ?_
          have KC := fun (u : KW ws) b o h => KW.cells u b o h
          repeat (go_big_quiet_step (first
            | (go_at_call 44; (with_reducible exact kept_call (HDA.out _)))
            | (go_at_call 53; (with_reducible exact kept_same (HMU.out _)))))
          refine wpQuiet_nil ?_
          rintro w9 ⟨⟨_, k9⟩, rfl⟩
          clear KC y0 y1 y2 cz
          have hb9 := HB1'.out.trans (k9.2.2.mono HB1'.out.size)
          clear k9
          go_wp2
          go_roundw
          case rel => exact ⟨j + 1, _, by omega, by go_num, rfl, hb9, dot_on he HXk HYk⟩
          case measure => simp [intOf]; omega
        · obtain rfl : j = C := by omega
          have hsv : s = dotL q (rowL l j k) x := dot_end he (Lib.hid (rowL_length HN.out HL.out.1 hlt)) (Nat.le_refl _)
          have HSV := Lib.hid hsv
          have HO2 := Lib.hid (own_below HO.out hbs)
          have hz2 : w1.heap.size ≤ ws.heap.size := hB1.size
          have HB2 := Lib.hid hB1
          clear hbs hB1 he m2 hsv y2
          go_wp2_with (at_builtin; go_must (refine wpList_pushG slI64 rfl _ _ rfl w1.heap.size _ k (iv (natL k fun i => dotL q (rowL l j i) x)) rfl HO2.out #[.int .i64 s] ws.heap.size rfl rfl rfl (sone_int _) (by unfold maxLen; omega) (by omega) hz2 ?_); go_must (intro A2 c2 w6 hown6 hb6 hg6; (have HO6 := Lib.hid hown6); (have HB6 := Lib.hid hb6); clear hown6 hb6 hg6))
          go_roundw
          case rel =>
            refine ⟨k + 1, A2, c2, by omega, by go_num, rfl, ?_, HB2.out.trans HB6.out⟩
            rw [natL_succ, iv_append, ← HSV.out]
            exact HO6.out
          case measure => simp [intOf]; omega
    · obtain rfl : k = R := by omega
      clear y0
      have m1 := HM1.out.kept HB.out
      have y0 : wr.cell? ⟨w.heap.size, 0, none⟩ = some (.int .i64 k) := m1.cell 0
      have hz := HK1.out.size
      have hmul : (natL k fun j => dotL q (rowL l C j) x) = mulN l x q k := by rw [mulN, HL.out.2]
      have HML := Lib.hid hmul
      clear hmul m1
      go_wp2
      go_ret2
      refine ⟨A', c', rfl, ?_, HK1.out.trans (HB.out.mono hz)⟩
      rw [← HML.out]
      exact own_base HO.out hz

end Go.Proofs.Ytnnphileeeaibaa
