/-
  MatKeeps: the walk.
-/
import Derived.Test.YtnnphileeeaibaaMatProducts
import Derived.Test.YtnnphileeeaibaaMatOf
namespace Go.Proofs.Ytnnphileeeaibaa
set_option linter.unusedVariables false
set_option linter.unusedSimpArgs false
set_option maxRecDepth 100000
open Go.RowKit

theorem Rd.own_far {w w' : World} {size n g : Nat} {A : Option Addr} {xs : List Value} {base : Nat} {e : TypeId} {c : Nat} (h : w.ownsRow base e size (.slice A n c) n xs) (hg : w.grownBy w' (some g)) (hb : g < base) : Rd w' size A n xs :=
  (Rd.of_own h).grown hg (fun b o e _ => by have := (own_rd_block h b o e).1; omega)

set_option maxHeartbeats 1000000 in
theorem matKeeps_big (r q : Int) (A : Option Addr) (n c : Nat) (B : Option Addr) (m d : Nat) (w : World) (hn : n ≤ 9223372036854775807) (hm : m ≤ 9223372036854775807) (h : 600 < n ∨ 600 < m) :
    Calls Try.prog 10 #[.agg #[.int .i64 r, .int .i64 q, .slice A n c], .slice B m d] w fun e w' => e = .returned (.bool true) ∧ Below w.heap.size w w' := by
  have C1 := fun W => few07_any r q A n c W hn
  by_cases h1 : n ≤ 600
  · rw [show decide (n ≤ 600) = true from decide_eq_true h1] at C1
    have h2 : 600 < m := by omega
    have HC := Lib.hid C1
    clear C1
    go_enter Try.func10, Try.ntmps10
    go_wp2_with fail
    ((with_reducible refine (HC.out _).mono ?_); rintro e w1 ⟨rfl, hb1⟩)
    have k1 : Below w.heap.size w w1 := ((Kept.of (Below.refl _ w)).alloc _ |>.call hb1).2.2
    clear hb1
    go_wp2_with fail
    ((with_reducible refine (alive07_any _).mono ?_); rintro e w2 ⟨rfl, hb2⟩)
    have k2 := ((Kept.of k1).call hb2).2.2
    clear hb2
    go_wp2
    go_ret
    exact ⟨rfl, k2⟩
  · rw [show decide (n ≤ 600) = false from decide_eq_false h1] at C1
    have HC := Lib.hid C1
    clear C1
    go_enter Try.func10, Try.ntmps10
    go_wp2_with fail
    ((with_reducible refine (HC.out _).mono ?_); rintro e w1 ⟨rfl, hb1⟩)
    have k1 : Below w.heap.size w w1 := ((Kept.of (Below.refl _ w)).alloc _ |>.call hb1).2.2
    clear hb1
    go_wp2_with fail
    ((with_reducible refine (alive07_any _).mono ?_); rintro e w2 ⟨rfl, hb2⟩)
    have k2 := ((Kept.of k1).call hb2).2.2
    clear hb2
    go_wp2
    go_ret
    exact ⟨rfl, k2⟩



set_option maxHeartbeats 8000000 in
theorem matKeeps_right (R C : Nat) (A : Option Addr) (n c : Nat) (l : List Int) (B : Option Addr) (m d : Nat) (y : List Int) (w : World) (hn : n ≤ 600) (hm : m ≤ 600) (hl : l.length = n) (hy : y.length = m) (h : Rd w 1 A n (iv l)) (h' : Rd w 1 B m (iv y)) (h1 : ∀ v ∈ l, In1 v) (h2 : ∀ v ∈ y, In1 v) (hR : 1 ≤ R ∧ R ≤ 1048576) (hC : 1 ≤ C ∧ C ≤ 1048576) (hRC : R * C = n) :
    Calls Try.prog 10 #[.agg #[.int .i64 (R : Int), .int .i64 (C : Int), .slice A n c], .slice B m d] w fun e w' => e = .returned (.bool true) ∧ Below w.heap.size w w' := by
  have hr : RightP R C n := ⟨⟨by omega, by omega, by omega, by omega⟩, by rw [← hRC]; exact Int.natCast_mul R C⟩
  have hn0 : 0 < n := by rw [← hRC]; exact Nat.mul_pos hR.1 hC.1
  have C1 := fun W => few07_any (R : Int) (C : Int) A n c W (by omega)
  rw [show decide (n ≤ 600) = true from decide_eq_true hn] at C1
  have HC1 := Lib.hid C1
  have C3 := fun W => refRight_any (R : Int) (C : Int) A n c W (by omega)
  rw [show decide (RightP (R : Int) (C : Int) n) = true from decide_eq_true hr] at C3
  have HC3 := Lib.hid C3
  have HCL := Lib.hid (fun W (k : Kept w W) => refClone_any A n c l W hl (h.kept k) (by omega))
  have HCY := Lib.hid (fun W (k : Kept w W) => refClone_any B m d y W hy (h'.kept k) (by omega))
  have S1 : Hid (∀ A' c' W, Kept w W → Rd W 1 A' n (iv l) → Calls Try.prog 49 #[.slice A' n c', .slice A n c] W fun e w' => e = .returned (.bool true) ∧ Below W.heap.size W w') := Lib.hid (fun A' c' W q r1 => by
    have h := refSame_any A' A n n c' c l l W hl hl r1 (h.kept q) (by omega) (by omega)
    rwa [decide_eq_true rfl] at h)
  have S2 : Hid (∀ A' c' W, Kept w W → Rd W 1 A' m (iv y) → Calls Try.prog 49 #[.slice A' m c', .slice B m d] W fun e w' => e = .returned (.bool true) ∧ Below W.heap.size W w') := Lib.hid (fun A' c' W q r1 => by
    have h := refSame_any A' B m m c' d y y W hy hy r1 (h'.kept q) (by omega) (by omega)
    rwa [decide_eq_true rfl] at h)
  have HOF := Lib.hid (fun A' c' W (r : Rd W 1 A' n (iv l)) => of_right R C A' n c' l W hr (by omega) hl r)
  have HMU := Lib.hid (fun A' c' B' d' W (r1 : Rd W 1 A' n (iv l)) (r2 : Rd W 1 B' m (iv y)) (c1 : n ≤ c') (c2 : c' ≤ 9223372036854775807) => muls_any R C A' n c' l B' m d' y 3 W hn hm c1 c2 hl hy r1 r2 h1 h2)
  have HT := Lib.hid (fun A' c' W (r : Rd W 1 A' n (iv l)) (c1 : n ≤ c') (c2 : c' ≤ 9223372036854775807) => turn_good R C n A' c' l W hR hC hRC (by omega) hl r c1 c2)
  have HRT := Lib.hid (fun W (k : Kept w W) => refTurn_good R C n A c l W hR hC hRC (by omega) hl (h.kept k))
  have hTl : (turnN l R C).length = n := by rw [turnN, natL_length, Nat.mul_comm]; exact hRC
  have HTL := Lib.hid hTl
  have HNN := Lib.hid hn0
  clear hTl hn0 hRC
  have HL := Lib.hid hl
  clear C1 C3 h h' h1 h2 hl hy hr
  obtain ⟨W0, hW0⟩ : ∃ W0, w.alloc (.cells #[.int .i64 (R : Int), .int .i64 (C : Int), .slice A n c] 55) = W0 := ⟨_, rfl⟩
  have b0 : Blk W0 w.heap.size 55 #[.int .i64 (R : Int), .int .i64 (C : Int), .slice A n c] := by rw [← hW0]; exact Blk.new _ _ _
  have k0 : Below w.heap.size w W0 := by rw [← hW0]; exact (Below.refl _ _).alloc (Nat.le_refl _) _
  have a0 : W0.cell? ⟨w.heap.size, 0, none⟩ = some (.int .i64 (R : Int)) := b0.cell 0
  have a1 : W0.cell? ⟨w.heap.size, 1, none⟩ = some (.int .i64 (C : Int)) := b0.cell 1
  have a2 : W0.cell? ⟨w.heap.size, 2, none⟩ = some (.slice A n c) := b0.cell 2
  have la := b0.lt
  have HB0 := Lib.hid b0
  have HK0 := Lib.hid k0
  have HW0 := Lib.hid hW0
  clear b0 k0 hW0
  go_enter Try.func10, Try.ntmps10
  go_wp2_with fail
  rw [HW0.out]
  go_wp2_with fail
  ((with_reducible refine (HC1.out _).mono ?_); rintro e w1 ⟨rfl, hb1⟩)
  have m1 := HB0.out.kept hb1
  have k1 := (Kept.of HK0.out).call hb1
  clear hb1 a0 a1 a2 la HW0
  have x0 : w1.cell? ⟨w.heap.size, 0, none⟩ = some (.int .i64 (R : Int)) := m1.cell 0
  have x1 : w1.cell? ⟨w.heap.size, 1, none⟩ = some (.int .i64 (C : Int)) := m1.cell 1
  have x2 : w1.cell? ⟨w.heap.size, 2, none⟩ = some (.slice A n c) := m1.cell 2
  have lx := m1.lt
  have HM1 := Lib.hid m1
  clear m1
  go_wp2_with fail
  ((with_reducible refine (HCL.out _ k1).mono ?_); rintro e w2 ⟨A1, c1, rfl, hown2, hb2⟩)
  have k2 := k1.call hb2
  have HM2 := Lib.hid (HM1.out.kept hb2)
  obtain ⟨_, _, q1, q2, q3, q6⟩ := own_form hown2
  injection q1 with q4 q5 q7
  subst q4 q7
  obtain ⟨g1, rfl, hg1, hg2⟩ := q6 HNN.out
  have hc1 : c1 ≤ 9223372036854775807 := by unfold maxLen at q3; omega
  have hz1 : w.heap.size ≤ w1.heap.size := k1.2.1
  have HO2 := Lib.hid hown2
  clear hb2 hown2 x0 x1 x2 lx k1 HM1 q6
  go_wp2_with fail
  ((with_reducible refine (HCY.out _ k2).mono ?_); rintro e w3 ⟨A2, c2, rfl, hown3, hb3⟩)
  have k3 := k2.call hb3
  have m3 := HM2.out.kept hb3
  have HO3 := Lib.hid (own_below HO2.out hb3)
  have HY3 := Lib.hid (Rd.of_own hown3)
  have hz3 : w2.heap.size ≤ w3.heap.size := hb3.size
  clear hb3 hown3 k2 HM2 HO2
  have x0 : w3.cell? ⟨w.heap.size, 0, none⟩ = some (.int .i64 (R : Int)) := m3.cell 0
  have x1 : w3.cell? ⟨w.heap.size, 1, none⟩ = some (.int .i64 (C : Int)) := m3.cell 1
  have x2 : w3.cell? ⟨w.heap.size, 2, none⟩ = some (.slice A n c) := m3.cell 2
  have lx := m3.lt
  have HM3 := Lib.hid m3
  clear m3
  go_wp2_with fail
  ((with_reducible refine (HOF.out _ _ _ (Rd.of_own HO3.out)).mono ?_); rintro e w4 ⟨AY, cY, rfl, hown4, hb4⟩)
  have k4 := k3.call hb4
  have hz4 : w3.heap.size ≤ w4.heap.size := hb4.size
  have m4 := HM3.out.kept hb4
  have HO4 := Lib.hid (own_below HO3.out hb4)
  have HY4 := Lib.hid (HY3.out.below hb4)
  clear hb4 x0 x1 x2 lx k3 HM3 HO3 HY3
  have x0 : w4.cell? ⟨w.heap.size, 0, none⟩ = some (.int .i64 (R : Int)) := m4.cell 0
  have x1 : w4.cell? ⟨w.heap.size, 1, none⟩ = some (.int .i64 (C : Int)) := m4.cell 1
  have x2 : w4.cell? ⟨w.heap.size, 2, none⟩ = some (.slice A n c) := m4.cell 2
  have lx := m4.lt
  obtain ⟨W5, hW5⟩ : ∃ W5, w4.alloc (.cells #[.int .i64 (R : Int), .int .i64 (C : Int), .slice AY n cY] 51) = W5 := ⟨_, rfl⟩
  have g5 : Below w4.heap.size w4 W5 := by rw [← hW5]; exact (Below.refl _ _).alloc (Nat.le_refl _) _
  have n5 : Blk W5 w4.heap.size 51 #[.int .i64 (R : Int), .int .i64 (C : Int), .slice AY n cY] := by rw [← hW5]; exact Blk.new _ _ _
  have k5 := k4.call g5
  have m5 := m4.kept g5
  have HO5 := Lib.hid (own_below HO4.out g5)
  have HY5 := Lib.hid (HY4.out.below g5)
  have HV5 := Lib.hid (own_below hown4 g5)
  clear hown4
  have HM5 := Lib.hid m5
  have HN5 := Lib.hid n5
  have HW5 := Lib.hid hW5
  clear hW5 m4 m5 n5 g5 k4 HO4 HY4
  go_wp2_with fail
  rw [HW5.out]
  clear HW5 x0 x1 x2 lx
  obtain ⟨NM, sM, okM, _, _, hMU, _⟩ := HMU.out _ _ _ c2 W5 (Rd.of_own HO5.out) HY5.out q2 hc1
  ((with_reducible refine (hMU W5 (Kept.of (Below.refl _ _))).mono ?_); rintro e w6 ⟨AM, cM, rfl, _, hb6⟩)
  clear hMU
  have k6 := k5.call hb6
  have m6 := HM5.out.kept hb6
  have HN6 := Lib.hid (HN5.out.kept hb6)
  have HO6 := Lib.hid (own_below HO5.out hb6)
  have HY6 := Lib.hid (HY5.out.below hb6)
  have HV6 := Lib.hid (own_below HV5.out hb6)
  clear hb6 k5 HM5 HN5 HO5 HY5
  have x0 : w6.cell? ⟨w.heap.size, 0, none⟩ = some (.int .i64 (R : Int)) := m6.cell 0
  have x1 : w6.cell? ⟨w.heap.size, 1, none⟩ = some (.int .i64 (C : Int)) := m6.cell 1
  have x2 : w6.cell? ⟨w.heap.size, 2, none⟩ = some (.slice A n c) := m6.cell 2
  have lx := m6.lt
  have HM6 := Lib.hid m6
  clear m6
  go_wp2_with fail
  ((with_reducible refine (HT.out _ _ _ (Rd.of_own HO6.out) q2 hc1).mono ?_); rintro e w7 ⟨AT, cT, rfl, hown7a, hb7⟩)
  have hown7 := own_base hown7a (show w3.heap.size ≤ w6.heap.size by have := HN6.out.lt; omega)
  clear hown7a
  have k7 := k6.call hb7
  have m7 := HM6.out.kept hb7
  have HN7 := Lib.hid (HN6.out.kept hb7)
  have HO7 := Lib.hid (own_below HO6.out hb7)
  have HY7 := Lib.hid (HY6.out.below hb7)
  have HV7 := Lib.hid (own_below HV6.out hb7)
  clear hb7 x0 x1 x2 lx k6 HM6 HN6 HO6 HY6
  have x0 : w7.cell? ⟨w.heap.size, 0, none⟩ = some (.int .i64 (R : Int)) := m7.cell 0
  have x1 : w7.cell? ⟨w.heap.size, 1, none⟩ = some (.int .i64 (C : Int)) := m7.cell 1
  have x2 : w7.cell? ⟨w.heap.size, 2, none⟩ = some (.slice A n c) := m7.cell 2
  have lx := m7.lt
  obtain ⟨W8, hW8⟩ : ∃ W8, w7.alloc (.cells #[.int .i64 (C : Int), .int .i64 (R : Int), .slice AT n cT] 51) = W8 := ⟨_, rfl⟩
  have g8 : Below w7.heap.size w7 W8 := by rw [← hW8]; exact (Below.refl _ _).alloc (Nat.le_refl _) _
  have p8 : Blk W8 w7.heap.size 51 #[.int .i64 (C : Int), .int .i64 (R : Int), .slice AT n cT] := by rw [← hW8]; exact Blk.new _ _ _
  have k8 := k7.call g8
  have HM8 := Lib.hid (m7.kept g8)
  have HN8 := Lib.hid (HN7.out.kept g8)
  have HO8 := Lib.hid (own_below HO7.out g8)
  have HY8 := Lib.hid (HY7.out.below g8)
  have HV8 := Lib.hid (own_below HV7.out g8)
  have HT8 := Lib.hid (own_below hown7 g8)
  clear hown7
  have HP8 := Lib.hid p8
  have HW8 := Lib.hid hW8
  clear hW8 m7 p8 g8 k7 HN7 HO7 HY7
  go_wp2_with fail
  rw [HW8.out]
  clear HW8 x0 x1 x2 lx
  ((with_reducible refine (S1.out _ _ _ k8 (Rd.of_own HO8.out)).mono ?_); rintro e w9 ⟨rfl, hb9⟩)
  have k9 := k8.call hb9
  have HY9 := Lib.hid (HY8.out.below hb9)
  have HM9 := Lib.hid (HM8.out.kept hb9)
  have b89 := Lib.hid hb9
  clear hb9 k8
  go_wp2_with fail
  ((with_reducible refine (S2.out _ _ _ k9 HY9.out).mono ?_); rintro e wa ⟨rfl, hba⟩)
  have ka := k9.call hba
  have ma := HM9.out.kept hba
  have b8a := Lib.hid ((Kept.of b89.out).call hba).2.2
  clear hba k9 HY9 HM9 b89
  have x0 : wa.cell? ⟨w.heap.size, 0, none⟩ = some (.int .i64 (R : Int)) := ma.cell 0
  have x1 : wa.cell? ⟨w.heap.size, 1, none⟩ = some (.int .i64 (C : Int)) := ma.cell 1
  have x2 : wa.cell? ⟨w.heap.size, 2, none⟩ = some (.slice A n c) := ma.cell 2
  have lx := ma.lt
  go_wp2_with fail
  ((with_reducible refine (HC3.out _).mono ?_); rintro e wb ⟨rfl, hbb⟩)
  have kb := ka.call hbb
  have hb := ((Kept.of b8a.out).call hbb).2.2
  have HMb := Lib.hid (HM8.out.kept hb)
  have HNb := Lib.hid (HN8.out.kept hb)
  have HPb := Lib.hid (HP8.out.kept hb)
  have HOb := Lib.hid (own_below HO8.out hb)
  have HVb := Lib.hid (own_below HV8.out hb)
  have HTb := Lib.hid (own_below HT8.out hb)
  have HKb := Lib.hid kb.2.2
  have hzb : w3.heap.size ≤ wb.heap.size := by have := HN8.out.lt; have := hb.size; omega
  clear hbb hb ka kb b8a x0 x1 x2 lx ma HM8 HN8 HP8 HO8
  go_wp2_with fail
  go_loopw [68] (fun i wr => ∃ (k : Nat) (xs : List Int), k ≤ n ∧ i = .int .i64 k ∧ xs.length = n ∧ wr.ownsRow w1.heap.size 2 1 (.slice (some ⟨g1, 0, none⟩) n c1) n (iv xs) ∧ wb.grownBy wr (Value.slice (some ⟨g1, 0, none⟩) n c1).ownBlock) (fun i _ => n - (intOf i).toNat)
  case atStart => exact ⟨0, l, by omega, rfl, HL.out, HOb.out, World.grownBy.refl _ _⟩
  case round =>
    obtain ⟨k, xs, hk, rfl, hx, ho, hg⟩ := hrel
    by_cases hlt : k < n
    · clear hg1 hg2
      obtain ⟨hg1, hg2⟩ := (ho.lt g1 rfl)
      obtain ⟨z, hz⟩ : ∃ z, xs[k]? = some z := ⟨_, List.getElem?_eq_getElem (by rw [hx]; exact hlt)⟩
      have c0 : wr.cell? ⟨g1, k, none⟩ = some (.int .i64 z) := by
        rw [ho.cellAt k (by omega), iv, List.getElem?_map, hz]
        rfl
      have fz := ho.frozenAt k
      have HS := Lib.hid (ho.stored k (.int .i64 (wrap64 (z + 1))))
      have HG := Lib.hid hg
      have HXS := Lib.hid hx
      have i0 : (0 : Int) ≤ (k : Int) := by omega
      have i1 : (k : Int) < (n : Int) := by omega
      clear ho hg hx hz
      go_wp2_with fail
      go_roundw
      case rel => exact ⟨k + 1, xs.set k (wrap64 (z + 1)), by omega, by go_num, by rw [List.length_set]; exact HXS.out, by rw [← iv_set]; exact HS.out.1, HG.out.trans HS.out.2⟩
      case measure => simp [intOf]; omega
    · obtain rfl : k = n := by omega
      have mr := HMb.out.other HOb.out hg (by decide)
      have nr := HNb.out.other HOb.out hg (by decide)
      have pr := HPb.out.other HOb.out hg (by decide)
      have HKr := Lib.hid (HKb.out.grown hg HKb.out.size (fun j e => by have := (HOb.out.lt j e).1; omega))
      have x0 : wr.cell? ⟨w.heap.size, 0, none⟩ = some (.int .i64 (R : Int)) := mr.cell 0
      have x1 : wr.cell? ⟨w.heap.size, 1, none⟩ = some (.int .i64 (C : Int)) := mr.cell 1
      have x2 : wr.cell? ⟨w.heap.size, 2, none⟩ = some (.slice A k c) := mr.cell 2
      have lx := mr.lt
      have y0 : wr.cell? ⟨w4.heap.size, 0, none⟩ = some (.int .i64 (R : Int)) := nr.cell 0
      have y1 : wr.cell? ⟨w4.heap.size, 1, none⟩ = some (.int .i64 (C : Int)) := nr.cell 1
      have y2 : wr.cell? ⟨w4.heap.size, 2, none⟩ = some (.slice AY k cY) := nr.cell 2
      have ly := nr.lt
      have z0 : wr.cell? ⟨w7.heap.size, 0, none⟩ = some (.int .i64 (C : Int)) := pr.cell 0
      have z1 : wr.cell? ⟨w7.heap.size, 1, none⟩ = some (.int .i64 (R : Int)) := pr.cell 1
      have z2 : wr.cell? ⟨w7.heap.size, 2, none⟩ = some (.slice AT k cT) := pr.cell 2
      have lz := pr.lt
      have HVr := Lib.hid (Rd.own_far (g := g1) (base := w3.heap.size) HVb.out hg (by omega))
      have HTr := Lib.hid (Rd.own_far (g := g1) (base := w3.heap.size) HTb.out hg (by omega))
      clear mr nr pr ho hg
      go_wp2_with fail
      go_region_held3 (fun w' => Kept wr w') (first | exact kk | exact kk.alloc _ | exact Kept.start wr) (first
        | (go_at_call 23; (with_reducible refine (alive07_any _).mono ?_); rintro e wc ⟨rfl, hb⟩; have kk := (Kept.start wr).call hb; clear hb)
        | (go_at_call 49; (with_reducible refine (S1.out _ _ _ ((Kept.of HKr.out).call kk.2.2) (HVr.out.kept kk)).mono ?_); rintro e wd ⟨rfl, hb⟩; replace kk := kk.call hb; clear hb)
        | (go_at_call 26; (with_reducible refine (back07_any _ _ _ _ _ _).mono ?_); rintro e we ⟨rfl, hb⟩; replace kk := kk.call hb; clear hb)
        | (go_at_call 28; (with_reducible refine (HRT.out _ ((Kept.of HKr.out).call kk.2.2)).mono ?_); rintro e wf ⟨AR, cR, rfl, hR', hb⟩; replace kk := kk.call hb; have HRR := Lib.hid (Rd.of_own hR'); clear hR' hb)
        | (go_at_call 25; (with_reducible refine (refMatSame_any _ _ _ _ k _ _ (turnN l R C) _ HTL.out (HTr.out.kept kk) HRR.out (by omega)).mono ?_); rintro e wg ⟨rfl, hb⟩; replace kk := kk.call hb; clear hb))
      all_goals go_wp2_with fail
      all_goals go_ret
      all_goals exact ⟨rfl, ((Kept.of HKr.out).call kk.2.2).2.2⟩


set_option maxHeartbeats 8000000 in
theorem matKeeps_wrong (r q : Int) (A : Option Addr) (n c : Nat) (l : List Int) (B : Option Addr) (m d : Nat) (y : List Int) (w : World) (hn : n ≤ 600) (hm : m ≤ 600) (hl : l.length = n) (hy : y.length = m) (h : Rd w 1 A n (iv l)) (h' : Rd w 1 B m (iv y)) (h1 : ∀ v ∈ l, In1 v) (h2 : ∀ v ∈ y, In1 v) (hr : ¬ RightP r q n) :
    Calls Try.prog 10 #[.agg #[.int .i64 r, .int .i64 q, .slice A n c], .slice B m d] w fun e w' => e = .returned (.bool true) ∧ Below w.heap.size w w' := by
  have C1 := fun W => few07_any r q A n c W (by omega)
  rw [show decide (n ≤ 600) = true from decide_eq_true hn] at C1
  have HC1 := Lib.hid C1
  have C3 := fun W => refRight_any r q A n c W (by omega)
  rw [show decide (RightP r q n) = false from decide_eq_false hr] at C3
  have HC3 := Lib.hid C3
  have HCL := Lib.hid (fun W (k : Kept w W) => refClone_any A n c l W hl (h.kept k) (by omega))
  have HCY := Lib.hid (fun W (k : Kept w W) => refClone_any B m d y W hy (h'.kept k) (by omega))
  have S1 : Hid (∀ A' c' W, Kept w W → Rd W 1 A' n (iv l) → Calls Try.prog 49 #[.slice A' n c', .slice A n c] W fun e w' => e = .returned (.bool true) ∧ Below W.heap.size W w') := Lib.hid (fun A' c' W q r1 => by
    have h := refSame_any A' A n n c' c l l W hl hl r1 (h.kept q) (by omega) (by omega)
    rwa [decide_eq_true rfl] at h)
  have S2 : Hid (∀ A' c' W, Kept w W → Rd W 1 A' m (iv y) → Calls Try.prog 49 #[.slice A' m c', .slice B m d] W fun e w' => e = .returned (.bool true) ∧ Below W.heap.size W w') := Lib.hid (fun A' c' W q r1 => by
    have h := refSame_any A' B m m c' d y y W hy hy r1 (h'.kept q) (by omega) (by omega)
    rwa [decide_eq_true rfl] at h)
  have HOF := Lib.hid (fun A' c' W (rd : Rd W 1 A' n (iv l)) => of_wrong r q A' n c' l W hr (by omega) hl rd)
  have HMU := Lib.hid (fun A' c' B' d' W => mul_not r q A' n c' B' m d' 3 W (by omega) (by omega) (.inl hr))
  have C4 := fun A' c' W => turn_not r q A' n c' W hr (by omega)
  simp only [NoGrid] at C4
  have HT := Lib.hid C4
  have HRT := Lib.hid (fun W => refTurn_wrong r q A n c W hr (by omega))
  clear C4
  have HL := Lib.hid hl
  clear C1 C3 h h' h1 h2 hl hy hr
  obtain ⟨W0, hW0⟩ : ∃ W0, w.alloc (.cells #[.int .i64 r, .int .i64 q, .slice A n c] 55) = W0 := ⟨_, rfl⟩
  have b0 : Blk W0 w.heap.size 55 #[.int .i64 r, .int .i64 q, .slice A n c] := by rw [← hW0]; exact Blk.new _ _ _
  have k0 : Below w.heap.size w W0 := by rw [← hW0]; exact (Below.refl _ _).alloc (Nat.le_refl _) _
  have a0 : W0.cell? ⟨w.heap.size, 0, none⟩ = some (.int .i64 r) := b0.cell 0
  have a1 : W0.cell? ⟨w.heap.size, 1, none⟩ = some (.int .i64 q) := b0.cell 1
  have a2 : W0.cell? ⟨w.heap.size, 2, none⟩ = some (.slice A n c) := b0.cell 2
  have la := b0.lt
  have HB0 := Lib.hid b0
  have HK0 := Lib.hid k0
  have HW0 := Lib.hid hW0
  clear b0 k0 hW0
  go_enter Try.func10, Try.ntmps10
  go_wp2_with fail
  rw [HW0.out]
  go_wp2_with fail
  ((with_reducible refine (HC1.out _).mono ?_); rintro e w1 ⟨rfl, hb1⟩)
  have m1 := HB0.out.kept hb1
  have k1 := (Kept.of HK0.out).call hb1
  clear hb1 a0 a1 a2 la HW0
  have x0 : w1.cell? ⟨w.heap.size, 0, none⟩ = some (.int .i64 r) := m1.cell 0
  have x1 : w1.cell? ⟨w.heap.size, 1, none⟩ = some (.int .i64 q) := m1.cell 1
  have x2 : w1.cell? ⟨w.heap.size, 2, none⟩ = some (.slice A n c) := m1.cell 2
  have lx := m1.lt
  have HM1 := Lib.hid m1
  clear m1
  go_wp2_with fail
  ((with_reducible refine (HCL.out _ k1).mono ?_); rintro e w2 ⟨A1, c1, rfl, hown2, hb2⟩)
  have k2 := k1.call hb2
  have HM2 := Lib.hid (HM1.out.kept hb2)
  obtain ⟨_, _, q1, q2, q3, q6⟩ := own_form hown2
  injection q1 with q4 q5 q7
  subst q4 q7
  have hz1 : w.heap.size ≤ w1.heap.size := k1.2.1
  have HO2 := Lib.hid hown2
  clear hb2 hown2 x0 x1 x2 lx k1 HM1 q6
  go_wp2_with fail
  ((with_reducible refine (HCY.out _ k2).mono ?_); rintro e w3 ⟨A2, c2, rfl, hown3, hb3⟩)
  have k3 := k2.call hb3
  have m3 := HM2.out.kept hb3
  have HO3 := Lib.hid (own_below HO2.out hb3)
  have HY3 := Lib.hid (Rd.of_own hown3)
  have hz3 : w2.heap.size ≤ w3.heap.size := hb3.size
  clear hb3 hown3 k2 HM2 HO2
  have x0 : w3.cell? ⟨w.heap.size, 0, none⟩ = some (.int .i64 r) := m3.cell 0
  have x1 : w3.cell? ⟨w.heap.size, 1, none⟩ = some (.int .i64 q) := m3.cell 1
  have x2 : w3.cell? ⟨w.heap.size, 2, none⟩ = some (.slice A n c) := m3.cell 2
  have lx := m3.lt
  have HM3 := Lib.hid m3
  clear m3
  go_wp2_with fail
  ((with_reducible refine (HOF.out _ _ _ (Rd.of_own HO3.out)).mono ?_); rintro e w4 ⟨rfl, hb4⟩)
  have k4 := k3.call hb4
  have hz4 : w3.heap.size ≤ w4.heap.size := hb4.size
  have m4 := HM3.out.kept hb4
  have HO4 := Lib.hid (own_below HO3.out hb4)
  have HY4 := Lib.hid (HY3.out.below hb4)
  clear hb4 x0 x1 x2 lx k3 HM3 HO3 HY3
  have x0 : w4.cell? ⟨w.heap.size, 0, none⟩ = some (.int .i64 r) := m4.cell 0
  have x1 : w4.cell? ⟨w.heap.size, 1, none⟩ = some (.int .i64 q) := m4.cell 1
  have x2 : w4.cell? ⟨w.heap.size, 2, none⟩ = some (.slice A n c) := m4.cell 2
  have lx := m4.lt
  obtain ⟨W5, hW5⟩ : ∃ W5, w4.alloc (.cells #[.int .i64 0, .int .i64 0, .slice none 0 0] 51) = W5 := ⟨_, rfl⟩
  have g5 : Below w4.heap.size w4 W5 := by rw [← hW5]; exact (Below.refl _ _).alloc (Nat.le_refl _) _
  have n5 : Blk W5 w4.heap.size 51 #[.int .i64 0, .int .i64 0, .slice none 0 0] := by rw [← hW5]; exact Blk.new _ _ _
  have k5 := k4.call g5
  have m5 := m4.kept g5
  have HO5 := Lib.hid (own_below HO4.out g5)
  have HY5 := Lib.hid (HY4.out.below g5)
  have HM5 := Lib.hid m5
  have HN5 := Lib.hid n5
  have HW5 := Lib.hid hW5
  clear hW5 m4 m5 n5 g5 k4 HO4 HY4
  go_wp2_with fail
  rw [HW5.out]
  clear HW5 x0 x1 x2 lx
  ((with_reducible refine (HMU.out _ _ _ _ _).mono ?_); rintro e w6 ⟨rfl, hb6⟩)
  have k6 := k5.call hb6
  have m6 := HM5.out.kept hb6
  have HN6 := Lib.hid (HN5.out.kept hb6)
  have HO6 := Lib.hid (own_below HO5.out hb6)
  have HY6 := Lib.hid (HY5.out.below hb6)
  clear hb6 k5 HM5 HN5 HO5 HY5
  have x0 : w6.cell? ⟨w.heap.size, 0, none⟩ = some (.int .i64 r) := m6.cell 0
  have x1 : w6.cell? ⟨w.heap.size, 1, none⟩ = some (.int .i64 q) := m6.cell 1
  have x2 : w6.cell? ⟨w.heap.size, 2, none⟩ = some (.slice A n c) := m6.cell 2
  have lx := m6.lt
  have HM6 := Lib.hid m6
  clear m6
  go_wp2_with fail
  ((with_reducible refine (HT.out _ _ _).mono ?_); rintro e w7 ⟨rfl, hb7⟩)
  have k7 := k6.call hb7
  have m7 := HM6.out.kept hb7
  have HN7 := Lib.hid (HN6.out.kept hb7)
  have HO7 := Lib.hid (own_below HO6.out hb7)
  have HY7 := Lib.hid (HY6.out.below hb7)
  clear hb7 x0 x1 x2 lx k6 HM6 HN6 HO6 HY6
  have x0 : w7.cell? ⟨w.heap.size, 0, none⟩ = some (.int .i64 r) := m7.cell 0
  have x1 : w7.cell? ⟨w.heap.size, 1, none⟩ = some (.int .i64 q) := m7.cell 1
  have x2 : w7.cell? ⟨w.heap.size, 2, none⟩ = some (.slice A n c) := m7.cell 2
  have lx := m7.lt
  obtain ⟨W8, hW8⟩ : ∃ W8, w7.alloc (.cells #[.int .i64 0, .int .i64 0, .slice none 0 0] 51) = W8 := ⟨_, rfl⟩
  have g8 : Below w7.heap.size w7 W8 := by rw [← hW8]; exact (Below.refl _ _).alloc (Nat.le_refl _) _
  have p8 : Blk W8 w7.heap.size 51 #[.int .i64 0, .int .i64 0, .slice none 0 0] := by rw [← hW8]; exact Blk.new _ _ _
  have k8 := k7.call g8
  have HM8 := Lib.hid (m7.kept g8)
  have HN8 := Lib.hid (HN7.out.kept g8)
  have HO8 := Lib.hid (own_below HO7.out g8)
  have HY8 := Lib.hid (HY7.out.below g8)
  have HP8 := Lib.hid p8
  have HW8 := Lib.hid hW8
  clear hW8 m7 p8 g8 k7 HN7 HO7 HY7
  go_wp2_with fail
  rw [HW8.out]
  clear HW8 x0 x1 x2 lx
  ((with_reducible refine (S1.out _ _ _ k8 (Rd.of_own HO8.out)).mono ?_); rintro e w9 ⟨rfl, hb9⟩)
  have k9 := k8.call hb9
  have HY9 := Lib.hid (HY8.out.below hb9)
  have HM9 := Lib.hid (HM8.out.kept hb9)
  have b89 := Lib.hid hb9
  clear hb9 k8
  go_wp2_with fail
  ((with_reducible refine (S2.out _ _ _ k9 HY9.out).mono ?_); rintro e wa ⟨rfl, hba⟩)
  have ka := k9.call hba
  have ma := HM9.out.kept hba
  have b8a := Lib.hid ((Kept.of b89.out).call hba).2.2
  clear hba k9 HY9 HM9 b89
  have x0 : wa.cell? ⟨w.heap.size, 0, none⟩ = some (.int .i64 r) := ma.cell 0
  have x1 : wa.cell? ⟨w.heap.size, 1, none⟩ = some (.int .i64 q) := ma.cell 1
  have x2 : wa.cell? ⟨w.heap.size, 2, none⟩ = some (.slice A n c) := ma.cell 2
  have lx := ma.lt
  go_wp2_with fail
  ((with_reducible refine (HC3.out _).mono ?_); rintro e wb ⟨rfl, hbb⟩)
  have kb := ka.call hbb
  have hb := ((Kept.of b8a.out).call hbb).2.2
  have HMb := Lib.hid (HM8.out.kept hb)
  have HNb := Lib.hid (HN8.out.kept hb)
  have HPb := Lib.hid (HP8.out.kept hb)
  have HOb := Lib.hid (own_below HO8.out hb)
  have HKb := Lib.hid kb.2.2
  have hzb : w3.heap.size ≤ wb.heap.size := by have := HN8.out.lt; have := hb.size; omega
  clear hbb hb ka kb b8a x0 x1 x2 lx ma HM8 HN8 HP8 HO8
  go_wp2_with fail
  go_loopw [68] (fun i wr => ∃ (k : Nat) (xs : List Int), k ≤ n ∧ i = .int .i64 k ∧ xs.length = n ∧ wr.ownsRow w1.heap.size 2 1 (.slice A1 n c1) n (iv xs) ∧ wb.grownBy wr (Value.slice A1 n c1).ownBlock) (fun i _ => n - (intOf i).toNat)
  case atStart => exact ⟨0, l, by omega, rfl, HL.out, HOb.out, World.grownBy.refl _ _⟩
  case round =>
    obtain ⟨k, xs, hk, rfl, hx, ho, hg⟩ := hrel
    by_cases hlt : k < n
    · obtain ⟨_, _, q1, q2, q3, q6⟩ := own_form ho
      injection q1 with q4 q5 q7
      subst q4 q7
      obtain ⟨g1, rfl, hg1, hg2⟩ := q6 (by omega)
      obtain ⟨z, hz⟩ : ∃ z, xs[k]? = some z := ⟨_, List.getElem?_eq_getElem (by rw [hx]; exact hlt)⟩
      have c0 : wr.cell? ⟨g1, k, none⟩ = some (.int .i64 z) := by
        rw [ho.cellAt k (by omega), iv, List.getElem?_map, hz]
        rfl
      have fz := ho.frozenAt k
      have HS := Lib.hid (ho.stored k (.int .i64 (wrap64 (z + 1))))
      have HG := Lib.hid hg
      have HXS := Lib.hid hx
      have i0 : (0 : Int) ≤ (k : Int) := by omega
      have i1 : (k : Int) < (n : Int) := by omega
      clear ho hg hx hz
      go_wp2_with fail
      go_roundw
      case rel => exact ⟨k + 1, xs.set k (wrap64 (z + 1)), by omega, by go_num, by rw [List.length_set]; exact HXS.out, by rw [← iv_set]; exact HS.out.1, HG.out.trans HS.out.2⟩
      case measure => simp [intOf]; omega
    · obtain rfl : k = n := by omega
      have mr := HMb.out.other HOb.out hg (by decide)
      have nr := HNb.out.other HOb.out hg (by decide)
      have pr := HPb.out.other HOb.out hg (by decide)
      have HKr := Lib.hid (HKb.out.grown hg HKb.out.size (fun j e => by have := (HOb.out.lt j e).1; omega))
      have x0 : wr.cell? ⟨w.heap.size, 0, none⟩ = some (.int .i64 r) := mr.cell 0
      have x1 : wr.cell? ⟨w.heap.size, 1, none⟩ = some (.int .i64 q) := mr.cell 1
      have x2 : wr.cell? ⟨w.heap.size, 2, none⟩ = some (.slice A k c) := mr.cell 2
      have lx := mr.lt
      have y0 : wr.cell? ⟨w4.heap.size, 0, none⟩ = some (.int .i64 0) := nr.cell 0
      have y1 : wr.cell? ⟨w4.heap.size, 1, none⟩ = some (.int .i64 0) := nr.cell 1
      have y2 : wr.cell? ⟨w4.heap.size, 2, none⟩ = some (.slice none 0 0) := nr.cell 2
      have ly := nr.lt
      have z0 : wr.cell? ⟨w7.heap.size, 0, none⟩ = some (.int .i64 0) := pr.cell 0
      have z1 : wr.cell? ⟨w7.heap.size, 1, none⟩ = some (.int .i64 0) := pr.cell 1
      have z2 : wr.cell? ⟨w7.heap.size, 2, none⟩ = some (.slice none 0 0) := pr.cell 2
      have lz := pr.lt
      clear mr nr pr ho hg
      go_wp2_with fail
      have HDA := Lib.hid (fun (u : KW wr) => alive07_any u.w)
      have HDB := Lib.hid (fun (u : KW wr) => back07_any 0 0 none 0 0 u.w)
      have HDT := Lib.hid (fun (u : KW wr) => HRT.out u.w)
      have HDS := Lib.hid (fun (u : KW wr) => refMatSame_any 0 0 none none 0 0 0 [] u.w rfl (Rd.nil _ _ _) (Rd.nil _ _ _) (by omega))
      refine wp_region_kept wr (by kernel_rfl) (by kernel_rfl) (Kept.of (Below.refl _ _)) ?_
      have KC := fun (u : KW wr) b o h => KW.cells u b o h
      repeat (go_big_quiet_step (first
        | (go_at_call 23; (with_reducible exact kept_call (HDA.out _)))
        | (go_at_call 26; (with_reducible exact kept_call (HDB.out _)))
        | (go_at_call 28; (with_reducible exact kept_call (HDT.out _)))
        | (go_at_call 25; (with_reducible exact kept_call (HDS.out _)))))
      refine wpQuiet_nil ?_
      rintro we ⟨⟨_, k9⟩, rfl⟩
      clear KC x0 x1 x2 lx y0 y1 y2 ly z0 z1 z2 lz
      go_wp2
      go_ret
      exact ⟨rfl, ((Kept.of HKr.out).call k9.2.2).2.2⟩


theorem matKeeps_any (r q : Int) (A : Option Addr) (n c : Nat) (l : List Int) (B : Option Addr) (m d : Nat) (y : List Int) (w : World) (hn : n ≤ 9223372036854775807) (hm : m ≤ 9223372036854775807) (hl : l.length = n) (hy : y.length = m) (h : Rd w 1 A n (iv l)) (h' : Rd w 1 B m (iv y)) (h1 : ∀ v ∈ l, In1 v) (h2 : ∀ v ∈ y, In1 v) :
    Calls Try.prog 10 #[.agg #[.int .i64 r, .int .i64 q, .slice A n c], .slice B m d] w fun e w' => e = .returned (.bool true) ∧ Below w.heap.size w w' := by
  by_cases hb : 600 < n ∨ 600 < m
  · exact matKeeps_big r q A n c B m d w hn hm hb
  · by_cases hr : RightP r q n
    · obtain ⟨⟨a1, a2, a3, a4⟩, a5⟩ := hr
      obtain ⟨R, rfl⟩ := Int.eq_ofNat_of_zero_le (show 0 ≤ r by omega)
      obtain ⟨C, rfl⟩ := Int.eq_ofNat_of_zero_le (show 0 ≤ q by omega)
      have hRC : R * C = n := Int.ofNat.inj (by rw [Int.ofNat_eq_natCast, Int.ofNat_eq_natCast, Int.natCast_mul]; exact a5.symm)
      exact matKeeps_right R C A n c l B m d y w (by omega) (by omega) hl hy h h' h1 h2 (by omega) (by omega) hRC
    · exact matKeeps_wrong r q A n c l B m d y w (by omega) (by omega) hl hy h h' h1 h2 hr

end Go.Proofs.Ytnnphileeeaibaa
