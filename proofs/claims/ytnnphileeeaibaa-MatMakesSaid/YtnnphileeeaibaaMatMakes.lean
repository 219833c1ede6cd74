/-
  MatMakes: the walk.
-/
import Derived.Test.YtnnphileeeaibaaMatOf
namespace Go.Proofs.Ytnnphileeeaibaa
set_option linter.unusedVariables false
set_option linter.unusedSimpArgs false
set_option maxRecDepth 100000
open Go.RowKit

set_option maxHeartbeats 1000000 in
theorem matMakes_big (r q : Int) (A : Option Addr) (n c : Nat) (i j : Int) (w : World) (hn : n ≤ 9223372036854775807) (h : 600 < n) :
    Calls Try.prog 9 #[.agg #[.int .i64 r, .int .i64 q, .slice A n c], .int .i64 i, .int .i64 j] w fun e w' => e = .returned (.bool true) ∧ Below w.heap.size w w' := by
  have C1 := fun W => few07_any r q A n c W hn
  rw [show decide (n ≤ 600) = false from decide_eq_false (by omega)] at C1
  have HC := Lib.hid C1
  clear C1
  go_enter Try.func9, Try.ntmps9
  go_wp2_with fail
  ((with_reducible refine (HC.out _).mono ?_); rintro e w1 ⟨rfl, hb1⟩)
  have k1 : Below w.heap.size w w1 := ((Kept.of (Below.refl _ w)).alloc _ |>.call hb1).2.2
  clear hb1
  go_wp2_with fail
  ((with_reducible refine (alive07_any _).mono ?_); rintro e w2 ⟨rfl, hb2⟩)
  have k2 := ((Kept.of k1).call hb2).2.2
  clear hb2
  go_wp2
  go_ret
  exact ⟨rfl, k2⟩


set_option maxHeartbeats 4000000 in
theorem matMakes_right (r q : Int) (A : Option Addr) (n c : Nat) (l : List Int) (i j : Int) (w : World) (hn : n ≤ 600) (hcap : n ≤ c) (hcm : c ≤ 9223372036854775807) (hl : l.length = n) (h : Rd w 1 A n (iv l)) (hr : RightP r q n) :
    Calls Try.prog 9 #[.agg #[.int .i64 r, .int .i64 q, .slice A n c], .int .i64 i, .int .i64 j] w fun e w' => e = .returned (.bool true) ∧ Below w.heap.size w w' := by
  have C1 := fun W => few07_any r q A n c W (by omega)
  rw [show decide (n ≤ 600) = true from decide_eq_true hn] at C1
  have HC1 := Lib.hid C1
  have C2 := fun A c W => right_any r q A n c W (by omega)
  have C3 := fun A c W => refRight_any r q A n c W (by omega)
  rw [show decide (RightP r q n) = true from decide_eq_true hr] at C2 C3
  have HC2 := Lib.hid C2
  have HC3 := Lib.hid C3
  have HOF := Lib.hid (fun W (k : Kept w W) => of_right r q A n c l W hr (by omega) hl (h.kept k))
  obtain ⟨v, hv⟩ : ∃ v, atV r q n l i j = v := ⟨_, rfl⟩
  have C4 := fun W (k : Kept w W) => at_any r q n A c l i j W (by omega) hl (h.kept k) hcap hcm
  have C5 := fun W (k : Kept w W) => refAt_any r q n A c l i j W (by omega) hl (h.kept k) hcap hcm
  rw [hv] at C4 C5
  have HC4 := Lib.hid C4
  have HC5 := Lib.hid C5
  have hvv : (v != v) = false := by simp
  have HRL := Lib.hid h
  have HL := Lib.hid hl
  have b0 : Blk (w.alloc (.cells #[.int .i64 r, .int .i64 q, .slice A n c] 55)) w.heap.size 55 #[.int .i64 r, .int .i64 q, .slice A n c] := Blk.new _ _ _
  have k0 : Below w.heap.size w (w.alloc (.cells #[.int .i64 r, .int .i64 q, .slice A n c] 55)) := (Below.refl _ _).alloc (Nat.le_refl _) _
  obtain ⟨W0, hW0⟩ : ∃ W0, w.alloc (.cells #[.int .i64 r, .int .i64 q, .slice A n c] 55) = W0 := ⟨_, rfl⟩
  rw [hW0] at b0 k0
  have a0 : W0.cell? ⟨w.heap.size, 0, none⟩ = some (.int .i64 r) := b0.cell 0
  have a1 : W0.cell? ⟨w.heap.size, 1, none⟩ = some (.int .i64 q) := b0.cell 1
  have a2 : W0.cell? ⟨w.heap.size, 2, none⟩ = some (.slice A n c) := b0.cell 2
  have la := b0.lt
  have HB0 := Lib.hid b0
  have HK0 := Lib.hid k0
  have HW0 := Lib.hid hW0
  have HR := Lib.hid hr
  clear C1 C2 C3 C4 C5 hv h hl b0 k0 hW0 hr
  go_enter Try.func9, Try.ntmps9
  go_wp2_with fail
  rw [HW0.out]
  go_wp2_with fail
  ((with_reducible refine (HC1.out _).mono ?_); rintro e w1 ⟨rfl, hb1⟩)
  have m1 := HB0.out.kept hb1
  have k1 := (Kept.of HK0.out).call hb1
  clear hb1 a0 a1 a2 la HW0
  have x0 : w1.cell? ⟨w.heap.size, 0, none⟩ = some (.int .i64 r) := m1.cell 0
  have x1 : w1.cell? ⟨w.heap.size, 1, none⟩ = some (.int .i64 q) := m1.cell 1
  have x2 : w1.cell? ⟨w.heap.size, 2, none⟩ = some (.slice A n c) := m1.cell 2
  have lx := m1.lt
  have HM1 := Lib.hid m1
  clear m1
  go_wp2_with fail
  ((with_reducible refine (given07_any r q A n c _).mono ?_); rintro e w2 ⟨rfl, hb2⟩)
  have k2 := k1.call hb2
  have m2 := HM1.out.kept hb2
  clear hb2 x0 x1 x2 lx k1
  have x0 : w2.cell? ⟨w.heap.size, 0, none⟩ = some (.int .i64 r) := m2.cell 0
  have x1 : w2.cell? ⟨w.heap.size, 1, none⟩ = some (.int .i64 q) := m2.cell 1
  have x2 : w2.cell? ⟨w.heap.size, 2, none⟩ = some (.slice A n c) := m2.cell 2
  have lx := m2.lt
  obtain ⟨W3, hW3⟩ : ∃ W3, w2.alloc (.cells #[.int .i64 r, .int .i64 q, .slice A n c] 51) = W3 := ⟨_, rfl⟩
  have k3 : Kept w W3 := by rw [← hW3]; exact k2.alloc _
  have m3 : Blk W3 w.heap.size 55 #[.int .i64 r, .int .i64 q, .slice A n c] := by rw [← hW3]; exact m2.alloc _
  have n3 : Blk W3 w2.heap.size 51 #[.int .i64 r, .int .i64 q, .slice A n c] := by rw [← hW3]; exact Blk.new _ _ _
  have xx0 : W3.cell? ⟨w.heap.size, 0, none⟩ = some (.int .i64 r) := m3.cell 0
  have xx1 : W3.cell? ⟨w.heap.size, 1, none⟩ = some (.int .i64 q) := m3.cell 1
  have xx2 : W3.cell? ⟨w.heap.size, 2, none⟩ = some (.slice A n c) := m3.cell 2
  have lxx := m3.lt
  have HM3 := Lib.hid m3
  have HN3 := Lib.hid n3
  have HW3 := Lib.hid hW3
  clear m3 n3 hW3 m2 k2
  go_wp2_with fail
  rw [HW3.out]
  clear x0 x1 x2 lx
  ((with_reducible refine (HOF.out _ k3).mono ?_); rintro e w4 ⟨A', c', rfl, hown, hb4⟩)
  have k4 := k3.call hb4
  have m4 := HM3.out.kept hb4
  have n4 := HN3.out.kept hb4
  clear hb4 xx0 xx1 xx2 lxx k3 HW3
  have x0 : w4.cell? ⟨w.heap.size, 0, none⟩ = some (.int .i64 r) := m4.cell 0
  have x1 : w4.cell? ⟨w.heap.size, 1, none⟩ = some (.int .i64 q) := m4.cell 1
  have x2 : w4.cell? ⟨w.heap.size, 2, none⟩ = some (.slice A n c) := m4.cell 2
  have lx := m4.lt
  obtain ⟨W5, hW5⟩ : ∃ W5, w4.alloc (.cells #[.int .i64 r, .int .i64 q, .slice A' n c'] 51) = W5 := ⟨_, rfl⟩
  have k5 : Kept w W5 := by rw [← hW5]; exact k4.alloc _
  have m5 : Blk W5 w.heap.size 55 #[.int .i64 r, .int .i64 q, .slice A n c] := by rw [← hW5]; exact m4.alloc _
  have n5 : Blk W5 w2.heap.size 51 #[.int .i64 r, .int .i64 q, .slice A n c] := by rw [← hW5]; exact n4.alloc _
  have o5 : Blk W5 w4.heap.size 51 #[.int .i64 r, .int .i64 q, .slice A' n c'] := by rw [← hW5]; exact Blk.new _ _ _
  have HOW5 : Hid (Rd W5 1 A' n (iv l)) := Lib.hid (by rw [← hW5]; exact (Rd.of_own hown).alloc _)
  clear hown
  have xx0 : W5.cell? ⟨w.heap.size, 0, none⟩ = some (.int .i64 r) := m5.cell 0
  have xx1 : W5.cell? ⟨w.heap.size, 1, none⟩ = some (.int .i64 q) := m5.cell 1
  have xx2 : W5.cell? ⟨w.heap.size, 2, none⟩ = some (.slice A n c) := m5.cell 2
  have lxx := m5.lt
  have HM5 := Lib.hid m5
  have HN5 := Lib.hid n5
  have HO5 := Lib.hid o5
  have HW5 := Lib.hid hW5
  clear m4 n4 m5 n5 o5 hW5 k4
  go_wp2_with fail
  rw [HW5.out]
  clear x0 x1 x2 lx
  ((with_reducible refine (HC3.out _ _ _).mono ?_); rintro e w6 ⟨rfl, hb6⟩)
  have k6 := k5.call hb6
  have m6 := HM5.out.kept hb6
  have n6 := HN5.out.kept hb6
  have o6 := HO5.out.kept hb6
  have HOW6 := Lib.hid (HOW5.out.below hb6)
  clear hb6 xx0 xx1 xx2 lxx k5 HW5
  have x0 : w6.cell? ⟨w.heap.size, 0, none⟩ = some (.int .i64 r) := m6.cell 0
  have x1 : w6.cell? ⟨w.heap.size, 1, none⟩ = some (.int .i64 q) := m6.cell 1
  have x2 : w6.cell? ⟨w.heap.size, 2, none⟩ = some (.slice A n c) := m6.cell 2
  have lx := m6.lt
  obtain ⟨W7, hW7⟩ : ∃ W7, w6.alloc (.cells #[.int .i64 r, .int .i64 q, .slice A n c] 55) = W7 := ⟨_, rfl⟩
  have g67 : Below w6.heap.size w6 W7 := by rw [← hW7]; exact (Below.refl _ _).alloc (Nat.le_refl _) _
  have t7 : Blk W7 w6.heap.size 55 #[.int .i64 r, .int .i64 q, .slice A n c] := by rw [← hW7]; exact Blk.new _ _ _
  have k7 := k6.call g67
  have m7 := m6.kept g67
  have n7 := n6.kept g67
  have o7 := o6.kept g67
  have HOW7 := Lib.hid (HOW6.out.below g67)
  have HW7 := Lib.hid hW7
  clear hW7 g67 k6 n6 o6
  go_wp2_with fail
  rw [HW7.out]
  clear HW7
  clear x0 x1 x2 lx m6
  have x0 : W7.cell? ⟨w.heap.size, 0, none⟩ = some (.int .i64 r) := m7.cell 0
  have x1 : W7.cell? ⟨w.heap.size, 1, none⟩ = some (.int .i64 q) := m7.cell 1
  have x2 : W7.cell? ⟨w.heap.size, 2, none⟩ = some (.slice A n c) := m7.cell 2
  have lx := m7.lt
  have y0 : W7.cell? ⟨w2.heap.size, 0, none⟩ = some (.int .i64 r) := n7.cell 0
  have y1 : W7.cell? ⟨w2.heap.size, 1, none⟩ = some (.int .i64 q) := n7.cell 1
  have y2 : W7.cell? ⟨w2.heap.size, 2, none⟩ = some (.slice A n c) := n7.cell 2
  have ly := n7.lt
  have z0 : W7.cell? ⟨w4.heap.size, 0, none⟩ = some (.int .i64 r) := o7.cell 0
  have z1 : W7.cell? ⟨w4.heap.size, 1, none⟩ = some (.int .i64 q) := o7.cell 1
  have z2 : W7.cell? ⟨w4.heap.size, 2, none⟩ = some (.slice A' n c') := o7.cell 2
  have lz := o7.lt
  have u0 : W7.cell? ⟨w6.heap.size, 0, none⟩ = some (.int .i64 r) := t7.cell 0
  have u1 : W7.cell? ⟨w6.heap.size, 1, none⟩ = some (.int .i64 q) := t7.cell 1
  have u2 : W7.cell? ⟨w6.heap.size, 2, none⟩ = some (.slice A n c) := t7.cell 2
  have lu := t7.lt
  have HM7 := Lib.hid m7
  have HK7 := Lib.hid k7.2.2
  have HD2 := Lib.hid (fun (u : KW W7) => HC2.out A c u.w)
  have HD4 := Lib.hid (fun (u : KW W7) => HC4.out u.w ((Kept.of HK7.out).call u.h.2.2))
  have HD5 := Lib.hid (fun (u : KW W7) => HC5.out u.w ((Kept.of HK7.out).call u.h.2.2))
  have HD3 := Lib.hid (fun (u : KW W7) => refMatSame_any r q A' A n c' c l u.w HL.out (HOW7.out.kept u.h) (HRL.out.kept ((Kept.of HK7.out).call u.h.2.2)) (by omega))
  have HDB := Lib.hid (fun (u : KW W7) => back07_any r q A' n c' u.w)
  clear m7 n7 o7 t7 k7
  refine wp_region_kept W7 (by kernel_rfl) (by kernel_rfl) (Kept.of (Below.refl _ _)) ?_
  have KC := fun (u : KW W7) b o h => KW.cells u b o h
  repeat (go_big_quiet_step (first
    | (go_at_call 42; (with_reducible exact kept_call (HD2.out _)))
    | (go_at_call 26; (with_reducible exact kept_call (HDB.out _)))
    | (go_at_call 25; (with_reducible exact kept_call (HD3.out _)))
    | (go_at_call 43; (with_reducible exact kept_call (HD4.out _)))
    | (go_at_call 44; (with_reducible exact kept_call (HD5.out _)))))
  refine wpQuiet_nil ?_
  rintro w8 ⟨⟨_, k8⟩, rfl⟩
  clear KC x0 x1 x2 lx y0 y1 y2 ly z0 z1 z2 lz u0 u1 u2 lu HD2 HD3 HD4 HD5 HDB
  have m8 := HM7.out.kept k8.2.2
  have x0 : w8.cell? ⟨w.heap.size, 0, none⟩ = some (.int .i64 r) := m8.cell 0
  have x1 : w8.cell? ⟨w.heap.size, 1, none⟩ = some (.int .i64 q) := m8.cell 1
  have x2 : w8.cell? ⟨w.heap.size, 2, none⟩ = some (.slice A n c) := m8.cell 2
  have lx := m8.lt
  have HM8 := Lib.hid m8
  have K8 := (Kept.of HK7.out).call k8.2.2
  clear m8 k8
  by_cases hbig : 50 < r ∨ 50 < q
  · have hout : ∀ (W : World), Kept w W → True := fun _ _ => trivial
    by_cases h5 : 50 < r
    · go_wp2_with fail
      ((with_reducible refine (alive07_any _).mono ?_); rintro e w9 ⟨rfl, hb9⟩)
      have k9 := K8.call hb9
      clear hb9 K8
      go_wp2
      go_ret
      exact ⟨rfl, k9.2.2⟩
    · have h6 : 50 < q := by omega
      go_wp2_with fail
      ((with_reducible refine (alive07_any _).mono ?_); rintro e w9 ⟨rfl, hb9⟩)
      have k9 := K8.call hb9
      clear hb9 K8
      go_wp2
      go_ret
      exact ⟨rfl, k9.2.2⟩
  · have h5 : ¬ 50 < r := by omega
    have h6 : ¬ 50 < q := by omega
    have HK8 := Lib.hid K8.2.2
    clear hbig K8
    by_cases hs : 1 ≤ r ∧ 1 ≤ q
    · obtain ⟨R, rfl⟩ := Int.eq_ofNat_of_zero_le (show 0 ≤ r by omega)
      obtain ⟨C, rfl⟩ := Int.eq_ofNat_of_zero_le (show 0 ≤ q by omega)
      obtain ⟨N, hN⟩ : ∃ N, R * C = N := ⟨_, rfl⟩
      have hN' : N ≤ 2500 := by
        have : R * C ≤ 50 * 50 := Nat.mul_le_mul (by omega) (by omega)
        omega
      have G1 := Lib.hid (fun W => new_good R C N W (by omega) (by omega) (by omega) hN)
      have G2 := Lib.hid (fun W => refNew07_any R C N W (by omega) (by omega) (by omega) (by omega) (by omega) (by rw [← Int.natCast_mul, hN]; exact wrap_ok _ (by omega) (by omega)))
      have HZ := Lib.hid (fun A c A' c' (W : World) (p1 : Rd W 1 A N (iv (zeros N))) (p2 : Rd W 1 A' N (iv (zeros N))) => refMatSame_any R C A A' N c c' (zeros N) W (by simp) p1 p2 (by omega))
      clear hN
      go_wp2_with fail
      go_region_held3 (fun w' => Kept w8 w') (first | exact kk | exact kk.alloc _ | exact Kept.start w8) (first
        | (go_at_call 23; (with_reducible refine (alive07_any _).mono ?_); rintro e wa ⟨rfl, hb⟩; have kk := (Kept.start w8).call hb; clear hb)
        | (go_at_call 45; (with_reducible refine (G1.out _).mono ?_); rintro e wb ⟨AP, cP, rfl, hP, hb⟩; replace kk := kk.call hb; have HP := Lib.hid (Rd.of_own hP); clear hP hb)
        | (go_at_call 26; (with_reducible refine (back07_any _ _ _ _ _ _).mono ?_); rintro e wc ⟨rfl, hb⟩; replace kk := kk.call hb; replace HP := Lib.hid (HP.out.below hb); clear hb)
        | (go_at_call 46; (with_reducible refine (G2.out _).mono ?_); rintro e wd ⟨AQ, cQ, rfl, hQ, hb⟩; replace kk := kk.call hb; replace HP := Lib.hid (HP.out.below hb); have HQ := Lib.hid (Rd.of_own hQ); clear hQ hb)
        | (go_at_call 25; (with_reducible refine (HZ.out _ _ _ _ _ HP.out HQ.out).mono ?_); rintro e we ⟨rfl, hb⟩; replace kk := kk.call hb; clear hb))
      all_goals go_wp2_with fail
      all_goals go_ret
      all_goals exact ⟨rfl, ((Kept.of HK8.out).call kk.2.2).2.2⟩
    · have hs2 : r < 1 ∨ q < 1 := by omega
      have C6 := fun W => new_not r q W (.inl (fun (h : SideP r q) => hs ⟨h.1, h.2.2.1⟩))
      have C7 := fun W => refNew_not r q W hs2
      simp only [NoGrid] at C6 C7
      have G1 := Lib.hid C6
      have G2 := Lib.hid C7
      have HZ := Lib.hid (fun (W : World) => refMatSame_any 0 0 none none 0 0 0 [] W rfl (Rd.nil _ _ _) (Rd.nil _ _ _) (by omega))
      clear C6 C7 hs hs2
      go_wp2_with fail
      go_region_held3 (fun w' => Kept w8 w') (first | exact kk | exact kk.alloc _ | exact Kept.start w8) (first
        | (go_at_call 23; (with_reducible refine (alive07_any _).mono ?_); rintro e wa ⟨rfl, hb⟩; have kk := (Kept.start w8).call hb; clear hb)
        | (go_at_call 45; (with_reducible refine (G1.out _).mono ?_); rintro e wb ⟨rfl, hb⟩; replace kk := kk.call hb; clear hb)
        | (go_at_call 26; (with_reducible refine (back07_any _ _ _ _ _ _).mono ?_); rintro e wc ⟨rfl, hb⟩; replace kk := kk.call hb; clear hb)
        | (go_at_call 46; (with_reducible refine (G2.out _).mono ?_); rintro e wd ⟨rfl, hb⟩; replace kk := kk.call hb; clear hb)
        | (go_at_call 25; (with_reducible refine (HZ.out _).mono ?_); rintro e we ⟨rfl, hb⟩; replace kk := kk.call hb; clear hb))
      all_goals go_wp2_with fail
      all_goals go_ret
      all_goals exact ⟨rfl, ((Kept.of HK8.out).call kk.2.2).2.2⟩

set_option maxHeartbeats 4000000 in
theorem matMakes_wrong (r q : Int) (A : Option Addr) (n c : Nat) (l : List Int) (i j : Int) (w : World) (hn : n ≤ 600) (hcap : n ≤ c) (hcm : c ≤ 9223372036854775807) (hl : l.length = n) (h : Rd w 1 A n (iv l)) (hr : ¬ RightP r q n) :
    Calls Try.prog 9 #[.agg #[.int .i64 r, .int .i64 q, .slice A n c], .int .i64 i, .int .i64 j] w fun e w' => e = .returned (.bool true) ∧ Below w.heap.size w w' := by
  have C1 := fun W => few07_any r q A n c W (by omega)
  rw [show decide (n ≤ 600) = true from decide_eq_true hn] at C1
  have HC1 := Lib.hid C1
  have C2 := fun A c W => right_any r q A n c W (by omega)
  have C3 := fun A c W => refRight_any r q A n c W (by omega)
  rw [show decide (RightP r q n) = false from decide_eq_false hr] at C2 C3
  have HC2 := Lib.hid C2
  have HC3 := Lib.hid C3
  have HOF := Lib.hid (fun W (k : Kept w W) => of_wrong r q A n c l W hr (by omega) hl (h.kept k))
  obtain ⟨v, hv⟩ : ∃ v, atV r q n l i j = v := ⟨_, rfl⟩
  have C4 := fun W (k : Kept w W) => at_any r q n A c l i j W (by omega) hl (h.kept k) hcap hcm
  have C5 := fun W (k : Kept w W) => refAt_any r q n A c l i j W (by omega) hl (h.kept k) hcap hcm
  rw [hv] at C4 C5
  have HC4 := Lib.hid C4
  have HC5 := Lib.hid C5
  have hvv : (v != v) = false := by simp
  have HRL := Lib.hid h
  have HL := Lib.hid hl
  have b0 : Blk (w.alloc (.cells #[.int .i64 r, .int .i64 q, .slice A n c] 55)) w.heap.size 55 #[.int .i64 r, .int .i64 q, .slice A n c] := Blk.new _ _ _
  have k0 : Below w.heap.size w (w.alloc (.cells #[.int .i64 r, .int .i64 q, .slice A n c] 55)) := (Below.refl _ _).alloc (Nat.le_refl _) _
  obtain ⟨W0, hW0⟩ : ∃ W0, w.alloc (.cells #[.int .i64 r, .int .i64 q, .slice A n c] 55) = W0 := ⟨_, rfl⟩
  rw [hW0] at b0 k0
  have a0 : W0.cell? ⟨w.heap.size, 0, none⟩ = some (.int .i64 r) := b0.cell 0
  have a1 : W0.cell? ⟨w.heap.size, 1, none⟩ = some (.int .i64 q) := b0.cell 1
  have a2 : W0.cell? ⟨w.heap.size, 2, none⟩ = some (.slice A n c) := b0.cell 2
  have la := b0.lt
  have HB0 := Lib.hid b0
  have HK0 := Lib.hid k0
  have HW0 := Lib.hid hW0
  have HR := Lib.hid hr
  clear C1 C2 C3 C4 C5 hv h hl b0 k0 hW0 hr
  go_enter Try.func9, Try.ntmps9
  go_wp2_with fail
  rw [HW0.out]
  go_wp2_with fail
  ((with_reducible refine (HC1.out _).mono ?_); rintro e w1 ⟨rfl, hb1⟩)
  have m1 := HB0.out.kept hb1
  have k1 := (Kept.of HK0.out).call hb1
  clear hb1 a0 a1 a2 la HW0
  have x0 : w1.cell? ⟨w.heap.size, 0, none⟩ = some (.int .i64 r) := m1.cell 0
  have x1 : w1.cell? ⟨w.heap.size, 1, none⟩ = some (.int .i64 q) := m1.cell 1
  have x2 : w1.cell? ⟨w.heap.size, 2, none⟩ = some (.slice A n c) := m1.cell 2
  have lx := m1.lt
  have HM1 := Lib.hid m1
  clear m1
  go_wp2_with fail
  ((with_reducible refine (given07_any r q A n c _).mono ?_); rintro e w2 ⟨rfl, hb2⟩)
  have k2 := k1.call hb2
  have m2 := HM1.out.kept hb2
  clear hb2 x0 x1 x2 lx k1
  have x0 : w2.cell? ⟨w.heap.size, 0, none⟩ = some (.int .i64 r) := m2.cell 0
  have x1 : w2.cell? ⟨w.heap.size, 1, none⟩ = some (.int .i64 q) := m2.cell 1
  have x2 : w2.cell? ⟨w.heap.size, 2, none⟩ = some (.slice A n c) := m2.cell 2
  have lx := m2.lt
  obtain ⟨W3, hW3⟩ : ∃ W3, w2.alloc (.cells #[.int .i64 r, .int .i64 q, .slice A n c] 51) = W3 := ⟨_, rfl⟩
  have k3 : Kept w W3 := by rw [← hW3]; exact k2.alloc _
  have m3 : Blk W3 w.heap.size 55 #[.int .i64 r, .int .i64 q, .slice A n c] := by rw [← hW3]; exact m2.alloc _
  have n3 : Blk W3 w2.heap.size 51 #[.int .i64 r, .int .i64 q, .slice A n c] := by rw [← hW3]; exact Blk.new _ _ _
  have xx0 : W3.cell? ⟨w.heap.size, 0, none⟩ = some (.int .i64 r) := m3.cell 0
  have xx1 : W3.cell? ⟨w.heap.size, 1, none⟩ = some (.int .i64 q) := m3.cell 1
  have xx2 : W3.cell? ⟨w.heap.size, 2, none⟩ = some (.slice A n c) := m3.cell 2
  have lxx := m3.lt
  have HM3 := Lib.hid m3
  have HN3 := Lib.hid n3
  have HW3 := Lib.hid hW3
  clear m3 n3 hW3 m2 k2
  go_wp2_with fail
  rw [HW3.out]
  clear x0 x1 x2 lx
  ((with_reducible refine (HOF.out _ k3).mono ?_); rintro e w4 ⟨rfl, hb4⟩)
  have k4 := k3.call hb4
  have m4 := HM3.out.kept hb4
  have n4 := HN3.out.kept hb4
  clear hb4 xx0 xx1 xx2 lxx k3 HW3
  have x0 : w4.cell? ⟨w.heap.size, 0, none⟩ = some (.int .i64 r) := m4.cell 0
  have x1 : w4.cell? ⟨w.heap.size, 1, none⟩ = some (.int .i64 q) := m4.cell 1
  have x2 : w4.cell? ⟨w.heap.size, 2, none⟩ = some (.slice A n c) := m4.cell 2
  have lx := m4.lt
  obtain ⟨W5, hW5⟩ : ∃ W5, w4.alloc (.cells #[.int .i64 0, .int .i64 0, .slice none 0 0] 51) = W5 := ⟨_, rfl⟩
  have k5 : Kept w W5 := by rw [← hW5]; exact k4.alloc _
  have m5 : Blk W5 w.heap.size 55 #[.int .i64 r, .int .i64 q, .slice A n c] := by rw [← hW5]; exact m4.alloc _
  have n5 : Blk W5 w2.heap.size 51 #[.int .i64 r, .int .i64 q, .slice A n c] := by rw [← hW5]; exact n4.alloc _
  have o5 : Blk W5 w4.heap.size 51 #[.int .i64 0, .int .i64 0, .slice none 0 0] := by rw [← hW5]; exact Blk.new _ _ _
  have xx0 : W5.cell? ⟨w.heap.size, 0, none⟩ = some (.int .i64 r) := m5.cell 0
  have xx1 : W5.cell? ⟨w.heap.size, 1, none⟩ = some (.int .i64 q) := m5.cell 1
  have xx2 : W5.cell? ⟨w.heap.size, 2, none⟩ = some (.slice A n c) := m5.cell 2
  have lxx := m5.lt
  have HM5 := Lib.hid m5
  have HN5 := Lib.hid n5
  have HO5 := Lib.hid o5
  have HW5 := Lib.hid hW5
  clear m4 n4 m5 n5 o5 hW5 k4
  go_wp2_with fail
  rw [HW5.out]
  clear x0 x1 x2 lx
  ((with_reducible refine (HC3.out _ _ _).mono ?_); rintro e w6 ⟨rfl, hb6⟩)
  have k6 := k5.call hb6
  have m6 := HM5.out.kept hb6
  have n6 := HN5.out.kept hb6
  have o6 := HO5.out.kept hb6
  clear hb6 xx0 xx1 xx2 lxx k5 HW5
  obtain ⟨W7, hW7⟩ : ∃ W7, w6.alloc (.cells #[.int .i64 0, .int .i64 0, .slice none 0 0] 55) = W7 := ⟨_, rfl⟩
  have g67 : Below w6.heap.size w6 W7 := by rw [← hW7]; exact (Below.refl _ _).alloc (Nat.le_refl _) _
  have t7 : Blk W7 w6.heap.size 55 #[.int .i64 0, .int .i64 0, .slice none 0 0] := by rw [← hW7]; exact Blk.new _ _ _
  have k7 := k6.call g67
  have m7 := m6.kept g67
  have n7 := n6.kept g67
  have o7 := o6.kept g67
  have HW7 := Lib.hid hW7
  clear hW7 g67 k6 n6 o6
  go_wp2_with fail
  rw [HW7.out]
  clear HW7
  clear m6
  have x0 : W7.cell? ⟨w.heap.size, 0, none⟩ = some (.int .i64 r) := m7.cell 0
  have x1 : W7.cell? ⟨w.heap.size, 1, none⟩ = some (.int .i64 q) := m7.cell 1
  have x2 : W7.cell? ⟨w.heap.size, 2, none⟩ = some (.slice A n c) := m7.cell 2
  have lx := m7.lt
  have y0 : W7.cell? ⟨w2.heap.size, 0, none⟩ = some (.int .i64 r) := n7.cell 0
  have y1 : W7.cell? ⟨w2.heap.size, 1, none⟩ = some (.int .i64 q) := n7.cell 1
  have y2 : W7.cell? ⟨w2.heap.size, 2, none⟩ = some (.slice A n c) := n7.cell 2
  have ly := n7.lt
  have z0 : W7.cell? ⟨w4.heap.size, 0, none⟩ = some (.int .i64 0) := o7.cell 0
  have z1 : W7.cell? ⟨w4.heap.size, 1, none⟩ = some (.int .i64 0) := o7.cell 1
  have z2 : W7.cell? ⟨w4.heap.size, 2, none⟩ = some (.slice none 0 0) := o7.cell 2
  have lz := o7.lt
  have u0 : W7.cell? ⟨w6.heap.size, 0, none⟩ = some (.int .i64 0) := t7.cell 0
  have u1 : W7.cell? ⟨w6.heap.size, 1, none⟩ = some (.int .i64 0) := t7.cell 1
  have u2 : W7.cell? ⟨w6.heap.size, 2, none⟩ = some (.slice none 0 0) := t7.cell 2
  have lu := t7.lt
  have HM7 := Lib.hid m7
  have HK7 := Lib.hid k7.2.2
  have HD2 := Lib.hid (fun (u : KW W7) => HC2.out A c u.w)
  have HD4 := Lib.hid (fun (u : KW W7) => HC4.out u.w ((Kept.of HK7.out).call u.h.2.2))
  have HD5 := Lib.hid (fun (u : KW W7) => HC5.out u.w ((Kept.of HK7.out).call u.h.2.2))
  have HD3 := Lib.hid (fun (u : KW W7) => refMatSame_any 0 0 none none 0 0 0 [] u.w rfl (Rd.nil _ _ _) (Rd.nil _ _ _) (by omega))
  have HDB := Lib.hid (fun (u : KW W7) => back07_any 0 0 none 0 0 u.w)
  clear m7 n7 o7 t7 k7
  refine wp_region_kept W7 (by kernel_rfl) (by kernel_rfl) (Kept.of (Below.refl _ _)) ?_
  have KC := fun (u : KW W7) b o h => KW.cells u b o h
  repeat (go_big_quiet_step (first
    | (go_at_call 42; (with_reducible exact kept_call (HD2.out _)))
    | (go_at_call 26; (with_reducible exact kept_call (HDB.out _)))
    | (go_at_call 25; (with_reducible exact kept_call (HD3.out _)))
    | (go_at_call 43; (with_reducible exact kept_call (HD4.out _)))
    | (go_at_call 44; (with_reducible exact kept_call (HD5.out _)))))
  refine wpQuiet_nil ?_
  rintro w8 ⟨⟨_, k8⟩, rfl⟩
  clear KC x0 x1 x2 lx y0 y1 y2 ly z0 z1 z2 lz u0 u1 u2 lu HD2 HD3 HD4 HD5 HDB
  have m8 := HM7.out.kept k8.2.2
  have x0 : w8.cell? ⟨w.heap.size, 0, none⟩ = some (.int .i64 r) := m8.cell 0
  have x1 : w8.cell? ⟨w.heap.size, 1, none⟩ = some (.int .i64 q) := m8.cell 1
  have x2 : w8.cell? ⟨w.heap.size, 2, none⟩ = some (.slice A n c) := m8.cell 2
  have lx := m8.lt
  have HM8 := Lib.hid m8
  have K8 := (Kept.of HK7.out).call k8.2.2
  clear m8 k8
  by_cases hbig : 50 < r ∨ 50 < q
  · have hout : ∀ (W : World), Kept w W → True := fun _ _ => trivial
    by_cases h5 : 50 < r
    · go_wp2_with fail
      ((with_reducible refine (alive07_any _).mono ?_); rintro e w9 ⟨rfl, hb9⟩)
      have k9 := K8.call hb9
      clear hb9 K8
      go_wp2
      go_ret
      exact ⟨rfl, k9.2.2⟩
    · have h6 : 50 < q := by omega
      go_wp2_with fail
      ((with_reducible refine (alive07_any _).mono ?_); rintro e w9 ⟨rfl, hb9⟩)
      have k9 := K8.call hb9
      clear hb9 K8
      go_wp2
      go_ret
      exact ⟨rfl, k9.2.2⟩
  · have h5 : ¬ 50 < r := by omega
    have h6 : ¬ 50 < q := by omega
    have HK8 := Lib.hid K8.2.2
    clear hbig K8
    by_cases hs : 1 ≤ r ∧ 1 ≤ q
    · obtain ⟨R, rfl⟩ := Int.eq_ofNat_of_zero_le (show 0 ≤ r by omega)
      obtain ⟨C, rfl⟩ := Int.eq_ofNat_of_zero_le (show 0 ≤ q by omega)
      obtain ⟨N, hN⟩ : ∃ N, R * C = N := ⟨_, rfl⟩
      have hN' : N ≤ 2500 := by
        have : R * C ≤ 50 * 50 := Nat.mul_le_mul (by omega) (by omega)
        omega
      have G1 := Lib.hid (fun W => new_good R C N W (by omega) (by omega) (by omega) hN)
      have G2 := Lib.hid (fun W => refNew07_any R C N W (by omega) (by omega) (by omega) (by omega) (by omega) (by rw [← Int.natCast_mul, hN]; exact wrap_ok _ (by omega) (by omega)))
      have HZ := Lib.hid (fun A c A' c' (W : World) (p1 : Rd W 1 A N (iv (zeros N))) (p2 : Rd W 1 A' N (iv (zeros N))) => refMatSame_any R C A A' N c c' (zeros N) W (by simp) p1 p2 (by omega))
      clear hN
      go_wp2_with fail
      go_region_held3 (fun w' => Kept w8 w') (first | exact kk | exact kk.alloc _ | exact Kept.start w8) (first
        | (go_at_call 23; (with_reducible refine (alive07_any _).mono ?_); rintro e wa ⟨rfl, hb⟩; have kk := (Kept.start w8).call hb; clear hb)
        | (go_at_call 45; (with_reducible refine (G1.out _).mono ?_); rintro e wb ⟨AP, cP, rfl, hP, hb⟩; replace kk := kk.call hb; have HP := Lib.hid (Rd.of_own hP); clear hP hb)
        | (go_at_call 26; (with_reducible refine (back07_any _ _ _ _ _ _).mono ?_); rintro e wc ⟨rfl, hb⟩; replace kk := kk.call hb; replace HP := Lib.hid (HP.out.below hb); clear hb)
        | (go_at_call 46; (with_reducible refine (G2.out _).mono ?_); rintro e wd ⟨AQ, cQ, rfl, hQ, hb⟩; replace kk := kk.call hb; replace HP := Lib.hid (HP.out.below hb); have HQ := Lib.hid (Rd.of_own hQ); clear hQ hb)
        | (go_at_call 25; (with_reducible refine (HZ.out _ _ _ _ _ HP.out HQ.out).mono ?_); rintro e we ⟨rfl, hb⟩; replace kk := kk.call hb; clear hb))
      all_goals go_wp2_with fail
      all_goals go_ret
      all_goals exact ⟨rfl, ((Kept.of HK8.out).call kk.2.2).2.2⟩
    · have hs2 : r < 1 ∨ q < 1 := by omega
      have C6 := fun W => new_not r q W (.inl (fun (h : SideP r q) => hs ⟨h.1, h.2.2.1⟩))
      have C7 := fun W => refNew_not r q W hs2
      simp only [NoGrid] at C6 C7
      have G1 := Lib.hid C6
      have G2 := Lib.hid C7
      have HZ := Lib.hid (fun (W : World) => refMatSame_any 0 0 none none 0 0 0 [] W rfl (Rd.nil _ _ _) (Rd.nil _ _ _) (by omega))
      clear C6 C7 hs hs2
      go_wp2_with fail
      go_region_held3 (fun w' => Kept w8 w') (first | exact kk | exact kk.alloc _ | exact Kept.start w8) (first
        | (go_at_call 23; (with_reducible refine (alive07_any _).mono ?_); rintro e wa ⟨rfl, hb⟩; have kk := (Kept.start w8).call hb; clear hb)
        | (go_at_call 45; (with_reducible refine (G1.out _).mono ?_); rintro e wb ⟨rfl, hb⟩; replace kk := kk.call hb; clear hb)
        | (go_at_call 26; (with_reducible refine (back07_any _ _ _ _ _ _).mono ?_); rintro e wc ⟨rfl, hb⟩; replace kk := kk.call hb; clear hb)
        | (go_at_call 46; (with_reducible refine (G2.out _).mono ?_); rintro e wd ⟨rfl, hb⟩; replace kk := kk.call hb; clear hb)
        | (go_at_call 25; (with_reducible refine (HZ.out _).mono ?_); rintro e we ⟨rfl, hb⟩; replace kk := kk.call hb; clear hb))
      all_goals go_wp2_with fail
      all_goals go_ret
      all_goals exact ⟨rfl, ((Kept.of HK8.out).call kk.2.2).2.2⟩

theorem matMakes_any (r q : Int) (A : Option Addr) (n c : Nat) (l : List Int) (i j : Int) (w : World) (hn : n ≤ 9223372036854775807) (hcap : n ≤ c) (hcm : c ≤ 9223372036854775807) (hl : l.length = n) (h : Rd w 1 A n (iv l)) :
    Calls Try.prog 9 #[.agg #[.int .i64 r, .int .i64 q, .slice A n c], .int .i64 i, .int .i64 j] w fun e w' => e = .returned (.bool true) ∧ Below w.heap.size w w' := by
  by_cases hb : 600 < n
  · exact matMakes_big r q A n c i j w hn hb
  · by_cases hr : RightP r q n
    · exact matMakes_right r q A n c l i j w (by omega) hcap hcm hl h hr
    · exact matMakes_wrong r q A n c l i j w (by omega) hcap hcm hl h hr

end Go.Proofs.Ytnnphileeeaibaa
