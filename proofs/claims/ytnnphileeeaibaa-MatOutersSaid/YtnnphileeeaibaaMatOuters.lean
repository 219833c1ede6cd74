/-
  MatOuters: the walk.
-/
import Derived.Test.YtnnphileeeaibaaMatTurn
namespace Go.Proofs.Ytnnphileeeaibaa
set_option linter.unusedVariables false
set_option linter.unusedSimpArgs false
set_option maxRecDepth 100000
open Go.RowKit

set_option maxHeartbeats 1000000 in
theorem matOuters_big (A B : Option Addr) (n m c d : Nat) (q : Int) (w : World) (hn : n ≤ 9223372036854775807) (hm : m ≤ 9223372036854775807) (h : 25 < n ∨ 25 < m) :
    Calls Try.prog 5 #[.slice A n c, .slice B m d, .int .i64 q] w fun e w' => e = .returned (.bool true) ∧ Below w.heap.size w w' := by
  by_cases h1 : 25 < n
  · go_enter Try.func5, Try.ntmps5
    go_wp2_with fail
    ((with_reducible refine (alive07_any _).mono ?_); rintro e w1 ⟨rfl, hb1⟩)
    go_wp2
    go_ret
    exact ⟨rfl, hb1⟩
  · have h2 : 25 < m := by omega
    go_enter Try.func5, Try.ntmps5
    go_wp2_with fail
    ((with_reducible refine (alive07_any _).mono ?_); rintro e w1 ⟨rfl, hb1⟩)
    go_wp2
    go_ret
    exact ⟨rfl, hb1⟩

set_option maxHeartbeats 2000000 in
theorem matOuters_none (A B : Option Addr) (n m c d : Nat) (q : Int) (w : World) (hn : n ≤ 25) (hm : m ≤ 25) (h : n = 0 ∨ m = 0) :
    Calls Try.prog 5 #[.slice A n c, .slice B m d, .int .i64 q] w fun e w' => e = .returned (.bool true) ∧ Below w.heap.size w w' := by
  have C1 := fun W => outer_not A B n m c d q W (by omega) (by omega) h
  have C2 := fun W => outer_not B A m n d c q W (by omega) (by omega) (by omega)
  have C3 := fun W => refOuter_not A B n m c d q W (by omega) (by omega) h
  have C4 := fun W => refTurn_not W
  simp only [NoGrid] at C1 C2 C3 C4
  have HC1 := Lib.hid C1
  have HC2 := Lib.hid C2
  have HC3 := Lib.hid C3
  have HC4 := Lib.hid C4
  clear C1 C2 C3 C4 h
  go_enter Try.func5, Try.ntmps5
  go_wp2_with fail
  ((with_reducible refine (HC1.out _).mono ?_); rintro e w1 ⟨rfl, hb1⟩)
  obtain ⟨W1, hW1⟩ : ∃ W1, w1.alloc (.cells #[.int .i64 0, .int .i64 0, .slice none 0 0] 51) = W1 := ⟨_, rfl⟩
  have k1 : Kept w W1 := by rw [← hW1]; exact ((Kept.of (Below.refl _ w)).call hb1).alloc _
  have b1 : Blk W1 w1.heap.size 51 #[.int .i64 0, .int .i64 0, .slice none 0 0] := by rw [← hW1]; exact Blk.new _ _ _
  have HW1 := Lib.hid hW1
  have HB1 := Lib.hid b1
  have HK1 := Lib.hid k1.2.2
  clear hb1 hW1 b1 k1
  go_wp2_with fail
  rw [HW1.out]
  clear HW1
  ((with_reducible refine (alive07_any _).mono ?_); rintro e w2 ⟨rfl, hb2⟩)
  have b2 := HB1.out.kept hb2
  have y0 : w2.cell? ⟨w1.heap.size, 0, none⟩ = some (.int .i64 0) := b2.cell 0
  have y1 : w2.cell? ⟨w1.heap.size, 1, none⟩ = some (.int .i64 0) := b2.cell 1
  have y2 : w2.cell? ⟨w1.heap.size, 2, none⟩ = some (.slice none 0 0) := b2.cell 2
  have ly := b2.lt
  have k2 := (Kept.of HK1.out).call hb2
  clear hb2 b2
  go_wp2_with fail
  ((with_reducible refine (back07_any 0 0 none 0 0 _).mono ?_); rintro e w3 ⟨rfl, hb3⟩)
  have k3 := k2.call hb3
  clear k2 hb3 y0 y1 y2 ly
  go_wp2_with fail
  ((with_reducible refine (HC3.out _).mono ?_); rintro e w4 ⟨rfl, hb4⟩)
  have k4 := k3.call hb4
  clear k3 hb4
  go_wp2_with fail
  ((with_reducible refine (refMatSame_any 0 0 none none 0 0 0 [] _ rfl (Rd.nil _ _ _) (Rd.nil _ _ _) (by omega)).mono ?_); rintro e w5 ⟨rfl, hb5⟩)
  have k5 := k4.call hb5
  clear k4 hb5
  go_wp2_with fail
  ((with_reducible refine (HC2.out _).mono ?_); rintro e w6 ⟨rfl, hb6⟩)
  have k6 := k5.call hb6
  clear k5 hb6
  go_wp2_with fail
  ((with_reducible refine (back07_any 0 0 none 0 0 _).mono ?_); rintro e w7 ⟨rfl, hb7⟩)
  have k7 := k6.call hb7
  clear k6 hb7
  go_wp2_with fail
  ((with_reducible refine (HC3.out _).mono ?_); rintro e w8 ⟨rfl, hb8⟩)
  have k8 := k7.call hb8
  clear k7 hb8
  go_wp2_with fail
  ((with_reducible refine (HC4.out _).mono ?_); rintro e w9 ⟨rfl, hb9⟩)
  have k9 := k8.call hb9
  clear k8 hb9
  go_wp2_with fail
  ((with_reducible refine (refMatSame_any 0 0 none none 0 0 0 [] _ rfl (Rd.nil _ _ _) (Rd.nil _ _ _) (by omega)).mono ?_); rintro e wa ⟨rfl, hba⟩)
  have ka := k9.call hba
  clear k9 hba
  go_wp2
  go_ret
  exact ⟨rfl, ka.2.2⟩

set_option maxHeartbeats 2000000 in
theorem matOuters_some (A B : Option Addr) (n m c d : Nat) (ly lx : List Int) (q : Int) (w : World) (hn : 1 ≤ n ∧ n ≤ 25) (hm : 1 ≤ m ∧ m ≤ 25) (hly : ly.length = n) (hlx : lx.length = m)
    (h : Rd w 1 A n (iv ly)) (h' : Rd w 1 B m (iv lx)) (h1 : ∀ v ∈ ly, In1 v) (h2 : ∀ v ∈ lx, In1 v) :
    Calls Try.prog 5 #[.slice A n c, .slice B m d, .int .i64 q] w fun e w' => e = .returned (.bool true) ∧ Below w.heap.size w w' := by
  obtain ⟨p, hp⟩ : ∃ p, n * m = p := ⟨_, rfl⟩
  have hp1 : 1 ≤ p ∧ p ≤ 1000 := by
    have a : 1 * 1 ≤ n * m := Nat.mul_le_mul hn.1 hm.1
    have b : n * m ≤ 25 * 25 := Nat.mul_le_mul hn.2 hm.2
    omega
  have hp' : m * n = p := by rw [Nat.mul_comm]; exact hp
  have HC1 := Lib.hid (fun W (k : Kept w W) => outer_good n m p A B c d ly lx q W (by omega) (by omega) hp (by omega) hly hlx (h.kept k) (h'.kept k) h1 h2)
  have HC2 := Lib.hid (fun W (k : Kept w W) => outer_good m n p B A d c lx ly q W (by omega) (by omega) hp' (by omega) hlx hly (h'.kept k) (h.kept k) h2 h1)
  have HC3 := Lib.hid (fun W (k : Kept w W) => refOuter_good n m p A B c d ly lx q W (by omega) (by omega) hp (by omega) hly hlx (h.kept k) (h'.kept k) h1 h2)
  have hl1 : (outN ly lx q).length = p := by rw [outN, natL_length, hly, hlx, hp]
  have hl2 : (outN lx ly q).length = p := by rw [outN, natL_length, hly, hlx, hp']
  have HC4 := Lib.hid (fun A4 c4 W hr => refTurn_good n m p A4 c4 (outN ly lx q) W (by omega) (by omega) hp (by omega) hl1 hr)
  have HT : Hid (turnN (outN ly lx q) n m = outN lx ly q) := Lib.hid (by rw [← hly, ← hlx]; exact turn_out ly lx q)
  have HL1 := Lib.hid hl1
  have HL2 := Lib.hid hl2
  clear h h' h1 h2 hly hlx hp hp' hl1 hl2
  go_enter Try.func5, Try.ntmps5
  go_wp2_with fail
  ((with_reducible refine (HC1.out _ (Kept.of (Below.refl _ w))).mono ?_); rintro e w1 ⟨A1, c1, rfl, hown1, hb1⟩)
  obtain ⟨W1, hW1⟩ : ∃ W1, w1.alloc (.cells #[.int .i64 n, .int .i64 m, .slice A1 p c1] 51) = W1 := ⟨_, rfl⟩
  have k1 : Kept w W1 := by rw [← hW1]; exact ((Kept.of (Below.refl _ w)).call hb1).alloc _
  have b1 : Blk W1 w1.heap.size 51 #[.int .i64 n, .int .i64 m, .slice A1 p c1] := by rw [← hW1]; exact Blk.new _ _ _
  have r1 : Rd W1 1 A1 p (iv (outN ly lx q)) := by rw [← hW1]; exact (Rd.of_own hown1).alloc _
  have HW1 := Lib.hid hW1
  have HB1 := Lib.hid b1
  have HR1 := Lib.hid r1
  have HK1 := Lib.hid k1.2.2
  clear hb1 hW1 b1 k1 r1 hown1
  go_wp2_with fail
  rw [HW1.out]
  clear HW1
  ((with_reducible refine (alive07_any _).mono ?_); rintro e w2 ⟨rfl, hb2⟩)
  have b2 := HB1.out.kept hb2
  have y0 : w2.cell? ⟨w1.heap.size, 0, none⟩ = some (.int .i64 n) := b2.cell 0
  have y1 : w2.cell? ⟨w1.heap.size, 1, none⟩ = some (.int .i64 m) := b2.cell 1
  have y2 : w2.cell? ⟨w1.heap.size, 2, none⟩ = some (.slice A1 p c1) := b2.cell 2
  have lt2 := b2.lt
  have k2 := (Kept.of HK1.out).call hb2
  have HR2 := Lib.hid (HR1.out.below hb2)
  clear hb2 b2 HR1
  go_wp2_with fail
  ((with_reducible refine (back07_any n m A1 p c1 _).mono ?_); rintro e w3 ⟨rfl, hb3⟩)
  have k3 := k2.call hb3
  have HR3 := Lib.hid (HR2.out.below hb3)
  clear k2 hb3 y0 y1 y2 lt2 HR2
  go_wp2_with fail
  ((with_reducible refine (HC3.out _ k3).mono ?_); rintro e w4 ⟨A4, c4, rfl, hown4, hb4⟩)
  have k4 := k3.call hb4
  have HR4 := Lib.hid (HR3.out.below hb4)
  have HQ4 := Lib.hid (Rd.of_own hown4)
  clear k3 hb4 hown4 HR3
  go_wp2_with fail
  ((with_reducible refine (refMatSame_any n m A1 A4 p c1 c4 (outN ly lx q) _ HL1.out HR4.out HQ4.out (by omega)).mono ?_); rintro e w5 ⟨rfl, hb5⟩)
  have k5 := k4.call hb5
  clear k4 hb5 HR4 HQ4
  go_wp2_with fail
  ((with_reducible refine (HC2.out _ k5).mono ?_); rintro e w6 ⟨A6, c6, rfl, hown6, hb6⟩)
  have k6 := k5.call hb6
  have HR6 := Lib.hid (Rd.of_own hown6)
  clear k5 hb6 hown6
  go_wp2_with fail
  ((with_reducible refine (back07_any m n A6 p c6 _).mono ?_); rintro e w7 ⟨rfl, hb7⟩)
  have k7 := k6.call hb7
  have HR7 := Lib.hid (HR6.out.below hb7)
  clear k6 hb7 HR6
  go_wp2_with fail
  ((with_reducible refine (HC3.out _ k7).mono ?_); rintro e w8 ⟨A8, c8, rfl, hown8, hb8⟩)
  have k8 := k7.call hb8
  have HR8 := Lib.hid (HR7.out.below hb8)
  have HQ8 := Lib.hid (Rd.of_own hown8)
  clear k7 hb8 HR7 hown8
  go_wp2_with fail
  ((with_reducible refine (HC4.out _ _ _ HQ8.out).mono ?_); rintro e w9 ⟨A9, c9, rfl, hown9, hb9⟩)
  have k9 := k8.call hb9
  have HR9 := Lib.hid (HR8.out.below hb9)
  rw [HT.out] at hown9
  have HQ9 := Lib.hid (Rd.of_own hown9)
  clear k8 hb9 HR8 HQ8 hown9
  go_wp2_with fail
  ((with_reducible refine (refMatSame_any m n A6 A9 p c6 c9 (outN lx ly q) _ HL2.out HR9.out HQ9.out (by omega)).mono ?_); rintro e wa ⟨rfl, hba⟩)
  have ka := k9.call hba
  clear k9 hba HR9 HQ9
  go_wp2
  go_ret
  exact ⟨rfl, ka.2.2⟩

theorem matOuters_any (A : Option Addr) (n c : Nat) (ly : List Int) (B : Option Addr) (m d : Nat) (lx : List Int) (q : Int) (w : World) (hn : n ≤ 9223372036854775807) (hm : m ≤ 9223372036854775807) (hly : ly.length = n) (hlx : lx.length = m)
    (h : Rd w 1 A n (iv ly)) (h' : Rd w 1 B m (iv lx)) (h1 : ∀ v ∈ ly, In1 v) (h2 : ∀ v ∈ lx, In1 v) :
    Calls Try.prog 5 #[.slice A n c, .slice B m d, .int .i64 q] w fun e w' => e = .returned (.bool true) ∧ Below w.heap.size w w' := by
  by_cases hb : 25 < n ∨ 25 < m
  · exact matOuters_big A B n m c d q w hn hm hb
  · by_cases h0 : n = 0 ∨ m = 0
    · exact matOuters_none A B n m c d q w (by omega) (by omega) h0
    · exact matOuters_some A B n m c d ly lx q w (by omega) (by omega) hly hlx h h' h1 h2

end Go.Proofs.Ytnnphileeeaibaa
