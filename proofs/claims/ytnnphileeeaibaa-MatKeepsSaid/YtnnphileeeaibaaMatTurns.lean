/-
  MatTurns: the walk.
-/
import Derived.Test.YtnnphileeeaibaaMatBack2
namespace Go.Proofs.Ytnnphileeeaibaa
set_option linter.unusedVariables false
set_option linter.unusedSimpArgs false
set_option maxRecDepth 100000
open Go.RowKit

theorem turn_turn {l : List Int} {R C m : Nat} (hm : R * C = m) (hl : l.length = m) (hR : 1 ≤ R) (hC : 1 ≤ C) : turnN (turnN l R C) C R = l := by
  apply List.ext_getElem?
  intro i
  by_cases hi : i < R * C
  · have h1 : i % C < C := Nat.mod_lt _ (by omega)
    have h2 : i / C < R := (Nat.div_lt_iff_lt_mul (by omega)).2 hi
    rw [turnN, natL_get _ _ _ hi, turnF, turnN, natL_getD _ _ _ (row_lt (i % C) (i / C) C R h1 h2), turnF, row_mod _ _ _ h2, row_div _ _ _ h2, Nat.mul_comm (i / C) C, Nat.div_add_mod, List.getD_eq_getElem?_getD, List.getElem?_eq_getElem (by omega)]
    rfl
  · rw [List.getElem?_eq_none (by rw [turnN, natL_length]; omega), List.getElem?_eq_none (by omega)]

set_option maxHeartbeats 1000000 in
theorem refTurn_wrong (r q : Int) (A : Option Addr) (n c : Nat) (w : World) (hr : ¬ RightP r q n) (hn : n ≤ 1000000000) :
    Calls Try.prog 28 #[.agg #[.int .i64 r, .int .i64 q, .slice A n c]] w fun e w' => e = .returned (.agg #[.int .i64 0, .int .i64 0, .slice none 0 0]) ∧ Below w.heap.size w w' := by
  have C1 := fun W => refRight_any r q A n c W hn
  rw [show decide (RightP r q n) = false from decide_eq_false hr] at C1
  have HC := Lib.hid C1
  obtain ⟨W0, hW0⟩ : ∃ W0, (w.alloc (.cells #[.int .i64 r, .int .i64 q, .slice A n c] 55)).alloc (.cells #[.int .i64 0, .int .i64 0, .slice none 0 0] 55) = W0 := ⟨_, rfl⟩
  have k0 : Below w.heap.size w W0 := by rw [← hW0]; exact ((Below.refl _ _).alloc (Nat.le_refl _) _).alloc (by simp) _
  have b0 : Blk W0 w.heap.size 55 #[.int .i64 r, .int .i64 q, .slice A n c] := by rw [← hW0]; exact (Blk.new _ _ _).alloc _
  have b1 : Blk W0 (w.heap.size + 1) 55 #[.int .i64 0, .int .i64 0, .slice none 0 0] := by rw [← hW0]; exact Blk.new' _ _ (by simp)
  have a0 : W0.cell? ⟨w.heap.size, 0, none⟩ = some (.int .i64 r) := b0.cell 0
  have a1 : W0.cell? ⟨w.heap.size, 1, none⟩ = some (.int .i64 q) := b0.cell 1
  have a2 : W0.cell? ⟨w.heap.size, 2, none⟩ = some (.slice A n c) := b0.cell 2
  have la := b0.lt
  have HW := Lib.hid hW0
  have HB1 := Lib.hid b1
  have HK := Lib.hid k0
  clear hW0 b1 k0 b0 hr C1
  go_enter Try.func28, Try.ntmps28
  go_wp2_with fail
  rw [HW.out]
  go_wp2_with fail
  ((with_reducible refine (HC.out _).mono ?_); rintro e w1 ⟨rfl, hb1⟩)
  have b2 := HB1.out.kept hb1
  have x0 : w1.cell? ⟨w.heap.size + 1, 0, none⟩ = some (.int .i64 0) := b2.cell 0
  have x1 : w1.cell? ⟨w.heap.size + 1, 1, none⟩ = some (.int .i64 0) := b2.cell 1
  have x2 : w1.cell? ⟨w.heap.size + 1, 2, none⟩ = some (.slice none 0 0) := b2.cell 2
  have f0 := b2.frozen 0
  have f1 := b2.frozen 1
  have f2 := b2.frozen 2
  have l2 := b2.lt
  have HB2 := Lib.hid b2
  have KK := Lib.hid ((Kept.of HK.out).call hb1).2.2
  clear hb1 b2 a0 a1 a2 la
  go_wp2
  refine bodyPost_ret (v := .agg #[.int .i64 0, .int .i64 0, .slice none 0 0]) (by simp [results, Try.results28, go_sem, x0, x1, x2, l2]) rfl ⟨rfl, ?_⟩
  exact below_gr KK.out KK.out.size (set3 HB2.out _ _ _).1 (by omega)

set_option maxHeartbeats 1000000 in
theorem matTurns_big (r q : Int) (A : Option Addr) (n c : Nat) (B : Option Addr) (m d : Nat) (k : Int) (w : World) (hn : n ≤ 9223372036854775807) (hm : m ≤ 9223372036854775807) (h : 600 < n ∨ 600 < m) :
    Calls Try.prog 12 #[.agg #[.int .i64 r, .int .i64 q, .slice A n c], .slice B m d, .int .i64 k] w fun e w' => e = .returned (.bool true) ∧ Below w.heap.size w w' := by
  have C1 := fun W => few07_any r q A n c W hn
  by_cases h1 : n ≤ 600
  · rw [show decide (n ≤ 600) = true from decide_eq_true h1] at C1
    have h2 : 600 < m := by omega
    have HC := Lib.hid C1
    clear C1
    go_enter Try.func12, Try.ntmps12
    go_wp2_with fail
    ((with_reducible refine (HC.out _).mono ?_); rintro e w1 ⟨rfl, hb1⟩)
    have k1 : Below w.heap.size w w1 := ((Kept.of (Below.refl _ w)).alloc _ |>.call hb1).2.2
    clear hb1
    go_wp2_with fail
    ((with_reducible refine (alive07_any _).mono ?_); rintro e w2 ⟨rfl, hb2⟩)
    have k2 := ((Kept.of k1).call hb2).2.2
    clear hb2
    go_wp2
    go_ret
    exact ⟨rfl, k2⟩
  · rw [show decide (n ≤ 600) = false from decide_eq_false h1] at C1
    have HC := Lib.hid C1
    clear C1
    go_enter Try.func12, Try.ntmps12
    go_wp2_with fail
    ((with_reducible refine (HC.out _).mono ?_); rintro e w1 ⟨rfl, hb1⟩)
    have k1 : Below w.heap.size w w1 := ((Kept.of (Below.refl _ w)).alloc _ |>.call hb1).2.2
    clear hb1
    go_wp2_with fail
    ((with_reducible refine (alive07_any _).mono ?_); rintro e w2 ⟨rfl, hb2⟩)
    have k2 := ((Kept.of k1).call hb2).2.2
    clear hb2
    go_wp2
    go_ret
    exact ⟨rfl, k2⟩


set_option maxHeartbeats 4000000 in
theorem matTurns_wrong (r q : Int) (A : Option Addr) (n c : Nat) (l : List Int) (B : Option Addr) (m d : Nat) (y : List Int) (k : Int) (w : World) (hn : n ≤ 600) (hm : m ≤ 600) (hr : ¬ RightP r q n) :
    Calls Try.prog 12 #[.agg #[.int .i64 r, .int .i64 q, .slice A n c], .slice B m d, .int .i64 k] w fun e w' => e = .returned (.bool true) ∧ Below w.heap.size w w' := by
  have C1 := fun W => few07_any r q A n c W (by omega)
  rw [show decide (n ≤ 600) = true from decide_eq_true hn] at C1
  have HC1 := Lib.hid C1
  have C3 := fun W => refRight_any r q A n c W (by omega)
  rw [show decide (RightP r q n) = false from decide_eq_false hr] at C3
  have HC3 := Lib.hid C3
  have C4 := fun W => turn_not r q A n c W hr (by omega)
  simp only [NoGrid] at C4
  have HT := Lib.hid C4
  have HRT := Lib.hid (fun W => refTurn_wrong r q A n c W hr (by omega))
  have HBK := Lib.hid (fun W => back_not r q A n c B m d k W (by omega) (by omega) (.inl hr))
  have HMU := Lib.hid (fun W => mul_not 0 0 none 0 0 B m d k W (by omega) (by omega) (.inl (fun hs => by have := hs.1.1; omega)))
  have HZ := Lib.hid (fun (W : World) => refMatSame_any 0 0 none none 0 0 0 [] W rfl (Rd.nil _ _ _) (Rd.nil _ _ _) (by omega))
  clear C1 C3 C4 hr
  obtain ⟨W0, hW0⟩ : ∃ W0, w.alloc (.cells #[.int .i64 r, .int .i64 q, .slice A n c] 55) = W0 := ⟨_, rfl⟩
  have b0 : Blk W0 w.heap.size 55 #[.int .i64 r, .int .i64 q, .slice A n c] := by rw [← hW0]; exact Blk.new _ _ _
  have k0 : Below w.heap.size w W0 := by rw [← hW0]; exact (Below.refl _ _).alloc (Nat.le_refl _) _
  have a0 : W0.cell? ⟨w.heap.size, 0, none⟩ = some (.int .i64 r) := b0.cell 0
  have a1 : W0.cell? ⟨w.heap.size, 1, none⟩ = some (.int .i64 q) := b0.cell 1
  have a2 : W0.cell? ⟨w.heap.size, 2, none⟩ = some (.slice A n c) := b0.cell 2
  have la := b0.lt
  have HB0 := Lib.hid b0
  have HK0 := Lib.hid k0
  have HW0 := Lib.hid hW0
  clear b0 k0 hW0
  go_enter Try.func12, Try.ntmps12
  go_wp2_with fail
  rw [HW0.out]
  go_wp2_with fail
  ((with_reducible refine (HC1.out _).mono ?_); rintro e w1 ⟨rfl, hb1⟩)
  have m1 := HB0.out.kept hb1
  have k1 := (Kept.of HK0.out).call hb1
  clear hb1 a0 a1 a2 la HW0
  have x0 : w1.cell? ⟨w.heap.size, 0, none⟩ = some (.int .i64 r) := m1.cell 0
  have x1 : w1.cell? ⟨w.heap.size, 1, none⟩ = some (.int .i64 q) := m1.cell 1
  have x2 : w1.cell? ⟨w.heap.size, 2, none⟩ = some (.slice A n c) := m1.cell 2
  have lx := m1.lt
  have HM1 := Lib.hid m1
  clear m1
  go_wp2_with fail
  ((with_reducible refine (given07_any _ _ _ n c _).mono ?_); rintro e w2 ⟨rfl, hb2⟩)
  have k2 := k1.call hb2
  have HM2 := Lib.hid (HM1.out.kept hb2)
  clear hb2 x0 x1 x2 lx k1 HM1
  go_wp2_with fail
  ((with_reducible refine (HT.out _).mono ?_); rintro e w3 ⟨rfl, hb3⟩)
  have k3 := k2.call hb3
  have m3 := HM2.out.kept hb3
  clear k2 hb3
  have x0 : w3.cell? ⟨w.heap.size, 0, none⟩ = some (.int .i64 r) := m3.cell 0
  have x1 : w3.cell? ⟨w.heap.size, 1, none⟩ = some (.int .i64 q) := m3.cell 1
  have x2 : w3.cell? ⟨w.heap.size, 2, none⟩ = some (.slice A n c) := m3.cell 2
  have lx := m3.lt
  obtain ⟨W4, hW4⟩ : ∃ W4, w3.alloc (.cells #[.int .i64 0, .int .i64 0, .slice none 0 0] 51) = W4 := ⟨_, rfl⟩
  have k4 : Kept w W4 := by rw [← hW4]; exact k3.alloc _
  have m4 : Blk W4 w.heap.size 55 #[.int .i64 r, .int .i64 q, .slice A n c] := by rw [← hW4]; exact m3.alloc _
  have n4 : Blk W4 w3.heap.size 51 #[.int .i64 0, .int .i64 0, .slice none 0 0] := by rw [← hW4]; exact Blk.new _ _ _
  have HM4 := Lib.hid m4
  have HN4 := Lib.hid n4
  have HW4 := Lib.hid hW4
  clear hW4 m4 n4 m3 k3
  go_wp2_with fail
  rw [HW4.out]
  clear HW4 x0 x1 x2 lx
  ((with_reducible refine (given07_any _ _ _ n c _).mono ?_); rintro e w5 ⟨rfl, hb5⟩)
  have k5 := k4.call hb5
  have HM5 := Lib.hid (HM4.out.kept hb5)
  have HN5 := Lib.hid (HN4.out.kept hb5)
  clear hb5 k4 HM4 HN4
  go_wp2_with fail
  ((with_reducible refine (HBK.out _).mono ?_); rintro e w6 ⟨rfl, hb6⟩)
  have k6 := k5.call hb6
  have HM6 := Lib.hid (HM5.out.kept hb6)
  have n6 := HN5.out.kept hb6
  have x0 : w6.cell? ⟨w3.heap.size, 0, none⟩ = some (.int .i64 0) := n6.cell 0
  have x1 : w6.cell? ⟨w3.heap.size, 1, none⟩ = some (.int .i64 0) := n6.cell 1
  have x2 : w6.cell? ⟨w3.heap.size, 2, none⟩ = some (.slice none 0 0) := n6.cell 2
  have lx := n6.lt
  have HN6 := Lib.hid n6
  clear hb6 k5 n6 HM5 HN5
  go_wp2_with fail
  ((with_reducible refine (HMU.out _).mono ?_); rintro e w7 ⟨rfl, hb7⟩)
  have k7 := k6.call hb7
  have m7 := HM6.out.kept hb7
  have n7 := HN6.out.kept hb7
  clear hb7 k6 x0 x1 x2 lx
  have x0 : w7.cell? ⟨w.heap.size, 0, none⟩ = some (.int .i64 r) := m7.cell 0
  have x1 : w7.cell? ⟨w.heap.size, 1, none⟩ = some (.int .i64 q) := m7.cell 1
  have x2 : w7.cell? ⟨w.heap.size, 2, none⟩ = some (.slice A n c) := m7.cell 2
  have lx := m7.lt
  have z0 : w7.cell? ⟨w3.heap.size, 0, none⟩ = some (.int .i64 0) := n7.cell 0
  have z1 : w7.cell? ⟨w3.heap.size, 1, none⟩ = some (.int .i64 0) := n7.cell 1
  have z2 : w7.cell? ⟨w3.heap.size, 2, none⟩ = some (.slice none 0 0) := n7.cell 2
  have lz := n7.lt
  have HM7 := Lib.hid m7
  have HN7 := Lib.hid n7
  have HK7 := Lib.hid k7.2.2
  clear m7 n7 k7
  go_wp2_with fail
  have S03 : Hid (∀ W, Calls Try.prog 49 #[.slice none 0 0, .slice none 0 0] W fun e w' => e = .returned (.bool true) ∧ Below W.heap.size W w') := Lib.hid (fun W => by
    have h := refSame_any none none 0 0 0 0 [] [] W rfl rfl (Rd.nil _ _ _) (Rd.nil _ _ _) (by omega) (by omega)
    rwa [decide_eq_true rfl] at h)
  go_region_held3 (fun w' => Kept w7 w') (first | exact kk | exact kk.alloc _ | exact Kept.start w7) (first
    | (go_at_call 26; (with_reducible refine (back07_any _ _ _ _ _ _).mono ?_); rintro e wa ⟨rfl, hb⟩; have kk := (Kept.start w7).call hb; clear hb)
    | (go_at_call 28; (with_reducible refine (HRT.out _).mono ?_); rintro e wb ⟨rfl, hb⟩; replace kk := kk.call hb; clear hb)
    | (go_at_call 25; (with_reducible refine (HZ.out _).mono ?_); rintro e wc ⟨rfl, hb⟩; replace kk := kk.call hb; clear hb)
    | (go_at_call 49; (with_reducible refine (S03.out _).mono ?_); rintro e wd ⟨rfl, hb⟩; replace kk := kk.call hb; clear hb))
  clear x0 x1 x2 lx z0 z1 z2 lz
  have m8 := HM7.out.kept kk.2.2
  have n8 := HN7.out.kept kk.2.2
  have x0 : wd.cell? ⟨w.heap.size, 0, none⟩ = some (.int .i64 r) := m8.cell 0
  have x1 : wd.cell? ⟨w.heap.size, 1, none⟩ = some (.int .i64 q) := m8.cell 1
  have x2 : wd.cell? ⟨w.heap.size, 2, none⟩ = some (.slice A n c) := m8.cell 2
  have lx := m8.lt
  have z0 : wd.cell? ⟨w3.heap.size, 0, none⟩ = some (.int .i64 0) := n8.cell 0
  have z1 : wd.cell? ⟨w3.heap.size, 1, none⟩ = some (.int .i64 0) := n8.cell 1
  have z2 : wd.cell? ⟨w3.heap.size, 2, none⟩ = some (.slice none 0 0) := n8.cell 2
  have lz := n8.lt
  have HK8 := Lib.hid ((Kept.of HK7.out).call kk.2.2).2.2
  clear m8 n8 kk
  try clear hHeld
  go_wp2_with fail
  have HDA := Lib.hid (fun (u : KW wd) => alive07_any u.w)
  have HD3 := Lib.hid (fun (u : KW wd) => HC3.out u.w)
  refine wp_region_kept wd (by kernel_rfl) (by kernel_rfl) (Kept.of (Below.refl _ _)) ?_
  have KC := fun (u : KW wd) b o h => KW.cells u b o h
  repeat (go_big_quiet_step (first
    | (go_at_call 23; (with_reducible exact kept_call (HDA.out _)))
    | (go_at_call 41; (with_reducible exact kept_call (HD3.out _)))))
  refine wpQuiet_nil ?_
  rintro we ⟨⟨_, k9⟩, rfl⟩
  clear KC x0 x1 x2 lx z0 z1 z2 lz
  go_wp2
  go_ret
  exact ⟨rfl, ((Kept.of HK8.out).call k9.2.2).2.2⟩


set_option maxHeartbeats 4000000 in
theorem matTurns_odd (R C : Nat) (A : Option Addr) (n c : Nat) (l : List Int) (B : Option Addr) (m d : Nat) (y : List Int) (k : Int) (w : World) (hn : n ≤ 600) (hm : m ≤ 600) (hcap : n ≤ c) (hcm : c ≤ 9223372036854775807) (hl : l.length = n) (hy : y.length = m) (h : Rd w 1 A n (iv l)) (h' : Rd w 1 B m (iv y)) (h1 : ∀ v ∈ l, In1 v) (h2 : ∀ v ∈ y, In1 v) (hR : 1 ≤ R ∧ R ≤ 1048576) (hC : 1 ≤ C ∧ C ≤ 1048576) (hRC : R * C = n) (hfit : m ≠ R) :
    Calls Try.prog 12 #[.agg #[.int .i64 R, .int .i64 C, .slice A n c], .slice B m d, .int .i64 k] w fun e w' => e = .returned (.bool true) ∧ Below w.heap.size w w' := by
  have hr : RightP R C n := ⟨⟨by omega, by omega, by omega, by omega⟩, by rw [← hRC]; exact Int.natCast_mul R C⟩
  have hn0 : 0 < n := by rw [← hRC]; exact Nat.mul_pos hR.1 hC.1
  obtain ⟨gA, oA, rfl, hgA, _⟩ := h.2 hn0
  have C1 := fun W => few07_any (R : Int) (C : Int) (some ⟨gA, oA, none⟩) n c W (by omega)
  rw [show decide (n ≤ 600) = true from decide_eq_true hn] at C1
  have HC1 := Lib.hid C1
  have C3 := fun W => refRight_any (R : Int) (C : Int) (some ⟨gA, oA, none⟩) n c W (by omega)
  rw [show decide (RightP (R : Int) (C : Int) n) = true from decide_eq_true hr] at C3
  have HC3 := Lib.hid C3
  have HT := Lib.hid (fun W (k : Kept w W) => turn_good R C n (some ⟨gA, oA, none⟩) c l W hR hC hRC (by omega) hl (h.kept k) hcap hcm)
  have HRT := Lib.hid (fun W (k : Kept w W) => refTurn_good R C n (some ⟨gA, oA, none⟩) c l W hR hC hRC (by omega) hl (h.kept k))
  have hCR : C * R = n := by rw [Nat.mul_comm]; exact hRC
  have hTl : (turnN l R C).length = n := by rw [turnN, natL_length, hCR]
  have hTin : ∀ v ∈ turnN l R C, In1 v := natL_all (fun i hi => by
    unfold turnF
    rw [List.getD_eq_getElem?_getD]
    cases e : l[i % R * C + i / R]? with
    | none => exact ⟨by decide, by decide⟩
    | some x => exact h1 x (List.mem_of_getElem? e))
  have HTT := Lib.hid (fun A c W (r : Rd W 1 A n (iv (turnN l R C))) (h1 : n ≤ c) (h2 : c ≤ 9223372036854775807) => turn_good C R n A c (turnN l R C) W hC hR hCR (by omega) hTl r h1 h2)
  have HTE : Hid (turnN (turnN l R C) C R = l) := Lib.hid (turn_turn hRC hl hR.1 hC.1)
  have HBK := Lib.hid (fun W => back_not R C (some ⟨gA, oA, none⟩) n c B m d k W (by omega) (by omega) (.inr (by omega)))
  have HMU := Lib.hid (fun A cap W => mul_not C R A n cap B m d k W (by omega) (by omega) (.inr (by omega)))
  have HL := Lib.hid hl
  have HTL := Lib.hid hTl
  have HRL := Lib.hid h
  have HRY := Lib.hid h'
  have HNN := Lib.hid hn0
  clear C1 C3 h h' h1 h2 hl hy hr hRC hCR hTl hTin hn0
  obtain ⟨W0, hW0⟩ : ∃ W0, w.alloc (.cells #[.int .i64 (R : Int), .int .i64 (C : Int), .slice (some ⟨gA, oA, none⟩) n c] 55) = W0 := ⟨_, rfl⟩
  have b0 : Blk W0 w.heap.size 55 #[.int .i64 (R : Int), .int .i64 (C : Int), .slice (some ⟨gA, oA, none⟩) n c] := by rw [← hW0]; exact Blk.new _ _ _
  have k0 : Below w.heap.size w W0 := by rw [← hW0]; exact (Below.refl _ _).alloc (Nat.le_refl _) _
  have a0 : W0.cell? ⟨w.heap.size, 0, none⟩ = some (.int .i64 (R : Int)) := b0.cell 0
  have a1 : W0.cell? ⟨w.heap.size, 1, none⟩ = some (.int .i64 (C : Int)) := b0.cell 1
  have a2 : W0.cell? ⟨w.heap.size, 2, none⟩ = some (.slice (some ⟨gA, oA, none⟩) n c) := b0.cell 2
  have la := b0.lt
  have HB0 := Lib.hid b0
  have HK0 := Lib.hid k0
  have HW0 := Lib.hid hW0
  clear b0 k0 hW0
  go_enter Try.func12, Try.ntmps12
  go_wp2_with fail
  rw [HW0.out]
  go_wp2_with fail
  ((with_reducible refine (HC1.out _).mono ?_); rintro e w1 ⟨rfl, hb1⟩)
  have m1 := HB0.out.kept hb1
  have k1 := (Kept.of HK0.out).call hb1
  clear hb1 a0 a1 a2 la HW0
  have x0 : w1.cell? ⟨w.heap.size, 0, none⟩ = some (.int .i64 (R : Int)) := m1.cell 0
  have x1 : w1.cell? ⟨w.heap.size, 1, none⟩ = some (.int .i64 (C : Int)) := m1.cell 1
  have x2 : w1.cell? ⟨w.heap.size, 2, none⟩ = some (.slice (some ⟨gA, oA, none⟩) n c) := m1.cell 2
  have lx := m1.lt
  have HM1 := Lib.hid m1
  clear m1
  go_wp2_with fail
  ((with_reducible refine (given07_any _ _ _ n c _).mono ?_); rintro e w2 ⟨rfl, hb2⟩)
  have k2 := k1.call hb2
  have HM2 := Lib.hid (HM1.out.kept hb2)
  clear hb2 x0 x1 x2 lx k1 HM1
  go_wp2_with fail
  ((with_reducible refine (HT.out _ k2).mono ?_); rintro e w3 ⟨AT, cT, rfl, hown, hb3⟩)
  obtain ⟨_, _, q1, q2, q3, q6⟩ := own_form hown
  injection q1 with q4 q5 q7
  subst q4 q7
  obtain ⟨gT, rfl, hgT, _⟩ := q6 HNN.out
  have hcT : cT ≤ 9223372036854775807 := by unfold maxLen at q3; omega
  have k3 := k2.call hb3
  have m3 := HM2.out.kept hb3
  clear k2 hb3
  have x0 : w3.cell? ⟨w.heap.size, 0, none⟩ = some (.int .i64 (R : Int)) := m3.cell 0
  have x1 : w3.cell? ⟨w.heap.size, 1, none⟩ = some (.int .i64 (C : Int)) := m3.cell 1
  have x2 : w3.cell? ⟨w.heap.size, 2, none⟩ = some (.slice (some ⟨gA, oA, none⟩) n c) := m3.cell 2
  have lx := m3.lt
  obtain ⟨W4, hW4⟩ : ∃ W4, w3.alloc (.cells #[.int .i64 (C : Int), .int .i64 (R : Int), .slice (some ⟨gT, 0, none⟩) n cT] 51) = W4 := ⟨_, rfl⟩
  have k4 : Kept w W4 := by rw [← hW4]; exact k3.alloc _
  have m4 : Blk W4 w.heap.size 55 #[.int .i64 (R : Int), .int .i64 (C : Int), .slice (some ⟨gA, oA, none⟩) n c] := by rw [← hW4]; exact m3.alloc _
  have n4 : Blk W4 w3.heap.size 51 #[.int .i64 (C : Int), .int .i64 (R : Int), .slice (some ⟨gT, 0, none⟩) n cT] := by rw [← hW4]; exact Blk.new _ _ _
  have HT4 : Hid (Rd W4 1 (some ⟨gT, 0, none⟩) n (iv (turnN l R C))) := Lib.hid (by rw [← hW4]; exact (Rd.of_own hown).alloc _)
  clear hown q6
  have HM4 := Lib.hid m4
  have HN4 := Lib.hid n4
  have HW4 := Lib.hid hW4
  clear hW4 m4 n4 m3 k3
  go_wp2_with fail
  rw [HW4.out]
  clear HW4 x0 x1 x2 lx
  ((with_reducible refine (given07_any _ _ _ n c _).mono ?_); rintro e w5 ⟨rfl, hb5⟩)
  have k5 := k4.call hb5
  have HM5 := Lib.hid (HM4.out.kept hb5)
  have HN5 := Lib.hid (HN4.out.kept hb5)
  have HT5 := Lib.hid (HT4.out.below hb5)
  clear hb5 k4 HM4 HN4
  go_wp2_with fail
  ((with_reducible refine (HBK.out _).mono ?_); rintro e w6 ⟨rfl, hb6⟩)
  have k6 := k5.call hb6
  have HM6 := Lib.hid (HM5.out.kept hb6)
  have n6 := HN5.out.kept hb6
  have x0 : w6.cell? ⟨w3.heap.size, 0, none⟩ = some (.int .i64 (C : Int)) := n6.cell 0
  have x1 : w6.cell? ⟨w3.heap.size, 1, none⟩ = some (.int .i64 (R : Int)) := n6.cell 1
  have x2 : w6.cell? ⟨w3.heap.size, 2, none⟩ = some (.slice (some ⟨gT, 0, none⟩) n cT) := n6.cell 2
  have lx := n6.lt
  have HN6 := Lib.hid n6
  have HT6 := Lib.hid (HT5.out.below hb6)
  clear hb6 k5 n6 HM5 HN5
  go_wp2_with fail
  ((with_reducible refine (HMU.out _ _ _).mono ?_); rintro e w7 ⟨rfl, hb7⟩)
  have k7 := k6.call hb7
  have m7 := HM6.out.kept hb7
  have n7 := HN6.out.kept hb7
  have HT7 := Lib.hid (HT6.out.below hb7)
  clear hb7 k6 x0 x1 x2 lx
  have x0 : w7.cell? ⟨w.heap.size, 0, none⟩ = some (.int .i64 (R : Int)) := m7.cell 0
  have x1 : w7.cell? ⟨w.heap.size, 1, none⟩ = some (.int .i64 (C : Int)) := m7.cell 1
  have x2 : w7.cell? ⟨w.heap.size, 2, none⟩ = some (.slice (some ⟨gA, oA, none⟩) n c) := m7.cell 2
  have lx := m7.lt
  have z0 : w7.cell? ⟨w3.heap.size, 0, none⟩ = some (.int .i64 (C : Int)) := n7.cell 0
  have z1 : w7.cell? ⟨w3.heap.size, 1, none⟩ = some (.int .i64 (R : Int)) := n7.cell 1
  have z2 : w7.cell? ⟨w3.heap.size, 2, none⟩ = some (.slice (some ⟨gT, 0, none⟩) n cT) := n7.cell 2
  have lz := n7.lt
  have HM7 := Lib.hid m7
  have HN7 := Lib.hid n7
  have HK7 := Lib.hid k7.2.2
  clear m7 n7 k7
  go_wp2_with fail
  have S03 : Hid (∀ W, Calls Try.prog 49 #[.slice none 0 0, .slice none 0 0] W fun e w' => e = .returned (.bool true) ∧ Below W.heap.size W w') := Lib.hid (fun W => by
    have h := refSame_any none none 0 0 0 0 [] [] W rfl rfl (Rd.nil _ _ _) (Rd.nil _ _ _) (by omega) (by omega)
    rwa [decide_eq_true rfl] at h)
  go_region_held3 (fun w' => Kept w7 w') (first | exact kk | exact kk.alloc _ | exact Kept.start w7) (first
    | (go_at_call 26; (with_reducible refine (back07_any _ _ _ _ _ _).mono ?_); rintro e wa ⟨rfl, hb⟩; have kk := (Kept.start w7).call hb; clear hb)
    | (go_at_call 28; (with_reducible refine (HRT.out _ ((Kept.of HK7.out).call kk.2.2)).mono ?_); rintro e wb ⟨AR, cR, rfl, hR', hb⟩; replace kk := kk.call hb; have HRR := Lib.hid (Rd.of_own hR'); clear hR' hb)
    | (go_at_call 25; (with_reducible refine (refMatSame_any _ _ _ _ n _ _ (turnN l R C) _ HTL.out (HT7.out.kept kk) HRR.out (by omega)).mono ?_); rintro e wc ⟨rfl, hb⟩; replace kk := kk.call hb; clear hb)
    | (go_at_call 49; (with_reducible refine (S03.out _).mono ?_); rintro e wd ⟨rfl, hb⟩; replace kk := kk.call hb; clear hb))
  clear x0 x1 x2 lx z0 z1 z2 lz HRR
  have m8 := HM7.out.kept kk.2.2
  have n8 := HN7.out.kept kk.2.2
  have x0 : wd.cell? ⟨w.heap.size, 0, none⟩ = some (.int .i64 (R : Int)) := m8.cell 0
  have x1 : wd.cell? ⟨w.heap.size, 1, none⟩ = some (.int .i64 (C : Int)) := m8.cell 1
  have x2 : wd.cell? ⟨w.heap.size, 2, none⟩ = some (.slice (some ⟨gA, oA, none⟩) n c) := m8.cell 2
  have lx := m8.lt
  have z0 : wd.cell? ⟨w3.heap.size, 0, none⟩ = some (.int .i64 (C : Int)) := n8.cell 0
  have z1 : wd.cell? ⟨w3.heap.size, 1, none⟩ = some (.int .i64 (R : Int)) := n8.cell 1
  have z2 : wd.cell? ⟨w3.heap.size, 2, none⟩ = some (.slice (some ⟨gT, 0, none⟩) n cT) := n8.cell 2
  have lz := n8.lt
  have HK8 := Lib.hid ((Kept.of HK7.out).call kk.2.2).2.2
  have HT8 := Lib.hid (HT7.out.below kk.2.2)
  clear m8 n8 kk
  try clear hHeld
  go_wp2_with fail
  go_region_held3 (fun w' => Kept wd w') (first | exact kx | exact kx.alloc _ | exact Kept.start wd) (first
    | (go_at_call 23; (with_reducible refine (alive07_any _).mono ?_); rintro e we ⟨rfl, hb⟩; have kx := (Kept.start wd).call hb; clear hb)
    | (go_at_call 41; (with_reducible refine (HC3.out _).mono ?_); rintro e wf ⟨rfl, hb⟩; replace kx := kx.call hb; clear hb)
    | (go_at_call 48; (with_reducible refine (HTT.out _ _ _ (HT8.out.kept kx) q2 hcT).mono ?_); rintro e wg ⟨AZ, cZ, rfl, hZ, hb⟩; replace kx := kx.call hb; rw [HTE.out] at hZ; have HZZ := Lib.hid (Rd.of_own hZ); clear hZ hb)
    | (go_at_call 26; (with_reducible refine (back07_any _ _ _ _ _ _).mono ?_); rintro e wh ⟨rfl, hb⟩; replace kx := kx.call hb; replace HZZ := Lib.hid (HZZ.out.below hb); clear hb)
    | (go_at_call 25; (with_reducible refine (refMatSame_any _ _ _ _ n _ _ l _ HL.out HZZ.out (HRL.out.kept ((Kept.of HK8.out).call kx.2.2)) (by omega)).mono ?_); rintro e wi ⟨rfl, hb⟩; replace kx := kx.call hb; clear hb))
  all_goals go_wp2_with fail
  all_goals go_ret
  all_goals exact ⟨rfl, ((Kept.of HK8.out).call kx.2.2).2.2⟩


set_option maxHeartbeats 4000000 in
theorem matTurns_fit (R C : Nat) (A : Option Addr) (n c : Nat) (l : List Int) (B : Option Addr) (m d : Nat) (y : List Int) (k : Int) (w : World) (hn : n ≤ 600) (hm : m ≤ 600) (hcap : n ≤ c) (hcm : c ≤ 9223372036854775807) (hl : l.length = n) (hy : y.length = m) (h : Rd w 1 A n (iv l)) (h' : Rd w 1 B m (iv y)) (h1 : ∀ v ∈ l, In1 v) (h2 : ∀ v ∈ y, In1 v) (hR : 1 ≤ R ∧ R ≤ 1048576) (hC : 1 ≤ C ∧ C ≤ 1048576) (hRC : R * C = n) (hfit : m = R) :
    Calls Try.prog 12 #[.agg #[.int .i64 R, .int .i64 C, .slice A n c], .slice B m d, .int .i64 k] w fun e w' => e = .returned (.bool true) ∧ Below w.heap.size w w' := by
  have hr : RightP R C n := ⟨⟨by omega, by omega, by omega, by omega⟩, by rw [← hRC]; exact Int.natCast_mul R C⟩
  have hn0 : 0 < n := by rw [← hRC]; exact Nat.mul_pos hR.1 hC.1
  obtain ⟨gA, oA, rfl, hgA, _⟩ := h.2 hn0
  have C1 := fun W => few07_any (R : Int) (C : Int) (some ⟨gA, oA, none⟩) n c W (by omega)
  rw [show decide (n ≤ 600) = true from decide_eq_true hn] at C1
  have HC1 := Lib.hid C1
  have C3 := fun W => refRight_any (R : Int) (C : Int) (some ⟨gA, oA, none⟩) n c W (by omega)
  rw [show decide (RightP (R : Int) (C : Int) n) = true from decide_eq_true hr] at C3
  have HC3 := Lib.hid C3
  have HT := Lib.hid (fun W (k : Kept w W) => turn_good R C n (some ⟨gA, oA, none⟩) c l W hR hC hRC (by omega) hl (h.kept k) hcap hcm)
  have HRT := Lib.hid (fun W (k : Kept w W) => refTurn_good R C n (some ⟨gA, oA, none⟩) c l W hR hC hRC (by omega) hl (h.kept k))
  have hCR : C * R = n := by rw [Nat.mul_comm]; exact hRC
  have hTl : (turnN l R C).length = n := by rw [turnN, natL_length, hCR]
  have hTin : ∀ v ∈ turnN l R C, In1 v := natL_all (fun i hi => by
    unfold turnF
    rw [List.getD_eq_getElem?_getD]
    cases e : l[i % R * C + i / R]? with
    | none => exact ⟨by decide, by decide⟩
    | some x => exact h1 x (List.mem_of_getElem? e))
  have HTT := Lib.hid (fun A c W (r : Rd W 1 A n (iv (turnN l R C))) (h1 : n ≤ c) (h2 : c ≤ 9223372036854775807) => turn_good C R n A c (turnN l R C) W hC hR hCR (by omega) hTl r h1 h2)
  have HTE : Hid (turnN (turnN l R C) C R = l) := Lib.hid (turn_turn hRC hl hR.1 hC.1)
  subst hfit
  have HBK := Lib.hid (fun W (q : Kept w W) => back_good m C n c gA oA B d l y k W hR hC hRC (by omega) hcap hcm hl hy (h.kept q) (h'.kept q) h1 h2)
  have HMU := Lib.hid (fun g cap W (q : Kept w W) (r : Rd W 1 (some ⟨g, 0, none⟩) n (iv (turnN l m C))) (hc1 : n ≤ cap) (hc2 : cap ≤ 9223372036854775807) => mul_good C m n cap g 0 B d (turnN l m C) y k W hC hR hCR (by omega) hc1 hc2 hTl hy r (h'.kept q) hTin h2)
  have HL := Lib.hid hl
  have HTL := Lib.hid hTl
  have HRL := Lib.hid h
  have HRY := Lib.hid h'
  have HNN := Lib.hid hn0
  clear C1 C3 h h' h1 h2 hl hy hr hRC hCR hTl hTin hn0
  obtain ⟨W0, hW0⟩ : ∃ W0, w.alloc (.cells #[.int .i64 (m : Int), .int .i64 (C : Int), .slice (some ⟨gA, oA, none⟩) n c] 55) = W0 := ⟨_, rfl⟩
  have b0 : Blk W0 w.heap.size 55 #[.int .i64 (m : Int), .int .i64 (C : Int), .slice (some ⟨gA, oA, none⟩) n c] := by rw [← hW0]; exact Blk.new _ _ _
  have k0 : Below w.heap.size w W0 := by rw [← hW0]; exact (Below.refl _ _).alloc (Nat.le_refl _) _
  have a0 : W0.cell? ⟨w.heap.size, 0, none⟩ = some (.int .i64 (m : Int)) := b0.cell 0
  have a1 : W0.cell? ⟨w.heap.size, 1, none⟩ = some (.int .i64 (C : Int)) := b0.cell 1
  have a2 : W0.cell? ⟨w.heap.size, 2, none⟩ = some (.slice (some ⟨gA, oA, none⟩) n c) := b0.cell 2
  have la := b0.lt
  have HB0 := Lib.hid b0
  have HK0 := Lib.hid k0
  have HW0 := Lib.hid hW0
  clear b0 k0 hW0
  go_enter Try.func12, Try.ntmps12
  go_wp2_with fail
  rw [HW0.out]
  go_wp2_with fail
  ((with_reducible refine (HC1.out _).mono ?_); rintro e w1 ⟨rfl, hb1⟩)
  have m1 := HB0.out.kept hb1
  have k1 := (Kept.of HK0.out).call hb1
  clear hb1 a0 a1 a2 la HW0
  have x0 : w1.cell? ⟨w.heap.size, 0, none⟩ = some (.int .i64 (m : Int)) := m1.cell 0
  have x1 : w1.cell? ⟨w.heap.size, 1, none⟩ = some (.int .i64 (C : Int)) := m1.cell 1
  have x2 : w1.cell? ⟨w.heap.size, 2, none⟩ = some (.slice (some ⟨gA, oA, none⟩) n c) := m1.cell 2
  have lx := m1.lt
  have HM1 := Lib.hid m1
  clear m1
  go_wp2_with fail
  ((with_reducible refine (given07_any _ _ _ n c _).mono ?_); rintro e w2 ⟨rfl, hb2⟩)
  have k2 := k1.call hb2
  have HM2 := Lib.hid (HM1.out.kept hb2)
  clear hb2 x0 x1 x2 lx k1 HM1
  go_wp2_with fail
  ((with_reducible refine (HT.out _ k2).mono ?_); rintro e w3 ⟨AT, cT, rfl, hown, hb3⟩)
  obtain ⟨_, _, q1, q2, q3, q6⟩ := own_form hown
  injection q1 with q4 q5 q7
  subst q4 q7
  obtain ⟨gT, rfl, hgT, _⟩ := q6 HNN.out
  have hcT : cT ≤ 9223372036854775807 := by unfold maxLen at q3; omega
  have k3 := k2.call hb3
  have m3 := HM2.out.kept hb3
  clear k2 hb3
  have x0 : w3.cell? ⟨w.heap.size, 0, none⟩ = some (.int .i64 (m : Int)) := m3.cell 0
  have x1 : w3.cell? ⟨w.heap.size, 1, none⟩ = some (.int .i64 (C : Int)) := m3.cell 1
  have x2 : w3.cell? ⟨w.heap.size, 2, none⟩ = some (.slice (some ⟨gA, oA, none⟩) n c) := m3.cell 2
  have lx := m3.lt
  obtain ⟨W4, hW4⟩ : ∃ W4, w3.alloc (.cells #[.int .i64 (C : Int), .int .i64 (m : Int), .slice (some ⟨gT, 0, none⟩) n cT] 51) = W4 := ⟨_, rfl⟩
  have k4 : Kept w W4 := by rw [← hW4]; exact k3.alloc _
  have m4 : Blk W4 w.heap.size 55 #[.int .i64 (m : Int), .int .i64 (C : Int), .slice (some ⟨gA, oA, none⟩) n c] := by rw [← hW4]; exact m3.alloc _
  have n4 : Blk W4 w3.heap.size 51 #[.int .i64 (C : Int), .int .i64 (m : Int), .slice (some ⟨gT, 0, none⟩) n cT] := by rw [← hW4]; exact Blk.new _ _ _
  have HT4 : Hid (Rd W4 1 (some ⟨gT, 0, none⟩) n (iv (turnN l m C))) := Lib.hid (by rw [← hW4]; exact (Rd.of_own hown).alloc _)
  clear hown q6
  have HM4 := Lib.hid m4
  have HN4 := Lib.hid n4
  have HW4 := Lib.hid hW4
  clear hW4 m4 n4 m3 k3
  go_wp2_with fail
  rw [HW4.out]
  clear HW4 x0 x1 x2 lx
  ((with_reducible refine (given07_any _ _ _ n c _).mono ?_); rintro e w5 ⟨rfl, hb5⟩)
  have k5 := k4.call hb5
  have HM5 := Lib.hid (HM4.out.kept hb5)
  have HN5 := Lib.hid (HN4.out.kept hb5)
  have HT5 := Lib.hid (HT4.out.below hb5)
  clear hb5 k4 HM4 HN4
  go_wp2_with fail
  ((with_reducible refine (HBK.out _ k5).mono ?_); rintro e w6 ⟨A6, c6, rfl, hown6, hb6⟩)
  have k6 := k5.call hb6
  have HM6 := Lib.hid (HM5.out.kept hb6)
  have n6 := HN5.out.kept hb6
  have x0 : w6.cell? ⟨w3.heap.size, 0, none⟩ = some (.int .i64 (C : Int)) := n6.cell 0
  have x1 : w6.cell? ⟨w3.heap.size, 1, none⟩ = some (.int .i64 (m : Int)) := n6.cell 1
  have x2 : w6.cell? ⟨w3.heap.size, 2, none⟩ = some (.slice (some ⟨gT, 0, none⟩) n cT) := n6.cell 2
  have lx := n6.lt
  have HN6 := Lib.hid n6
  have HT6 := Lib.hid (HT5.out.below hb6)
  have HA6 := Lib.hid (Rd.of_own hown6)
  clear hown6
  clear hb6 k5 n6 HM5 HN5
  go_wp2_with fail
  ((with_reducible refine (HMU.out _ _ _ k6 HT6.out q2 hcT).mono ?_); rintro e w7 ⟨A7, c7, rfl, hown7, hb7⟩)
  have k7 := k6.call hb7
  have m7 := HM6.out.kept hb7
  have n7 := HN6.out.kept hb7
  have HT7 := Lib.hid (HT6.out.below hb7)
  have HA7 := Lib.hid (HA6.out.below hb7)
  have HC7 := Lib.hid (Rd.of_own hown7)
  clear hown7
  clear hb7 k6 x0 x1 x2 lx
  have x0 : w7.cell? ⟨w.heap.size, 0, none⟩ = some (.int .i64 (m : Int)) := m7.cell 0
  have x1 : w7.cell? ⟨w.heap.size, 1, none⟩ = some (.int .i64 (C : Int)) := m7.cell 1
  have x2 : w7.cell? ⟨w.heap.size, 2, none⟩ = some (.slice (some ⟨gA, oA, none⟩) n c) := m7.cell 2
  have lx := m7.lt
  have z0 : w7.cell? ⟨w3.heap.size, 0, none⟩ = some (.int .i64 (C : Int)) := n7.cell 0
  have z1 : w7.cell? ⟨w3.heap.size, 1, none⟩ = some (.int .i64 (m : Int)) := n7.cell 1
  have z2 : w7.cell? ⟨w3.heap.size, 2, none⟩ = some (.slice (some ⟨gT, 0, none⟩) n cT) := n7.cell 2
  have lz := n7.lt
  have HM7 := Lib.hid m7
  have HN7 := Lib.hid n7
  have HK7 := Lib.hid k7.2.2
  clear m7 n7 k7
  go_wp2_with fail
  have S03 : Hid (∀ W, Rd W 1 A6 C (iv (mulN (turnN l m C) y k C)) → Rd W 1 A7 C (iv (mulN (turnN l m C) y k C)) → Calls Try.prog 49 #[.slice A6 C c6, .slice A7 C c7] W fun e w' => e = .returned (.bool true) ∧ Below W.heap.size W w') := Lib.hid (fun W r1 r2 => by
    have h := refSame_any A6 A7 C C c6 c7 (mulN (turnN l m C) y k C) (mulN (turnN l m C) y k C) W (natL_length _ _) (natL_length _ _) r1 r2 (by omega) (by omega)
    rwa [decide_eq_true rfl] at h)
  go_region_held3 (fun w' => Kept w7 w') (first | exact kk | exact kk.alloc _ | exact Kept.start w7) (first
    | (go_at_call 26; (with_reducible refine (back07_any _ _ _ _ _ _).mono ?_); rintro e wa ⟨rfl, hb⟩; have kk := (Kept.start w7).call hb; clear hb)
    | (go_at_call 28; (with_reducible refine (HRT.out _ ((Kept.of HK7.out).call kk.2.2)).mono ?_); rintro e wb ⟨AR, cR, rfl, hR', hb⟩; replace kk := kk.call hb; have HRR := Lib.hid (Rd.of_own hR'); clear hR' hb)
    | (go_at_call 25; (with_reducible refine (refMatSame_any _ _ _ _ n _ _ (turnN l m C) _ HTL.out (HT7.out.kept kk) HRR.out (by omega)).mono ?_); rintro e wc ⟨rfl, hb⟩; replace kk := kk.call hb; clear hb)
    | (go_at_call 49; (with_reducible refine (S03.out _ (HA7.out.kept kk) (HC7.out.kept kk)).mono ?_); rintro e wd ⟨rfl, hb⟩; replace kk := kk.call hb; clear hb))
  clear x0 x1 x2 lx z0 z1 z2 lz HRR
  have m8 := HM7.out.kept kk.2.2
  have n8 := HN7.out.kept kk.2.2
  have x0 : wd.cell? ⟨w.heap.size, 0, none⟩ = some (.int .i64 (m : Int)) := m8.cell 0
  have x1 : wd.cell? ⟨w.heap.size, 1, none⟩ = some (.int .i64 (C : Int)) := m8.cell 1
  have x2 : wd.cell? ⟨w.heap.size, 2, none⟩ = some (.slice (some ⟨gA, oA, none⟩) n c) := m8.cell 2
  have lx := m8.lt
  have z0 : wd.cell? ⟨w3.heap.size, 0, none⟩ = some (.int .i64 (C : Int)) := n8.cell 0
  have z1 : wd.cell? ⟨w3.heap.size, 1, none⟩ = some (.int .i64 (m : Int)) := n8.cell 1
  have z2 : wd.cell? ⟨w3.heap.size, 2, none⟩ = some (.slice (some ⟨gT, 0, none⟩) n cT) := n8.cell 2
  have lz := n8.lt
  have HK8 := Lib.hid ((Kept.of HK7.out).call kk.2.2).2.2
  have HT8 := Lib.hid (HT7.out.below kk.2.2)
  clear m8 n8 kk
  try clear hHeld
  go_wp2_with fail
  go_region_held3 (fun w' => Kept wd w') (first | exact kx | exact kx.alloc _ | exact Kept.start wd) (first
    | (go_at_call 23; (with_reducible refine (alive07_any _).mono ?_); rintro e we ⟨rfl, hb⟩; have kx := (Kept.start wd).call hb; clear hb)
    | (go_at_call 41; (with_reducible refine (HC3.out _).mono ?_); rintro e wf ⟨rfl, hb⟩; replace kx := kx.call hb; clear hb)
    | (go_at_call 48; (with_reducible refine (HTT.out _ _ _ (HT8.out.kept kx) q2 hcT).mono ?_); rintro e wg ⟨AZ, cZ, rfl, hZ, hb⟩; replace kx := kx.call hb; rw [HTE.out] at hZ; have HZZ := Lib.hid (Rd.of_own hZ); clear hZ hb)
    | (go_at_call 26; (with_reducible refine (back07_any _ _ _ _ _ _).mono ?_); rintro e wh ⟨rfl, hb⟩; replace kx := kx.call hb; replace HZZ := Lib.hid (HZZ.out.below hb); clear hb)
    | (go_at_call 25; (with_reducible refine (refMatSame_any _ _ _ _ n _ _ l _ HL.out HZZ.out (HRL.out.kept ((Kept.of HK8.out).call kx.2.2)) (by omega)).mono ?_); rintro e wi ⟨rfl, hb⟩; replace kx := kx.call hb; clear hb))
  all_goals go_wp2_with fail
  all_goals go_ret
  all_goals exact ⟨rfl, ((Kept.of HK8.out).call kx.2.2).2.2⟩


theorem matTurns_any (r q : Int) (A : Option Addr) (n c : Nat) (l : List Int) (B : Option Addr) (m d : Nat) (y : List Int) (k : Int) (w : World) (hn : n ≤ 9223372036854775807) (hm : m ≤ 9223372036854775807) (hcap : n ≤ c) (hcm : c ≤ 9223372036854775807) (hl : l.length = n) (hy : y.length = m) (h : Rd w 1 A n (iv l)) (h' : Rd w 1 B m (iv y)) (h1 : ∀ v ∈ l, In1 v) (h2 : ∀ v ∈ y, In1 v) :
    Calls Try.prog 12 #[.agg #[.int .i64 r, .int .i64 q, .slice A n c], .slice B m d, .int .i64 k] w fun e w' => e = .returned (.bool true) ∧ Below w.heap.size w w' := by
  by_cases hb : 600 < n ∨ 600 < m
  · exact matTurns_big r q A n c B m d k w hn hm hb
  · by_cases hr : RightP r q n
    · obtain ⟨⟨a1, a2, a3, a4⟩, a5⟩ := hr
      obtain ⟨R, rfl⟩ := Int.eq_ofNat_of_zero_le (show 0 ≤ r by omega)
      obtain ⟨C, rfl⟩ := Int.eq_ofNat_of_zero_le (show 0 ≤ q by omega)
      have hRC : R * C = n := Int.ofNat.inj (by rw [Int.ofNat_eq_natCast, Int.ofNat_eq_natCast, Int.natCast_mul]; exact a5.symm)
      by_cases hf : m = R
      · exact matTurns_fit R C A n c l B m d y k w (by omega) (by omega) hcap hcm hl hy h h' h1 h2 (by omega) (by omega) hRC hf
      · exact matTurns_odd R C A n c l B m d y k w (by omega) (by omega) hcap hcm hl hy h h' h1 h2 (by omega) (by omega) hRC hf
    · exact matTurns_wrong r q A n c l B m d y k w (by omega) (by omega) hr

end Go.Proofs.Ytnnphileeeaibaa
