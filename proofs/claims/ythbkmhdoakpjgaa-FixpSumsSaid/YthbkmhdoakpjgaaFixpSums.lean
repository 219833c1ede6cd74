/-
  FixpSums: the walk.
-/
import Derived.Test.YthbkmhdoakpjgaaFixpSums1
import Derived.Test.YthbkmhdoakpjgaaFixpGates
namespace Go.Proofs.Ythbkmhdoakpjgaa
set_option linter.unusedVariables false
set_option linter.unusedSimpArgs false
open Go.RowKit

theorem rd_front {w : World} {A : Option Addr} {n k : Nat} {xs : List Value} (h : Rd w 1 A n xs) (hk : k ≤ n) : Rd w 1 A k (xs.take k) := by
  refine ⟨by rw [List.length_take, h.1]; omega, fun h0 => ?_⟩
  obtain ⟨b, o, e, hb, hc⟩ := h.2 (by omega)
  refine ⟨b, o, e, hb, fun j u hu => hc j u ?_⟩
  rw [List.getElem?_take] at hu
  split at hu
  · exact hu
  · cases hu
theorem rd_rest {w : World} {b o n k : Nat} {xs : List Value} (h : Rd w 1 (some ⟨b, o, none⟩) n xs) (hk : k ≤ n) : Rd w 1 (some ⟨b, o + k, none⟩) (n - k) (xs.drop k) := by
  refine ⟨by rw [List.length_drop, h.1]; omega, fun h0 => ?_⟩
  obtain ⟨b', o', e, hb, hc⟩ := h.2 (by omega)
  injection e with e
  injection e with e1 e2
  subst e1 e2
  refine ⟨b, o + k, rfl, hb, fun j u hu => ?_⟩
  rw [List.getElem?_drop] at hu
  rw [Nat.add_assoc]
  exact hc _ u hu
theorem rd_none {w : World} {A : Option Addr} {n : Nat} {xs : List Value} (h0 : n = 0) (hl : xs.length = 0) : Rd w 1 A n xs := ⟨by omega, fun h => absurd h (by omega)⟩
theorem iv_take (l : List Int) (k : Nat) : iv (l.take k) = (iv l).take k := by simp [iv, List.map_take]
theorem iv_drop (l : List Int) (k : Nat) : iv (l.drop k) = (iv l).drop k := by simp [iv, List.map_drop]

set_option maxHeartbeats 400000 in
theorem fixpSums_not (A : Option Addr) (n cap : Nat) (m : Int) (w : World) (hn : n ≤ 9223372036854775807) (h : 500 < n) :
    Calls Try.prog 13 #[.slice A n cap, .int .u8 m] w fun e w' => e = .returned (.bool true) ∧ Below w.heap.size w w' := by
  go_enter Try.func13, Try.ntmps13
  go_wp2_with fail
  ((with_reducible refine (alive01_any _).mono ?_); rintro e w1 ⟨rfl, hb1⟩)
  go_wp2
  go_ret
  exact ⟨rfl, hb1⟩

set_option maxHeartbeats 4000000 in
theorem fixpSums_pos (b o n cap m : Nat) (l : List Int) (w : World) (hm : m ≤ 255) (hn1 : 1 ≤ n) (hn : n ≤ 500) (hnc : n ≤ cap) (hcm : cap ≤ 9223372036854775807) (hl : l.length = n) (h : Rd w 1 (some ⟨b, o, none⟩) n (iv l)) :
    Calls Try.prog 13 #[.slice (some ⟨b, o, none⟩) n cap, .int .u8 m] w fun e w' => e = .returned (.bool true) ∧ Below w.heap.size w w' := by
  obtain ⟨r, hr⟩ : ∃ r, m % (n + 1) = r := ⟨_, rfl⟩
  have hr' : (m : Int) % ((n : Int) + 1) = (r : Int) := by rw [← hr]; simp
  have hrn := Nat.mod_lt m (show 0 < n + 1 by omega)
  rw [hr] at hrn
  have HL := Lib.hid hl
  have HR := Lib.hid h
  clear hl h hr
  obtain ⟨s, hs⟩ : ∃ s, sumW l = s := ⟨_, rfl⟩
  obtain ⟨x, hx⟩ : ∃ x, sumW (l.take r) = x := ⟨_, rfl⟩
  obtain ⟨y, hy⟩ : ∃ y, sumW (l.drop r) = y := ⟨_, rfl⟩
  have hxy : sumW [x, y] = s := by rw [← hx, ← hy, ← hs, sumW_groups]
  have HS := Lib.hid hs
  have HX := Lib.hid hx
  have HY := Lib.hid hy
  have HXY := Lib.hid hxy
  have C0 := fixpSum_any (some ⟨b, o, none⟩) n cap l w HL.out HR.out (by omega)
  rw [hs] at C0
  have HC0 := Lib.hid C0
  clear hs hx hy hxy C0
  go_enter Try.func13, Try.ntmps13
  go_wp2_with fail
  ((with_reducible refine HC0.out.mono ?_); rintro e w1 ⟨rfl, hb1⟩)
  go_wp2_with fail
  ((with_reducible refine (clone64_any (some ⟨b, o, none⟩) n cap l _ HL.out (HR.out.below hb1) (by omega)).mono ?_); rintro e w2 ⟨A2, c2, rfl, hown2, hb2⟩)
  obtain ⟨_, _, q1, q2, q3, q6⟩ := own_form hown2
  injection q1 with q4 _ q5
  subst q4 q5
  obtain ⟨g, rfl, hg1, hg2⟩ := q6 (by omega)
  have HO := Lib.hid hown2
  clear hown2 q6
  go_wp2_with fail
  ((with_reducible refine (reverse64_any g n c2 _ l _ HL.out (by omega) HO.out).mono ?_); rintro e w3 ⟨rfl, hown3, hg3⟩)
  have hb3 : Below w1.heap.size w1 w3 := hb2.grown hg3 hb2.size (fun k e => by cases e; exact hg1)
  have R3 := Lib.hid (Rd.of_own hown3)
  have k3 := Lib.hid ((Kept.of hb1).call hb3)
  clear hb1 hb2 hb3 hown3 hg3 HO hg1 hg2 HC0
  have HR3 := Lib.hid (HR.out.kept k3.out)
  have i1 : (0 : Int) ≤ (r : Int) := by omega
  have i2 : (r : Int) ≤ (cap : Int) := by omega
  have i3 : (r : Int) ≤ (n : Int) := by omega
  have i4 : (n : Int) ≤ (cap : Int) := by omega
  have G1 : Hid (∀ W, Kept w3 W → Calls Try.prog 46 #[.slice (some ⟨b, o, none⟩) n cap] W fun e w' => e = .returned (.int .i64 s) ∧ W = w') := Lib.hid (fun W k => by
    have := refSum01_any (some ⟨b, o, none⟩) n cap l W HL.out (HR3.out.kept k) (by omega)
    rwa [HS.out] at this)
  have G2 : Hid (∀ W, Kept w3 W → Calls Try.prog 43 #[.slice (some ⟨g, 0, none⟩) n c2] W fun e w' => e = .returned (.int .i64 s) ∧ Below W.heap.size W w') := Lib.hid (fun W k => by
    have := fixpSum_any (some ⟨g, 0, none⟩) n c2 l.reverse W (by rw [List.length_reverse]; exact HL.out) (R3.out.kept k) (by omega)
    rwa [sumW_rev, HS.out] at this)
  have G3 : Hid (∀ W, Kept w3 W → Calls Try.prog 43 #[.slice (some ⟨b, o, none⟩) r cap] W fun e w' => e = .returned (.int .i64 x) ∧ Below W.heap.size W w') := Lib.hid (fun W k => by
    have := fixpSum_any (some ⟨b, o, none⟩) r cap (l.take r) W (by rw [List.length_take, HL.out]; omega) (by rw [iv_take]; exact rd_front (HR3.out.kept k) (by omega)) (by omega)
    rwa [HX.out] at this)
  have G5 : Hid (∀ W, Kept w3 W → Calls Try.prog 43 #[.slice (some ⟨W.heap.size, 0, none⟩) 2 2] (W.alloc (.cells #[.int .i64 x, .int .i64 y] 2)) fun e w' => e = .returned (.int .i64 s) ∧ Below (W.heap.size + 1) (W.alloc (.cells #[.int .i64 x, .int .i64 y] 2)) w') := Lib.hid (fun W k => by
    have := fixpSum_any (some ⟨W.heap.size, 0, none⟩) 2 2 [x, y] (W.alloc (.cells #[.int .i64 x, .int .i64 y] 2)) rfl (rd_new1 W #[.int .i64 x, .int .i64 y] 2 1 2 rfl) (by omega)
    rw [HXY.out] at this
    simpa using this)
  by_cases hcr : cap = r
  · subst hcr
    have G4 : Hid (∀ W, Kept w3 W → Calls Try.prog 43 #[.slice (some ⟨b, o, none⟩) 0 0] W fun e w' => e = .returned (.int .i64 y) ∧ Below W.heap.size W w') := Lib.hid (fun W k => by
      have := fixpSum_any (some ⟨b, o, none⟩) 0 0 (l.drop cap) W (by rw [List.length_drop, HL.out]; omega) (rd_none rfl (by rw [iv_length, List.length_drop, HL.out]; omega)) (by omega)
      rwa [HY.out] at this)
    clear HR HL R3 HR3 HS HX HY HXY
    go_wp2_with fail
    go_region_held3 (fun w' => Kept w3 w') (first | exact kk | exact kk.alloc _ | exact Kept.start w3) (first
      | (go_at_call 17; (with_reducible refine (alive01_any _).mono ?_); rintro e w4 ⟨rfl, hb4⟩; have kk := (Kept.start w3).call hb4; clear hb4)
      | (go_at_call 46; (with_reducible refine (G1.out _ kk).mono ?_); rintro e w5 ⟨rfl, rfl⟩)
      | (go_at_call 43; (with_reducible refine (G2.out _ kk).mono ?_); rintro e w5 ⟨rfl, hb5⟩; replace kk := kk.call hb5; clear hb5)
      | (go_at_call 43; (with_reducible refine (G3.out _ kk).mono ?_); rintro e w5 ⟨rfl, hb5⟩; replace kk := kk.call hb5; clear hb5)
      | (go_at_call 43; (with_reducible refine (G4.out _ kk).mono ?_); rintro e w5 ⟨rfl, hb5⟩; replace kk := kk.call hb5; clear hb5)
      | (go_at_call 43; (with_reducible refine (G5.out _ kk).mono ?_); rintro e w5 ⟨rfl, hb5⟩; replace kk := kk.call_alloc hb5; clear hb5))
    go_wp2
    go_ret
    exact ⟨rfl, (k3.out.call kk.2.2).2.2⟩
  · have hcr' : ¬ ((cap : Int) = (r : Int)) := by omega
    have G4 : Hid (∀ W, Kept w3 W → Calls Try.prog 43 #[.slice (some ⟨b, o + r, none⟩) (n - r) (cap - r)] W fun e w' => e = .returned (.int .i64 y) ∧ Below W.heap.size W w') := Lib.hid (fun W k => by
      have := fixpSum_any (some ⟨b, o + r, none⟩) (n - r) (cap - r) (l.drop r) W (by rw [List.length_drop, HL.out]) (by rw [iv_drop]; exact rd_rest (HR3.out.kept k) (by omega)) (by omega)
      rwa [HY.out] at this)
    clear HR HL R3 HR3 HS HX HY HXY
    go_wp2_with fail
    go_region_held3 (fun w' => Kept w3 w') (first | exact kk | exact kk.alloc _ | exact Kept.start w3) (first
      | (go_at_call 17; (with_reducible refine (alive01_any _).mono ?_); rintro e w4 ⟨rfl, hb4⟩; have kk := (Kept.start w3).call hb4; clear hb4)
      | (go_at_call 46; (with_reducible refine (G1.out _ kk).mono ?_); rintro e w5 ⟨rfl, rfl⟩)
      | (go_at_call 43; (with_reducible refine (G2.out _ kk).mono ?_); rintro e w5 ⟨rfl, hb5⟩; replace kk := kk.call hb5; clear hb5)
      | (go_at_call 43; (with_reducible refine (G3.out _ kk).mono ?_); rintro e w5 ⟨rfl, hb5⟩; replace kk := kk.call hb5; clear hb5)
      | (go_at_call 43; (with_reducible refine (G4.out _ kk).mono ?_); rintro e w5 ⟨rfl, hb5⟩; replace kk := kk.call hb5; clear hb5)
      | (go_at_call 43; (with_reducible refine (G5.out _ kk).mono ?_); rintro e w5 ⟨rfl, hb5⟩; replace kk := kk.call_alloc hb5; clear hb5))
    go_wp2
    go_ret
    exact ⟨rfl, (k3.out.call kk.2.2).2.2⟩

set_option maxHeartbeats 400000 in
theorem reverse64_nil (A : Option Addr) (cap : Nat) (w : World) : Calls Try.prog 45 #[.slice A 0 cap] w fun e w' => e = .returned (.tuple #[]) ∧ w = w' := by
  go_enter Try.func45, Try.ntmps45
  go_wp2_with fail
  go_loop [2, 3] (fun x y => x = .int .i64 0 ∧ y = .int .i64 (-1)) (fun x _ => 0)
  case atStart => exact ⟨rfl, rfl⟩
  case round =>
    obtain ⟨rfl, rfl⟩ := hrel
    go_wp2
    go_end0
    exact ⟨rfl, rfl⟩

set_option maxHeartbeats 4000000 in
theorem fixpSums_zero (A : Option Addr) (cap m : Nat) (w : World) (hm : m ≤ 255) (hcm : cap ≤ 9223372036854775807) (hA : A = none → cap = 0) :
    Calls Try.prog 13 #[.slice A 0 cap, .int .u8 m] w fun e w' => e = .returned (.bool true) ∧ Below w.heap.size w w' := by
  have G : Hid (∀ (A' : Option Addr) (c : Nat) (W : World), Calls Try.prog 43 #[.slice A' 0 c] W fun e w' => e = .returned (.int .i64 0) ∧ Below W.heap.size W w') := Lib.hid (fun A' c W => fixpSum_any A' 0 c [] W rfl (Rd.nil _ _ _) (by omega))
  have G1 : Hid (∀ (A' : Option Addr) (c : Nat) (W : World), Calls Try.prog 46 #[.slice A' 0 c] W fun e w' => e = .returned (.int .i64 0) ∧ W = w') := Lib.hid (fun A' c W => refSum01_any A' 0 c [] W rfl (Rd.nil _ _ _) (by omega))
  have HC := Lib.hid (fun W => clone64_any A 0 cap [] W rfl (Rd.nil _ _ _) (by omega))
  have G5 : Hid (∀ W : World, Calls Try.prog 43 #[.slice (some ⟨W.heap.size, 0, none⟩) 2 2] (W.alloc (.cells #[.int .i64 0, .int .i64 0] 2)) fun e w' => e = .returned (.int .i64 0) ∧ Below (W.heap.size + 1) (W.alloc (.cells #[.int .i64 0, .int .i64 0] 2)) w') := Lib.hid (fun W => by
    have := fixpSum_any (some ⟨W.heap.size, 0, none⟩) 2 2 [0, 0] (W.alloc (.cells #[.int .i64 0, .int .i64 0] 2)) rfl (rd_new1 W #[.int .i64 0, .int .i64 0] 2 1 2 rfl) (by omega)
    have e : sumW [0, 0] = 0 := by simp [sumW, wrap64]
    rw [e] at this
    simpa using this)
  have main : ∀ (A3 : Option Addr) (c3 : Nat) (w3 : World), Kept w w3 → True := fun _ _ _ _ => trivial
  clear main
  have i1 : (0 : Int) ≤ (cap : Int) := by omega
  cases A with
  | none =>
    obtain rfl : cap = 0 := hA rfl
    clear hA
    go_enter Try.func13, Try.ntmps13
    go_wp2_with fail
    ((with_reducible refine (G.out _ _ _).mono ?_); rintro e w1 ⟨rfl, hb1⟩)
    go_wp2_with fail
    ((with_reducible refine (HC.out _).mono ?_); rintro e w2 ⟨A2, c2, rfl, hown2, hb2⟩)
    have k2 := (Kept.of hb1).call hb2
    clear hown2 hb1 hb2
    go_wp2_with fail
    ((with_reducible refine (reverse64_nil _ _ _).mono ?_); rintro e w3 ⟨rfl, rfl⟩)
    go_wp2_with fail
    go_region_held3 (fun w' => Kept w2 w') (first | exact kk | exact kk.alloc _ | exact Kept.start w2) (first
      | (go_at_call 17; (with_reducible refine (alive01_any _).mono ?_); rintro e w4 ⟨rfl, hb4⟩; have kk := (Kept.start w2).call hb4; clear hb4)
      | (go_at_call 46; (with_reducible refine (G1.out _ _ _).mono ?_); rintro e w5 ⟨rfl, rfl⟩)
      | (go_at_call 43; (with_reducible refine (G.out _ _ _).mono ?_); rintro e w5 ⟨rfl, hb5⟩; replace kk := kk.call hb5; clear hb5)
      | (go_at_call 43; (with_reducible refine (G5.out _).mono ?_); rintro e w5 ⟨rfl, hb5⟩; replace kk := kk.call_alloc hb5; clear hb5))
    go_wp2
    go_ret
    exact ⟨rfl, (k2.call kk.2.2).2.2⟩
  | some a =>
    clear hA
    have ha : a.add 0 = a := rfl
    by_cases hc0 : cap = 0
    · subst hc0
      go_enter Try.func13, Try.ntmps13
      go_wp2_with fail
      ((with_reducible refine (G.out _ _ _).mono ?_); rintro e w1 ⟨rfl, hb1⟩)
      go_wp2_with fail
      ((with_reducible refine (HC.out _).mono ?_); rintro e w2 ⟨A2, c2, rfl, hown2, hb2⟩)
      have k2 := (Kept.of hb1).call hb2
      clear hown2 hb1 hb2
      go_wp2_with fail
      ((with_reducible refine (reverse64_nil _ _ _).mono ?_); rintro e w3 ⟨rfl, rfl⟩)
      go_wp2_with fail
      go_region_held3 (fun w' => Kept w2 w') (first | exact kk | exact kk.alloc _ | exact Kept.start w2) (first
        | (go_at_call 17; (with_reducible refine (alive01_any _).mono ?_); rintro e w4 ⟨rfl, hb4⟩; have kk := (Kept.start w2).call hb4; clear hb4)
        | (go_at_call 46; (with_reducible refine (G1.out _ _ _).mono ?_); rintro e w5 ⟨rfl, rfl⟩)
        | (go_at_call 43; (with_reducible refine (G.out _ _ _).mono ?_); rintro e w5 ⟨rfl, hb5⟩; replace kk := kk.call hb5; clear hb5)
        | (go_at_call 43; (with_reducible refine (G5.out _).mono ?_); rintro e w5 ⟨rfl, hb5⟩; replace kk := kk.call_alloc hb5; clear hb5))
      go_wp2
      go_ret
      exact ⟨rfl, (k2.call kk.2.2).2.2⟩
    · have hc1 : ¬ ((cap : Int) = 0) := by omega
      go_enter Try.func13, Try.ntmps13
      go_wp2_with fail
      ((with_reducible refine (G.out _ _ _).mono ?_); rintro e w1 ⟨rfl, hb1⟩)
      go_wp2_with fail
      ((with_reducible refine (HC.out _).mono ?_); rintro e w2 ⟨A2, c2, rfl, hown2, hb2⟩)
      have k2 := (Kept.of hb1).call hb2
      clear hown2 hb1 hb2
      go_wp2_with fail
      ((with_reducible refine (reverse64_nil _ _ _).mono ?_); rintro e w3 ⟨rfl, rfl⟩)
      go_wp2_with fail
      go_region_held3 (fun w' => Kept w2 w') (first | exact kk | exact kk.alloc _ | exact Kept.start w2) (first
        | (go_at_call 17; (with_reducible refine (alive01_any _).mono ?_); rintro e w4 ⟨rfl, hb4⟩; have kk := (Kept.start w2).call hb4; clear hb4)
        | (go_at_call 46; (with_reducible refine (G1.out _ _ _).mono ?_); rintro e w5 ⟨rfl, rfl⟩)
        | (go_at_call 43; (with_reducible refine (G.out _ _ _).mono ?_); rintro e w5 ⟨rfl, hb5⟩; replace kk := kk.call hb5; clear hb5)
        | (go_at_call 43; (with_reducible refine (G5.out _).mono ?_); rintro e w5 ⟨rfl, hb5⟩; replace kk := kk.call_alloc hb5; clear hb5))
      go_wp2
      go_ret
      exact ⟨rfl, (k2.call kk.2.2).2.2⟩

theorem fixpSums_any (A : Option Addr) (n cap : Nat) (l : List Int) (m : Int) (w : World) (hn : n ≤ 9223372036854775807 ∧ n ≤ cap ∧ cap ≤ 9223372036854775807) (hA : A = none → cap = 0) (hl : l.length = n) (h : Rd w 1 A n (iv l)) (hm : 0 ≤ m ∧ m ≤ 255) :
    Calls Try.prog 13 #[.slice A n cap, .int .u8 m] w fun e w' => e = .returned (.bool true) ∧ Below w.heap.size w w' := by
  by_cases h5 : 500 < n
  · exact fixpSums_not A n cap m w hn.1 h5
  · obtain ⟨k, rfl⟩ := Int.eq_ofNat_of_zero_le hm.1
    rcases Nat.eq_zero_or_pos n with h0 | h0
    · subst h0
      exact fixpSums_zero A cap k w (by omega) hn.2.2 hA
    · obtain ⟨b, o, rfl, _⟩ := h.2 h0
      exact fixpSums_pos b o n cap k l w (by omega) h0 (by omega) hn.2.1 hn.2.2 hl h

end Go.Proofs.Ythbkmhdoakpjgaa
