/-
  Contracts of package vec: adding in place, sums.
-/
import Derived.Test.YthbkmhdoakpjgaaVec
namespace Go.Proofs.Ythbkmhdoakpjgaa
set_option linter.unusedVariables false
set_option linter.unusedSimpArgs false
open Go.RowKit

theorem only_drew' {a w : World} {row : Option Nat} (h : a.grownBy w row) : a.grownBy w.drew row := ⟨h.os, h.tape, h.output, h.size, h.block⟩

set_option maxHeartbeats 400000 in
theorem add_not (A B : Option Addr) (n m c d : Nat) (w : World) (hn : n ≤ 9223372036854775807) (hm : m ≤ 9223372036854775807) (h : n ≠ m) :
    Calls Try.prog 25 #[.slice A n c, .slice B m d] w fun e w' => e = .returned (.bool false) ∧ w = w' := by
  have d1 : ((n : Int) != (m : Int)) = true := by simp; omega
  go_enter Try.func25, Try.ntmps25
  go_wp2
  go_ret
  exact ⟨rfl, rfl⟩

set_option maxHeartbeats 1000000 in
theorem add_any (A B : Option Addr) (g o n c d N cap base : Nat) (xs ys : List Int) (w : World) (hA : 0 < n → A = some ⟨g, o, none⟩) (hN : o + n ≤ N) (hN2 : N ≤ 10000000) (hxl : xs.length = N) (hyl : ys.length = n)
    (hown : w.ownsRow base 2 1 (.slice (some ⟨g, 0, none⟩) N cap) N (iv xs)) (hy : Rd w 1 B n (iv ys)) (hne : ∀ b o', B = some ⟨b, o', none⟩ → 0 < n → b ≠ g) :
    Calls Try.prog 25 #[.slice A n c, .slice B n d] w fun e w' => e = .returned (.bool true) ∧ w'.ownsRow base 2 1 (.slice (some ⟨g, 0, none⟩) N cap) N (iv (addAt xs o ys n)) ∧ w.grownBy w' (some g) := by
  have HA := Lib.hid hA
  have HXL := Lib.hid hxl
  have HYL := Lib.hid hyl
  have HO := Lib.hid hown
  have HY := Lib.hid hy
  have HNE := Lib.hid hne
  clear hA hxl hyl hown hy hne
  go_enter Try.func25, Try.ntmps25
  go_wp2_with fail
  go_loopw [13] (fun i wr => ∃ k : Nat, k ≤ n ∧ i = .int .i64 k ∧ wr.ownsRow base 2 1 (.slice (some ⟨g, 0, none⟩) N cap) N (iv (addAt xs o ys k)) ∧ w.grownBy wr (some g)) (fun i _ => n - (intOf i).toNat)
  case atStart => exact ⟨0, by omega, rfl, by rw [addAt_zero]; exact HO.out, World.grownBy.refl _ _⟩
  case round =>
    obtain ⟨k, hk, rfl, hown, hg⟩ := hrel
    by_cases hlt : k < n
    · obtain rfl := HA.out (by omega)
      obtain ⟨b, o', rfl, hbl, hcy⟩ := HY.out.2 (by omega)
      have hbg := HNE.out b o' rfl (by omega)
      have hky : k < ys.length := by rw [HYL.out]; exact hlt
      have hkx : o + k < xs.length := by rw [HXL.out]; omega
      have c2 : wr.cell? ⟨b, o' + k, none⟩ = some (.int .i64 ys[k]) := hg.cell (hcy k _ (iv_get ys k hky)) (by simp [hbg])
      have c1 : wr.cell? ⟨g, o + k, none⟩ = some (.int .i64 xs[o + k]) := by
        rw [hown.cellAt (o + k) (by omega)]
        unfold iv
        rw [List.getElem?_map, addAt_at xs o ys k _ (List.getElem?_eq_getElem hkx)]
        rfl
      have f1 := hown.frozenAt (o + k)
      have HX := Lib.hid (List.getElem?_eq_getElem hkx)
      have HYk := Lib.hid (List.getElem?_eq_getElem hky)
      generalize xs[o + k] = x at *
      generalize ys[k] = y at *
      have HOw := Lib.hid hown
      have HG := Lib.hid hg
      have i1 : (k : Int) < (n : Int) := by omega
      have i3 : (0 : Int) ≤ (k : Int) := by omega
      clear hown hg hcy hkx hky hbl
      go_wp2_with fail
      go_region
      go_wp2
      go_roundw
      case rel => exact ⟨k + 1, by omega, by go_num, by rw [← addAt_next xs o ys k x y HX.out HYk.out, ← iv_set]; exact (HOw.out.stored (o + k) _).1, HG.out.trans (only_drew' (HOw.out.stored (o + k) _).2)⟩
      case measure => simp [intOf]; omega
    · obtain rfl : k = n := by omega
      go_wp2
      go_ret
      exact ⟨rfl, hown, hg⟩

set_option maxHeartbeats 400000 in
theorem add_zero (A B : Option Addr) (c d : Nat) (w : World) :
    Calls Try.prog 25 #[.slice A 0 c, .slice B 0 d] w fun e w' => e = .returned (.bool true) ∧ w = w' := by
  go_enter Try.func25, Try.ntmps25
  go_wp2_with fail
  go_loop [13] (fun i => i = .int .i64 0) (fun _ => 0)
  case atStart => rfl
  case round =>
    obtain rfl := hrel
    go_wp2
    go_ret
    exact ⟨rfl, rfl⟩

/-- Adding in place to a vector of the call's own. -/
theorem add_own (A B : Option Addr) (n c d base : Nat) (xs ys : List Int) (w : World) (hn : n ≤ 10000000) (hxl : xs.length = n) (hyl : ys.length = n)
    (hown : w.ownsRow base 2 1 (.slice A n c) n (iv xs)) (hbw : base ≤ w.heap.size) (hy : Rd w 1 B n (iv ys)) (hB : ∀ b o', B = some ⟨b, o', none⟩ → 0 < n → b < base) :
    Calls Try.prog 25 #[.slice A n c, .slice B n d] w fun e w' => e = .returned (.bool true) ∧ w'.ownsRow base 2 1 (.slice A n c) n (iv (addL xs ys)) ∧ Below base w w' := by
  rcases Nat.eq_zero_or_pos n with h0 | h0
  · subst h0
    refine (add_zero A B c d w).mono ?_
    rintro e w' ⟨rfl, rfl⟩
    have hx0 : xs = [] := List.eq_nil_of_length_eq_zero hxl
    subst hx0
    exact ⟨rfl, hown, Below.refl _ _⟩
  · obtain ⟨A', cap', hv, hcap, _, hf⟩ := own_form hown
    injection hv with hA _ hC
    subst hA hC
    obtain ⟨g, rfl, hg1, hg2⟩ := hf h0
    refine (add_any (some ⟨g, 0, none⟩) B g 0 n c d n c base xs ys w (fun _ => rfl) (by omega) hn hxl hyl hown hy (fun b o' e h => by have := hB b o' e h; omega)).mono ?_
    rintro e w' ⟨rfl, h1, h2⟩
    refine ⟨rfl, ?_, (Below.refl _ _).grown h2 hbw (fun k e => by cases e; exact hg1)⟩
    unfold addL
    rw [hxl]
    exact h1

end Go.Proofs.Ythbkmhdoakpjgaa
