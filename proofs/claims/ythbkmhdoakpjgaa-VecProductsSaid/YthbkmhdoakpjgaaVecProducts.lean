/-
  VecProducts: the walk.
-/
import Derived.Test.YthbkmhdoakpjgaaVecDot
import Derived.Test.YthbkmhdoakpjgaaVecAdds
namespace Go.Proofs.Ythbkmhdoakpjgaa
set_option linter.unusedVariables false
set_option linter.unusedSimpArgs false
open Go.RowKit

def dotV (q : Int) (a b : List Int) : Int := if a.length = b.length then dotL q a b else 0
theorem dotV_comm (q : Int) (a b : List Int) : dotV q a b = dotV q b a := by
  unfold dotV dotL
  rw [dotF_comm]
  by_cases h : a.length = b.length
  · rw [if_pos h, if_pos h.symm]
  · rw [if_neg h, if_neg (fun e => h e.symm)]
theorem dotV_any (A B : Option Addr) (n m c d : Nat) (q : Int) (a b : List Int) (w : World) (hn : n ≤ 10000000) (hm : m ≤ 10000000) (ha : a.length = n) (hb : b.length = m) (h : Rd w 1 A n (iv a)) (h' : Rd w 1 B m (iv b)) (hx : ∀ x ∈ a, In1 x) (hx' : ∀ x ∈ b, In1 x) :
    Calls Try.prog 47 #[.slice A n c, .slice B m d, .int .i64 q] w fun e w' => e = .returned (.tuple #[.int .i64 (dotV q a b), .bool (decide (n = m))]) ∧ Below w.heap.size w w' := by
  unfold dotV
  rw [ha, hb]
  by_cases e : n = m
  · subst e
    rw [if_pos rfl, decide_eq_true rfl]
    exact dot_any A B n c d q a b w hn ha hb h h' hx hx'
  · rw [if_neg e, decide_eq_false e]
    exact (dot_not A B n m c d q w (by omega) (by omega) e).mono fun _ _ ⟨h1, h2⟩ => ⟨h1, h2 ▸ Below.refl _ _⟩
theorem refDotV_any (A B : Option Addr) (n m c d : Nat) (q : Int) (a b : List Int) (w : World) (hn : n ≤ 10000000) (hm : m ≤ 10000000) (ha : a.length = n) (hb : b.length = m) (h : Rd w 1 A n (iv a)) (h' : Rd w 1 B m (iv b)) (hx : ∀ x ∈ a, In1 x) (hx' : ∀ x ∈ b, In1 x) :
    Calls Try.prog 48 #[.slice A n c, .slice B m d, .int .i64 q] w fun e w' => e = .returned (.tuple #[.int .i64 (dotV q a b), .bool (decide (n = m))]) ∧ Below w.heap.size w w' := by
  unfold dotV
  rw [ha, hb]
  by_cases e : n = m
  · subst e
    rw [if_pos rfl, decide_eq_true rfl]
    exact refDot_any A B n c d q a b w hn ha hb h h' hx hx'
  · rw [if_neg e, decide_eq_false e]
    exact (refDot_not A B n m c d q w (by omega) (by omega) e).mono fun _ _ ⟨h1, h2⟩ => ⟨h1, h2 ▸ Below.refl _ _⟩

set_option maxHeartbeats 1000000 in
theorem vecProducts_not (A B : Option Addr) (n m c d : Nat) (q : Int) (w : World) (hn : n ≤ 9223372036854775807) (hm : m ≤ 9223372036854775807) (h : ¬ n + m ≤ 1500) :
    Calls Try.prog 14 #[.slice A n c, .slice B m d, .int .i64 q] w fun e w' => e = .returned (.bool true) ∧ Below w.heap.size w w' := by
  have d1 : decide (n + m ≤ 1500) = false := decide_eq_false h
  clear h
  go_enter Try.func14, Try.ntmps14
  go_wp2_with fail
  ((with_reducible refine (few2_any A B n c m d _ _ hn hm (rd_new' w #[.slice A n c, .slice B m d] 32 1 2 rfl)).mono ?_); rintro e w1 ⟨rfl, rfl⟩)
  rw [d1]
  go_wp2_with fail
  ((with_reducible refine (alive03_any _).mono ?_); rintro e w2 ⟨rfl, hb2⟩)
  have hb := ((Below.refl w.heap.size w).alloc (Nat.le_refl _) _).trans (hb2.mono (by simp))
  clear hb2
  go_wp2
  go_ret
  exact ⟨rfl, hb⟩

set_option maxHeartbeats 4000000 in
theorem vecProducts_some (A B : Option Addr) (n m c d : Nat) (q : Int) (a b : List Int) (w : World) (hn : n + m ≤ 1500) (ha : a.length = n) (hb : b.length = m) (h : Rd w 1 A n (iv a)) (h' : Rd w 1 B m (iv b)) (hx : ∀ x ∈ a, In1 x) (hx' : ∀ x ∈ b, In1 x) :
    Calls Try.prog 14 #[.slice A n c, .slice B m d, .int .i64 q] w fun e w' => e = .returned (.bool true) ∧ Below w.heap.size w w' := by
  have d1 : decide (n + m ≤ 1500) = true := decide_eq_true hn
  have HA := Lib.hid ha
  have HB := Lib.hid hb
  have HR := Lib.hid h
  have HR' := Lib.hid h'
  have HX := Lib.hid (And.intro hx hx')
  clear ha hb h h' hx hx'
  go_enter Try.func14, Try.ntmps14
  go_wp2_with fail
  ((with_reducible refine (few2_any A B n c m d _ _ (by omega) (by omega) (rd_new' w #[.slice A n c, .slice B m d] 32 1 2 rfl)).mono ?_); rintro e w1 ⟨rfl, rfl⟩)
  rw [d1]
  have k0 : Kept w (w.alloc (.cells #[.slice A n c, .slice B m d] 32)) := Kept.of ((Below.refl _ _).alloc (Nat.le_refl _) _)
  go_wp2_with fail
  ((with_reducible refine (dotV_any A B n m c d q a b _ (by omega) (by omega) HA.out HB.out (HR.out.kept k0) (HR'.out.kept k0) HX.out.1 HX.out.2).mono ?_); rintro e w1 ⟨rfl, hb1⟩)
  have k1 := k0.call hb1
  clear k0 hb1
  go_wp2_with fail
  ((with_reducible refine (refDotV_any A B n m c d q a b _ (by omega) (by omega) HA.out HB.out (HR.out.kept k1) (HR'.out.kept k1) HX.out.1 HX.out.2).mono ?_); rintro e w2 ⟨rfl, hb2⟩)
  have k2 := k1.call hb2
  clear k1 hb2
  go_wp2_with fail
  ((with_reducible refine (dotV_any B A m n d c q b a _ (by omega) (by omega) HB.out HA.out (HR'.out.kept k2) (HR.out.kept k2) HX.out.2 HX.out.1).mono ?_); rintro e w3 ⟨rfl, hb3⟩)
  rw [dotV_comm q b a]
  have k3 := k2.call hb3
  clear k2 hb3
  by_cases h0 : 0 < m
  · obtain ⟨g, o, x, rfl, hbl, hx, c1⟩ := iv_at HB.out (HR'.out.kept k3) h0
    rw [Nat.add_zero] at c1
    have bx := Lib.hid (HX.out.2 x (List.mem_of_getElem? hx))
    clear hx
    go_wp2_with fail
    ((with_reducible refine (alive03_any _).mono ?_); rintro e w4 ⟨rfl, hb4⟩)
    have k4 := k3.call hb4
    clear k3 hb4
    go_wp2_with fail
    ((with_reducible refine (scale_any A n c x q a _ (by omega) HA.out (HR.out.kept k4) HX.out.1 bx.out).mono ?_); rintro e w5 ⟨A5, c5, rfl, hown5, hb5⟩)
    have R5 := Lib.hid (Rd.of_own hown5)
    have k5 := k4.call hb5
    clear k4 hb5 hown5
    go_wp2_with fail
    ((with_reducible refine (refScale_any A n c x q a _ (by omega) HA.out (HR.out.kept k5) HX.out.1 bx.out).mono ?_); rintro e w6 ⟨A6, c6, rfl, hown6, hb6⟩)
    have R6 := Lib.hid (Rd.of_own hown6)
    have R5' := Lib.hid (R5.out.below hb6)
    have k6 := k5.call hb6
    clear k5 hb6 hown6 R5
    go_wp2_with fail
    ((with_reducible refine (refSame_any A5 A6 n n c5 c6 (scaleL a x q) (scaleL a x q) _ ((scaleL_length _ _ _).trans HA.out) ((scaleL_length _ _ _).trans HA.out) R5'.out R6.out (by omega) (by omega)).mono ?_); rintro e w7 ⟨rfl, hb7⟩)
    rw [decide_eq_true (rfl : scaleL a x q = scaleL a x q)]
    go_wp2
    go_ret
    exact ⟨rfl, (k6.call hb7).2.2⟩
  · obtain rfl : m = 0 := by omega
    go_wp2_with fail
    ((with_reducible refine (alive03_any _).mono ?_); rintro e w4 ⟨rfl, hb4⟩)
    have k4 := k3.call hb4
    clear k3 hb4
    go_wp2_with fail
    ((with_reducible refine (scale_any A n c 7 q a _ (by omega) HA.out (HR.out.kept k4) HX.out.1 (by constructor <;> omega)).mono ?_); rintro e w5 ⟨A5, c5, rfl, hown5, hb5⟩)
    have R5 := Lib.hid (Rd.of_own hown5)
    have k5 := k4.call hb5
    clear k4 hb5 hown5
    go_wp2_with fail
    ((with_reducible refine (refScale_any A n c 7 q a _ (by omega) HA.out (HR.out.kept k5) HX.out.1 (by constructor <;> omega)).mono ?_); rintro e w6 ⟨A6, c6, rfl, hown6, hb6⟩)
    have R6 := Lib.hid (Rd.of_own hown6)
    have R5' := Lib.hid (R5.out.below hb6)
    have k6 := k5.call hb6
    clear k5 hb6 hown6 R5
    go_wp2_with fail
    ((with_reducible refine (refSame_any A5 A6 n n c5 c6 (scaleL a 7 q) (scaleL a 7 q) _ ((scaleL_length _ _ _).trans HA.out) ((scaleL_length _ _ _).trans HA.out) R5'.out R6.out (by omega) (by omega)).mono ?_); rintro e w7 ⟨rfl, hb7⟩)
    rw [decide_eq_true (rfl : scaleL a 7 q = scaleL a 7 q)]
    go_wp2
    go_ret
    exact ⟨rfl, (k6.call hb7).2.2⟩

theorem vecProducts_any (A : Option Addr) (n c : Nat) (a : List Int) (B : Option Addr) (m d : Nat) (b : List Int) (q : Int) (w : World) (hn : n ≤ 9223372036854775807) (hm : m ≤ 9223372036854775807) (ha : a.length = n) (hb : b.length = m) (h : Rd w 1 A n (iv a)) (h' : Rd w 1 B m (iv b)) (hx : ∀ x ∈ a, In1 x) (hx' : ∀ x ∈ b, In1 x) :
    Calls Try.prog 14 #[.slice A n c, .slice B m d, .int .i64 q] w fun e w' => e = .returned (.bool true) ∧ Below w.heap.size w w' := by
  by_cases hf : n + m ≤ 1500
  · exact vecProducts_some A B n m c d q a b w hf ha hb h h' hx hx'
  · exact vecProducts_not A B n m c d q w hn hm hf

end Go.Proofs.Ythbkmhdoakpjgaa
