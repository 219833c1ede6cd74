/-
  VecAdds: adding in place changes the first vector alone, if the lengths are the same, and otherwise nothing: the walk.
-/
import Derived.Test.YthbkmhdoakpjgaaVec6
namespace Go.Proofs.Ythbkmhdoakpjgaa
set_option linter.unusedVariables false
set_option linter.unusedSimpArgs false
open Go.RowKit

theorem Rd.grown {w w' : World} {size : Nat} {A : Option Addr} {n : Nat} {xs : List Value} {row : Option Nat} (h : Rd w size A n xs) (hg : w.grownBy w' row) (hne : ∀ b o, A = some ⟨b, o, none⟩ → 0 < n → some b ≠ row) : Rd w' size A n xs := by
  refine ⟨h.1, fun hn => ?_⟩
  obtain ⟨b, o, e, hlt, hc⟩ := h.2 hn
  exact ⟨b, o, e, Nat.lt_of_lt_of_le hlt hg.size, fun j u hu => hg.cell (hc j u hu) (hne b o e hn)⟩

theorem add_own2 (A B : Option Addr) (n c d base : Nat) (xs ys : List Int) (w : World) (hn : n ≤ 10000000) (hxl : xs.length = n) (hyl : ys.length = n)
    (hown : w.ownsRow base 2 1 (.slice A n c) n (iv xs)) (hy : Rd w 1 B n (iv ys)) (hB : ∀ b o', B = some ⟨b, o', none⟩ → 0 < n → ∀ g, A = some ⟨g, 0, none⟩ → b ≠ g) :
    Calls Try.prog 25 #[.slice A n c, .slice B n d] w fun e w' => e = .returned (.bool true) ∧ w'.ownsRow base 2 1 (.slice A n c) n (iv (addL xs ys)) ∧ w.grownBy w' (Value.ownBlock (.slice A n c)) := by
  rcases Nat.eq_zero_or_pos n with h0 | h0
  · subst h0
    refine (add_zero A B c d w).mono ?_
    rintro e w' ⟨rfl, rfl⟩
    have hx0 : xs = [] := List.eq_nil_of_length_eq_zero hxl
    subst hx0
    exact ⟨rfl, hown, World.grownBy.refl _ _⟩
  · obtain ⟨A', cap', hv, hcap, _, hf⟩ := own_form hown
    injection hv with hA _ hC
    subst hA hC
    obtain ⟨g, rfl, hg1, hg2⟩ := hf h0
    refine (add_any (some ⟨g, 0, none⟩) B g 0 n c d n c base xs ys w (fun _ => rfl) (by omega) hn hxl hyl hown hy (fun b o' e h => hB b o' e h g rfl)).mono ?_
    rintro e w' ⟨rfl, h1, h2⟩
    refine ⟨rfl, ?_, h2⟩
    unfold addL
    rw [hxl]
    exact h1

theorem few2_any (A B : Option Addr) (n cap m d g : Nat) (w : World) (hn : n ≤ 9223372036854775807) (hm : m ≤ 9223372036854775807) (h : Rd w 1 (some ⟨g, 0, none⟩) 2 [.slice A n cap, .slice B m d]) :
    Calls Try.prog 22 #[.slice (some ⟨g, 0, none⟩) 2 2] w fun e w' => e = .returned (.bool (decide (n + m ≤ 1500))) ∧ w = w' := by
  have h1 := few03_any (some ⟨g, 0, none⟩) 2 2 [(A, n, cap), (B, m, d)] w rfl (by simp; omega) h (by omega)
  have e : fewL [n, m] = decide (n + m ≤ 1500) := by
    rw [few_two n m (.inr trivial), Bool.eq_iff_iff]
    simp
    omega
  rw [← e]
  exact h1

set_option maxHeartbeats 1000000 in
theorem vecAdds_not (A B : Option Addr) (n m c d : Nat) (w : World) (hn : n ≤ 9223372036854775807) (hm : m ≤ 9223372036854775807) (h : ¬ n + m ≤ 1500) :
    Calls Try.prog 6 #[.slice A n c, .slice B m d] w fun e w' => e = .returned (.bool true) ∧ Below w.heap.size w w' := by
  have d1 : decide (n + m ≤ 1500) = false := decide_eq_false h
  clear h
  go_enter Try.func6, Try.ntmps6
  go_wp2_with fail
  ((with_reducible refine (few2_any A B n c m d _ _ hn hm (rd_new' w #[.slice A n c, .slice B m d] 32 1 2 rfl)).mono ?_); rintro e w1 ⟨rfl, rfl⟩)
  rw [d1]
  go_wp2_with fail
  ((with_reducible refine (alive03_any _).mono ?_); rintro e w2 ⟨rfl, hb2⟩)
  have hb := ((Below.refl w.heap.size w).alloc (Nat.le_refl _) _).trans (hb2.mono (by simp))
  clear hb2
  go_wp2
  go_ret
  exact ⟨rfl, hb⟩

theorem all2 {α : Type} {P : α → Prop} {a b : α} (h1 : P a) (h2 : P b) : ∀ z ∈ [a, b], P z := by
  intro z hz
  simp at hz
  rcases hz with rfl | rfl
  · exact h1
  · exact h2
theorem sum2_eq (l k : List Int) (h : k.length = l.length) : sumL [l, k] = some (addL l k) := by simp [sumL, sumFrom, h]
theorem sum2_ne (l k : List Int) (h : k.length ≠ l.length) : sumL [l, k] = none := by simp [sumL, sumFrom, h]

set_option maxHeartbeats 2000000 in
theorem vecAdds_eq (A B : Option Addr) (n c d : Nat) (l k : List Int) (w : World) (hn : n + n ≤ 1500) (hl : l.length = n) (hk : k.length = n) (h : Rd w 1 A n (iv l)) (h' : Rd w 1 B n (iv k))
    (hx : ∀ x ∈ l, -9223372036854775808 ≤ x ∧ x ≤ 9223372036854775807) (hx' : ∀ x ∈ k, -9223372036854775808 ≤ x ∧ x ≤ 9223372036854775807) :
    Calls Try.prog 6 #[.slice A n c, .slice B n d] w fun e w' => e = .returned (.bool true) ∧ Below w.heap.size w w' := by
  have d1 : decide (n + n ≤ 1500) = true := decide_eq_true hn
  have HL := Lib.hid hl
  have HK := Lib.hid hk
  have HR := Lib.hid h
  have HR' := Lib.hid h'
  have HX := Lib.hid (And.intro hx hx')
  clear hl hk h h' hx hx'
  go_enter Try.func6, Try.ntmps6
  go_wp2_with fail
  ((with_reducible refine (few2_any A B n c n d _ _ (by omega) (by omega) (rd_new' w #[.slice A n c, .slice B n d] 32 1 2 rfl)).mono ?_); rintro e w1 ⟨rfl, rfl⟩)
  rw [d1]
  have hb0 : Below w.heap.size w (w.alloc (.cells #[.slice A n c, .slice B n d] 32)) := (Below.refl _ _).alloc (Nat.le_refl _) _
  go_wp2_with fail
  ((with_reducible refine (refClone_any A n c l _ HL.out (HR.out.below hb0) (by omega)).mono ?_); rintro e w1 ⟨A1, c1, rfl, hown1, hb1⟩)
  have HO1 := Lib.hid hown1
  have hb1' := hb0.trans (hb1.mono (by simp))
  clear hown1
  go_wp2_with fail
  ((with_reducible refine (refClone_any B n d k _ HK.out (HR'.out.below hb1') (by omega)).mono ?_); rintro e w2 ⟨A2, c2, rfl, hown2, hb2⟩)
  have HO2 := Lib.hid hown2
  have hb2' := hb1'.trans (hb2.mono hb1'.size)
  clear hown2
  have HO1' := Lib.hid (own_below HO1.out hb2)
  have HN : Hid (∀ b o', A2 = some ⟨b, o', none⟩ → 0 < n → ∀ g, A1 = some ⟨g, 0, none⟩ → b ≠ g) := Lib.hid (fun b o' e2 h0 g e1 => by
    subst e1 e2
    obtain ⟨_, _, hv1, _, _, hf1⟩ := own_form HO1.out
    injection hv1 with q1
    obtain ⟨g1, e1, _, hg1⟩ := hf1 h0
    rw [← q1] at e1
    injection e1 with e1
    injection e1 with e1
    obtain ⟨_, _, hv2, _, _, hf2⟩ := own_form HO2.out
    injection hv2 with q2
    obtain ⟨g2, e2, hg2, _⟩ := hf2 h0
    rw [← q2] at e2
    injection e2 with e2
    injection e2 with e2
    omega)
  clear hb1 hb2
  go_wp2_with fail
  ((with_reducible refine (add_own2 A1 A2 n c1 c2 _ l k _ (by omega) HL.out HK.out HO1'.out (Rd.of_own HO2.out) HN.out).mono ?_); rintro e w3 ⟨rfl, hown3, hg3⟩)
  have HO3 := Lib.hid hown3
  have R2 : Hid (Rd w3 1 A2 n (iv k)) := Lib.hid ((Rd.of_own HO2.out).grown hg3 (fun b o' e h0 => by
    intro e3
    cases A1 with
    | none => simp [Value.ownBlock] at e3
    | some ad =>
      obtain ⟨_, _, hv1, _, _, hf1⟩ := own_form HO1.out
      injection hv1 with q1
      obtain ⟨g1, e1, _, _⟩ := hf1 h0
      rw [← q1] at e1
      injection e1 with e1
      subst e1
      exact HN.out b o' e h0 g1 rfl (by simpa [Value.ownBlock] using e3)))
  have hb3' : Below w.heap.size w w3 := hb2'.grown hg3 hb2'.size (fun kk e => by have := (HO1'.out.lt kk e).1; simp at this; omega)
  clear hown3 hg3 HO1 HO1' HO2 HN
  go_wp2_with fail
  have r0 := rd_new' w3 #[.slice A n c, .slice B n d] 32 1 2 rfl
  have hs := refSum_any (some ⟨w3.heap.size, 0, none⟩) 2 2 [(A, n, c), (B, n, d)] [l, k] _ rfl (by omega) (by omega) r0 (rdV_two HL.out ((HR.out.below hb3').alloc _) HK.out ((HR'.out.below hb3').alloc _)) (all2 (by rw [HL.out]; omega) (by rw [HK.out]; omega)) (all2 HX.out.1 HX.out.2)
  rw [sum2_eq l k (by rw [HK.out, HL.out])] at hs
  have HS := Lib.hid hs
  clear r0 hs
  ((with_reducible refine HS.out.mono ?_); rintro e w4 ⟨A4, c4, rfl, hown4, hb4⟩)
  have e4 : (addL l k).length = n := by rw [addL_length]; exact HL.out
  rw [e4] at hown4 ⊢
  have R4 := Lib.hid (Rd.of_own hown4)
  have HE4 := Lib.hid e4
  clear hown4 HS e4
  have k4 := (Kept.of ((Below.refl w3.heap.size w3).alloc (Nat.le_refl _) (.cells #[.slice A n c, .slice B n d] 32))).call hb4
  clear hb4
  go_wp2_with fail
  ((with_reducible refine (alive03_any _).mono ?_); rintro e w5 ⟨rfl, hb5⟩)
  have k5 := k4.call hb5
  clear k4
  go_wp2_with fail
  ((with_reducible refine (refSame_any A1 A4 n n c1 c4 (addL l k) (addL l k) _ HE4.out HE4.out ((Rd.of_own HO3.out).kept k5) (R4.out.below hb5) (by omega) (by omega)).mono ?_); rintro e w6 ⟨rfl, hb6⟩)
  rw [decide_eq_true (rfl : addL l k = addL l k)]
  have k6 := k5.call hb6
  clear k5 hb5 hb6
  go_wp2_with fail
  ((with_reducible refine (refSame_any A2 B n n c2 d k k _ HK.out HK.out (R2.out.kept k6) ((HR'.out.below hb3').kept k6) (by omega) (by omega)).mono ?_); rintro e w7 ⟨rfl, hb7⟩)
  rw [decide_eq_true (rfl : k = k)]
  have k7 := k6.call hb7
  clear k6 hb7
  go_wp2
  go_ret
  exact ⟨rfl, hb3'.trans (k7.2.2.mono hb3'.size)⟩

set_option maxHeartbeats 2000000 in
theorem vecAdds_ne (A B : Option Addr) (n m c d : Nat) (l k : List Int) (w : World) (hn : n + m ≤ 1500) (hnm : n ≠ m) (hl : l.length = n) (hk : k.length = m) (h : Rd w 1 A n (iv l)) (h' : Rd w 1 B m (iv k))
    (hx : ∀ x ∈ l, -9223372036854775808 ≤ x ∧ x ≤ 9223372036854775807) (hx' : ∀ x ∈ k, -9223372036854775808 ≤ x ∧ x ≤ 9223372036854775807) :
    Calls Try.prog 6 #[.slice A n c, .slice B m d] w fun e w' => e = .returned (.bool true) ∧ Below w.heap.size w w' := by
  have d1 : decide (n + m ≤ 1500) = true := decide_eq_true hn
  have HL := Lib.hid hl
  have HK := Lib.hid hk
  have HR := Lib.hid h
  have HR' := Lib.hid h'
  have HX := Lib.hid (And.intro hx hx')
  clear hl hk h h' hx hx'
  go_enter Try.func6, Try.ntmps6
  go_wp2_with fail
  ((with_reducible refine (few2_any A B n c m d _ _ (by omega) (by omega) (rd_new' w #[.slice A n c, .slice B m d] 32 1 2 rfl)).mono ?_); rintro e w1 ⟨rfl, rfl⟩)
  rw [d1]
  have hb0 : Below w.heap.size w (w.alloc (.cells #[.slice A n c, .slice B m d] 32)) := (Below.refl _ _).alloc (Nat.le_refl _) _
  go_wp2_with fail
  ((with_reducible refine (refClone_any A n c l _ HL.out (HR.out.below hb0) (by omega)).mono ?_); rintro e w1 ⟨A1, c1, rfl, hown1, hb1⟩)
  have R1 := Lib.hid (Rd.of_own hown1)
  have hb1' := hb0.trans (hb1.mono (by simp))
  clear hown1
  go_wp2_with fail
  ((with_reducible refine (refClone_any B m d k _ HK.out (HR'.out.below hb1') (by omega)).mono ?_); rintro e w2 ⟨A2, c2, rfl, hown2, hb2⟩)
  have R2 := Lib.hid (Rd.of_own hown2)
  have R1' := Lib.hid (R1.out.below hb2)
  have hb2' := hb1'.trans (hb2.mono hb1'.size)
  clear hown2 hb1 hb2 R1
  go_wp2_with fail
  ((with_reducible refine (add_not A1 A2 n m c1 c2 _ (by omega) (by omega) hnm).mono ?_); rintro e w3 ⟨rfl, rfl⟩)
  go_wp2_with fail
  have r0 := rd_new' w2 #[.slice A n c, .slice B m d] 32 1 2 rfl
  have hs := refSum_any (some ⟨w2.heap.size, 0, none⟩) 2 2 [(A, n, c), (B, m, d)] [l, k] _ rfl (by omega) (by omega) r0 (rdV_two HL.out ((HR.out.below hb2').alloc _) HK.out ((HR'.out.below hb2').alloc _)) (all2 (by rw [HL.out]; omega) (by rw [HK.out]; omega)) (all2 HX.out.1 HX.out.2)
  rw [sum2_ne l k (by rw [HK.out, HL.out]; exact Ne.symm hnm)] at hs
  have HS := Lib.hid hs
  clear r0 hs
  ((with_reducible refine HS.out.mono ?_); rintro e w4 ⟨rfl, hb4⟩)
  have k4 := (Kept.of ((Below.refl w2.heap.size w2).alloc (Nat.le_refl _) (.cells #[.slice A n c, .slice B m d] 32))).call hb4
  clear hb4 HS
  go_wp2_with fail
  ((with_reducible refine (alive03_any _).mono ?_); rintro e w5 ⟨rfl, hb5⟩)
  have k5 := k4.call hb5
  clear k4
  go_wp2_with fail
  ((with_reducible refine (refSame_any A1 A n n c1 c l l _ HL.out HL.out (R1'.out.kept k5) ((HR.out.below hb2').kept k5) (by omega) (by omega)).mono ?_); rintro e w6 ⟨rfl, hb6⟩)
  rw [decide_eq_true (rfl : l = l)]
  have k6 := k5.call hb6
  clear k5 hb5 hb6
  go_wp2_with fail
  ((with_reducible refine (refSame_any A2 B m m c2 d k k _ HK.out HK.out (R2.out.kept k6) ((HR'.out.below hb2').kept k6) (by omega) (by omega)).mono ?_); rintro e w7 ⟨rfl, hb7⟩)
  rw [decide_eq_true (rfl : k = k)]
  have k7 := k6.call hb7
  clear k6 hb7
  go_wp2
  go_ret
  exact ⟨rfl, hb2'.trans (k7.2.2.mono hb2'.size)⟩

theorem vecAdds_any (A : Option Addr) (n c : Nat) (l : List Int) (B : Option Addr) (m d : Nat) (k : List Int) (w : World) (hn : n ≤ 9223372036854775807) (hm : m ≤ 9223372036854775807) (hl : l.length = n) (hk : k.length = m) (h : Rd w 1 A n (iv l)) (h' : Rd w 1 B m (iv k))
    (hx : ∀ x ∈ l, -9223372036854775808 ≤ x ∧ x ≤ 9223372036854775807) (hx' : ∀ x ∈ k, -9223372036854775808 ≤ x ∧ x ≤ 9223372036854775807) :
    Calls Try.prog 6 #[.slice A n c, .slice B m d] w fun e w' => e = .returned (.bool true) ∧ Below w.heap.size w w' := by
  by_cases hf : n + m ≤ 1500
  · by_cases hnm : n = m
    · subst hnm
      exact vecAdds_eq A B n c d l k w hf hl hk h h' hx hx'
    · exact vecAdds_ne A B n m c d l k w hf hnm hl hk h h' hx hx'
  · exact vecAdds_not A B n m c d w hn hm hf

end Go.Proofs.Ythbkmhdoakpjgaa
