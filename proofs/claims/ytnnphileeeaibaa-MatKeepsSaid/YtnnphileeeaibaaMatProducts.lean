/-
  MatProducts: the walk.
-/
import Derived.Test.YtnnphileeeaibaaMatRefMul
namespace Go.Proofs.Ytnnphileeeaibaa
set_option linter.unusedVariables false
set_option linter.unusedSimpArgs false
set_option maxRecDepth 100000
open Go.RowKit

set_option maxHeartbeats 1000000 in
theorem refBack_wrong (r q : Int) (A : Option Addr) (n c : Nat) (B : Option Addr) (m d : Nat) (k : Int) (w : World) (hr : ¬ RightP r q n) (hn : n ≤ 1000000000) (hm : m ≤ 9223372036854775807) :
    Calls Try.prog 52 #[.agg #[.int .i64 r, .int .i64 q, .slice A n c], .slice B m d, .int .i64 k] w fun e w' => e = .returned (.tuple #[.slice none 0 0, .bool false]) ∧ Below w.heap.size w w' := by
  have HC1 := Lib.hid (fun W => refTurn_wrong r q A n c W hr hn)
  have HC2 := Lib.hid (fun W => refMul_not 0 0 none 0 0 B m d k W (by omega) hm (.inl (fun hs => by have := hs.1.1; omega)))
  go_enter Try.func52, Try.ntmps52
  go_wp2_with fail
  ((with_reducible refine (HC1.out _).mono ?_); rintro e w1 ⟨rfl, hb1⟩)
  have k1 : Kept w w1 := ((Kept.of (Below.refl _ w)).alloc _).call hb1
  clear hb1
  go_wp2_with fail
  ((with_reducible refine (HC2.out _).mono ?_); rintro e w2 ⟨rfl, hb2⟩)
  have k2 := k1.call hb2
  clear hb2
  go_wp2
  go_ret2
  exact ⟨rfl, k2.2.2⟩

set_option maxHeartbeats 1000000 in
theorem refBack_odd (R C n : Nat) (A : Option Addr) (c : Nat) (B : Option Addr) (m d : Nat) (l : List Int) (k : Int) (w : World) (hR : 1 ≤ R ∧ R ≤ 1048576) (hC : 1 ≤ C ∧ C ≤ 1048576) (hn : R * C = n) (hn' : n ≤ 1048576) (hl : l.length = n) (h : Rd w 1 A n (iv l)) (hm : m ≤ 9223372036854775807) (hodd : m ≠ R) :
    Calls Try.prog 52 #[.agg #[.int .i64 R, .int .i64 C, .slice A n c], .slice B m d, .int .i64 k] w fun e w' => e = .returned (.tuple #[.slice none 0 0, .bool false]) ∧ Below w.heap.size w w' := by
  have HC1 := Lib.hid (fun W (q : Kept w W) => refTurn_good R C n A c l W hR hC hn hn' hl (h.kept q))
  have HC2 := Lib.hid (fun A c W => refMul_not C R A n c B m d k W (by omega) hm (.inr (by omega)))
  clear h hl hn
  go_enter Try.func52, Try.ntmps52
  go_wp2_with fail
  ((with_reducible refine (HC1.out _ ((Kept.of (Below.refl _ w)).alloc _)).mono ?_); rintro e w1 ⟨A1, c1, rfl, hown, hb1⟩)
  have k1 : Kept w w1 := ((Kept.of (Below.refl _ w)).alloc _).call hb1
  clear hb1 hown
  go_wp2_with fail
  ((with_reducible refine (HC2.out _ _ _).mono ?_); rintro e w2 ⟨rfl, hb2⟩)
  have k2 := k1.call hb2
  clear hb2
  go_wp2
  go_ret2
  exact ⟨rfl, k2.2.2⟩

theorem turn_in {l : List Int} (R C : Nat) (h1 : ∀ v ∈ l, In1 v) : ∀ v ∈ turnN l R C, In1 v := natL_all (fun i hi => by
  unfold turnF
  rw [List.getD_eq_getElem?_getD]
  cases e : l[i % R * C + i / R]? with
  | none => exact ⟨by decide, by decide⟩
  | some x => exact h1 x (List.mem_of_getElem? e))

set_option maxHeartbeats 1000000 in
theorem refBack_good (R C n : Nat) (A : Option Addr) (c : Nat) (B : Option Addr) (d : Nat) (l y : List Int) (k : Int) (w : World) (hR : 1 ≤ R ∧ R ≤ 1048576) (hC : 1 ≤ C ∧ C ≤ 1048576) (hn : R * C = n) (hn' : n ≤ 1048576) (hl : l.length = n) (hy : y.length = R) (h : Rd w 1 A n (iv l)) (h' : Rd w 1 B R (iv y)) (h1 : ∀ v ∈ l, In1 v) (h2 : ∀ v ∈ y, In1 v) :
    Calls Try.prog 52 #[.agg #[.int .i64 R, .int .i64 C, .slice A n c], .slice B R d, .int .i64 k] w fun e w' => ∃ A' c', e = .returned (.tuple #[.slice A' C c', .bool true]) ∧ w'.ownsRow w.heap.size 2 1 (.slice A' C c') C (iv (mulN (turnN l R C) y k C)) ∧ Below w.heap.size w w' := by
  have hCR : C * R = n := by rw [Nat.mul_comm]; exact hn
  have HC1 := Lib.hid (fun W (q : Kept w W) => refTurn_good R C n A c l W hR hC hn hn' hl (h.kept q))
  have HC2 := Lib.hid (fun A c W (q : Kept w W) (r : Rd W 1 A n (iv (turnN l R C))) => refMul_good C R n A c B d (turnN l R C) y k W hC hR hCR hn' (by rw [turnN, natL_length, hCR]) hy r (h'.kept q) (turn_in R C h1) h2)
  clear h h' hl hn hCR hy h1 h2
  go_enter Try.func52, Try.ntmps52
  go_wp2_with fail
  ((with_reducible refine (HC1.out _ ((Kept.of (Below.refl _ w)).alloc _)).mono ?_); rintro e w1 ⟨A1, c1, rfl, hown, hb1⟩)
  have k1 : Kept w w1 := ((Kept.of (Below.refl _ w)).alloc _).call hb1
  have HR1 := Lib.hid (Rd.of_own hown)
  clear hb1 hown
  go_wp2_with fail
  ((with_reducible refine (HC2.out _ _ _ k1 HR1.out).mono ?_); rintro e w2 ⟨A2, c2, rfl, hown2, hb2⟩)
  have k2 := k1.call hb2
  have HO2 := Lib.hid (own_base hown2 k1.2.1)
  clear hb2 hown2
  go_wp2
  go_ret2
  exact ⟨A2, c2, rfl, HO2.out, k2.2.2⟩

/-- A row comes back, and whether there is one. -/
def ProdRet (w : World) (N : Nat) (l : List Int) (ok : Bool) (en : Ending) (w' : World) : Prop :=
  ∃ A c, en = .returned (.tuple #[.slice A N c, .bool ok]) ∧ Rd w' 1 A N (iv l) ∧ Below w.heap.size w w'
theorem prod_nil {w w' : World} {en : Ending} (h : en = .returned (.tuple #[.slice none 0 0, .bool false]) ∧ Below w.heap.size w w') : ProdRet w 0 [] false en w' := ⟨none, 0, h.1, Rd.nil _ _ _, h.2⟩
theorem prod_own {w w' : World} {en : Ending} {N : Nat} {l : List Int} {base : Nat} (h : ∃ A c, en = .returned (.tuple #[.slice A N c, .bool true]) ∧ w'.ownsRow base 2 1 (.slice A N c) N (iv l) ∧ Below w.heap.size w w') : ProdRet w N l true en w' := by
  obtain ⟨A, c, h1, h2, h3⟩ := h
  exact ⟨A, c, h1, Rd.of_own h2, h3⟩

theorem muls_any (r q : Int) (A : Option Addr) (n c : Nat) (l : List Int) (B : Option Addr) (m d : Nat) (y : List Int) (k : Int) (w : World) (hn : n ≤ 600) (hm : m ≤ 600) (hcap : n ≤ c) (hcm : c ≤ 9223372036854775807) (hl : l.length = n) (hy : y.length = m) (h : Rd w 1 A n (iv l)) (h' : Rd w 1 B m (iv y)) (h1 : ∀ v ∈ l, In1 v) (h2 : ∀ v ∈ y, In1 v) :
    ∃ N s ok, N ≤ 1048576 ∧ s.length = N ∧ (∀ W, Kept w W → Calls Try.prog 47 #[.agg #[.int .i64 r, .int .i64 q, .slice A n c], .slice B m d, .int .i64 k] W (ProdRet W N s ok)) ∧ (∀ W, Kept w W → Calls Try.prog 51 #[.agg #[.int .i64 r, .int .i64 q, .slice A n c], .slice B m d, .int .i64 k] W (ProdRet W N s ok)) := by
  by_cases ok : RightP r q n ∧ (m : Int) = q
  · obtain ⟨⟨⟨a1, a2, a3, a4⟩, a5⟩, a6⟩ := ok
    obtain ⟨R, rfl⟩ := Int.eq_ofNat_of_zero_le (show 0 ≤ r by omega)
    subst a6
    have hRC : R * m = n := Int.ofNat.inj (by rw [Int.ofNat_eq_natCast, Int.ofNat_eq_natCast, Int.natCast_mul]; exact a5.symm)
    have hn0 : 0 < n := by rw [← hRC]; exact Nat.mul_pos (by omega) (by omega)
    obtain ⟨g, o, rfl, _, _⟩ := h.2 hn0
    refine ⟨R, mulN l y k R, true, by omega, natL_length _ _, fun W q => ?_, fun W q => ?_⟩
    · exact (mul_good R m n c g o B d l y k W (by omega) (by omega) hRC (by omega) hcap hcm hl hy (h.kept q) (h'.kept q) h1 h2).mono fun e w' h => prod_own h
    · exact (refMul_good R m n (some ⟨g, o, none⟩) c B d l y k W (by omega) (by omega) hRC (by omega) hl hy (h.kept q) (h'.kept q) h1 h2).mono fun e w' h => prod_own h
  · have hbad : ¬ RightP r q n ∨ (m : Int) ≠ q := by
      by_cases hr : RightP r q n
      · exact .inr (fun e => ok ⟨hr, e⟩)
      · exact .inl hr
    refine ⟨0, [], false, by omega, rfl, fun W q => ?_, fun W q => ?_⟩
    · exact (mul_not _ _ A n c B m d k W (by omega) (by omega) hbad).mono fun e w' h => prod_nil h
    · exact (refMul_not _ _ A n c B m d k W (by omega) (by omega) hbad).mono fun e w' h => prod_nil h

theorem backs_any (r q : Int) (A : Option Addr) (n c : Nat) (l : List Int) (B : Option Addr) (m d : Nat) (y : List Int) (k : Int) (w : World) (hn : n ≤ 600) (hm : m ≤ 600) (hcap : n ≤ c) (hcm : c ≤ 9223372036854775807) (hl : l.length = n) (hy : y.length = m) (h : Rd w 1 A n (iv l)) (h' : Rd w 1 B m (iv y)) (h1 : ∀ v ∈ l, In1 v) (h2 : ∀ v ∈ y, In1 v) :
    ∃ N s ok, N ≤ 1048576 ∧ s.length = N ∧ (∀ W, Kept w W → Calls Try.prog 50 #[.agg #[.int .i64 r, .int .i64 q, .slice A n c], .slice B m d, .int .i64 k] W (ProdRet W N s ok)) ∧ (∀ W, Kept w W → Calls Try.prog 52 #[.agg #[.int .i64 r, .int .i64 q, .slice A n c], .slice B m d, .int .i64 k] W (ProdRet W N s ok)) := by
  by_cases hr : RightP r q n
  · obtain ⟨⟨a1, a2, a3, a4⟩, a5⟩ := hr
    obtain ⟨R, rfl⟩ := Int.eq_ofNat_of_zero_le (show 0 ≤ r by omega)
    obtain ⟨C, rfl⟩ := Int.eq_ofNat_of_zero_le (show 0 ≤ q by omega)
    have hRC : R * C = n := Int.ofNat.inj (by rw [Int.ofNat_eq_natCast, Int.ofNat_eq_natCast, Int.natCast_mul]; exact a5.symm)
    have hn0 : 0 < n := by rw [← hRC]; exact Nat.mul_pos (by omega) (by omega)
    obtain ⟨g, o, rfl, _, _⟩ := h.2 hn0
    by_cases hf : m = R
    · subst hf
      refine ⟨C, mulN (turnN l m C) y k C, true, by omega, natL_length _ _, fun W q => ?_, fun W q => ?_⟩
      · exact (back_good m C n c g o B d l y k W (by omega) (by omega) hRC (by omega) hcap hcm hl hy (h.kept q) (h'.kept q) h1 h2).mono fun e w' h => prod_own h
      · exact (refBack_good m C n (some ⟨g, o, none⟩) c B d l y k W (by omega) (by omega) hRC (by omega) hl hy (h.kept q) (h'.kept q) h1 h2).mono fun e w' h => prod_own h
    · refine ⟨0, [], false, by omega, rfl, fun W q => ?_, fun W q => ?_⟩
      · exact (back_not R C _ n c B m d k W (by omega) (by omega) (.inr (by omega))).mono fun e w' h => prod_nil h
      · exact (refBack_odd R C n _ c B m d l k W (by omega) (by omega) hRC (by omega) hl (h.kept q) (by omega) hf).mono fun e w' h => prod_nil h
  · refine ⟨0, [], false, by omega, rfl, fun W q => ?_, fun W q => ?_⟩
    · exact (back_not _ _ A n c B m d k W (by omega) (by omega) (.inl hr)).mono fun e w' h => prod_nil h
    · exact (refBack_wrong _ _ A n c B m d k W hr (by omega) (by omega)).mono fun e w' h => prod_nil h

set_option maxHeartbeats 1000000 in
theorem matProducts_big (r q : Int) (A : Option Addr) (n c : Nat) (B : Option Addr) (m d : Nat) (k : Int) (w : World) (hn : n ≤ 9223372036854775807) (hm : m ≤ 9223372036854775807) (h : 600 < n ∨ 600 < m) :
    Calls Try.prog 11 #[.agg #[.int .i64 r, .int .i64 q, .slice A n c], .slice B m d, .int .i64 k] w fun e w' => e = .returned (.bool true) ∧ Below w.heap.size w w' := by
  have C1 := fun W => few07_any r q A n c W hn
  by_cases h1 : n ≤ 600
  · rw [show decide (n ≤ 600) = true from decide_eq_true h1] at C1
    have h2 : 600 < m := by omega
    have HC := Lib.hid C1
    clear C1
    go_enter Try.func11, Try.ntmps11
    go_wp2_with fail
    ((with_reducible refine (HC.out _).mono ?_); rintro e w1 ⟨rfl, hb1⟩)
    have k1 : Below w.heap.size w w1 := ((Kept.of (Below.refl _ w)).alloc _ |>.call hb1).2.2
    clear hb1
    go_wp2_with fail
    ((with_reducible refine (alive07_any _).mono ?_); rintro e w2 ⟨rfl, hb2⟩)
    have k2 := ((Kept.of k1).call hb2).2.2
    clear hb2
    go_wp2
    go_ret
    exact ⟨rfl, k2⟩
  · rw [show decide (n ≤ 600) = false from decide_eq_false h1] at C1
    have HC := Lib.hid C1
    clear C1
    go_enter Try.func11, Try.ntmps11
    go_wp2_with fail
    ((with_reducible refine (HC.out _).mono ?_); rintro e w1 ⟨rfl, hb1⟩)
    have k1 : Below w.heap.size w w1 := ((Kept.of (Below.refl _ w)).alloc _ |>.call hb1).2.2
    clear hb1
    go_wp2_with fail
    ((with_reducible refine (alive07_any _).mono ?_); rintro e w2 ⟨rfl, hb2⟩)
    have k2 := ((Kept.of k1).call hb2).2.2
    clear hb2
    go_wp2
    go_ret
    exact ⟨rfl, k2⟩

set_option maxHeartbeats 4000000 in
theorem matProducts_few (r q : Int) (A : Option Addr) (n c : Nat) (l : List Int) (B : Option Addr) (m d : Nat) (y : List Int) (k : Int) (w : World) (hn : n ≤ 600) (hm : m ≤ 600) (hcap : n ≤ c) (hcm : c ≤ 9223372036854775807) (hl : l.length = n) (hy : y.length = m) (h : Rd w 1 A n (iv l)) (h' : Rd w 1 B m (iv y)) (h1 : ∀ v ∈ l, In1 v) (h2 : ∀ v ∈ y, In1 v) :
    Calls Try.prog 11 #[.agg #[.int .i64 r, .int .i64 q, .slice A n c], .slice B m d, .int .i64 k] w fun e w' => e = .returned (.bool true) ∧ Below w.heap.size w w' := by
  obtain ⟨N1, s1, ok1, hN1, hs1, M1, M2⟩ := muls_any r q A n c l B m d y k w hn hm hcap hcm hl hy h h' h1 h2
  obtain ⟨N2, s2, ok2, hN2, hs2, M3, M4⟩ := backs_any r q A n c l B m d y k w hn hm hcap hcm hl hy h h' h1 h2
  have H1 := Lib.hid M1
  have H2 := Lib.hid M2
  have H3 := Lib.hid M3
  have H4 := Lib.hid M4
  have S1 : Hid (∀ A c A' c' W, Rd W 1 A N1 (iv s1) → Rd W 1 A' N1 (iv s1) → Calls Try.prog 49 #[.slice A N1 c, .slice A' N1 c'] W fun e w' => e = .returned (.bool true) ∧ Below W.heap.size W w') := Lib.hid (fun A c A' c' W r1 r2 => by
    have h := refSame_any A A' N1 N1 c c' s1 s1 W hs1 hs1 r1 r2 (by omega) (by omega)
    rwa [decide_eq_true rfl] at h)
  have S2 : Hid (∀ A c A' c' W, Rd W 1 A N2 (iv s2) → Rd W 1 A' N2 (iv s2) → Calls Try.prog 49 #[.slice A N2 c, .slice A' N2 c'] W fun e w' => e = .returned (.bool true) ∧ Below W.heap.size W w') := Lib.hid (fun A c A' c' W r1 r2 => by
    have h := refSame_any A A' N2 N2 c c' s2 s2 W hs2 hs2 r1 r2 (by omega) (by omega)
    rwa [decide_eq_true rfl] at h)
  have C1 := fun W => few07_any r q A n c W (by omega)
  rw [show decide (n ≤ 600) = true from decide_eq_true hn] at C1
  have HC1 := Lib.hid C1
  have e1 : (ok1 == ok1) = true := by cases ok1 <;> rfl
  have e2 : (ok2 == ok2) = true := by cases ok2 <;> rfl
  obtain ⟨W0, hW0⟩ : ∃ W0, w.alloc (.cells #[.int .i64 r, .int .i64 q, .slice A n c] 55) = W0 := ⟨_, rfl⟩
  have b0 : Blk W0 w.heap.size 55 #[.int .i64 r, .int .i64 q, .slice A n c] := by rw [← hW0]; exact Blk.new _ _ _
  have k0 : Below w.heap.size w W0 := by rw [← hW0]; exact (Below.refl _ _).alloc (Nat.le_refl _) _
  have a0 : W0.cell? ⟨w.heap.size, 0, none⟩ = some (.int .i64 r) := b0.cell 0
  have a1 : W0.cell? ⟨w.heap.size, 1, none⟩ = some (.int .i64 q) := b0.cell 1
  have a2 : W0.cell? ⟨w.heap.size, 2, none⟩ = some (.slice A n c) := b0.cell 2
  have la := b0.lt
  have HB0 := Lib.hid b0
  have HK0 := Lib.hid k0
  have HW0 := Lib.hid hW0
  clear b0 k0 hW0 C1 M1 M2 M3 M4 h h' h1 h2 hl hy hs1 hs2
  go_enter Try.func11, Try.ntmps11
  go_wp2_with fail
  rw [HW0.out]
  go_wp2_with fail
  ((with_reducible refine (HC1.out _).mono ?_); rintro e w1 ⟨rfl, hb1⟩)
  have m1 := HB0.out.kept hb1
  have k1 := (Kept.of HK0.out).call hb1
  clear hb1 a0 a1 a2 la HW0
  have x0 : w1.cell? ⟨w.heap.size, 0, none⟩ = some (.int .i64 r) := m1.cell 0
  have x1 : w1.cell? ⟨w.heap.size, 1, none⟩ = some (.int .i64 q) := m1.cell 1
  have x2 : w1.cell? ⟨w.heap.size, 2, none⟩ = some (.slice A n c) := m1.cell 2
  have lx := m1.lt
  have HM1 := Lib.hid m1
  clear m1
  go_wp2_with fail
  ((with_reducible refine (given07_any _ _ _ n c _).mono ?_); rintro e w2 ⟨rfl, hb2⟩)
  have k2 := k1.call hb2
  have HM2 := Lib.hid (HM1.out.kept hb2)
  clear hb2 x0 x1 x2 lx k1 HM1
  go_wp2_with fail
  ((with_reducible refine (H1.out _ k2).mono ?_); rintro e w3 ⟨A3, c3, rfl, hr3, hb3⟩)
  have k3 := k2.call hb3
  have m3 := HM2.out.kept hb3
  have HR3 := Lib.hid hr3
  clear hb3 k2 HM2 hr3
  have x0 : w3.cell? ⟨w.heap.size, 0, none⟩ = some (.int .i64 r) := m3.cell 0
  have x1 : w3.cell? ⟨w.heap.size, 1, none⟩ = some (.int .i64 q) := m3.cell 1
  have x2 : w3.cell? ⟨w.heap.size, 2, none⟩ = some (.slice A n c) := m3.cell 2
  have lx := m3.lt
  have HM3 := Lib.hid m3
  clear m3
  go_wp2_with fail
  ((with_reducible refine (given07_any _ _ _ n c _).mono ?_); rintro e w4 ⟨rfl, hb4⟩)
  have k4 := k3.call hb4
  have HM4 := Lib.hid (HM3.out.kept hb4)
  have HR4 := Lib.hid (HR3.out.below hb4)
  clear hb4 x0 x1 x2 lx k3 HM3 HR3
  go_wp2_with fail
  ((with_reducible refine (H3.out _ k4).mono ?_); rintro e w5 ⟨A5, c5, rfl, hr5, hb5⟩)
  have k5 := k4.call hb5
  have m5 := HM4.out.kept hb5
  have HR5 := Lib.hid (HR4.out.below hb5)
  have HQ5 := Lib.hid hr5
  clear hb5 k4 HM4 hr5 HR4
  have x0 : w5.cell? ⟨w.heap.size, 0, none⟩ = some (.int .i64 r) := m5.cell 0
  have x1 : w5.cell? ⟨w.heap.size, 1, none⟩ = some (.int .i64 q) := m5.cell 1
  have x2 : w5.cell? ⟨w.heap.size, 2, none⟩ = some (.slice A n c) := m5.cell 2
  have lx := m5.lt
  have HM5 := Lib.hid m5
  clear m5
  go_wp2_with fail
  ((with_reducible refine (H2.out _ k5).mono ?_); rintro e w6 ⟨A6, c6, rfl, hr6, hb6⟩)
  have k6 := k5.call hb6
  have m6 := HM5.out.kept hb6
  have HR6 := Lib.hid (HR5.out.below hb6)
  have HQ6 := Lib.hid (HQ5.out.below hb6)
  have HP6 := Lib.hid hr6
  clear hb6 k5 HM5 hr6 HR5 HQ5 x0 x1 x2 lx
  have x0 : w6.cell? ⟨w.heap.size, 0, none⟩ = some (.int .i64 r) := m6.cell 0
  have x1 : w6.cell? ⟨w.heap.size, 1, none⟩ = some (.int .i64 q) := m6.cell 1
  have x2 : w6.cell? ⟨w.heap.size, 2, none⟩ = some (.slice A n c) := m6.cell 2
  have lx := m6.lt
  clear m6
  go_wp2_with fail
  ((with_reducible refine (H4.out _ k6).mono ?_); rintro e w7 ⟨A7, c7, rfl, hr7, hb7⟩)
  have k7 := k6.call hb7
  have HR7 := Lib.hid (HR6.out.below hb7)
  have HQ7 := Lib.hid (HQ6.out.below hb7)
  have HP7 := Lib.hid (HP6.out.below hb7)
  have HS7 := Lib.hid hr7
  clear hb7 k6 hr7 HR6 HQ6 HP6 x0 x1 x2 lx
  go_wp2_with fail
  ((with_reducible refine (alive07_any _).mono ?_); rintro e w8 ⟨rfl, hb8⟩)
  have k8 := k7.call hb8
  have HR8 := Lib.hid (HR7.out.below hb8)
  have HQ8 := Lib.hid (HQ7.out.below hb8)
  have HP8 := Lib.hid (HP7.out.below hb8)
  have HS8 := Lib.hid (HS7.out.below hb8)
  clear hb8 k7 HR7 HQ7 HP7 HS7
  go_wp2_with fail
  ((with_reducible refine (S1.out _ _ _ _ _ HR8.out HP8.out).mono ?_); rintro e w9 ⟨rfl, hb9⟩)
  have k9 := k8.call hb9
  have HQ9 := Lib.hid (HQ8.out.below hb9)
  have HS9 := Lib.hid (HS8.out.below hb9)
  clear hb9 k8 HR8 HP8 HQ8 HS8
  go_wp2_with fail
  ((with_reducible refine (S2.out _ _ _ _ _ HQ9.out HS9.out).mono ?_); rintro e wa ⟨rfl, hba⟩)
  have ka := k9.call hba
  clear hba k9 HQ9 HS9
  go_wp2
  go_ret
  exact ⟨rfl, ka.2.2⟩

theorem matProducts_any (r q : Int) (A : Option Addr) (n c : Nat) (l : List Int) (B : Option Addr) (m d : Nat) (y : List Int) (k : Int) (w : World) (hn : n ≤ 9223372036854775807) (hm : m ≤ 9223372036854775807) (hcap : n ≤ c) (hcm : c ≤ 9223372036854775807) (hl : l.length = n) (hy : y.length = m) (h : Rd w 1 A n (iv l)) (h' : Rd w 1 B m (iv y)) (h1 : ∀ v ∈ l, In1 v) (h2 : ∀ v ∈ y, In1 v) :
    Calls Try.prog 11 #[.agg #[.int .i64 r, .int .i64 q, .slice A n c], .slice B m d, .int .i64 k] w fun e w' => e = .returned (.bool true) ∧ Below w.heap.size w w' := by
  by_cases hb : 600 < n ∨ 600 < m
  · exact matProducts_big r q A n c B m d k w hn hm hb
  · exact matProducts_few r q A n c l B m d y k w (by omega) (by omega) hcap hcm hl hy h h' h1 h2

end Go.Proofs.Ytnnphileeeaibaa
