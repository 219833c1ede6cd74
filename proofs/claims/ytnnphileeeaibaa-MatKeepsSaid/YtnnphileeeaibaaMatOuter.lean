/-
  Outer.
-/
import Derived.Test.YtnnphileeeaibaaMatAlive
namespace Go.Proofs.Ytnnphileeeaibaa
set_option linter.unusedVariables false
set_option linter.unusedSimpArgs false
set_option maxRecDepth 100000
open Go.RowKit Go.Shelf

attribute [local go_sem] Oper.semAt_some

/-- The grid of no rows. -/
def NoGrid : Value := .agg #[.int .i64 0, .int .i64 0, .slice none 0 0]

set_option maxHeartbeats 1000000 in
theorem outer_not (A B : Option Addr) (n m c d : Nat) (q : Int) (w : World) (hn : n ≤ 1000000) (hm : m ≤ 1000000) (h : n = 0 ∨ m = 0) :
    Calls Try.prog 24 #[.slice A n c, .slice B m d, .int .i64 q] w fun e w' => e = .returned NoGrid ∧ Below w.heap.size w w' := by
  have HC := Lib.hid (fun W => new_not n m W (.inl (fun hs => by obtain ⟨a, b, c, d⟩ := hs; omega)))
  have HC2 := Lib.hid (fun W => right_any 0 0 none 0 0 W (by omega))
  have hr : decide (RightP 0 0 0) = false := decide_eq_false (fun hs => by have := hs.1.1; omega)
  rw [hr] at HC2
  obtain ⟨W0, hW0⟩ : ∃ W0, (((w.alloc (.cells #[.slice A n c] 29)).alloc (.cells #[.slice B m d] 29)).alloc (.cells #[.int .i64 q] 3)).alloc (.cells #[.int .i64 0, .int .i64 0, .slice none 0 0] 51) = W0 := ⟨_, rfl⟩
  have k0 : Below w.heap.size w W0 := by rw [← hW0]; exact ((((Below.refl _ _).alloc (Nat.le_refl _) _).alloc (by simp) _).alloc (by simp <;> omega) _).alloc (by simp <;> omega) _
  have b0 : Blk W0 w.heap.size 29 #[.slice A n c] := by rw [← hW0]; exact (((Blk.new _ _ _).alloc _).alloc _).alloc _
  have b1 : Blk W0 (w.heap.size + 1) 29 #[.slice B m d] := by rw [← hW0]; exact ((Blk.new' _ _ (by simp)).alloc _).alloc _
  have b2 : Blk W0 (w.heap.size + 1 + 1) 3 #[.int .i64 q] := by rw [← hW0]; exact (Blk.new' _ _ (by simp)).alloc _
  have b3 : Blk W0 (w.heap.size + 1 + 1 + 1) 51 #[.int .i64 0, .int .i64 0, .slice none 0 0] := by rw [← hW0]; exact Blk.new' _ _ (by simp)
  have a0 : W0.cell? ⟨w.heap.size, 0, none⟩ = some (.slice A n c) := b0.cell 0
  have a1 : W0.cell? ⟨w.heap.size + 1, 0, none⟩ = some (.slice B m d) := b1.cell 0
  have HW := Lib.hid hW0
  have HB3 := Lib.hid b3
  have HK := Lib.hid k0
  clear hW0 b0 b1 b2 b3 k0 hr
  go_enter Try.func24, Try.ntmps24
  go_wp2_with fail
  rw [HW.out]
  go_wp2_with fail
  ((with_reducible refine (HC.out _).mono ?_); rintro e w1 ⟨rfl, hb1⟩)
  have b4 := HB3.out.kept hb1
  have k1 := Lib.hid ((Kept.of HK.out).call hb1).2.2
  have hz1 := b4.lt
  have HB4 := Lib.hid b4
  clear a0 a1 hb1 b4 HB3
  go_wp2_with fail
  ((with_reducible refine (HC2.out _).mono ?_); rintro e w2 ⟨rfl, hb2⟩)
  have b5 := (HB4.out.alloc (.cells #[.int .i64 0, .int .i64 0, .slice none 0 0] 51)).kept hb2
  have k2 := Lib.hid ((k1.out.alloc (k1.out.size) (.cells #[.int .i64 0, .int .i64 0, .slice none 0 0] 51)).trans (hb2.mono (by have := k1.out.size; simp; omega)))
  have f0 : w2.cell? ⟨w.heap.size + 1 + 1 + 1, 0, none⟩ = some (.int .i64 0) := b5.cell 0
  have f1 : w2.cell? ⟨w.heap.size + 1 + 1 + 1, 1, none⟩ = some (.int .i64 0) := b5.cell 1
  have f2 : w2.cell? ⟨w.heap.size + 1 + 1 + 1, 2, none⟩ = some (.slice none 0 0) := b5.cell 2
  have g0 := b5.frozen 0
  have g1 := b5.frozen 1
  have g2 := b5.frozen 2
  have l2 := b5.lt
  have HB5 := Lib.hid b5
  clear hb2 b5 HB4
  go_wp2
  refine bodyPost_ret (v := .agg #[.int .i64 0, .int .i64 0, .slice none 0 0]) (by simp [results, Try.results24, go_sem, f0, f1, f2, l2]) rfl ⟨rfl, ?_⟩
  exact below_gr k2.out k2.out.size (set3 HB5.out _ _ _).1 (by omega)

/-- What comes back is a grid of its own. -/
def GridOf (w : World) (r q n : Nat) (l : List Int) (en : Ending) (w' : World) : Prop :=
  ∃ A c, en = .returned (.agg #[.int .i64 r, .int .i64 q, .slice A n c]) ∧ w'.ownsRow w.heap.size 2 1 (.slice A n c) n (iv l) ∧ Below w.heap.size w w'

/-- Some of n numbers, zeros for the others. -/
def selL (n : Nat) (F : Nat → Int) (P : Nat → Bool) : List Int := natL n fun i => if P i then F i else 0
theorem selL_length (n : Nat) (F : Nat → Int) (P : Nat → Bool) : (selL n F P).length = n := natL_length _ _
theorem selL_none (n : Nat) (F : Nat → Int) : selL n F (fun _ => false) = zeros n := by
  rw [← fillL_zero n F]
  exact natL_congr (fun i _ => by simp)
theorem selL_all {n : Nat} {F : Nat → Int} {P : Nat → Bool} (h : ∀ i, i < n → P i = true) : selL n F P = natL n F := natL_congr (fun i hi => by rw [if_pos (h i hi)])
theorem selL_congr {n : Nat} {F : Nat → Int} {P Q : Nat → Bool} (h : ∀ i, i < n → P i = Q i) : selL n F P = selL n F Q := natL_congr (fun i hi => by rw [h i hi])
theorem selL_set {n : Nat} {F : Nat → Int} {P Q : Nat → Bool} {k : Nat} (h : k < n) (hq : ∀ i, i < n → Q i = (P i || i == k)) : (selL n F P).set k (F k) = selL n F Q := by
  apply List.ext_getElem?
  intro i
  rw [List.getElem?_set, selL_length]
  by_cases hi : i < n
  · rw [selL, selL, natL_get _ _ _ hi, natL_get _ _ _ hi, hq i hi]
    by_cases e : k = i
    · subst e
      simp [h]
    · have e2 : (i == k) = false := by simp; omega
      rw [if_neg e, e2, Bool.or_false]
  · rw [List.getElem?_eq_none (l := selL n F P) (by rw [selL_length]; omega), List.getElem?_eq_none (l := selL n F Q) (by rw [selL_length]; omega), if_neg (by omega)]

/-- The places that the rows of pre hold, and the first c of row k. -/
def rowsP {R : Nat} (m : Nat) (pre : List (Fin R)) (i : Nat) : Bool := pre.any fun k => k.val == i / m
def rowP {R : Nat} (m : Nat) (pre : List (Fin R)) (k c i : Nat) : Bool := rowsP m pre i || (i / m == k && decide (i % m < c))
theorem rowP_zero {R : Nat} (m : Nat) (pre : List (Fin R)) (k i : Nat) : rowP m pre k 0 i = rowsP m pre i := by simp [rowP]
theorem rowP_all {R m : Nat} (hm : 1 ≤ m) (pre : List (Fin R)) (k : Fin R) (i : Nat) : rowP m pre k.val m i = rowsP m (pre ++ [k]) i := by
  have h := Nat.mod_lt i (show 0 < m by omega)
  simp [rowP, rowsP, h]
  congr 1
  exact Bool.eq_iff_iff.2 ⟨fun h => by simpa using (of_decide_eq_true h).symm, fun h => by simpa using (of_decide_eq_true h).symm⟩
theorem rowP_next {R m : Nat} (hm : 1 ≤ m) (pre : List (Fin R)) (k c i : Nat) (hc : c < m) : rowP m pre k (c + 1) i = (rowP m pre k c i || i == k * m + c) := by
  have e : (i == k * m + c) = (i / m == k && i % m == c) := by
    rw [Bool.eq_iff_iff]
    simp only [Bool.and_eq_true, beq_iff_eq]
    constructor
    · rintro rfl
      exact ⟨row_div k c m hc, row_mod k c m hc⟩
    · rintro ⟨rfl, rfl⟩
      rw [Nat.mul_comm]
      exact (Nat.div_add_mod i m).symm
  have e2 : decide (i % m < c + 1) = (decide (i % m < c) || i % m == c) := by
    rw [Bool.eq_iff_iff]
    simp only [Bool.or_eq_true, beq_iff_eq, decide_eq_true_eq]
    omega
  rw [e, rowP, rowP, e2, Bool.and_or_distrib_left, Bool.or_assoc]
theorem rowsP_fin {R m i : Nat} (h : i < R * m) (hm : 1 ≤ m) : rowsP m (List.finRange R) i = true := by
  have h1 : i / m < R := (Nat.div_lt_iff_lt_mul (by omega)).2 h
  unfold rowsP
  rw [List.any_eq_true]
  exact ⟨⟨i / m, h1⟩, List.mem_finRange _, by simp⟩

theorem ownsRow_own {β : Type} (n₀ : Nat) (e : TypeId) (size : Nat) (v : Value) (k : Nat) (f : β → List Value) : Own (fun s W => W.ownsRow n₀ e size v k (f s)) := by
  intro s X Y row hs hg hrow
  refine hs.kept hg ?_
  rcases hs.2 with ⟨rfl, _⟩ | ⟨g, cap, cur, rfl, _, hgb, _⟩
  · exact .inl rfl
  · refine .inr fun e' => ?_
    obtain ⟨o, ho, hc⟩ := hrow g (by rw [← e']; rfl)
    rw [hgb] at ho
    cases ho
    cases hc

end Go.Proofs.Ytnnphileeeaibaa
