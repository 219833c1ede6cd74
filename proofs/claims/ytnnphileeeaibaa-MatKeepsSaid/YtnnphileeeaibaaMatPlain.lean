/-
  Grids of numbers as lists: all products of two columns, a grid turned.
-/
import Derived.Test.YtnnphileeeaibaaMatB
namespace Go.Proofs.Ytnnphileeeaibaa
set_option linter.unusedVariables false
set_option linter.unusedSimpArgs false
open Go.RowKit

/-- The first n numbers of a sequence. -/
def natL (n : Nat) (F : Nat → Int) : List Int := (List.range n).map F
/-- The first k of n numbers, then zeros. -/
def fillL (n : Nat) (F : Nat → Int) (k : Nat) : List Int := natL n fun i => if i < k then F i else 0
theorem natL_length (n : Nat) (F : Nat → Int) : (natL n F).length = n := by simp [natL]
theorem natL_get (n : Nat) (F : Nat → Int) (i : Nat) (h : i < n) : (natL n F)[i]? = some (F i) := by simp [natL, h]
theorem natL_getD (n : Nat) (F : Nat → Int) (i : Nat) (h : i < n) : (natL n F).getD i 0 = F i := by rw [List.getD_eq_getElem?_getD, natL_get n F i h]; rfl
theorem natL_succ (n : Nat) (F : Nat → Int) : natL (n + 1) F = natL n F ++ [F n] := by simp [natL, List.range_succ]
theorem natL_congr {n : Nat} {F G : Nat → Int} (h : ∀ i, i < n → F i = G i) : natL n F = natL n G := by
  unfold natL
  exact List.map_congr_left (fun i hi => h i (List.mem_range.1 hi))
theorem natL_all {n : Nat} {F : Nat → Int} {p : Int → Prop} (h : ∀ i, i < n → p (F i)) : ∀ x ∈ natL n F, p x := by
  intro x hx
  obtain ⟨i, hi, rfl⟩ := List.mem_map.1 hx
  exact h i (List.mem_range.1 hi)
theorem fillL_length (n : Nat) (F : Nat → Int) (k : Nat) : (fillL n F k).length = n := natL_length _ _
theorem fillL_zero (n : Nat) (F : Nat → Int) : fillL n F 0 = zeros n := by
  unfold fillL natL zeros
  apply List.ext_getElem?
  intro i
  by_cases h : i < n <;> simp [h, List.getElem?_replicate]
theorem fillL_all (n : Nat) (F : Nat → Int) (k : Nat) (h : n ≤ k) : fillL n F k = natL n F := natL_congr (fun i hi => by rw [if_pos (by omega)])
theorem fillL_set (n : Nat) (F : Nat → Int) (k : Nat) (h : k < n) : (fillL n F k).set k (F k) = fillL n F (k + 1) := by
  apply List.ext_getElem?
  intro i
  rw [List.getElem?_set, fillL_length]
  by_cases hi : i < n
  · by_cases e : k = i
    · subst e
      rw [if_pos rfl, if_pos h, fillL, natL_get _ _ _ hi, if_pos (by omega)]
    · rw [if_neg e, fillL, fillL, natL_get _ _ _ hi, natL_get _ _ _ hi]
      by_cases e2 : i < k
      · rw [if_pos e2, if_pos (by omega)]
      · rw [if_neg e2, if_neg (by omega)]
  · rw [List.getElem?_eq_none (l := fillL n F k) (by rw [fillL_length]; omega), List.getElem?_eq_none (l := fillL n F (k + 1)) (by rw [fillL_length]; omega), if_neg (by omega)]

/-- All products of two columns. -/
def outF (y x : List Int) (q : Int) (i : Nat) : Int := mulQ (y.getD (i / x.length) 0) (x.getD (i % x.length) 0) q
def outN (y x : List Int) (q : Int) : List Int := natL (y.length * x.length) (outF y x q)
/-- A grid of r rows and c columns, turned. -/
def turnF (l : List Int) (r c i : Nat) : Int := l.getD (i % r * c + i / r) 0
def turnN (l : List Int) (r c : Nat) : List Int := natL (c * r) (turnF l r c)
theorem turn_out (y x : List Int) (q : Int) : turnN (outN y x q) y.length x.length = outN x y q := by
  refine natL_congr (fun i hi => ?_)
  have hr : 0 < y.length := by
    rcases Nat.eq_zero_or_pos y.length with h | h
    · rw [h] at hi; omega
    · exact h
  have hc : i / y.length < x.length := (Nat.div_lt_iff_lt_mul hr).2 hi
  have hm : i % y.length < y.length := Nat.mod_lt _ hr
  have hj : i % y.length * x.length + i / y.length < y.length * x.length := by
    calc i % y.length * x.length + i / y.length < i % y.length * x.length + x.length := Nat.add_lt_add_left hc _
      _ = (i % y.length + 1) * x.length := by rw [Nat.add_mul, Nat.one_mul]
      _ ≤ y.length * x.length := Nat.mul_le_mul_right _ hm
  have e1 : (i % y.length * x.length + i / y.length) / x.length = i % y.length := by
    rw [Nat.mul_comm, Nat.mul_add_div (Nat.lt_of_le_of_lt (Nat.zero_le _) hc), Nat.div_eq_of_lt hc, Nat.add_zero]
  have e2 : (i % y.length * x.length + i / y.length) % x.length = i / y.length := by
    rw [Nat.mul_comm, Nat.mul_add_mod, Nat.mod_eq_of_lt hc]
  unfold turnF
  rw [outN, natL_getD _ _ _ hj, outF, outF, e1, e2, mulQ_comm]
theorem outN_in (y x : List Int) (q : Int) : ∀ v ∈ outN y x q, In1 v := natL_all (fun i _ => mulQ_in _ _ _)
theorem row_div (r c C : Nat) (h : c < C) : (r * C + c) / C = r := by
  rw [Nat.mul_comm, Nat.mul_add_div (by omega), Nat.div_eq_of_lt h, Nat.add_zero]
theorem row_mod (r c C : Nat) (h : c < C) : (r * C + c) % C = c := by
  rw [Nat.mul_comm, Nat.mul_add_mod, Nat.mod_eq_of_lt h]
theorem row_lt (r c R C : Nat) (hr : r < R) (h : c < C) : r * C + c < R * C := by
  calc r * C + c < r * C + C := by omega
    _ = (r + 1) * C := by rw [Nat.add_mul, Nat.one_mul]
    _ ≤ R * C := Nat.mul_le_mul_right _ hr

end Go.Proofs.Ytnnphileeeaibaa
