/-
  Ranges as pairs of integers: what package part computes, in plain Lean.
-/
import Derived.WalkKit
namespace Go.Proofs.Ytkecpbdgcbgogaa
set_option linter.unusedVariables false
set_option linter.unusedSimpArgs false

/-- The cells of a list of ranges. -/
def rv (l : List (Int × Int)) : List Value := l.flatMap fun r => [.int .i64 r.1, .int .i64 r.2]
theorem rv_nil : rv [] = [] := rfl
theorem rv_append (l k : List (Int × Int)) : rv (l ++ k) = rv l ++ rv k := by simp [rv]
theorem rv_cons (a b : Int) (l : List (Int × Int)) : rv ((a, b) :: l) = .int .i64 a :: .int .i64 b :: rv l := rfl
theorem rv_length (l : List (Int × Int)) : (rv l).length = l.length * 2 := by
  induction l with
  | nil => rfl
  | cons r l ih => obtain ⟨a, b⟩ := r; rw [rv_cons]; simp [ih]; omega
theorem rv_get (l : List (Int × Int)) (k : Nat) (hk : k < l.length) : (rv l)[k * 2]? = some (.int .i64 (l[k]).1) ∧ (rv l)[k * 2 + 1]? = some (.int .i64 (l[k]).2) := by
  induction l generalizing k with
  | nil => simp at hk
  | cons r l ih =>
    obtain ⟨a, b⟩ := r
    rw [rv_cons]
    cases k with
    | zero => exact ⟨rfl, rfl⟩
    | succ k =>
      have := ih k (by simpa using hk)
      rw [show (k + 1) * 2 = k * 2 + 2 by omega]
      simpa using this
theorem rv_one (u : Value) (l : List (Int × Int)) (h : u ∈ rv l) : u.oneCell' = true := by
  unfold rv at h
  simp only [List.mem_flatMap] at h
  obtain ⟨r, _, h⟩ := h
  simp at h
  rcases h with rfl | rfl <;> rfl
theorem rv_inj : ∀ (l k : List (Int × Int)), rv l = rv k → l = k
  | [], [], _ => rfl
  | [], (_, _) :: _, h => by rw [rv_cons] at h; simp [rv] at h
  | (_, _) :: _, [], h => by rw [rv_cons] at h; simp [rv] at h
  | (a, b) :: l, (c, d) :: k, h => by
    rw [rv_cons, rv_cons] at h
    simp only [List.cons.injEq, Value.int.injEq, true_and] at h
    obtain ⟨h1, h2, h3⟩ := h
    rw [h1, h2, rv_inj l k h3]
theorem take_snoc {α : Type} (l : List α) (k : Nat) (h : k < l.length) : l.take (k + 1) = l.take k ++ [l[k]] := List.take_succ_eq_append_getElem h
theorem rv_take_snoc (l : List (Int × Int)) (k : Nat) (h : k < l.length) : rv (l.take (k + 1)) = rv (l.take k) ++ [.int .i64 (l[k]).1, .int .i64 (l[k]).2] := by
  rw [take_snoc l k h, rv_append]; rfl

/-- 'Of': the first range that has an index. -/
def ofFrom (i : Int) : List (Int × Int) → Int → Int
  | [], _ => -1
  | r :: l, k => if r.1 ≤ i ∧ i < r.2 then k else ofFrom i l (k + 1)
def ofL (i : Int) (l : List (Int × Int)) : Int := ofFrom i l 0
/-- 'Covers'. -/
def coversFrom (n : Int) : List (Int × Int) → Int → Bool
  | [], at_ => at_ == n
  | r :: l, at_ => if r.1 ≠ at_ ∨ r.2 < at_ then false else coversFrom n l r.2
def coversL (n : Int) (l : List (Int × Int)) : Bool := coversFrom n l 0

/-- 'Even'. -/
def bnd (n k i : Nat) : Nat := i * (n / k) + min i (n % k)
def evenL (n k : Nat) : List (Int × Int) := (List.range k).map fun i => ((bnd n k i : Int), (bnd n k (i + 1) : Int))
theorem evenL_length (n k : Nat) : (evenL n k).length = k := by simp [evenL]
theorem evenL_get (n k i : Nat) (h : i < (evenL n k).length) : (evenL n k)[i] = ((bnd n k i : Int), (bnd n k (i + 1) : Int)) := by simp [evenL]

/-- 'Blocks'. -/
def cnt (n size : Nat) : Nat := if n = 0 ∨ size = 0 then 0 else (n - 1) / size + 1
def blocksL (n size : Nat) : List (Int × Int) := (List.range (cnt n size)).map fun i => ((i * size : Nat), ((i * size + min size (n - i * size) : Nat)))
theorem blocksL_length (n size : Nat) : (blocksL n size).length = cnt n size := by simp [blocksL]
theorem blocksL_get (n size i : Nat) (h : i < (blocksL n size).length) : (blocksL n size)[i] = (((i * size : Nat) : Int), ((i * size + min size (n - i * size) : Nat) : Int)) := by simp [blocksL]

theorem cnt_pos (a b : Nat) (ha : 1 ≤ a) (hb : 1 ≤ b) : cnt a b = (a - 1) / b + 1 := by
  unfold cnt
  rw [if_neg (by omega)]
theorem cnt_le (a b : Nat) : cnt a b ≤ a := by
  unfold cnt
  split
  · omega
  · have := Nat.div_le_self (a - 1) b
    omega
/-- Blocks that are there begin inside. -/
theorem lt_cnt (a b i : Nat) (ha : 1 ≤ a) (hb : 1 ≤ b) : i < cnt a b ↔ i * b < a := by
  rw [cnt_pos a b ha hb, Nat.lt_succ_iff, Nat.le_div_iff_mul_le (by omega)]
  omega
/-- How many of the first n indices are dealt to place j of k. -/
def dealt (n k j : Nat) : Nat := n / k + if j < n % k then 1 else 0
theorem dealt_zero (k j : Nat) : dealt 0 k j = 0 := by simp [dealt]
theorem dealt_le (n k j : Nat) : dealt n k j ≤ n + 1 := by
  unfold dealt
  have := Nat.div_le_self n k
  split <;> omega
theorem div_mod_step (n k : Nat) (hk : 1 ≤ k) : (n % k + 1 < k ∧ (n + 1) / k = n / k ∧ (n + 1) % k = n % k + 1) ∨ (n % k + 1 = k ∧ (n + 1) / k = n / k + 1 ∧ (n + 1) % k = 0) := by
  have h1 := Nat.mod_lt n (show 0 < k by omega)
  have h2 := Nat.div_add_mod n k
  generalize hq : n / k = q at *
  generalize hr : n % k = r at *
  by_cases hc : r + 1 < k
  · left
    have e : n + 1 = k * q + (r + 1) := by omega
    refine ⟨hc, ?_, ?_⟩
    · rw [e, Nat.mul_add_div (by omega), Nat.div_eq_of_lt hc]; omega
    · rw [e, Nat.mul_add_mod, Nat.mod_eq_of_lt hc]
  · right
    have e : n + 1 = k * (q + 1) := by rw [Nat.mul_add]; omega
    refine ⟨by omega, ?_, ?_⟩
    · rw [e, Nat.mul_div_cancel_left _ (by omega)]
    · rw [e, Nat.mul_mod_right]
theorem dealt_here (n k : Nat) (hk : 1 ≤ k) : dealt (n + 1) k (n % k) = dealt n k (n % k) + 1 := by
  unfold dealt
  rcases div_mod_step n k hk with ⟨h1, h2, h3⟩ | ⟨h1, h2, h3⟩
  · rw [h2, h3, if_pos (by omega), if_neg (by omega)]
  · rw [h2, h3, if_neg (by omega), if_neg (by omega)]
theorem dealt_there (n k j : Nat) (hk : 1 ≤ k) (hj : j < k) (hne : j ≠ n % k) : dealt (n + 1) k j = dealt n k j := by
  unfold dealt
  rcases div_mod_step n k hk with ⟨h1, h2, h3⟩ | ⟨h1, h2, h3⟩
  · rw [h2, h3]
    by_cases h : j < n % k
    · rw [if_pos (by omega), if_pos h]
    · rw [if_neg (by omega), if_neg h]
  · rw [h2, h3, if_neg (by omega), if_pos (by omega)]
theorem bnd_succ (n k i : Nat) : bnd n k (i + 1) = bnd n k i + dealt n k i := by
  unfold bnd dealt
  rw [Nat.add_mul]
  split <;> omega
theorem bnd_zero (n k : Nat) : bnd n k 0 = 0 := by simp [bnd]
theorem bnd_k (n k : Nat) (hk : 1 ≤ k) : bnd n k k = n := by
  unfold bnd
  have h1 := Nat.mod_lt n (show 0 < k by omega)
  have h2 := Nat.div_add_mod n k
  omega
theorem bnd_mono (n k i j : Nat) (h : i ≤ j) : bnd n k i ≤ bnd n k j := by
  induction h with
  | refl => exact Nat.le_refl _
  | step _ ih => rw [bnd_succ]; omega

end Go.Proofs.Ytkecpbdgcbgogaa
