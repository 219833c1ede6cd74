/-
  The sum of vectors depends neither on the order nor on the groups, in plain Lean.
-/
import Derived.Test.YtkecpbdgcbgogaaVecPlain
import Derived.IntWalk
namespace Go.Proofs.Ytkecpbdgcbgogaa
set_option linter.unusedVariables false
set_option linter.unusedSimpArgs false
open Go.RowKit

abbrev InV (z : List Int) : Prop := ∀ x ∈ z, -9223372036854775808 ≤ x ∧ x ≤ 9223372036854775807
/-- The sum at an index, not wrapped. -/
def tot (zs : List (List Int)) (i : Nat) : Int := (zs.map fun z => z.getD i 0).sum
theorem tot_cons (z : List Int) (zs : List (List Int)) (i : Nat) : tot (z :: zs) i = z.getD i 0 + tot zs i := by simp [tot]
theorem tot_nil (i : Nat) : tot [] i = 0 := rfl
theorem tot_append (a b : List (List Int)) (i : Nat) : tot (a ++ b) i = tot a i + tot b i := by simp [tot]
theorem tot_reverse (a : List (List Int)) (i : Nat) : tot a.reverse i = tot a i := by
  induction a with
  | nil => rfl
  | cons z a ih => rw [List.reverse_cons, tot_append, ih, tot_cons, tot_cons, tot_nil]; omega
def totW (m : Nat) (zs : List (List Int)) : List Int := (List.range m).map fun i => wrap64 (tot zs i)
theorem totW_length (m : Nat) (zs : List (List Int)) : (totW m zs).length = m := by simp [totW]
theorem totW_in (m : Nat) (zs : List (List Int)) : InV (totW m zs) := by
  intro x hx
  unfold totW at hx
  simp only [List.mem_map] at hx
  obtain ⟨i, _, rfl⟩ := hx
  unfold wrap64
  omega
theorem totW_getD (m : Nat) (zs : List (List Int)) (i : Nat) (h : i < m) : (totW m zs).getD i 0 = wrap64 (tot zs i) := by simp [totW, List.getD, h]
theorem addL_getD (x y : List Int) (i : Nat) (h : i < x.length) : (addL x y).getD i 0 = wrap64 (x.getD i 0 + y.getD i 0) := by
  unfold addL List.getD
  rw [addAt_get, List.getElem?_eq_getElem h]
  simp [h, List.getD]
theorem wrap_l (a b : Int) : wrap64 (wrap64 a + b) = wrap64 (a + b) := by unfold wrap64; omega
theorem wrap_r (a b : Int) : wrap64 (a + wrap64 b) = wrap64 (a + b) := by unfold wrap64; omega
theorem addL_in (x y : List Int) : InV (addL x y) := by
  intro z hz
  obtain ⟨i, hi, rfl⟩ := List.mem_iff_getElem.1 hz
  have h := addL_getD x y i (by rw [addL_length] at hi; exact hi)
  have e : (addL x y).getD i 0 = (addL x y)[i] := by simp [List.getD, List.getElem?_eq_getElem hi]
  rw [← e, h]
  unfold wrap64
  omega
theorem sumFrom_is (acc : List Int) (zs : List (List Int)) (ha : InV acc) (h : ∀ z ∈ zs, z.length = acc.length) : sumFrom acc zs = some ((List.range acc.length).map fun i => wrap64 (acc.getD i 0 + tot zs i)) := by
  induction zs generalizing acc with
  | nil =>
    simp only [sumFrom]
    congr 1
    apply List.ext_getElem?
    intro i
    by_cases hi : i < acc.length
    · have := ha acc[i] (List.getElem_mem hi)
      rw [List.getElem?_eq_getElem hi]
      simp only [List.getElem?_map, List.getElem?_range hi, Option.map_some, tot_nil, List.getD, List.getElem?_eq_getElem hi, Option.getD_some, Option.some.injEq]
      unfold wrap64
      omega
    · rw [List.getElem?_eq_none (by omega), List.getElem?_eq_none (by simp; omega)]
  | cons z zs ih =>
    simp only [sumFrom]
    rw [if_pos (h z (by simp)), ih (addL acc z) (addL_in acc z) (fun y hy => by rw [addL_length]; exact h y (by simp [hy])), addL_length]
    congr 1
    apply List.map_congr_left
    intro i hi
    rw [addL_getD acc z i (by simpa using hi), wrap_l, tot_cons, Int.add_assoc]
theorem sumL_is (zs : List (List Int)) (m : Nat) (h0 : zs ≠ []) (hi : ∀ z ∈ zs, InV z) (h : ∀ z ∈ zs, z.length = m) : sumL zs = some (totW m zs) := by
  cases zs with
  | nil => exact absurd rfl h0
  | cons z zs =>
    have hm := h z (by simp)
    subst hm
    simp only [sumL]
    rw [sumFrom_is z zs (hi z (by simp)) (fun y hy => h y (by simp [hy]))]
    congr 1
theorem sumFrom_same (acc s : List Int) (zs : List (List Int)) (h : sumFrom acc zs = some s) : ∀ z ∈ zs, z.length = acc.length := by
  induction zs generalizing acc with
  | nil => simp
  | cons z zs ih =>
    simp only [sumFrom] at h
    by_cases e : z.length = acc.length
    · rw [if_pos e] at h
      have := ih _ h
      intro y hy
      rcases List.mem_cons.1 hy with rfl | hy
      · exact e
      · rw [this y hy, addL_length]
    · rw [if_neg e] at h; cases h
theorem sumL_same (zs : List (List Int)) (s : List Int) (h : sumL zs = some s) : ∃ m, ∀ z ∈ zs, z.length = m := by
  cases zs with
  | nil => exact ⟨0, by simp⟩
  | cons z zs =>
    refine ⟨z.length, fun y hy => ?_⟩
    rcases List.mem_cons.1 hy with rfl | hy
    · rfl
    · exact sumFrom_same z s zs h y hy
theorem sumL_turned (zs : List (List Int)) (s : List Int) (h0 : zs ≠ []) (hi : ∀ z ∈ zs, InV z) (h : sumL zs = some s) : sumL zs.reverse = some s := by
  obtain ⟨m, hm⟩ := sumL_same zs s h
  rw [sumL_is zs m h0 hi hm] at h
  rw [sumL_is zs.reverse m (by simpa using h0) (fun z hz => hi z (by simpa using hz)) (fun z hz => hm z (by simpa using hz)), ← h]
  congr 1
  unfold totW
  apply List.map_congr_left
  intro i _
  rw [tot_reverse]
theorem sumL_groups (zs : List (List Int)) (s : List Int) (k : Nat) (hk : 1 ≤ k) (h0 : zs ≠ []) (hi : ∀ z ∈ zs, InV z) (h : sumL zs = some s) :
    ∃ a, sumL (zs.take k) = some a ∧ a.length = s.length ∧ InV a ∧ sumL (zs.drop k ++ [a]) = some s := by
  obtain ⟨m, hm⟩ := sumL_same zs s h
  rw [sumL_is zs m h0 hi hm] at h
  injection h with h
  refine ⟨totW m (zs.take k), sumL_is _ m ?_ (fun z hz => hi z (List.mem_of_mem_take hz)) (fun z hz => hm z (List.mem_of_mem_take hz)), by rw [← h, totW_length, totW_length], totW_in _ _, ?_⟩
  · cases zs with
    | nil => exact absurd rfl h0
    | cons z zs => obtain ⟨j, rfl⟩ : ∃ j, k = j + 1 := ⟨k - 1, by omega⟩; simp
  · rw [sumL_is _ m (by simp) (fun z hz => ?_) (fun z hz => ?_), ← h]
    · congr 1
      unfold totW
      apply List.map_congr_left
      intro i hi'
      rw [tot_append, tot_cons, tot_nil, Int.add_zero, ← totW, totW_getD m _ i (by simpa using hi'), wrap_r, ← Int.add_comm, ← tot_append, List.take_append_drop]
    · rcases List.mem_append.1 hz with hz | hz
      · exact hi z (List.mem_of_mem_drop hz)
      · rw [List.mem_singleton.1 hz]; exact totW_in _ _
    · rcases List.mem_append.1 hz with hz | hz
      · exact hm z (List.mem_of_mem_drop hz)
      · rw [List.mem_singleton.1 hz]; exact totW_length _ _

end Go.Proofs.Ytkecpbdgcbgogaa
