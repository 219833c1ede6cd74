/-
  The draws of a permutation, in plain lists.
-/
import Derived.Test.YtncjfijpaheobaaPermInverses
import Derived.Test.YtncjfijpaheobaaBut
namespace Go.Proofs.Ytncjfijpaheobaa
set_option linter.unusedVariables false
set_option linter.unusedSimpArgs false
set_option maxRecDepth 100000
open Go.RowKit

/-- The list behind k exchanges that are undone. -/
def drR (p : List Int) : Nat → List Int
  | 0 => iotaL p.length
  | k + 1 => ((drR p k).set (placeL (drR p k) (p.getD (p.length - 1 - k) 0)).toNat ((drR p k).getD (p.length - 1 - k) 0)).set (p.length - 1 - k) (p.getD (p.length - 1 - k) 0)
/-- The draw number k. -/
def drJ (p : List Int) (k : Nat) : Int := placeL (drR p k) (p.getD (p.length - 1 - k) 0)
def drL (p : List Int) : List Int := (List.range (p.length - 1)).map (drJ p)
theorem drL_length (p : List Int) : (drL p).length = p.length - 1 := by simp [drL]
theorem drL_get {p : List Int} {k : Nat} (h : k < p.length - 1) : (drL p)[k]? = some (drJ p k) := by simp [drL, h]

theorem iota_good (n : Nat) : goodTo (iotaL n) (iotaL n).length := by
  rw [good_iff, iotaL_length]
  intro i hi
  exact List.mem_of_getElem? (iotaL_get n i hi)
theorem swapL_get {l : List Int} {i j : Nat} (hi : i < l.length) (hj : j < l.length) (m : Nat) : (swapL l i j)[m]? = if m = j then l[i]? else if m = i then l[j]? else l[m]? := by
  have e1 : l.getD i 0 = l[i] := by simp [List.getD, hi]
  have e2 : l.getD j 0 = l[j] := by simp [List.getD, hj]
  rw [swapL, e1, e2, List.getElem?_set, List.getElem?_set, List.length_set]
  by_cases h1 : m = j
  · subst h1
    simp [hj, hi]
  · rw [if_neg (fun e => h1 e.symm), if_neg h1]
    by_cases h2 : m = i
    · subst h2
      simp [hi, hj]
    · rw [if_neg (fun e => h2 e.symm), if_neg h2]
theorem swapL_good {l : List Int} {i j : Nat} (hi : i < l.length) (hj : j < l.length) (h : goodTo l l.length) : goodTo (swapL l i j) (swapL l i j).length := by
  rw [good_iff, swapL_length]
  intro x hx
  obtain ⟨k, hk, e⟩ := good_mem h hx
  by_cases h1 : k = i
  · subst h1
    exact List.mem_of_getElem? (i := j) (by rw [swapL_get hk hj, if_pos rfl]; exact e)
  · by_cases h2 : k = j
    · subst h2
      exact List.mem_of_getElem? (i := i) (by
        rw [swapL_get hi hk]
        by_cases h3 : i = k
        · exact absurd h3.symm h1
        · rw [if_neg h3, if_pos rfl]; exact e)
    · exact List.mem_of_getElem? (i := k) (by rw [swapL_get hi hj, if_neg h2, if_neg h1]; exact e)

/-- Two equal numbers of a permutation stand at one place. -/
theorem good_inj {p : List Int} (h : goodTo p p.length) {i j : Nat} {x : Int} (hi : p[i]? = some x) (hj : p[j]? = some x) : i = j := by
  have h1 := placeL_at h (List.getElem?_eq_some_iff.1 hi).1 hi
  have h2 := placeL_at h (List.getElem?_eq_some_iff.1 hj).1 hj
  omega

/-- What holds behind k steps. -/
structure DrInv (p : List Int) (k : Nat) : Prop where
  len : (drR p k).length = p.length
  good : goodTo (drR p k) (drR p k).length
  done : ∀ m, p.length - k ≤ m → m < p.length → (drR p k)[m]? = p[m]?

/-- The place of the next number. -/
theorem dr_place {p : List Int} (hp : goodTo p p.length) {k i : Nat} (h : DrInv p k) (hi : i + k + 1 = p.length) :
    ∃ (x : Int) (j : Nat), p[i]? = some x ∧ (drR p k)[j]? = some x ∧ drJ p k = j ∧ j ≤ i := by
  obtain ⟨x, hx⟩ : ∃ x, p[i]? = some x := ⟨_, List.getElem?_eq_getElem (by omega)⟩
  have hb := (hp i x (by omega) hx).1
  have hmem : ∃ j : Nat, j < (drR p k).length ∧ (drR p k)[j]? = some x := by
    have h1 := good_mem h.good (i := x.toNat) (by rw [h.len]; omega)
    rw [show ((x.toNat : Nat) : Int) = x by omega] at h1
    exact h1
  obtain ⟨j, hj, hjx⟩ := hmem
  refine ⟨x, j, hx, hjx, ?_, ?_⟩
  · rw [drJ, show p.length - 1 - k = i by omega, show p.getD i 0 = x by simp [List.getD, hx]]
    exact placeL_at h.good hj hjx
  · apply Classical.byContradiction
    intro hn
    have h1 := h.done j (by omega) (by rw [h.len] at hj; exact hj)
    rw [hjx] at h1
    exact hn (Nat.le_of_eq (good_inj hp h1.symm hx))
theorem drR_swap {p : List Int} {k i j : Nat} {x : Int} (hi : i + k + 1 = p.length) (hx : p[i]? = some x) (hj : (drR p k)[j]? = some x) (e : drJ p k = j) (hji : j ≤ i) (hl : (drR p k).length = p.length) : drR p (k + 1) = swapL (drR p k) i j := by
  rw [drR]
  rw [drJ] at e
  rw [e, show p.length - 1 - k = i by omega, swapL, show p.getD i 0 = x by simp [List.getD, hx], show (drR p k).getD j 0 = x by simp [List.getD, hj], show ((j : Nat) : Int).toNat = j by omega]
  by_cases h : j = i
  · subst h
    have e1 : (drR p k).getD j 0 = x := by simp [List.getD, hj]
    rw [e1]
  · exact List.set_comm _ _ h
theorem drInv {p : List Int} (hp : goodTo p p.length) : ∀ k, k ≤ p.length - 1 → DrInv p k
  | 0, _ => ⟨iotaL_length _, iota_good _, fun m h1 h2 => absurd h1 (by omega)⟩
  | k + 1, hk => by
    have h := drInv hp k (by omega)
    obtain ⟨i, hi⟩ : ∃ i, i + k + 1 = p.length := ⟨p.length - 1 - k, by omega⟩
    obtain ⟨x, j, hx, hj, e, hji⟩ := dr_place hp h hi
    have hs := drR_swap hi hx hj e hji h.len
    have hil : i < (drR p k).length := by rw [h.len]; omega
    have hjl : j < (drR p k).length := by rw [h.len]; omega
    refine ⟨by rw [hs, swapL_length, h.len], by rw [hs]; exact swapL_good hil hjl h.good, fun m h1 h2 => ?_⟩
    rw [hs, swapL_get hil hjl]
    by_cases e1 : m = i
    · subst e1
      by_cases e2 : m = j
      · subst e2
        rw [if_pos rfl, hj, hx]
      · rw [if_neg e2, if_pos rfl, hj, hx]
    · rw [if_neg (by omega), if_neg e1]
      exact h.done m (by omega) h2
theorem drJ_bound {p : List Int} (hp : goodTo p p.length) {k : Nat} (hk : k + 1 < p.length + 0) : 0 ≤ drJ p k ∧ drJ p k < (p.length : Int) - (k : Int) := by
  obtain ⟨i, hi⟩ : ∃ i, i + k + 1 = p.length := ⟨p.length - 1 - k, by omega⟩
  obtain ⟨x, j, hx, hj, e, hji⟩ := dr_place hp (drInv hp k (by omega)) hi
  rw [e]
  omega
/-- With its draws, Shuffle makes the permutation. -/
theorem many_dr {p : List Int} (hp : goodTo p p.length) : manyL (drL p) 0 (bndsL p.length (p.length - 1)) = drL p := by
  apply List.ext_getElem?
  intro k
  by_cases hk : k < p.length - 1
  · have hb := drJ_bound hp (k := k) (by omega)
    rw [manyL_get (drL p) 0 _ k _ _ (by rw [Nat.zero_add]; exact drL_get hk) (bndsL_get _ _ k hk), drL_get hk, Int.emod_eq_of_lt hb.1 hb.2]
  · rw [List.getElem?_eq_none (by rw [manyL_length _ _ _ (by rw [bndsL_length, drL_length]; omega), bndsL_length]; omega), List.getElem?_eq_none (by rw [drL_length]; omega)]
theorem shuf_dr {p : List Int} (hp : goodTo p p.length) : ∀ k, k ≤ p.length - 1 → shufTo p.length (drL p) k = drR p k
  | 0, _ => rfl
  | k + 1, hk => by
    obtain ⟨i, hi⟩ : ∃ i, i + k + 1 = p.length := ⟨p.length - 1 - k, by omega⟩
    have h := drInv hp k (by omega)
    obtain ⟨x, j, hx, hj, e, hji⟩ := dr_place hp h hi
    rw [shufTo, shuf_dr hp k (by omega), drR_swap hi hx hj e hji h.len, show p.length - 1 - k = i by omega, show (drL p).getD k 0 = drJ p k by simp [List.getD, drL_get (show k < p.length - 1 by omega)], e]
    rfl
theorem shuf_all {p : List Int} (hp : goodTo p p.length) : shufTo p.length (drL p) (p.length - 1) = p := by
  rw [shuf_dr hp _ (Nat.le_refl _)]
  have h := drInv hp (p.length - 1) (Nat.le_refl _)
  apply List.ext_getElem?
  intro m
  by_cases hm : m < p.length
  · by_cases h0 : m = 0
    · subst h0
      obtain ⟨x, j, hx, hj, e, hji⟩ := dr_place hp h (i := 0) (by omega)
      obtain rfl : j = 0 := by omega
      rw [hj, hx]
    · exact h.done m (by omega) hm
  · rw [List.getElem?_eq_none (by rw [h.len]; omega), List.getElem?_eq_none (by omega)]

/-- The code's two lists behind k steps: the numbers that are left, and their places. -/
def DrSt (p : List Int) (k : Nat) (Q T : List Int) : Prop :=
  Q.length = p.length ∧ T.length = p.length ∧ ∀ m x, m < p.length - k → (drR p k)[m]? = some x → Q[m]? = some x ∧ T[x.toNat]? = some (m : Int)
theorem drSt_zero (p : List Int) : DrSt p 0 (iotaL p.length) (iotaL p.length) := by
  refine ⟨iotaL_length _, iotaL_length _, fun m x hm hx => ?_⟩
  have hx' : (iotaL p.length)[m]? = some x := hx
  refine ⟨hx', ?_⟩
  rw [iotaL_get _ _ (by omega)] at hx'
  injection hx' with hx'
  subst hx'
  exact iotaL_get _ _ (by omega)
/-- One step of the code. -/
theorem drSt_step {p : List Int} (hp : goodTo p p.length) {k i : Nat} {Q T : List Int} (h : DrSt p k Q T) (hi : i + k + 1 = p.length) (hi0 : 0 < i) :
    ∃ x y j : Nat, p[i]? = some (x : Int) ∧ x < p.length ∧ y < p.length ∧ T[x]? = some (j : Int) ∧ drJ p k = j ∧ j ≤ i ∧ Q[i]? = some (y : Int) ∧ DrSt p (k + 1) (Q.set j y) (T.set y j) := by
  have hv := drInv hp k (by omega)
  obtain ⟨x, j, hx, hj, e, hji⟩ := dr_place hp hv hi
  have hxb := (hp i x (by omega) hx).1
  obtain ⟨y, hy⟩ : ∃ y, (drR p k)[i]? = some y := ⟨_, List.getElem?_eq_getElem (by rw [hv.len]; omega)⟩
  have hyb := (hv.good i y (by rw [hv.len]; omega) hy).1
  rw [hv.len] at hyb
  obtain ⟨q1, q2⟩ := h.2.2 j x (by omega) hj
  obtain ⟨q3, q4⟩ := h.2.2 i y (by omega) hy
  refine ⟨x.toNat, y.toNat, j, by rw [hx]; congr 1; omega, by omega, by omega, q2, e, hji, by rw [q3]; congr 1; omega, by rw [List.length_set]; exact h.1, by rw [List.length_set]; exact h.2.1, fun m z hm hz => ?_⟩
  have hs := drR_swap hi hx hj e hji hv.len
  have hil : i < (drR p k).length := by rw [hv.len]; omega
  have hjl : j < (drR p k).length := by rw [hv.len]; omega
  have hyy : ((y.toNat : Nat) : Int) = y := by omega
  rw [hs, swapL_get hil hjl] at hz
  rw [List.getElem?_set, List.getElem?_set, h.1, h.2.1]
  by_cases e1 : m = j
  · subst e1
    rw [if_pos rfl, hy] at hz
    injection hz with hz
    subst hz
    rw [if_pos rfl, if_pos (by omega), if_pos rfl, if_pos (by omega), hyy]
    exact ⟨rfl, rfl⟩
  · rw [if_neg e1, if_neg (by omega)] at hz
    obtain ⟨q5, q6⟩ := h.2.2 m z (by omega) hz
    have hzb := (hv.good m z (by rw [hv.len]; omega) hz).1
    have hne : y.toNat ≠ z.toNat := fun e2 => by
      have e3 : y = z := by omega
      subst e3
      have := good_inj hv.good hy hz
      omega
    rw [if_neg (fun e => e1 e.symm), if_neg hne]
    exact ⟨q5, q6⟩

end Go.Proofs.Ytncjfijpaheobaa
