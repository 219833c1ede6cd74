/-
  Reversing a list by exchanges, and collecting elements of one cell each; nothing here speaks of the program.
-/
import Derived.Test.YtkecpbdgcbgogaaOpen
namespace Go.Proofs.Ytkecpbdgcbgogaa
set_option linter.unusedVariables false
set_option linter.unusedSimpArgs false
open Go.RowKit

/-- The list behind k exchanges of its ends. -/
def revK {α : Type} (l : List α) (k : Nat) : List α := (List.range l.length).filterMap fun x => if x < k ∨ l.length - k ≤ x then l[l.length - 1 - x]? else l[x]?
theorem filterMap_get {α β : Type} (f : α → Option β) (l : List α) (h : ∀ x ∈ l, (f x).isSome = true) (i : Nat) : (l.filterMap f)[i]? = (l[i]?).bind f := by
  induction l generalizing i with
  | nil => simp
  | cons a l ih =>
    obtain ⟨b, hb⟩ := Option.isSome_iff_exists.1 (h a (by simp))
    rw [List.filterMap_cons_some hb]
    cases i with
    | zero => simp [hb]
    | succ i => simpa using ih (fun x hx => h x (by simp [hx])) i
theorem revK_some {α : Type} (l : List α) (k : Nat) : ∀ x ∈ List.range l.length, ((fun x => if x < k ∨ l.length - k ≤ x then l[l.length - 1 - x]? else l[x]?) x).isSome = true := by
  intro x hx
  simp only [List.mem_range] at hx
  dsimp only
  split
  · rw [List.getElem?_eq_getElem (by omega)]; rfl
  · rw [List.getElem?_eq_getElem hx]; rfl
theorem revK_get {α : Type} (l : List α) (k x : Nat) (hx : x < l.length) : (revK l k)[x]? = if x < k ∨ l.length - k ≤ x then l[l.length - 1 - x]? else l[x]? := by
  unfold revK
  rw [filterMap_get _ _ (revK_some l k), List.getElem?_range hx]
  rfl
theorem revK_length {α : Type} (l : List α) (k : Nat) : (revK l k).length = l.length := by
  apply Nat.le_antisymm
  · exact Nat.le_trans (List.length_filterMap_le _ _) (by simp)
  · rcases Nat.lt_or_ge (revK l k).length l.length with h | h
    · have h1 := revK_get l k (revK l k).length h
      rw [List.getElem?_eq_none (Nat.le_refl _)] at h1
      exfalso
      split at h1
      · rw [List.getElem?_eq_getElem (by omega)] at h1; cases h1
      · rw [List.getElem?_eq_getElem h] at h1; cases h1
    · exact h
theorem revK_zero {α : Type} (l : List α) : revK l 0 = l := by
  apply List.ext_getElem?
  intro i
  by_cases h : i < l.length
  · rw [revK_get l 0 i h, if_neg (by omega)]
  · rw [List.getElem?_eq_none (by rw [revK_length]; omega), List.getElem?_eq_none (by omega)]
theorem revK_done {α : Type} (l : List α) (k : Nat) (h : l.length ≤ 2 * k + 1) : revK l k = l.reverse := by
  apply List.ext_getElem?
  intro i
  by_cases hi : i < l.length
  · rw [revK_get l k i hi, List.getElem?_reverse hi]
    split
    · rfl
    · congr 1; omega
  · rw [List.getElem?_eq_none (by rw [revK_length]; omega), List.getElem?_eq_none (by simp; omega)]
theorem revK_next {α : Type} (l : List α) (k j : Nat) (a b : α) (hj : k + j + 1 = l.length) (hlt : k < j) (ha : (revK l k)[k]? = some a) (hb : (revK l k)[j]? = some b) : ((revK l k).set k b).set j a = revK l (k + 1) := by
  apply List.ext_getElem?
  intro i
  by_cases hi : i < l.length
  · rw [List.getElem?_set, List.getElem?_set, revK_get l (k + 1) i hi]
    rw [revK_get l k k (by omega), if_neg (by omega)] at ha
    rw [revK_get l k j (by omega), if_neg (by omega)] at hb
    by_cases e1 : j = i
    · subst e1
      rw [if_pos rfl, if_pos (by simp [revK_length]; omega), if_pos (by omega), ← ha]
      congr 1; omega
    · rw [if_neg e1]
      by_cases e2 : k = i
      · subst e2
        rw [if_pos rfl, if_pos (by rw [revK_length]; omega), if_pos (by omega), ← hb]
        congr 1; omega
      · rw [if_neg e2, revK_get l k i hi]
        by_cases h3 : i < k ∨ l.length - k ≤ i
        · rw [if_pos h3, if_pos (by omega)]
        · rw [if_neg h3, if_neg (by omega)]
  · rw [List.getElem?_eq_none (by simp [revK_length]; omega), List.getElem?_eq_none (by rw [revK_length]; omega)]
/-- Exchanging two cells of a row of the call's own. -/
theorem own_swap1 {w : World} {base : Nat} {e : TypeId} {g n cap : Nat} {L : List Value} (h : w.ownsRow base e 1 (.slice (some ⟨g, 0, none⟩) n cap) n L) (k j : Nat) (x y : Value) :
    ((w.setCell ⟨g, k, none⟩ y).setCell ⟨g, j, none⟩ x).drew.ownsRow base e 1 (.slice (some ⟨g, 0, none⟩) n cap) n ((L.set k y).set j x) ∧ w.grownBy ((w.setCell ⟨g, k, none⟩ y).setCell ⟨g, j, none⟩ x).drew (some g) := by
  obtain ⟨s1, g1⟩ := h.stored k y
  obtain ⟨s2, g2⟩ := s1.stored j x
  refine ⟨s2, ?_⟩
  have h := g1.trans g2
  exact ⟨h.os, h.tape, h.output, h.size, h.block⟩

/-- What a loop that collects elements of one cell has at its head. -/
def Coll1 (w : World) (e : TypeId) (l : List Value) (k : Nat) (v : Value) (wr : World) : Prop :=
  (∃ A cap, v = .slice A k cap) ∧ wr.ownsRow w.heap.size e 1 v k (l.take k) ∧ Below w.heap.size w wr
theorem Coll1.start (w : World) (e : TypeId) (l : List Value) : Coll1 w e l 0 (.slice none 0 0) w := ⟨⟨_, _, rfl⟩, by simpa using World.ownsRow_nil w w.heap.size e 1, Below.refl _ _⟩
theorem Coll1.next {w wr w1 : World} {e : TypeId} {l : List Value} {k : Nat} {v : Value} {A : Option Addr} {cap : Nat} {x : Value} (h : Coll1 w e l k v wr) (hx : Hid (l[k]? = some x))
    (hown : w1.ownsRow w.heap.size e 1 (.slice A (k + 1) cap) (k + 1) (l.take k ++ [x])) (hb : Below w.heap.size wr w1) : Coll1 w e l (k + 1) (.slice A (k + 1) cap) w1 := by
  obtain ⟨hk, hx⟩ := List.getElem?_eq_some_iff.1 hx.out
  refine ⟨⟨_, _, rfl⟩, ?_, h.2.2.trans hb⟩
  rw [List.take_succ_eq_append_getElem hk, hx]
  exact hown
theorem Coll1.done {w wr : World} {e : TypeId} {l : List Value} {k n : Nat} {v : Value} (h : Coll1 w e l k v wr) (hl : Hid (l.length = n)) (hk : k ≤ n) (hlt : ¬ k < n) : OwnRet w e 1 n l (.returned v) wr := by
  obtain rfl : k = n := by omega
  obtain ⟨A, cap, rfl⟩ := h.1
  have hown := h.2.1
  rw [List.take_of_length_le (by have := hl.out; omega)] at hown
  exact ⟨A, cap, rfl, hown, h.2.2⟩

end Go.Proofs.Ytkecpbdgcbgogaa
