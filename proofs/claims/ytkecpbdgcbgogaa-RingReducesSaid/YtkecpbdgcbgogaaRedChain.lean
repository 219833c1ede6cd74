/-
  The actions that receive in a round lie one behind the other; a row that is reduced piece by piece.
-/
import Derived.Test.YtkecpbdgcbgogaaRedPlain
import Derived.Test.YtkecpbdgcbgogaaActions
namespace Go.Proofs.Ytkecpbdgcbgogaa
set_option linter.unusedVariables false
set_option linter.unusedSimpArgs false
open Go.RowKit

def chainC : List (Int × Int) → Int → Int → Prop
  | [], e, e' => e = e'
  | c :: l, e, e' => c.1 = e ∧ e ≤ c.2 ∧ chainC l c.2 e'
theorem chainC_snoc {l : List (Int × Int)} {e e1 : Int} {c : Int × Int} (h : chainC l e e1) (h1 : c.1 = e1) (h2 : e1 ≤ c.2) : chainC (l ++ [c]) e c.2 := by
  induction l generalizing e with
  | nil =>
    have h' : e = e1 := h
    subst h'
    exact ⟨h1, h2, rfl⟩
  | cons d l ih => exact ⟨h.1, h.2.1, ih h.2.2⟩
theorem chainC_shift {l : List (Int × Int)} {e e' : Int} (b : Int) (h : chainC l e e') : chainC (shiftL l b) (e + b) (e' + b) := by
  induction l generalizing e with
  | nil =>
    have h' : e = e' := h
    subst h'
    rfl
  | cons d l ih =>
    obtain ⟨h1, h2, h3⟩ := h
    exact ⟨by show d.1 + b = e + b; omega, by show e + b ≤ d.2 + b; omega, ih h3⟩
theorem blocks_chain (n s : Nat) (hn : 1 ≤ n) (hs : 1 ≤ s) : ∀ k, k ≤ cnt n s → chainC ((blocksL n s).take k) 0 ((min (k * s) n : Nat) : Int)
  | 0, _ => by simp [chainC]
  | k + 1, hk => by
    have ih := blocks_chain n s hn hs k (by omega)
    have hkl : k < (blocksL n s).length := by rw [blocksL_length]; omega
    have hle : k * s < n := by
      rw [cnt_pos n s hn hs] at hk
      have h1 : k ≤ (n - 1) / s := by omega
      have h2 : k * s ≤ (n - 1) / s * s := Nat.mul_le_mul_right s h1
      have h3 := Nat.div_mul_le_self (n - 1) s
      omega
    rw [take_snoc _ _ hkl]
    have e : ((min ((k + 1) * s) n : Nat) : Int) = (blocksL n s)[k].2 := by
      rw [blocksL_get]
      dsimp only
      rw [Nat.add_mul, Nat.one_mul]
      omega
    rw [e]
    refine chainC_snoc ih ?_ ?_
    · rw [blocksL_get]; dsimp only; omega
    · rw [blocksL_get]; dsimp only; omega
theorem chunks_chain (x y s : Int) (h : x ≤ y) (hs : 1 ≤ s) : chainC (chunksL x y s) x y := by
  unfold chunksL blocksI
  by_cases h0 : y - x < 1
  · rw [if_pos (.inl h0)]
    have : x = y := by omega
    subst this
    rfl
  · rw [if_neg (by omega)]
    have hb := blocks_chain (y - x).toNat s.toNat (by omega) (by omega) _ (Nat.le_refl _)
    rw [List.take_of_length_le (by rw [blocksL_length]; exact Nat.le_refl _)] at hb
    have hc := chainC_shift x hb
    have e1 : min (cnt (y - x).toNat s.toNat * s.toNat) (y - x).toNat = (y - x).toNat := by
      rw [cnt_pos _ _ (by omega) (by omega), Nat.add_mul, Nat.one_mul]
      have h1 := Nat.div_add_mod ((y - x).toNat - 1) s.toNat
      have h2 := Nat.mod_lt ((y - x).toNat - 1) (show 0 < s.toNat by omega)
      have h3 : s.toNat * (((y - x).toNat - 1) / s.toNat) = ((y - x).toNat - 1) / s.toNat * s.toNat := Nat.mul_comm _ _
      omega
    rw [e1, Int.zero_add, show (((y - x).toNat : Nat) : Int) + x = y by omega] at hc
    exact hc

/-- The actions that receive lie one behind the other. -/
def chainR (p : Int) : List RAct → Int → Int → Prop
  | [], e, e' => e = e'
  | a :: l, e, e' => if a.1.1 = true then chainR p l e e' else a.1.2 = decide (p = 0) ∧ a.2.2.1 = e ∧ e ≤ a.2.2.2 ∧ chainR p l a.2.2.2 e'
theorem chainR_app {p : Int} {l k : List RAct} {e e1 e2 : Int} (h : chainR p l e e1) (h2 : chainR p k e1 e2) : chainR p (l ++ k) e e2 := by
  induction l generalizing e with
  | nil =>
    have h' : e = e1 := h
    subst h'
    exact h2
  | cons a l ih =>
    rw [List.cons_append]
    unfold chainR at h ⊢
    by_cases hs : a.1.1 = true
    · rw [if_pos hs] at h ⊢
      exact ih h
    · rw [if_neg hs] at h ⊢
      exact ⟨h.1, h.2.1, h.2.2.1, ih h.2.2.2⟩
theorem chain_rdTo (s b p r : Int) (xs ys : List (Int × Int)) (e e' : Int) (h : chainC ys e e') : ∀ k, ∃ f, chainR p (rdTo s b p r xs ys k) e f ∧ chainC (ys.drop k) f e'
  | 0 => ⟨e, rfl, h⟩
  | k + 1 => by
    obtain ⟨f, h1, h2⟩ := chain_rdTo s b p r xs ys e e' h k
    rw [rdTo_succ, rdAt_eq]
    have hs : chainR p (sendAt s b p r xs k) f f := by
      unfold sendAt
      cases xs[k]? <;> rfl
    cases hy : ys[k]? with
    | none =>
      have hl : ys.length ≤ k := by
        rcases Nat.lt_or_ge k ys.length with h' | h'
        · rw [List.getElem?_eq_getElem h'] at hy; cases hy
        · exact h'
      refine ⟨f, chainR_app h1 (chainR_app hs ?_), ?_⟩
      · unfold recvAt; rw [hy]; rfl
      · rw [List.drop_eq_nil_of_le hl] at h2
        rw [List.drop_eq_nil_of_le (by omega)]
        exact h2
    | some y =>
      obtain ⟨hk, hyk⟩ := List.getElem?_eq_some_iff.1 hy
      rw [List.drop_eq_getElem_cons hk, hyk] at h2
      obtain ⟨h3, h4, h5⟩ := h2
      refine ⟨y.2, chainR_app h1 (chainR_app hs ?_), h5⟩
      unfold recvAt
      rw [hy]
      exact ⟨rfl, h3, h4, rfl⟩
theorem chain_rY (s b lo hi : Int) (m : Nat) (c : Int) (w p r : Nat) (h1 : lo ≤ hi) (hc : 1 ≤ c) (hw : w < m) (hp : p = 0 ∨ p = 1) (hr : r + 1 < m) :
    chainR p (rY s b lo hi m c w p r) (segR lo hi m (rqN m p r w)).1 (segR lo hi m (rqN m p r w)).2 := by
  have hq : rqN m p r w < m := rqN_lt m p r w (by omega)
  obtain ⟨a1, a2, a3⟩ := segR_in lo hi m (rqN m p r w) h1 (by omega)
  unfold rY
  rw [if_pos ⟨by omega, by omega, by omega, by omega, by omega⟩]
  unfold roundR roundL
  obtain ⟨f, h2, h3⟩ := chain_rdTo s b p r (chS lo hi m c (((w : Int) - r + p) % m).toNat) (chS lo hi m c (((w : Int) - r + p - 1) % m).toNat) _ _ (chunks_chain _ _ c a2 hc) (max (chS lo hi m c (((w : Int) - r + p) % m).toNat).length (chS lo hi m c (((w : Int) - r + p - 1) % m).toNat).length)
  have hd : (chS lo hi m c (((w : Int) - r + p - 1) % m).toNat).drop (max (chS lo hi m c (((w : Int) - r + p) % m).toNat).length (chS lo hi m c (((w : Int) - r + p - 1) % m).toNat).length) = [] := List.drop_eq_nil_of_le (Nat.le_max_right _ _)
  have h4 : chainC [] f (segR lo hi m (rqN m p r w)).2 := by rw [← hd]; exact h3
  have h5 : f = (segR lo hi m (rqN m p r w)).2 := h4
  rw [← h5]
  exact h2

/-- A row in which the places from a to e hold what is new. -/
def curL (f new : Nat → Int) (a e : Int) (n : Nat) : List Int := (List.range n).map fun (i : Nat) => if a ≤ (i : Int) ∧ (i : Int) < e then new i else f i
def rowL2 (f : Nat → Int) (n : Nat) : List Int := (List.range n).map f
theorem curL_length (f new : Nat → Int) (a e : Int) (n : Nat) : (curL f new a e n).length = n := by simp [curL]
theorem rowL2_length (f : Nat → Int) (n : Nat) : (rowL2 f n).length = n := by simp [rowL2]
theorem curL_none (f new : Nat → Int) (a : Int) (n : Nat) : curL f new a a n = rowL2 f n := by
  unfold curL rowL2
  apply List.map_congr_left
  intro i _
  rw [if_neg (by omega)]
theorem rowL2_piece (f : Nat → Int) (n o k : Nat) (h : o + k ≤ n) : ((rowL2 f n).drop o).take k = (List.range k).map fun j => f (o + j) := by
  apply List.ext_getElem?
  intro i
  unfold rowL2
  by_cases hi : i < k
  · rw [List.getElem?_take_of_lt hi, List.getElem?_drop, List.getElem?_map, List.getElem?_map, List.getElem?_range (by omega), List.getElem?_range hi]
    rfl
  · rw [List.getElem?_eq_none (by simp; omega), List.getElem?_eq_none (by simp; omega)]
/-- A piece is added. -/
theorem curL_add (f old new : Nat → Int) (a : Int) (n o k : Nat) (ha : a ≤ o) (h : o + k ≤ n) (hnew : ∀ i, new i = wrap64 (f i + old i)) :
    addAt (curL f new a (o : Int) n) o ((List.range k).map fun j => old (o + j)) k = curL f new a ((o + k : Nat) : Int) n := by
  apply List.ext_getElem?
  intro i
  rw [addAt_get]
  unfold curL
  rw [List.getElem?_map, List.getElem?_map]
  by_cases hi : i < n
  · rw [List.getElem?_range hi]
    simp only [Option.map_some, Option.some.injEq]
    by_cases h1 : o ≤ i ∧ i < o + k
    · rw [if_pos h1, if_neg (by omega), if_pos (by omega), hnew]
      have : ((List.range k).map fun j => old (o + j)).getD (i - o) 0 = old i := by
        rw [List.getD_eq_getElem?_getD, List.getElem?_map, List.getElem?_range (by omega)]
        simp only [Option.map_some, Option.getD_some]
        congr 1
        omega
      rw [this]
    · rw [if_neg h1]
      by_cases h2 : a ≤ (i : Int) ∧ (i : Int) < o
      · rw [if_pos h2, if_pos (by omega)]
      · rw [if_neg h2, if_neg (by omega)]
  · rw [List.getElem?_eq_none (by simp; omega)]
    rfl
/-- A piece is laid over. -/
theorem curL_copy (f old : Nat → Int) (a : Int) (n o k : Nat) (ha : a ≤ o) (h : o + k ≤ n) :
    (curL f old a (o : Int) n).take o ++ (((List.range k).map fun j => old (o + j)) ++ (curL f old a (o : Int) n).drop (o + k)) = curL f old a ((o + k : Nat) : Int) n := by
  apply List.ext_getElem?
  intro i
  have hl := curL_length f old a (o : Int) n
  by_cases hi : i < n
  · have hr : (curL f old a ((o + k : Nat) : Int) n)[i]? = some (if a ≤ (i : Int) ∧ (i : Int) < ((o + k : Nat) : Int) then old i else f i) := by
      unfold curL
      rw [List.getElem?_map, List.getElem?_range hi]
      rfl
    have hg : ∀ x, x < n → (curL f old a (o : Int) n)[x]? = some (if a ≤ (x : Int) ∧ (x : Int) < (o : Int) then old x else f x) := fun x hx => by
      unfold curL
      rw [List.getElem?_map, List.getElem?_range hx]
      rfl
    rw [hr]
    by_cases h1 : i < o
    · rw [List.getElem?_append_left (by simp [hl]; omega), List.getElem?_take_of_lt h1, hg i hi]
      by_cases h2 : a ≤ (i : Int)
      · rw [if_pos (by omega), if_pos (by omega)]
      · rw [if_neg (by omega), if_neg (by omega)]
    · rw [List.getElem?_append_right (by simp [hl]; omega), show ((curL f old a (o : Int) n).take o).length = o by simp [hl]; omega]
      by_cases h2 : i < o + k
      · rw [List.getElem?_append_left (by simp; omega), List.getElem?_map, List.getElem?_range (by omega), if_pos (by omega)]
        simp only [Option.map_some, Option.some.injEq]
        congr 1
        omega
      · rw [List.getElem?_append_right (by simp; omega), List.length_map, List.length_range, List.getElem?_drop, show o + k + (i - o - k) = i by omega, hg i hi, if_neg (by omega), if_neg (by omega)]
  · rw [List.getElem?_eq_none (by simp [hl, curL_length]; omega), List.getElem?_eq_none (by rw [curL_length]; omega)]

end Go.Proofs.Ytkecpbdgcbgogaa
