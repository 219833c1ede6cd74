/-
  Launched and updated buckets, in plain Lean.
-/
import Derived.Test.YtkecpbdgcbgogaaPlanNear
namespace Go.Proofs.Ytkecpbdgcbgogaa
set_option linter.unusedVariables false
set_option linter.unusedSimpArgs false
set_option maxRecDepth 100000

/-- What is asked behind an item: not more updated than launched, at most a window, and nothing sent or received where none is open. -/
def chkW (win k a b : Int) : Bool := decide (0 ≤ a - b) && (decide (a - b ≤ win) && !(decide (a = b) && (decide (k = 3) || decide (k = 4))))
def nxa (y : RItem) (a : Int) : Int := if y.1.1 = 2 then a + 1 else a
def nxb (y : RItem) (b : Int) : Int := if y.1.1 = 5 then b + 1 else b
def condW (win : Int) (y : RItem) (a b : Int) : Bool := (decide (y.1.1 ≠ 2) || decide (y.1.2.2 = a)) && ((decide (y.1.1 ≠ 5) || decide (y.1.2.2 = b)) && chkW win y.1.1 (nxa y a) (nxb y b))
def stepW (win : Int) : List RItem → Int → Int → Option (Int × Int)
  | [], a, b => some (a, b)
  | y :: l, a, b => if condW win y a b = true then stepW win l (nxa y a) (nxb y b) else none
theorem condW_spec {win : Int} {y : RItem} {a b : Int} : condW win y a b = true ↔ (y.1.1 = 2 → y.1.2.2 = a) ∧ (y.1.1 = 5 → y.1.2.2 = b) ∧ chkW win y.1.1 (nxa y a) (nxb y b) = true := by
  simp only [condW, Bool.and_eq_true, Bool.or_eq_true, decide_eq_true_eq]
  constructor
  · rintro ⟨h1, h2, h3⟩
    exact ⟨fun e => h1.resolve_left (fun h => h e), fun e => h2.resolve_left (fun h => h e), h3⟩
  · rintro ⟨h1, h2, h3⟩
    refine ⟨?_, ?_, h3⟩
    · by_cases e : y.1.1 = 2
      · exact .inr (h1 e)
      · exact .inl e
    · by_cases e : y.1.1 = 5
      · exact .inr (h2 e)
      · exact .inl e
theorem chkW_spec {win k a b : Int} (h : chkW win k a b = true) : 0 ≤ a - b ∧ a - b ≤ win ∧ (a = b → k ≠ 3 ∧ k ≠ 4) := by
  simp only [chkW, Bool.and_eq_true, Bool.not_eq_true', Bool.and_eq_false_iff, Bool.or_eq_false_iff, decide_eq_true_eq, decide_eq_false_iff_not] at h
  obtain ⟨h1, h2, h3⟩ := h
  refine ⟨h1, h2, fun e => ?_⟩
  rcases h3 with h3 | h3
  · exact absurd e h3
  · exact h3
theorem chkW_mk {win k a b : Int} (h1 : 0 ≤ a - b) (h2 : a - b ≤ win) (h3 : a = b → k ≠ 3 ∧ k ≠ 4) : chkW win k a b = true := by
  simp only [chkW, Bool.and_eq_true, Bool.not_eq_true', Bool.and_eq_false_iff, Bool.or_eq_false_iff, decide_eq_true_eq, decide_eq_false_iff_not]
  refine ⟨h1, h2, ?_⟩
  by_cases e : a = b
  · exact .inr (h3 e)
  · exact .inl e
theorem runs_app {win : Int} {l1 l2 : List RItem} {a b a1 b1 a2 b2 : Int} (h1 : stepW win l1 a b = some (a1, b1)) (h2 : stepW win l2 a1 b1 = some (a2, b2)) : stepW win (l1 ++ l2) a b = some (a2, b2) := by
  induction l1 generalizing a b with
  | nil =>
    unfold stepW at h1
    injection h1 with h1
    injection h1 with e1 e2
    subst e1 e2
    exact h2
  | cons y l1 ih =>
    rw [List.cons_append]
    unfold stepW at h1 ⊢
    by_cases hc : condW win y a b = true
    · rw [if_pos hc] at h1 ⊢
      exact ih h1
    · rw [if_neg hc] at h1
      cases h1
/-- What an item that is passed tells. -/
theorem stepW_cons {win : Int} {y : RItem} {l : List RItem} {a b : Int} {r : Int × Int} (h : stepW win (y :: l) a b = some r) :
    (y.1.1 = 2 → y.1.2.2 = a ∧ chkW win 2 (a + 1) b = true ∧ stepW win l (a + 1) b = some r) ∧ (y.1.1 = 5 → y.1.2.2 = b ∧ chkW win 5 a (b + 1) = true ∧ stepW win l a (b + 1) = some r) ∧
      (y.1.1 ≠ 2 → y.1.1 ≠ 5 → chkW win y.1.1 a b = true ∧ stepW win l a b = some r) := by
  unfold stepW at h
  by_cases hc : condW win y a b = true
  · rw [if_pos hc] at h
    obtain ⟨h1, h2, h3⟩ := condW_spec.1 hc
    refine ⟨fun e => ?_, fun e => ?_, fun e1 e2 => ?_⟩
    · rw [nxa, if_pos e, nxb, if_neg (by omega)] at h h3
      rw [e] at h3
      exact ⟨h1 e, h3, h⟩
    · rw [nxa, if_neg (by omega), nxb, if_pos e] at h h3
      rw [e] at h3
      exact ⟨h2 e, h3, h⟩
    · rw [nxa, if_neg e1, nxb, if_neg e2] at h h3
      exact ⟨h3, h⟩
  · rw [if_neg hc] at h
    cases h
theorem runs_other {win : Int} {y : RItem} {a b : Int} (h2 : y.1.1 ≠ 2) (h5 : y.1.1 ≠ 5) (hc : chkW win y.1.1 a b = true) : stepW win [y] a b = some (a, b) := by
  have ea : nxa y a = a := if_neg h2
  have eb : nxb y b = b := if_neg h5
  unfold stepW
  rw [if_pos (condW_spec.2 ⟨fun e => absurd e h2, fun e => absurd e h5, by rw [ea, eb]; exact hc⟩), ea, eb]
  rfl
theorem runs_all {win : Int} : ∀ (l : List RItem) (a b : Int), (∀ y ∈ l, y.1.1 = 3 ∨ y.1.1 = 4) → a ≠ b → 0 ≤ a - b → a - b ≤ win → stepW win l a b = some (a, b)
  | [], a, b, _, _, _, _ => rfl
  | y :: l, a, b, h, hne, h0, h1 => by
    have hy := h y (by simp)
    exact runs_app (l1 := [y]) (runs_other (by omega) (by omega) (chkW_mk h0 h1 (fun e => absurd e hne))) (runs_all l a b (fun z hz => h z (by simp [hz])) hne h0 h1)
theorem runs_ones {win : Int} (hw : 0 ≤ win) (t : Int) : ∀ n, stepW win (rangeI 1 t 0 n) 0 0 = some (0, 0)
  | 0 => rfl
  | n + 1 => by
    rw [rangeI_succ]
    exact runs_app (runs_ones hw t n) (runs_other (y := plainI 1 t _) (show (1 : Int) ≠ 2 by omega) (show (1 : Int) ≠ 5 by omega) (chkW_mk (by omega) (by omega) (fun _ => ⟨show (1 : Int) ≠ 3 by omega, show (1 : Int) ≠ 4 by omega⟩)))
theorem runs_launch {win : Int} (t : Int) (lo : Nat) (n : Nat) (h : (n : Int) ≤ win) : stepW win (rangeI 2 t lo n) (lo : Int) (lo : Int) = some (((lo + n : Nat) : Int), (lo : Int)) := by
  induction n with
  | zero => rfl
  | succ n ih =>
    rw [rangeI_succ]
    refine runs_app (ih (by omega)) ?_
    have e : ((lo + (n + 1) : Nat) : Int) = ((lo + n : Nat) : Int) + 1 := by omega
    rw [e]
    have ea : nxa (plainI 2 t ((lo + n : Nat) : Int)) ((lo + n : Nat) : Int) = ((lo + n : Nat) : Int) + 1 := if_pos rfl
    have eb : nxb (plainI 2 t ((lo + n : Nat) : Int)) (lo : Int) = (lo : Int) := if_neg (by decide : ¬ (2 : Int) = 5)
    have hc : condW win (plainI 2 t ((lo + n : Nat) : Int)) ((lo + n : Nat) : Int) (lo : Int) = true := condW_spec.2 ⟨fun _ => rfl, fun h => absurd (show (2 : Int) = 5 from h) (by decide), by
      rw [ea, eb]
      show chkW win 2 _ _ = true
      exact chkW_mk (by omega) (by omega) (fun _ => ⟨by decide, by decide⟩)⟩
    unfold stepW
    rw [if_pos hc, ea, eb]
    rfl
theorem runs_update {win : Int} (t : Int) (lo m : Nat) (h : (m : Int) ≤ win) (n : Nat) (hn : n ≤ m) : stepW win (rangeI 5 t lo n) ((lo + m : Nat) : Int) (lo : Int) = some (((lo + m : Nat) : Int), ((lo + n : Nat) : Int)) := by
  induction n with
  | zero => rfl
  | succ n ih =>
    rw [rangeI_succ]
    refine runs_app (ih (by omega)) ?_
    have e : ((lo + (n + 1) : Nat) : Int) = ((lo + n : Nat) : Int) + 1 := by omega
    rw [e]
    have ea : nxa (plainI 5 t ((lo + n : Nat) : Int)) ((lo + m : Nat) : Int) = ((lo + m : Nat) : Int) := if_neg (by decide : ¬ (5 : Int) = 2)
    have eb : nxb (plainI 5 t ((lo + n : Nat) : Int)) ((lo + n : Nat) : Int) = ((lo + n : Nat) : Int) + 1 := if_pos rfl
    have hc : condW win (plainI 5 t ((lo + n : Nat) : Int)) ((lo + m : Nat) : Int) ((lo + n : Nat) : Int) = true := condW_spec.2 ⟨fun h => absurd (show (5 : Int) = 2 from h) (by decide), fun _ => rfl, by
      rw [ea, eb]
      show chkW win 5 _ _ = true
      exact chkW_mk (by omega) (by omega) (fun _ => ⟨by decide, by decide⟩)⟩
    unfold stepW
    rw [if_pos hc, ea, eb]
    rfl
theorem PlC.rnd_kinds (c : PlC) (w t : Int) (lo n k : Nat) : ∀ y ∈ c.rndI w t lo n k, y.1.1 = 3 ∨ y.1.1 = 4 := by
  intro y hy
  unfold PlC.rndI PlC.jobsI PlC.jobI at hy
  simp only [List.mem_flatMap, List.mem_range] at hy
  obtain ⟨q, _, i, _, hy⟩ := hy
  split at hy
  · obtain ⟨a, _, rfl⟩ := List.mem_map.1 hy
    unfold actI
    dsimp only
    split
    · exact .inl rfl
    · exact .inr rfl
  · cases hy
theorem PlC.rnd_zero (c : PlC) (w t : Int) (lo k : Nat) : c.rndI w t lo 0 k = [] := by
  unfold PlC.rndI PlC.jobsI
  simp
theorem PlC.runs_group (c : PlC) (w t win : Int) (lo n : Nat) (hn : (n : Int) ≤ win) : stepW win (c.groupI w t lo n) lo lo = some (((lo + n : Nat) : Int), ((lo + n : Nat) : Int)) := by
  unfold PlC.groupI
  refine runs_app (runs_app (runs_launch t lo n hn) ?_) (runs_update t lo n hn n (Nat.le_refl _))
  by_cases h0 : n = 0
  · subst h0
    rw [c.rnd_zero]
    rfl
  · exact runs_all _ _ _ (c.rnd_kinds w t lo n _) (by omega) (by omega) (by omega)
theorem PlC.runs_grps (c : PlC) (h : c.Ok) (w t : Int) : ∀ k, k ≤ cnt c.nb c.wi → stepW c.wi (c.grpsI w t k) 0 0 = some (((min (k * c.wi) c.nb : Nat) : Int), ((min (k * c.wi) c.nb : Nat) : Int))
  | 0, _ => by simp [PlC.grpsI, stepW]
  | k + 1, hk => by
    have ih := c.runs_grps h w t k (by omega)
    have hkl : k < c.grps.length := by rw [c.grps_length]; omega
    rw [c.grpsI_succ w t k _ (List.getElem?_eq_getElem hkl)]
    refine runs_app ih ?_
    have hle : k * c.wi < c.nb := by
      rw [cnt_pos _ _ (PlC.nb_pos h) h.w1] at hk
      have h1 : k ≤ (c.nb - 1) / c.wi := by omega
      have h2 : k * c.wi ≤ (c.nb - 1) / c.wi * c.wi := Nat.mul_le_mul_right _ h1
      have h3 := Nat.div_mul_le_self (c.nb - 1) c.wi
      have h4 := PlC.nb_pos h
      omega
    have hg : c.grps[k] = (((k * c.wi : Nat) : Int), ((k * c.wi + min c.wi (c.nb - k * c.wi) : Nat) : Int)) := blocksL_get _ _ k hkl
    rw [hg]
    unfold PlC.groupG
    dsimp only
    rw [Int.toNat_natCast, show (((k * c.wi + min c.wi (c.nb - k * c.wi) : Nat) : Int) - ((k * c.wi : Nat) : Int)).toNat = min c.wi (c.nb - k * c.wi) by omega, show min (k * c.wi) c.nb = k * c.wi by omega]
    have := c.runs_group w t c.wi (k * c.wi) (min c.wi (c.nb - k * c.wi)) (by omega)
    rw [show min ((k + 1) * c.wi) c.nb = k * c.wi + min c.wi (c.nb - k * c.wi) by rw [Nat.add_mul, Nat.one_mul]; omega]
    exact this
/-- In each step, all buckets are launched and updated in order, at most a window of them open. -/
theorem PlC.runs_items (c : PlC) (h : c.Ok) (w t : Int) : stepW c.wi (c.itemsI w t) 0 0 = some ((c.nb : Int), (c.nb : Int)) := by
  unfold PlC.itemsI
  have hg := c.runs_grps h w t _ (Nat.le_refl _)
  have e : min (cnt c.nb c.wi * c.wi) c.nb = c.nb := by
    rw [cnt_pos _ _ (PlC.nb_pos h) h.w1, Nat.add_mul, Nat.one_mul]
    have := Nat.div_add_mod (c.nb - 1) c.wi
    have := Nat.mod_lt (c.nb - 1) (show 0 < c.wi by have := h.w1; omega)
    have : c.wi * ((c.nb - 1) / c.wi) = (c.nb - 1) / c.wi * c.wi := Nat.mul_comm _ _
    omega
  rw [e] at hg
  refine runs_app (runs_app (runs_ones (by omega) t c.mi) hg) ?_
  exact runs_other (y := plainI 6 t 0) (show (6 : Int) ≠ 2 by omega) (show (6 : Int) ≠ 5 by omega) (chkW_mk (by omega) (by omega) (fun _ => ⟨show (6 : Int) ≠ 3 by omega, show (6 : Int) ≠ 4 by omega⟩))

end Go.Proofs.Ytkecpbdgcbgogaa
