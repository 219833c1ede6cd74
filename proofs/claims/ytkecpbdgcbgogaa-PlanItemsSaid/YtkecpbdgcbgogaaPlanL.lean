/-
  What a plan says, in plain Lean.
-/
import Derived.Test.YtkecpbdgcbgogaaPlPlain
import Derived.Test.YtkecpbdgcbgogaaBucketS
namespace Go.Proofs.Ytkecpbdgcbgogaa
set_option linter.unusedVariables false
set_option linter.unusedSimpArgs false
set_option maxRecDepth 100000

def zeroA : RAct := ((false, false), (0, 0, 0, 0, 0), (0, 0))
def plainI (k t n : Int) : RItem := ((k, t, n), zeroA)
def actI (t : Int) (a : RAct) : RItem := ((if a.1.1 = true then 3 else 4, t, 0), a)
def rangeI (k t : Int) (lo n : Nat) : List RItem := (List.range n).map fun i => plainI k t ((lo + i : Nat) : Int)
theorem rangeI_succ (k t : Int) (lo n : Nat) : rangeI k t lo (n + 1) = rangeI k t lo n ++ [plainI k t ((lo + n : Nat) : Int)] := by simp [rangeI, List.range_succ]
theorem rangeI_length (k t : Int) (lo n : Nat) : (rangeI k t lo n).length = n := by simp [rangeI]

/-- The numbers of a plan: parameters, size of a bucket, workers, size of a chunk, window, micro-batches. -/
structure PlC where
  P : Nat
  bu : Nat
  m : Nat
  ch : Int
  wi : Nat
  mi : Nat
/-- A small plan. -/
structure PlC.Ok (c : PlC) : Prop where
  p1 : 1 ≤ c.P
  p2 : c.P ≤ 60
  b1 : 1 ≤ c.bu
  b2 : c.bu ≤ 1048576
  m1 : 1 ≤ c.m
  m2 : c.m ≤ 8
  c2 : c.ch ≤ 1048576
  w1 : 1 ≤ c.wi
  w2 : c.wi ≤ 1048576
  i1 : 1 ≤ c.mi
  i2 : c.mi ≤ 20

def PlC.bks (c : PlC) : List (Int × Int) := bucketsL c.P c.bu
def PlC.nb (c : PlC) : Nat := cnt c.P c.bu
def PlC.grps (c : PlC) : List (Int × Int) := blocksL c.nb c.wi
theorem PlC.bks_length (c : PlC) : c.bks.length = c.nb := bucketsL_length _ _
theorem PlC.grps_length (c : PlC) : c.grps.length = cnt c.nb c.wi := blocksL_length _ _
theorem PlC.nb_le {c : PlC} (h : c.Ok) : c.nb ≤ 60 := by have := cnt_le c.P c.bu; have := h.p2; unfold PlC.nb; omega
theorem PlC.nb_pos {c : PlC} (h : c.Ok) : 1 ≤ c.nb := by unfold PlC.nb; rw [cnt_pos _ _ h.p1 h.b1]; exact Nat.le_add_left 1 _
theorem blocks_in (n s k : Nat) (x : Int × Int) (h : (blocksL n s)[k]? = some x) : 0 ≤ x.1 ∧ x.1 ≤ x.2 ∧ x.2 ≤ n ∧ x.2 - x.1 ≤ s := by
  have hk : k < (blocksL n s).length := by
    rcases Nat.lt_or_ge k (blocksL n s).length with h' | h'
    · exact h'
    · rw [List.getElem?_eq_none h'] at h; cases h
  rw [List.getElem?_eq_getElem hk] at h
  injection h with h
  rw [← h, blocksL_get]
  dsimp only
  rw [blocksL_length] at hk
  have hle : k * s ≤ n := by
    unfold cnt at hk
    split at hk
    · omega
    · have h1 : k ≤ (n - 1) / s := by omega
      have h2 : k * s ≤ (n - 1) / s * s := Nat.mul_le_mul_right s h1
      have h3 := Nat.div_mul_le_self (n - 1) s
      omega
  omega
theorem PlC.bks_in {c : PlC} {j : Nat} {x : Int × Int} (h : c.bks[j]? = some x) : 0 ≤ x.1 ∧ x.1 ≤ x.2 ∧ x.2 ≤ c.P := by
  have hm : x ∈ blocksL c.P c.bu := by
    have := List.mem_of_getElem? h
    unfold PlC.bks bucketsL at this
    simpa using this
  obtain ⟨i, hi, e⟩ := List.mem_iff_getElem.1 hm
  obtain ⟨a, b, d, _⟩ := blocks_in c.P c.bu i x (by rw [List.getElem?_eq_getElem hi, e])
  exact ⟨a, b, d⟩
theorem PlC.grps_in {c : PlC} {j : Nat} {x : Int × Int} (h : c.grps[j]? = some x) : 0 ≤ x.1 ∧ x.1 ≤ x.2 ∧ x.2 ≤ c.nb ∧ x.2 - x.1 ≤ c.wi := blocks_in _ _ _ _ h

/-- The items of a bucket in a round. -/
def PlC.jobI (c : PlC) (w t : Int) (j : Nat) (p r : Int) : List RItem := match c.bks[j]? with
  | some x => (rY t j x.1 x.2 c.m c.ch w p r).map (actI t)
  | none => []
/-- The items of the first n buckets of a group in a round. -/
def PlC.jobsI (c : PlC) (w t : Int) (lo n : Nat) (p r : Int) : List RItem := (List.range n).flatMap fun i => c.jobI w t (lo + i) p r
/-- The items of the first k rounds of a group. -/
def PlC.rndI (c : PlC) (w t : Int) (lo n k : Nat) : List RItem := (List.range k).flatMap fun q => c.jobsI w t lo n ((q / (c.m - 1) : Nat) : Int) ((q % (c.m - 1) : Nat) : Int)
def PlC.groupI (c : PlC) (w t : Int) (lo n : Nat) : List RItem := rangeI 2 t lo n ++ c.rndI w t lo n (2 * (c.m - 1)) ++ rangeI 5 t lo n
def PlC.groupG (c : PlC) (w t : Int) (g : Int × Int) : List RItem := c.groupI w t g.1.toNat (g.2 - g.1).toNat
def PlC.grpsI (c : PlC) (w t : Int) (k : Nat) : List RItem := (c.grps.take k).flatMap (c.groupG w t)
def PlC.itemsI (c : PlC) (w t : Int) : List RItem := rangeI 1 t 0 c.mi ++ c.grpsI w t (cnt c.nb c.wi) ++ [plainI 6 t 0]

theorem PlC.jobsI_succ (c : PlC) (w t : Int) (lo n : Nat) (p r : Int) : c.jobsI w t lo (n + 1) p r = c.jobsI w t lo n p r ++ c.jobI w t (lo + n) p r := by simp [PlC.jobsI, List.range_succ]
theorem PlC.rndI_succ (c : PlC) (w t : Int) (lo n k : Nat) : c.rndI w t lo n (k + 1) = c.rndI w t lo n k ++ c.jobsI w t lo n ((k / (c.m - 1) : Nat) : Int) ((k % (c.m - 1) : Nat) : Int) := by simp [PlC.rndI, List.range_succ]
theorem PlC.grpsI_succ (c : PlC) (w t : Int) (k : Nat) (g : Int × Int) (h : c.grps[k]? = some g) : c.grpsI w t (k + 1) = c.grpsI w t k ++ c.groupG w t g := by
  have hk : k < c.grps.length := by
    rcases Nat.lt_or_ge k c.grps.length with h' | h'
    · exact h'
    · rw [List.getElem?_eq_none h'] at h; cases h
  rw [List.getElem?_eq_getElem hk] at h
  injection h with h
  rw [PlC.grpsI, take_snoc _ _ hk, List.flatMap_append, h]
  simp [PlC.grpsI]

theorem flat_le {α : Type} (f : Nat → List α) (d : Nat) (h : ∀ i, (f i).length ≤ d) (n : Nat) : ((List.range n).flatMap f).length ≤ n * d := by
  induction n with
  | zero => simp
  | succ n ih =>
    rw [List.range_succ, List.flatMap_append, List.length_append, Nat.succ_mul]
    have := h n
    simp only [List.flatMap_cons, List.flatMap_nil, List.append_nil]
    omega
theorem PlC.jobI_le {c : PlC} (h : c.Ok) (w t : Int) (j : Nat) (p r : Int) : (c.jobI w t j p r).length ≤ 2000 := by
  unfold PlC.jobI
  cases hx : c.bks[j]? with
  | none => simp
  | some x =>
    obtain ⟨a, b, d⟩ := PlC.bks_in hx
    have := h.p2
    simp only [List.length_map]
    exact rY_le _ _ _ _ _ _ _ _ _ a b (by omega) (by have := h.m1; omega)
theorem PlC.jobsI_le {c : PlC} (h : c.Ok) (w t : Int) (lo n : Nat) (p r : Int) : (c.jobsI w t lo n p r).length ≤ n * 2000 := flat_le _ _ (fun i => c.jobI_le h w t _ p r) n
theorem PlC.rndI_le {c : PlC} (h : c.Ok) (w t : Int) (lo n k : Nat) : (c.rndI w t lo n k).length ≤ k * (n * 2000) := flat_le _ _ (fun i => c.jobsI_le h w t lo n _ _) k
theorem PlC.groupI_le {c : PlC} (h : c.Ok) (w t : Int) (lo n : Nat) (hn : n ≤ 60) : (c.groupI w t lo n).length ≤ 1680120 := by
  have h1 := c.rndI_le h w t lo n (2 * (c.m - 1))
  have h2 : 2 * (c.m - 1) ≤ 14 := by have := h.m2; omega
  have h3 : 2 * (c.m - 1) * (n * 2000) ≤ 14 * 120000 := Nat.mul_le_mul h2 (by omega)
  rw [PlC.groupI, List.length_append, List.length_append, rangeI_length, rangeI_length]
  omega
theorem PlC.grpsI_le {c : PlC} (h : c.Ok) (w t : Int) (k : Nat) (hk : k ≤ cnt c.nb c.wi) : (c.grpsI w t k).length ≤ k * 1680120 := by
  induction k with
  | zero => simp [PlC.grpsI]
  | succ k ih =>
    have hg : c.grps[k]? = some (c.grps[k]'(by rw [c.grps_length]; omega)) := List.getElem?_eq_getElem _
    rw [c.grpsI_succ w t k _ hg, List.length_append]
    have hin := PlC.grps_in hg
    have hnb := PlC.nb_le h
    have h1 := c.groupI_le h w t (c.grps[k]'(by rw [c.grps_length]; omega)).1.toNat ((c.grps[k]'(by rw [c.grps_length]; omega)).2 - (c.grps[k]'(by rw [c.grps_length]; omega)).1).toNat (by omega)
    have h2 := ih (by omega)
    unfold PlC.groupG
    omega
theorem PlC.itemsI_le {c : PlC} (h : c.Ok) (w t : Int) : (c.itemsI w t).length ≤ 200000000 := by
  have h1 := c.grpsI_le h w t _ (Nat.le_refl _)
  have h2 : cnt c.nb c.wi ≤ 60 := Nat.le_trans (cnt_le _ _) (PlC.nb_le h)
  have h3 := h.i2
  rw [PlC.itemsI, List.length_append, List.length_append, rangeI_length]
  simp only [List.length_cons, List.length_nil]
  omega

/-- Equal up to the step: lists of items of two steps have the same lengths. -/
theorem rdAt_len (s s' b p r : Int) (xs ys : List (Int × Int)) (i : Nat) : (rdAt s b p r xs ys i).length = (rdAt s' b p r xs ys i).length := by
  unfold rdAt
  cases xs[i]? <;> cases ys[i]? <;> rfl
theorem flat_len {α : Type} (f g : Nat → List α) (h : ∀ i, (f i).length = (g i).length) (n : Nat) : ((List.range n).flatMap f).length = ((List.range n).flatMap g).length := by
  induction n with
  | zero => rfl
  | succ n ih => rw [List.range_succ, List.flatMap_append, List.flatMap_append, List.length_append, List.length_append, ih]; simp [h]
theorem rY_len (s s' b lo hi m c x p r : Int) : (rY s b lo hi m c x p r).length = (rY s' b lo hi m c x p r).length := by
  unfold rY
  split
  · unfold roundR roundL rdTo
    exact flat_len _ _ (fun i => rdAt_len s s' b p r _ _ i) _
  · rfl
theorem PlC.jobI_len (c : PlC) (w t t' : Int) (j : Nat) (p r : Int) : (c.jobI w t j p r).length = (c.jobI w t' j p r).length := by
  unfold PlC.jobI
  cases c.bks[j]? with
  | none => rfl
  | some x => simp only [List.length_map]; exact rY_len _ _ _ _ _ _ _ _ _ _
theorem PlC.groupI_len (c : PlC) (w t t' : Int) (lo n : Nat) : (c.groupI w t lo n).length = (c.groupI w t' lo n).length := by
  simp only [PlC.groupI, List.length_append, rangeI_length]
  rw [show (c.rndI w t lo n (2 * (c.m - 1))).length = (c.rndI w t' lo n (2 * (c.m - 1))).length from flat_len _ _ (fun q => flat_len _ _ (fun i => c.jobI_len w t t' _ _ _) _) _]
theorem PlC.grpsI_len (c : PlC) (w t t' : Int) (k : Nat) : (c.grpsI w t k).length = (c.grpsI w t' k).length := by
  unfold PlC.grpsI
  induction c.grps.take k with
  | nil => rfl
  | cons g l ih => rw [List.flatMap_cons, List.flatMap_cons, List.length_append, List.length_append, ih]; unfold PlC.groupG; rw [c.groupI_len w t t']
theorem PlC.itemsI_len (c : PlC) (w t t' : Int) : (c.itemsI w t).length = (c.itemsI w t').length := by
  simp only [PlC.itemsI, List.length_append, rangeI_length]
  rw [c.grpsI_len w t t']
  rfl
theorem PlC.itemsI_pos (c : PlC) (w t : Int) : 1 ≤ (c.itemsI w t).length := by simp only [PlC.itemsI, List.length_append, List.length_cons, List.length_nil]; omega

end Go.Proofs.Ytkecpbdgcbgogaa
