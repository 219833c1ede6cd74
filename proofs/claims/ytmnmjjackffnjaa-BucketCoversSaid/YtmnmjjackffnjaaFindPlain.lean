/-
  Where a parameter is: the program's search and the reference's, in plain Lean.
-/
import Derived.Test.YtmnmjjackffnjaaSegs2
namespace Go.Proofs.Ytmnmjjackffnjaa
set_option linter.unusedVariables false
set_option linter.unusedSimpArgs false

def inR (i : Int) (r : Int × Int) : Prop := r.1 ≤ i ∧ i < r.2
theorem ofFrom_hit (i : Int) (l : List (Int × Int)) (k : Nat) (r : Int × Int) (hr : l[k]? = some r) (hin : inR i r) (hno : ∀ (k' : Nat) (r' : Int × Int), k' < k → l[k']? = some r' → ¬ inR i r') (j : Nat) (hj : j ≤ k) : ofFrom i (l.drop j) j = k := by
  obtain ⟨d, hd⟩ : ∃ d, k = j + d := ⟨k - j, by omega⟩
  induction d generalizing j with
  | zero =>
    have : j = k := by omega
    subst this
    rw [ofFrom_step i l j r.1 r.2 j hr, if_pos (And.intro hin.1 hin.2)]
  | succ d ih =>
    have hjl : j < l.length := by have := (List.getElem?_eq_some_iff.1 hr).1; omega
    have h1 : l[j]? = some (l[j].1, l[j].2) := List.getElem?_eq_getElem hjl
    rw [ofFrom_step i l j _ _ j h1, if_neg (fun h => hno j _ (by omega) h1 ⟨h.1, h.2⟩)]
    exact ih (j + 1) (by omega) (by omega)
theorem ofL_hit (i : Int) (l : List (Int × Int)) (k : Nat) (r : Int × Int) (hr : l[k]? = some r) (hin : inR i r) (hno : ∀ (k' : Nat) (r' : Int × Int), k' < k → l[k']? = some r' → ¬ inR i r') : ofL i l = k :=
  ofFrom_hit i l k r hr hin hno 0 (by omega)
theorem ofFrom_none (i : Int) (l : List (Int × Int)) (h : ∀ r ∈ l, ¬ inR i r) (j : Int) : ofFrom i l j = -1 := by
  induction l generalizing j with
  | nil => rfl
  | cons r l ih =>
    unfold ofFrom
    rw [if_neg (fun h' => h r (by simp) ⟨h'.1, h'.2⟩)]
    exact ih (fun r' hr' => h r' (by simp [hr'])) _
theorem ofL_none (i : Int) (l : List (Int × Int)) (h : ∀ r ∈ l, ¬ inR i r) : ofL i l = -1 := ofFrom_none i l h 0
/-- Of, where at most one range has the index. -/
theorem ofL_cases (i : Int) (l : List (Int × Int)) (hu : ∀ (k k' : Nat) (r r' : Int × Int), l[k]? = some r → l[k']? = some r' → inR i r → inR i r' → k = k') :
    (∃ (k : Nat) (r : Int × Int), l[k]? = some r ∧ inR i r ∧ ofL i l = (k : Int) ∧ ∀ (k' : Nat) (r' : Int × Int), l[k']? = some r' → inR i r' → k' = k) ∨ ((∀ r ∈ l, ¬ inR i r) ∧ ofL i l = -1) := by
  by_cases h : ∃ (k : Nat) (r : Int × Int), l[k]? = some r ∧ inR i r
  · obtain ⟨k, r, hr, hin⟩ := h
    refine .inl ⟨k, r, hr, hin, ofL_hit i l k r hr hin (fun k' r' hk hr' hin' => ?_), fun k' r' hr' hin' => hu _ _ _ _ hr' hr hin' hin⟩
    have := hu _ _ _ _ hr' hr hin' hin
    omega
  · refine .inr ⟨fun r hr hin => ?_, ofL_none i l (fun r hr hin => ?_)⟩
    · obtain ⟨k, hk⟩ := List.mem_iff_getElem?.1 hr
      exact h ⟨k, r, hk, hin⟩
    · obtain ⟨k, hk⟩ := List.mem_iff_getElem?.1 hr
      exact h ⟨k, r, hk, hin⟩

theorem segs_unique (lo hi w i : Int) (h1 : lo ≤ hi) : ∀ (k k' : Nat) (r r' : Int × Int), (segsL lo hi w)[k]? = some r → (segsL lo hi w)[k']? = some r' → inR i r → inR i r' → k = k' := by
  have key : ∀ (k k' : Nat) (r r' : Int × Int), (segsL lo hi w)[k]? = some r → (segsL lo hi w)[k']? = some r' → inR i r → inR i r' → ¬ k < k' := by
    intro k k' r r' hk hk' hi1 hi2 hlt
    have l1 : k < w.toNat := by have := (List.getElem?_eq_some_iff.1 hk).1; rwa [segsL_length _ _ _ h1] at this
    have l2 : k' < w.toNat := by have := (List.getElem?_eq_some_iff.1 hk').1; rwa [segsL_length _ _ _ h1] at this
    rw [segs_at lo hi w k h1 (by omega)] at hk
    rw [segs_at lo hi w k' h1 (by omega)] at hk'
    injection hk with hk
    injection hk' with hk'
    subst hk hk'
    have := bnd_mono (hi - lo).toNat w.toNat (k + 1) k' (by omega)
    unfold inR at hi1 hi2
    dsimp only at hi1 hi2
    omega
  intro k k' r r' hk hk' hi1 hi2
  have a := key k k' r r' hk hk' hi1 hi2
  have b := key k' k r' r hk' hk hi2 hi1
  omega
theorem bnd_find (n k t : Nat) : ∀ M, t < bnd n k M → ∃ m, m < M ∧ bnd n k m ≤ t ∧ t < bnd n k (m + 1) := by
  intro M
  induction M with
  | zero => intro h; rw [bnd_zero] at h; omega
  | succ M ih =>
    intro h
    by_cases h2 : t < bnd n k M
    · obtain ⟨m, hm, h3⟩ := ih h2
      exact ⟨m, by omega, h3⟩
    · exact ⟨M, by omega, by omega, h⟩
theorem segs_find (lo hi w i : Int) (hw : 1 ≤ w) (h1 : lo ≤ i) (h2 : i < hi) : ∃ (m : Nat) (r : Int × Int), (segsL lo hi w)[m]? = some r ∧ inR i r := by
  obtain ⟨m, hm, a, b⟩ := bnd_find (hi - lo).toNat w.toNat (i - lo).toNat w.toNat (by rw [bnd_k _ _ (by omega)]; omega)
  refine ⟨m, _, segs_at lo hi w m (by omega) (by omega), ?_⟩
  unfold inR
  dsimp only
  omega
theorem chunks_at (lo hi c : Int) (q : Nat) (hc : 1 ≤ c) (hq : (q : Int) * c < hi - lo) : (chunksL lo hi c)[q]? = some (((q * c.toNat : Nat) : Int) + lo, ((q * c.toNat + min c.toNat ((hi - lo).toNat - q * c.toNat) : Nat) : Int) + lo) := by
  rw [chunksL]
  refine shiftL_get _ _ _ _ _ ?_
  have hqq : 0 ≤ (q : Int) * c := Int.mul_nonneg (by omega) (by omega)
  unfold blocksI
  rw [if_neg (by omega)]
  refine blocks_at _ _ _ ((lt_cnt _ _ _ (by omega) (by omega)).2 ?_)
  have e : ((q * c.toNat : Nat) : Int) = (q : Int) * c := by rw [Int.natCast_mul, show ((c.toNat : Nat) : Int) = c by omega]
  omega
/-- Of finds a chunk exactly where there is one. -/
theorem chunks_of (lo hi c i : Int) (h1 : lo ≤ hi) : 0 ≤ ofL i (chunksL lo hi c) ↔ 1 ≤ c ∧ lo ≤ i ∧ i < hi := by
  constructor
  · intro h
    by_cases hex : ∃ r ∈ chunksL lo hi c, inR i r
    · obtain ⟨r, hr, hin⟩ := hex
      obtain ⟨q, hq⟩ := List.mem_iff_getElem?.1 hr
      have hql : q < cnt (hi - lo).toNat c.toNat := by have := (List.getElem?_eq_some_iff.1 hq).1; rwa [chunksL_length] at this
      have hc : 1 ≤ c := by
        by_cases h0 : 1 ≤ c
        · exact h0
        · unfold cnt at hql
          rw [if_pos (by omega)] at hql
          omega
      have hd : 1 ≤ hi - lo := by
        by_cases h0 : 1 ≤ hi - lo
        · exact h0
        · unfold cnt at hql
          rw [if_pos (by omega)] at hql
          omega
      have h2 := (lt_cnt _ _ _ (by omega) (by omega)).1 hql
      have e : ((q * c.toNat : Nat) : Int) = (q : Int) * c := by rw [Int.natCast_mul, show ((c.toNat : Nat) : Int) = c by omega]
      rw [chunks_at lo hi c q hc (by omega)] at hq
      injection hq with hq
      subst hq
      unfold inR at hin
      dsimp only at hin
      refine ⟨hc, ?_, ?_⟩ <;> omega
    · rw [ofL_none i _ (fun r hr hin => hex ⟨r, hr, hin⟩)] at h
      omega
  · rintro ⟨hc, h2, h3⟩
    obtain ⟨q, hq⟩ : ∃ q, (i - lo).toNat / c.toNat = q := ⟨_, rfl⟩
    have hd := Nat.div_add_mod (i - lo).toNat c.toNat
    have hm := Nat.mod_lt (i - lo).toNat (show 0 < c.toNat by omega)
    rw [hq, Nat.mul_comm] at hd
    have e : ((q * c.toNat : Nat) : Int) = (q : Int) * c := by rw [Int.natCast_mul, show ((c.toNat : Nat) : Int) = c by omega]
    have hr := chunks_at lo hi c q hc (by omega)
    by_cases hneg : ofL i (chunksL lo hi c) < 0
    · exfalso
      have hmem := List.mem_of_getElem? hr
      have hall : ∀ (l : List (Int × Int)) (j : Int), 0 ≤ j → (∃ r ∈ l, inR i r) → 0 ≤ ofFrom i l j := by
        intro l
        induction l with
        | nil => intro j _ h; obtain ⟨r, hr, _⟩ := h; cases hr
        | cons a l ih =>
          intro j hj h
          unfold ofFrom
          split
          · exact hj
          · rename_i hno
            obtain ⟨r, hr, hin⟩ := h
            rcases List.mem_cons.1 hr with rfl | hr
            · exact absurd hin hno
            · exact ih _ (by omega) ⟨r, hr, hin⟩
      have := hall (chunksL lo hi c) 0 (by omega) ⟨_, hmem, by unfold inR; dsimp only; omega⟩
      unfold ofL at hneg
      omega
    · omega

def bucketsI (n b : Int) : List (Int × Int) := (blocksI n b).reverse
theorem bucketsI_at (n b : Int) (k : Nat) (hk : k < (bucketsI n b).length) : 1 ≤ n ∧ 1 ≤ b ∧ ∃ q : Nat, q = cnt n.toNat b.toNat - 1 - k ∧ k < cnt n.toNat b.toNat ∧ q * b.toNat < n.toNat ∧ (bucketsI n b)[k]? = some (((q * b.toNat : Nat) : Int), ((q * b.toNat + min b.toNat (n.toNat - q * b.toNat) : Nat) : Int)) := by
  have hl : (bucketsI n b).length = cnt n.toNat b.toNat := by rw [bucketsI, List.length_reverse, blocksI_length]
  rw [hl] at hk
  have hnb : 1 ≤ n.toNat ∧ 1 ≤ b.toNat := by
    unfold cnt at hk
    split at hk
    · omega
    · omega
  have hqc : cnt n.toNat b.toNat - 1 - k < cnt n.toNat b.toNat := by omega
  refine ⟨by omega, by omega, _, rfl, hk, (lt_cnt _ _ _ (by omega) (by omega)).1 hqc, ?_⟩
  rw [bucketsI, List.getElem?_reverse (by rw [blocksI_length]; exact hk), blocksI_length]
  unfold blocksI
  rw [if_neg (by omega)]
  exact blocks_at _ _ _ hqc
theorem buckets_unique (n b i : Int) : ∀ (k k' : Nat) (r r' : Int × Int), (bucketsI n b)[k]? = some r → (bucketsI n b)[k']? = some r' → inR i r → inR i r' → k = k' := by
  intro k k' r r' hk hk' hi1 hi2
  obtain ⟨hn, hb, q, hq, hkc, _, e⟩ := bucketsI_at n b k (List.getElem?_eq_some_iff.1 hk).1
  obtain ⟨_, _, q', hq', hkc', _, e'⟩ := bucketsI_at n b k' (List.getElem?_eq_some_iff.1 hk').1
  rw [e] at hk
  rw [e'] at hk'
  injection hk with hk
  injection hk' with hk'
  subst hk hk'
  unfold inR at hi1 hi2
  dsimp only at hi1 hi2
  have a : i.toNat / b.toNat = q := by
    refine Nat.div_eq_of_lt_le ?_ ?_
    · omega
    · rw [Nat.add_mul]; omega
  have a' : i.toNat / b.toNat = q' := by
    refine Nat.div_eq_of_lt_le ?_ ?_
    · omega
    · rw [Nat.add_mul]; omega
  omega

instance (i : Int) (r : Int × Int) : Decidable (inR i r) := inferInstanceAs (Decidable (r.1 ≤ i ∧ i < r.2))
/-- The search of the program. -/
def innerP (i c : Int) (k : Nat) (segs : List (Int × Int)) (p : Int × Int × Int) : Nat → Int × Int × Int
  | 0 => p
  | m + 1 => if 0 ≤ ofL i (chunksL (segs.getD m (0, 0)).1 (segs.getD m (0, 0)).2 c) then ((k : Int), (m : Int), ofL i (chunksL (segs.getD m (0, 0)).1 (segs.getD m (0, 0)).2 c)) else innerP i c k segs p m
def outerP (i w c : Int) (bs : List (Int × Int)) : Nat → Int × Int × Int
  | 0 => (-1, -1, -1)
  | k + 1 => if inR i (bs.getD k (0, 0)) then innerP i c k (segsL (bs.getD k (0, 0)).1 (bs.getD k (0, 0)).2 w) (outerP i w c bs k) (segsL (bs.getD k (0, 0)).1 (bs.getD k (0, 0)).2 w).length else outerP i w c bs k
/-- The search of the reference. -/
def findR (i n b w c : Int) : (Int × Int × Int) × Bool :=
  if ofL i (bucketsI n b) < 0 ∨ w < 1 ∨ c < 1 then ((0, 0, 0), false)
  else
    let r := (bucketsI n b).getD (ofL i (bucketsI n b)).toNat (0, 0)
    let s := (segsL r.1 r.2 w).getD (ofL i (segsL r.1 r.2 w)).toNat (0, 0)
    ((ofL i (bucketsI n b), ofL i (segsL r.1 r.2 w), ofL i (chunksL s.1 s.2 c)), true)

end Go.Proofs.Ytmnmjjackffnjaa
