/-
  The place of an index, and what the loops of BucketCovers have seen.
-/
import Derived.Test.YtmnmjjackffnjaaBucketFinds
namespace Go.Proofs.Ytmnmjjackffnjaa
set_option linter.unusedVariables false
set_option linter.unusedSimpArgs false

theorem chunk_of (lo hi c : Int) (m : Nat) (hlh : lo ≤ hi) (hc : 1 ≤ c) (hm : m < (chunksL lo hi c).length) : (m : Int) * c < hi - lo ∧ (chunksL lo hi c)[m]? = some (lo + m * c, lo + m * c + min c (hi - lo - m * c)) := by
  rw [chunksL_length] at hm
  by_cases h0 : 1 ≤ (hi - lo).toNat
  · have hmc := (lt_cnt (hi - lo).toNat c.toNat m h0 (by omega)).1 hm
    obtain ⟨C, rfl⟩ := Int.eq_ofNat_of_zero_le (show 0 ≤ c by omega)
    have h1 : (m : Int) * (C : Int) < hi - lo := by
      rw [← Int.natCast_mul]
      have : m * C < (hi - lo).toNat := hmc
      omega
    refine ⟨h1, ?_⟩
    rw [chunks_at lo hi C m hc h1]
    congr 1
    obtain ⟨p, hp⟩ : ∃ p, m * C = p := ⟨_, rfl⟩
    have hp' : (m : Int) * (C : Int) = (p : Int) := by rw [← Int.natCast_mul, hp]
    rw [hp'] at h1 ⊢
    have e : m * (C : Int).toNat = p := hp
    rw [e]
    have e2 : (C : Int).toNat = C := rfl
    rw [e2]
    ext
    · show ((p : Nat) : Int) + lo = lo + p
      omega
    · show ((p + min C ((hi - lo).toNat - p) : Nat) : Int) + lo = lo + p + min (C : Int) (hi - lo - p)
      omega
  · have : cnt (hi - lo).toNat c.toNat ≤ (hi - lo).toNat := cnt_le _ _
    omega

theorem chunk_len_end (lo hi c : Int) (hlh : lo ≤ hi) (hc : 1 ≤ c) : hi - lo ≤ ((chunksL lo hi c).length : Int) * c := by
  rw [chunksL_length]
  by_cases h0 : 1 ≤ (hi - lo).toNat
  · have h := mt (lt_cnt (hi - lo).toNat c.toNat (cnt (hi - lo).toNat c.toNat) h0 (by omega)).2 (Nat.lt_irrefl _)
    obtain ⟨C, rfl⟩ := Int.eq_ofNat_of_zero_le (show 0 ≤ c by omega)
    rw [← Int.natCast_mul]
    have : ¬ cnt (hi - lo).toNat C * C < (hi - lo).toNat := h
    have e : cnt (hi - lo).toNat (C : Int).toNat * C = cnt (hi - lo).toNat C * C := rfl
    omega
  · have e : hi - lo = 0 := by omega
    rw [e]
    exact Int.mul_nonneg (Int.natCast_nonneg _) (by omega)

theorem chunks_unique (lo hi c i : Int) (hlh : lo ≤ hi) (hc : 1 ≤ c) (k k' : Nat) (r r' : Int × Int) (h : (chunksL lo hi c)[k]? = some r) (h' : (chunksL lo hi c)[k']? = some r') (hi1 : inR i r) (hi2 : inR i r') : k = k' := by
  obtain ⟨a1, a2⟩ := chunk_of lo hi c k hlh hc (List.getElem?_eq_some_iff.1 h).1
  obtain ⟨b1, b2⟩ := chunk_of lo hi c k' hlh hc (List.getElem?_eq_some_iff.1 h').1
  rw [a2] at h
  rw [b2] at h'
  injection h with h
  injection h' with h'
  subst h h'
  obtain ⟨u1, u2⟩ := hi1
  obtain ⟨v1, v2⟩ := hi2
  dsimp only at u1 u2 v1 v2
  rcases Nat.lt_trichotomy k k' with e | e | e
  · have : ((k : Int) + 1) * c ≤ (k' : Int) * c := Int.mul_le_mul_of_nonneg_right (by omega) (by omega)
    rw [Int.add_mul, Int.one_mul] at this
    omega
  · exact e
  · have : ((k' : Int) + 1) * c ≤ (k : Int) * c := Int.mul_le_mul_of_nonneg_right (by omega) (by omega)
    rw [Int.add_mul, Int.one_mul] at this
    omega

/-- The place of an index that lies in a chunk of a segment of a bucket. -/
theorem find_hit (n b w c i : Int) (j k m : Nat) (x s r : Int × Int) (hn : n ≤ 1000000) (hb : b ≤ 9223372036854775807) (hw : 1 ≤ w) (hc : 1 ≤ c) (hx : (bucketsI n b)[j]? = some x) (hs : (segsL x.1 x.2 w)[k]? = some s) (hr : (chunksL s.1 s.2 c)[m]? = some r) (hi : inR i r) :
    findR i n b w c = (((j : Int), (k : Int), (m : Int)), true) := by
  obtain ⟨q1, q2, q3⟩ := buckets_in n b j _ hx
  obtain ⟨s1, s2, s3⟩ := segs_in x.1 x.2 w (by omega) s (List.mem_of_getElem? hs)
  obtain ⟨a1, a2⟩ := chunk_of s.1 s.2 c m s2 hc (List.getElem?_eq_some_iff.1 hr).1
  have hr' := hr
  rw [a2] at hr'
  injection hr' with hr'
  have hm0 : 0 ≤ (m : Int) * c := Int.mul_nonneg (Int.natCast_nonneg _) (by omega)
  have his : inR i s := by
    subst hr'
    obtain ⟨u1, u2⟩ := hi
    dsimp only at u1 u2
    exact ⟨by omega, by omega⟩
  have hix : inR i x := ⟨by have := his.1; omega, by have := his.2; omega⟩
  have e1 : ofL i (bucketsI n b) = (j : Int) := ofL_hit i _ j x hx hix (fun k' r' hk' hr' hin => by have := buckets_unique n b i k' j r' x hr' hx hin hix; omega)
  have e2 : ofL i (segsL x.1 x.2 w) = (k : Int) := ofL_hit i _ k s hs his (fun k' r' hk' hr' hin => by have := segs_unique x.1 x.2 w i (by omega) k' k r' s hr' hs hin his; omega)
  have e3 : ofL i (chunksL s.1 s.2 c) = (m : Int) := ofL_hit i _ m r hr hi (fun k' r' hk' hr' hin => by have := chunks_unique s.1 s.2 c i s2 hc k' m r' r hr' hr hin hi; omega)
  unfold findR
  rw [if_neg (by rw [e1]; omega), e1]
  simp only [show ((j : Int)).toNat = j from rfl, getD_some hx, e2, show ((k : Int)).toNat = k from rfl, getD_some hs, e3]

/-- What has been seen: ones where P holds. -/
def covL (n : Nat) (P : Nat → Bool) : List Int := (List.range n).map fun t => if P t then 1 else 0
theorem covL_length (n : Nat) (P : Nat → Bool) : (covL n P).length = n := by simp [covL]
theorem covL_get (n : Nat) (P : Nat → Bool) (i : Nat) (h : i < n) : (covL n P)[i]? = some (if P i then 1 else 0) := by simp [covL, h]
theorem covL_congr {n : Nat} {P Q : Nat → Bool} (h : ∀ t, t < n → P t = Q t) : covL n P = covL n Q := by
  unfold covL
  exact List.map_congr_left (fun t ht => by rw [h t (List.mem_range.1 ht)])
theorem covL_set {n i : Nat} {P Q : Nat → Bool} (h : i < n) (hq : ∀ t, t < n → Q t = (P t || t == i)) : (covL n P).set i 1 = covL n Q := by
  apply List.ext_getElem?
  intro t
  rw [List.getElem?_set, covL_length]
  by_cases ht : t < n
  · rw [covL_get _ _ _ ht, covL_get _ _ _ ht, hq t ht]
    by_cases e : i = t
    · subst e
      simp [h]
    · have e2 : (t == i) = false := by simp; omega
      rw [if_neg e, e2, Bool.or_false]
  · rw [List.getElem?_eq_none (l := covL n P) (by rw [covL_length]; omega), List.getElem?_eq_none (l := covL n Q) (by rw [covL_length]; omega), if_neg (by omega)]
theorem covL_none (n : Nat) {P : Nat → Bool} (h : ∀ t, t < n → P t = false) : covL n P = List.replicate n 0 := by
  apply List.ext_getElem?
  intro t
  by_cases ht : t < n
  · rw [covL_get _ _ _ ht, h t ht, List.getElem?_replicate, if_pos ht]
    rfl
  · rw [List.getElem?_eq_none (by rw [covL_length]; omega), List.getElem?_eq_none (by simp; omega)]

/-- Seen: from H on, and from lo up to i. -/
def seenP (H lo i : Int) (t : Nat) : Bool := decide (H ≤ (t : Int)) || (decide (lo ≤ (t : Int)) && decide ((t : Int) < i))
theorem seenP_start (H lo : Int) (t : Nat) : seenP H lo lo t = decide (H ≤ (t : Int)) := by
  unfold seenP
  cases h1 : decide (H ≤ (t : Int)) with
  | true => rfl
  | false =>
    first | (simp; omega) | simp
theorem seenP_next (H lo : Int) (i t : Nat) (h : lo ≤ (i : Int)) : seenP H lo ((i : Int) + 1) t = (seenP H lo i t || t == i) := by
  unfold seenP
  rw [Bool.or_assoc]
  congr 1
  rw [Bool.eq_iff_iff]
  simp only [Bool.and_eq_true, Bool.or_eq_true, decide_eq_true_eq, beq_iff_eq]
  omega
theorem seenP_not {H lo : Int} {i : Nat} (h : (i : Int) < H) : seenP H lo i i = false := by
  unfold seenP
  simp
  omega

/-- The bound from which on all is seen ahead of bucket j. -/
def hiB (n b : Int) (j : Nat) : Int := ((cnt n.toNat b.toNat : Int) - j) * b
theorem bucket_at (n b : Int) (j : Nat) (hj : j < (bucketsI n b).length) : 1 ≤ n ∧ 1 ≤ b ∧ 0 ≤ hiB n b (j + 1) ∧ hiB n b (j + 1) < n ∧ hiB n b j = hiB n b (j + 1) + b ∧ (bucketsI n b)[j]? = some (hiB n b (j + 1), min (hiB n b j) n) := by
  obtain ⟨h1, h2, q, hq, hc, hqn, hx⟩ := bucketsI_at n b j hj
  have e1 : hiB n b (j + 1) = ((q * b.toNat : Nat) : Int) := by
    unfold hiB
    rw [Int.natCast_mul, hq]
    congr 1
    · omega
    · omega
  have e2 : hiB n b j = hiB n b (j + 1) + b := by
    unfold hiB
    rw [show ((cnt n.toNat b.toNat : Int) - (j : Nat)) = ((cnt n.toNat b.toNat : Int) - ((j + 1 : Nat) : Int)) + 1 by omega, Int.add_mul, Int.one_mul]
  refine ⟨h1, h2, by rw [e1]; exact Int.natCast_nonneg _, by rw [e1]; omega, e2, ?_⟩
  rw [hx, e2, e1]
  congr 1
  obtain ⟨p, hp⟩ : ∃ p, q * b.toNat = p := ⟨_, rfl⟩
  rw [hp] at hqn ⊢
  ext
  · rfl
  · show ((p + min b.toNat (n.toNat - p) : Nat) : Int) = min ((p : Int) + b) n
    omega
theorem hiB_start (n b : Int) (hn : 1 ≤ n) (hb : 1 ≤ b) : n ≤ hiB n b 0 := by
  have h := mt (lt_cnt n.toNat b.toNat (cnt n.toNat b.toNat) (by omega) (by omega)).2 (Nat.lt_irrefl _)
  unfold hiB
  obtain ⟨C, rfl⟩ := Int.eq_ofNat_of_zero_le (show 0 ≤ b by omega)
  have h' : ¬ cnt n.toNat C * C < n.toNat := h
  rw [show ((cnt n.toNat (C : Int).toNat : Int) - ((0 : Nat) : Int)) = (cnt n.toNat C : Int) by
    have : (C : Int).toNat = C := rfl
    rw [this]; omega, ← Int.natCast_mul]
  omega
theorem hiB_end (n b : Int) (hn : 1 ≤ n) (hb : 1 ≤ b) : hiB n b (bucketsI n b).length = 0 := by
  have e : (bucketsI n b).length = cnt n.toNat b.toNat := by unfold bucketsI; rw [List.length_reverse, blocksI_length]
  unfold hiB
  rw [e, Int.sub_self, Int.zero_mul]

end Go.Proofs.Ytmnmjjackffnjaa
