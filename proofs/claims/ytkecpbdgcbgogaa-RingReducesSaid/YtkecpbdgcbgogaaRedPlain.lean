/-
  The reduction of a bucket around a ring, in plain Lean.
-/
import Derived.Test.YtkecpbdgcbgogaaRoundIn
import Derived.Test.YtkecpbdgcbgogaaVecPlain
namespace Go.Proofs.Ytkecpbdgcbgogaa
set_option linter.unusedVariables false
set_option linter.unusedSimpArgs false
open Go.RowKit

def isum (g : Nat → Int) : Nat → Int
  | 0 => 0
  | m + 1 => isum g m + g m
theorem isum_congr (g h : Nat → Int) : ∀ m, (∀ x, x < m → g x = h x) → isum g m = isum h m
  | 0, _ => rfl
  | m + 1, e => by rw [isum, isum, isum_congr g h m (fun x hx => e x (by omega)), e m (by omega)]
theorem isum_first (g : Nat → Int) : ∀ m, isum g (m + 1) = g 0 + isum (fun x => g (x + 1)) m
  | 0 => by simp [isum]
  | m + 1 => by
    rw [isum, isum_first g m, isum]
    omega
theorem isum_rot (m : Nat) (g : Nat → Int) (hm : 1 ≤ m) (d : Nat) : isum (fun x => g ((x + d) % m)) m = isum g m := by
  induction d with
  | zero => exact isum_congr _ _ m (fun x hx => by rw [Nat.add_zero, Nat.mod_eq_of_lt hx])
  | succ d ih =>
    rw [← ih]
    have h1 := isum_first (fun x => g ((x + d) % m)) m
    have h2 : isum (fun x => g ((x + d) % m)) (m + 1) = isum (fun x => g ((x + d) % m)) m + g ((m + d) % m) := rfl
    have h3 : isum (fun x => g ((x + (d + 1)) % m)) m = isum (fun x => g ((x + 1 + d) % m)) m := isum_congr _ _ m (fun x _ => by rw [Nat.add_assoc x 1 d, Nat.add_comm 1 d])
    rw [h3]
    have h4 : g ((m + d) % m) = g ((0 + d) % m) := by rw [Nat.add_mod_left, Nat.zero_add]
    omega

/-- Place i lies in segment q. -/
def inSeg (lo hi : Int) (m q i : Nat) : Prop := (segR lo hi m q).1 ≤ i ∧ (i : Int) < (segR lo hi m q).2
instance (lo hi : Int) (m q i : Nat) : Decidable (inSeg lo hi m q i) := by unfold inSeg; infer_instance
/-- The segment that worker w receives in a round, and the worker ahead of it. -/
def rqN (m p r w : Nat) : Nat := (((w : Int) - r + p - 1) % (m : Int)).toNat
def pwN (m w : Nat) : Nat := (((w : Int) - 1) % (m : Int)).toNat
/-- What lies in place i of worker w behind K rounds. -/
def rst (lo hi : Int) (m : Nat) (z : Nat → Nat → Int) : Nat → Nat → Nat → Int
  | 0, w, i => z w i
  | K + 1, w, i => if inSeg lo hi m (rqN m (K / (m - 1)) (K % (m - 1)) w) i then (if K / (m - 1) = 0 then wrap64 (rst lo hi m z K w i + rst lo hi m z K (pwN m w) i) else rst lo hi m z K (pwN m w) i) else rst lo hi m z K w i

theorem bnd_up2 (n k a b : Nat) (h : a ≤ b) : bnd n k a ≤ bnd n k b := by
  unfold bnd
  have := Nat.mul_le_mul_right (n / k) h
  omega
theorem bnd_full (n k : Nat) (hk : 1 ≤ k) : bnd n k k = n := by
  unfold bnd
  have := Nat.div_add_mod n k
  have h2 := Nat.mod_lt n (show 0 < k by omega)
  omega
theorem bnd_find (n k x : Nat) (hx : x < n) : ∀ j, x < bnd n k j → ∃ q, q < j ∧ bnd n k q ≤ x ∧ x < bnd n k (q + 1)
  | 0, h => by unfold bnd at h; omega
  | j + 1, h => by
    by_cases h1 : x < bnd n k j
    · obtain ⟨q, a, b, c⟩ := bnd_find n k x hx j h1
      exact ⟨q, by omega, b, c⟩
    · exact ⟨j, by omega, by omega, h⟩
theorem seg_find (lo hi : Int) (m i : Nat) (hm : 1 ≤ m) (h0 : lo ≤ i) (h1 : (i : Int) < hi) : ∃ q, q < m ∧ inSeg lo hi m q i ∧ ∀ q', q' < m → inSeg lo hi m q' i → q' = q := by
  obtain ⟨x, hx⟩ := Int.eq_ofNat_of_zero_le (show 0 ≤ (i : Int) - lo by omega)
  obtain ⟨N, hN⟩ := Int.eq_ofNat_of_zero_le (show 0 ≤ hi - lo by omega)
  have e1 : (hi - lo).toNat = N := by omega
  have hin : ∀ q, inSeg lo hi m q i ↔ bnd N m q ≤ x ∧ x < bnd N m (q + 1) := fun q => by
    unfold inSeg segR
    rw [e1, Int.toNat_natCast]
    dsimp only
    omega
  obtain ⟨q, a, b, c⟩ := bnd_find N m x (by omega) m (by rw [bnd_full N m hm]; omega)
  refine ⟨q, a, (hin q).2 ⟨b, c⟩, fun q' hq' h' => ?_⟩
  obtain ⟨b', c'⟩ := (hin q').1 h'
  rcases Nat.lt_trichotomy q' q with h | h | h
  · have := bnd_up2 N m (q' + 1) q (by omega); omega
  · exact h
  · have := bnd_up2 N m (q + 1) q' (by omega); omega
theorem seg_none (lo hi : Int) (m q i : Nat) (hm : q < m) (h1 : lo ≤ hi) (h : ¬ (lo ≤ i ∧ (i : Int) < hi)) : ¬ inSeg lo hi m q i := by
  have := segR_in lo hi m q h1 (by omega)
  unfold inSeg
  omega
theorem rqN_lt (m p r w : Nat) (hm : 1 ≤ m) : rqN m p r w < m := by
  unfold rqN
  have h1 := Int.emod_nonneg ((w : Int) - r + p - 1) (b := (m : Int)) (by omega)
  have h2 := Int.emod_lt_of_pos ((w : Int) - r + p - 1) (b := (m : Int)) (by omega)
  omega
theorem pwN_lt (m w : Nat) (hm : 1 ≤ m) : pwN m w < m := by
  unfold pwN
  have h1 := Int.emod_nonneg ((w : Int) - 1) (b := (m : Int)) (by omega)
  have h2 := Int.emod_lt_of_pos ((w : Int) - 1) (b := (m : Int)) (by omega)
  omega
/-- Outside of the bucket nothing turns. -/
theorem rst_out (lo hi : Int) (m : Nat) (z : Nat → Nat → Int) (hm : 1 ≤ m) (h1 : lo ≤ hi) (i : Nat) (h : ¬ (lo ≤ i ∧ (i : Int) < hi)) : ∀ K w, rst lo hi m z K w i = z w i
  | 0, w => rfl
  | K + 1, w => by rw [rst, if_neg (seg_none lo hi m _ i (rqN_lt m _ _ _ hm) h1 h), rst_out lo hi m z hm h1 i h K w]

/-- How far worker w is behind segment q. -/
def dst (m q w : Nat) : Nat := (w + m - q) % m
theorem emod_small (a m : Int) (k : Int) (h0 : 0 ≤ a + k * m) (h1 : a + k * m < m) : a % m = a + k * m := by
  rw [← Int.add_mul_emod_self_right a k m]
  exact Int.emod_eq_of_lt h0 h1
theorem dst_val (m q w : Nat) (hq : q < m) (hw : w < m) : (q ≤ w ∧ dst m q w = w - q) ∨ (w < q ∧ dst m q w = w + m - q) := by
  unfold dst
  by_cases h : q ≤ w
  · left
    refine ⟨h, ?_⟩
    rw [show w + m - q = (w - q) + m by omega, Nat.add_mod_right, Nat.mod_eq_of_lt (by omega)]
  · right
    exact ⟨by omega, Nat.mod_eq_of_lt (by omega)⟩
theorem pwN_val (m w : Nat) (hw : w < m) : (w = 0 ∧ pwN m w = m - 1) ∨ (1 ≤ w ∧ pwN m w = w - 1) := by
  unfold pwN
  by_cases h : w = 0
  · left
    subst h
    refine ⟨rfl, ?_⟩
    rw [emod_small _ _ 1 (by omega) (by omega)]
    omega
  · right
    refine ⟨by omega, ?_⟩
    rw [Int.emod_eq_of_lt (by omega) (by omega)]
    omega
theorem dst_pw (m q w : Nat) (hq : q < m) (hw : w < m) : (dst m q w = 0 ∧ dst m q (pwN m w) = m - 1) ∨ (1 ≤ dst m q w ∧ dst m q (pwN m w) = dst m q w - 1) := by
  have hp : pwN m w < m := pwN_lt m w (by omega)
  rcases dst_val m q w hq hw with ⟨a, b⟩ | ⟨a, b⟩ <;> rcases dst_val m q (pwN m w) hq hp with ⟨c, d⟩ | ⟨c, d⟩ <;> rcases pwN_val m w hw with ⟨e, f⟩ | ⟨e, f⟩ <;> omega
theorem rq_scatter (m q r w : Nat) (hq : q < m) (hw : w < m) (hr : r + 1 < m) : rqN m 0 r w = q ↔ dst m q w = r + 1 := by
  unfold rqN
  have h1 := dst_val m q w hq hw
  by_cases h : r + 1 ≤ w
  · rw [emod_small _ _ 0 (by omega) (by omega)]
    omega
  · rw [emod_small _ _ 1 (by omega) (by omega)]
    omega
theorem rq_gather (m q r w : Nat) (hq : q < m) (hw : w < m) (hr : r + 1 < m) : rqN m 1 r w = q ↔ dst m q w = r := by
  unfold rqN
  have h1 := dst_val m q w hq hw
  by_cases h : r ≤ w
  · rw [emod_small _ _ 0 (by omega) (by omega)]
    omega
  · rw [emod_small _ _ 1 (by omega) (by omega)]
    omega

section
variable (lo hi : Int) (m : Nat) (z : Nat → Nat → Int) (q i : Nat)
/-- The sum of the vectors of d + 1 workers, from the owner of the segment on. -/
def part (d : Nat) : Int := isum (fun t => z ((t + q) % m) i) (d + 1)
theorem wrap_wr (a b : Int) : wrap64 (a + wrap64 b) = wrap64 (a + b) := by unfold wrap64; omega
theorem wrap_in (a : Int) (h : -9223372036854775808 ≤ a ∧ a ≤ 9223372036854775807) : wrap64 a = a := by unfold wrap64; omega
theorem part_at (w : Nat) (hq : q < m) (hw : w < m) : z ((dst m q w + q) % m) i = z w i := by
  rcases dst_val m q w hq hw with ⟨a, b⟩ | ⟨a, b⟩
  · rw [b, show w - q + q = w by omega, Nat.mod_eq_of_lt hw]
  · rw [b, show w + m - q + q = w + m by omega, Nat.add_mod_right, Nat.mod_eq_of_lt hw]

theorem rst_scatter (hq : q < m) (hseg : ∀ q', q' < m → (inSeg lo hi m q' i ↔ q' = q)) (hz : ∀ w, w < m → -9223372036854775808 ≤ z w i ∧ z w i ≤ 9223372036854775807) :
    ∀ r, r ≤ m - 1 → ∀ w, w < m → rst lo hi m z r w i = if dst m q w ≤ r then wrap64 (part m z q i (dst m q w)) else z w i
  | 0, _, w, hw => by
    rw [rst]
    by_cases h : dst m q w ≤ 0
    · rw [if_pos h]
      have h0 : dst m q w = 0 := by omega
      rw [h0, part, isum, isum, Int.zero_add]
      have := part_at m z q i w hq hw
      rw [h0] at this
      rw [this, wrap_in _ (hz w hw)]
    · rw [if_neg h]
  | r + 1, hr, w, hw => by
    have ih := rst_scatter hq hseg hz r (by omega)
    have e1 : r / (m - 1) = 0 := Nat.div_eq_of_lt (by omega)
    have e2 : r % (m - 1) = r := Nat.mod_eq_of_lt (by omega)
    rw [rst, e1, e2]
    have hrq := rq_scatter m q r w hq hw (by omega)
    have hs := hseg (rqN m 0 r w) (rqN_lt m 0 r w (by omega))
    by_cases h : dst m q w = r + 1
    · rw [if_pos (hs.2 (hrq.2 h)), if_pos rfl, if_pos (by omega), ih w hw, if_neg (by omega), ih _ (pwN_lt m w (by omega))]
      have hp := dst_pw m q w hq hw
      have hd : dst m q (pwN m w) = r := by omega
      rw [hd, if_pos (Nat.le_refl _), wrap_wr, h]
      have ht := part_at m z q i w hq hw
      rw [h] at ht
      rw [show part m z q i (r + 1) = part m z q i r + z ((r + 1 + q) % m) i from rfl, ht, Int.add_comm]
    · rw [if_neg (fun hh => h (hrq.1 (hs.1 hh))), ih w hw]
      by_cases h2 : dst m q w ≤ r
      · rw [if_pos h2, if_pos (by omega)]
      · rw [if_neg h2, if_neg (by omega)]

theorem rst_gather (hm : 2 ≤ m) (hq : q < m) (hseg : ∀ q', q' < m → (inSeg lo hi m q' i ↔ q' = q)) (hz : ∀ w, w < m → -9223372036854775808 ≤ z w i ∧ z w i ≤ 9223372036854775807) :
    ∀ r, r ≤ m - 1 → ∀ w, w < m → rst lo hi m z (m - 1 + r) w i = if dst m q w < r then wrap64 (part m z q i (m - 1)) else wrap64 (part m z q i (dst m q w))
  | 0, _, w, hw => by
    have hd : dst m q w ≤ m - 1 := by rcases dst_val m q w hq hw with ⟨a, b⟩ | ⟨a, b⟩ <;> omega
    rw [Nat.add_zero, rst_scatter lo hi m z q i hq hseg hz (m - 1) (Nat.le_refl _) w hw, if_pos hd, if_neg (by omega)]
  | r + 1, hr, w, hw => by
    have ih := rst_gather hm hq hseg hz r (by omega)
    have e1 : (m - 1 + r) / (m - 1) = 1 := by rw [Nat.add_div_left _ (by omega), Nat.div_eq_of_lt (by omega)]
    have e2 : (m - 1 + r) % (m - 1) = r := by rw [Nat.add_mod_left, Nat.mod_eq_of_lt (by omega)]
    rw [← Nat.add_assoc, rst, e1, e2]
    have hrq := rq_gather m q r w hq hw (by omega)
    have hs := hseg (rqN m 1 r w) (rqN_lt m 1 r w (by omega))
    by_cases h : dst m q w = r
    · rw [if_pos (hs.2 (hrq.2 h)), if_neg (by omega), ih _ (pwN_lt m w (by omega))]
      rcases dst_pw m q w hq hw with ⟨a, b⟩ | ⟨a, b⟩
      · rw [b, if_neg (by omega), if_pos (by omega)]
      · rw [b, if_pos (by omega), if_pos (by omega)]
    · rw [if_neg (fun hh => h (hrq.1 (hs.1 hh))), ih w hw]
      by_cases h2 : dst m q w < r
      · rw [if_pos h2, if_pos (by omega)]
      · rw [if_neg h2, if_neg (by omega)]
end

/-- Behind all rounds, each worker has the sum of all vectors in the places of the bucket. -/
theorem rst_all (lo hi : Int) (m : Nat) (z : Nat → Nat → Int) (hm : 1 ≤ m) (h1 : lo ≤ hi) (i w : Nat) (hw : w < m) (hz : ∀ w, w < m → -9223372036854775808 ≤ z w i ∧ z w i ≤ 9223372036854775807) :
    rst lo hi m z (2 * (m - 1)) w i = if lo ≤ i ∧ (i : Int) < hi then wrap64 (isum (fun v => z v i) m) else z w i := by
  by_cases h : lo ≤ i ∧ (i : Int) < hi
  · rw [if_pos h]
    obtain ⟨q, hq, hin, huq⟩ := seg_find lo hi m i hm h.1 h.2
    have hseg : ∀ q', q' < m → (inSeg lo hi m q' i ↔ q' = q) := fun q' hq' => ⟨huq q' hq', fun e => by rw [e]; exact hin⟩
    have hfull : part m z q i (m - 1) = isum (fun v => z v i) m := by
      unfold part
      rw [show m - 1 + 1 = m by omega]
      exact isum_rot m (fun v => z v i) hm q
    by_cases h2 : m = 1
    · subst h2
      have hw0 : w = 0 := by omega
      subst hw0
      show z 0 i = _
      rw [← hfull]
      have := rst_scatter lo hi 1 z q i hq hseg hz 0 (by omega) 0 (by omega)
      have hd : dst 1 q 0 = 0 := by unfold dst; omega
      rw [rst, if_pos (by omega), hd] at this
      exact this
    · rw [show 2 * (m - 1) = m - 1 + (m - 1) by omega, rst_gather lo hi m z q i (by omega) hq hseg hz (m - 1) (Nat.le_refl _) w hw, ← hfull]
      by_cases h3 : dst m q w < m - 1
      · rw [if_pos h3]
      · have hd : dst m q w = m - 1 := by rcases dst_val m q w hq hw with ⟨a, b⟩ | ⟨a, b⟩ <;> omega
        rw [if_neg h3, hd]
  · rw [if_neg h]
    exact rst_out lo hi m z hm h1 i h _ w

end Go.Proofs.Ytkecpbdgcbgogaa
