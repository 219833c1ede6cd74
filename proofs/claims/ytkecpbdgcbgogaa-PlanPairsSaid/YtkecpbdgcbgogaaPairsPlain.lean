/-
  What a worker sends is what the next one receives; how many messages all workers send: in plain Lean.
-/
import Derived.Test.YtkecpbdgcbgogaaActions
import Derived.Test.YtkecpbdgcbgogaaRotPlain
namespace Go.Proofs.Ytkecpbdgcbgogaa
set_option linter.unusedVariables false
set_option linter.unusedSimpArgs false

theorem next_mod (x p r m : Int) : ((x + 1) % m - r + p - 1) % m = (x - r + p) % m := by
  rw [show (x + 1) % m - r + p - 1 = (x + 1) % m + (p - r - 1) by omega, Int.emod_add_emod]
  congr 1
  omega
theorem sends_rY (s b lo hi m c x p r : Int) (hx1 : 0 ≤ x) (hx2 : x < m) (hp : p = 0 ∨ p = 1) (hr1 : 0 ≤ r) (hr2 : r < m - 1) :
    sendsL true (rY s b lo hi m c x p r) = msgTo s b p r (chS lo hi m c ((x - r + p) % m).toNat) (chS lo hi m c ((x - r + p) % m).toNat).length := by
  rw [rY, if_pos ⟨hx1, hx2, hp, hr1, hr2⟩, roundR]
  exact (sends_roundL _ _ _ _ _ _).1
theorem recv_rY (s b lo hi m c x p r : Int) (hx1 : 0 ≤ x) (hx2 : x < m) (hp : p = 0 ∨ p = 1) (hr1 : 0 ≤ r) (hr2 : r < m - 1) :
    sendsL false (rY s b lo hi m c ((x + 1) % m) p r) = msgTo s b p r (chS lo hi m c ((x - r + p) % m).toNat) (chS lo hi m c ((x - r + p) % m).toNat).length := by
  have z1 := Int.emod_nonneg (x + 1) (b := m) (by omega)
  have z2 := Int.emod_lt_of_pos (x + 1) (b := m) (by omega)
  rw [rY, if_pos ⟨z1, z2, hp, hr1, hr2⟩, roundR, (sends_roundL _ _ _ _ _ _).2, next_mod]

theorem round_at (M j : Nat) (hj : j < 2 * M) : (((j / M : Nat) : Int) = 0 ∨ ((j / M : Nat) : Int) = 1) ∧ (0 : Int) ≤ ((j % M : Nat) : Int) ∧ ((j % M : Nat) : Int) < (M : Int) := by
  have h1 : j / M < 2 := (Nat.div_lt_iff_lt_mul (by omega)).2 hj
  have h2 := Nat.mod_lt j (show 0 < M by omega)
  generalize j / M = q at *
  generalize j % M = r at *
  omega

theorem pairs_to (s b lo hi m c x : Int) (M : Nat) (hM : m - 1 = (M : Int)) (hx1 : 0 ≤ x) (hx2 : x < m) (k : Nat) (hk : k ≤ 2 * M) : sendsL true (actTo s b lo hi m c x M k) = sendsL false (actTo s b lo hi m c ((x + 1) % m) M k) := by
  induction k with
  | zero => simp [actTo, sendsL]
  | succ k ih =>
    obtain ⟨a1, a2, a3⟩ := round_at M k (by omega)
    rw [actTo_succ, actTo_succ, sendsL_append, sendsL_append, ih (by omega), sends_rY s b lo hi m c x _ _ hx1 hx2 a1 a2 (by omega), recv_rY s b lo hi m c x _ _ hx1 hx2 a1 a2 (by omega)]
theorem pairs_eq (s b lo hi m c x : Int) (hm : 1 ≤ m) (hx1 : 0 ≤ x) (hx2 : x < m) : sendsL true (actionsL s b lo hi m c x) = sendsL false (actionsL s b lo hi m c ((x + 1) % m)) :=
  pairs_to s b lo hi m c x (m - 1).toNat (by omega) hx1 hx2 _ (Nat.le_refl _)

theorem sent_to (s b lo hi m c x : Int) (M : Nat) (hM : m - 1 = (M : Int)) (hx1 : 0 ≤ x) (hx2 : x < m) (k : Nat) (hk : k ≤ 2 * M) :
    (sendsL true (actTo s b lo hi m c x M k)).length = sumTo k fun j => (chS lo hi m c ((x - ((j % M : Nat) : Int) + ((j / M : Nat) : Int)) % m).toNat).length := by
  induction k with
  | zero => simp [actTo, sendsL, sumTo]
  | succ k ih =>
    obtain ⟨a1, a2, a3⟩ := round_at M k (by omega)
    rw [actTo_succ, sendsL_append, List.length_append, ih (by omega), sends_rY s b lo hi m c x _ _ hx1 hx2 a1 a2 (by omega), msgTo_length _ _ _ _ _ _ (Nat.le_refl _), sumTo_succ]

theorem segs_map (lo hi m : Int) (h1 : lo ≤ hi) : segsL lo hi m = (List.range m.toNat).map (segR lo hi m) := by
  apply List.ext_getElem?
  intro i
  by_cases h : i < m.toNat
  · rw [segs_at lo hi m i h1 (by omega)]
    simp [h, segR]
  · rw [List.getElem?_eq_none (by rw [segsL_length _ _ _ h1]; omega), List.getElem?_eq_none (by simp; omega)]
theorem msgs_sum (lo hi m c : Int) (h1 : lo ≤ hi) : msgsF c (segsL lo hi m) = sumTo m.toNat fun q => (chS lo hi m c q).length := by
  rw [msgsF, segs_map lo hi m h1, List.map_map, sumTo]
  congr 1
  refine List.map_congr_left (fun q _ => ?_)
  rw [chS, chunksL_length]
  rfl
/-- All workers together. -/
theorem sent_all (s b lo hi m c : Int) (h1 : lo ≤ hi) (hm : 1 ≤ m) : sumTo m.toNat (fun x => (sendsL true (actionsL s b lo hi m c (x : Int))).length) = 2 * (m - 1).toNat * msgsF c (segsL lo hi m) := by
  have e1 : sumTo m.toNat (fun x => (sendsL true (actionsL s b lo hi m c (x : Int))).length) = sumTo m.toNat (fun x => sumTo (2 * (m - 1).toNat) fun j => (chS lo hi m c (((x : Int) - ((j % (m - 1).toNat : Nat) : Int) + ((j / (m - 1).toNat : Nat) : Int)) % m).toNat).length) :=
    sumTo_congr _ _ _ (fun x hx => sent_to s b lo hi m c x (m - 1).toNat (by omega) (by omega) (by omega) _ (Nat.le_refl _))
  rw [e1, sumTo_swap, msgs_sum lo hi m c h1]
  refine Eq.trans ?_ (sumTo_const (2 * (m - 1).toNat) _)
  refine sumTo_congr _ _ _ (fun j _ => ?_)
  rw [← rot_int m.toNat (-((j % (m - 1).toNat : Nat) : Int) + ((j / (m - 1).toNat : Nat) : Int)) (fun q => (chS lo hi m c q).length) (by omega)]
  refine sumTo_congr _ _ _ (fun x _ => ?_)
  rw [show ((m.toNat : Nat) : Int) = m by omega]
  generalize ((j % (m - 1).toNat : Nat) : Int) = u
  generalize ((j / (m - 1).toNat : Nat) : Int) = v
  rw [show (x : Int) - u + v = (x : Int) + (-u + v) by omega]

end Go.Proofs.Ytkecpbdgcbgogaa
