/-
  Sums around a ring, and what of a round's actions is sent or comes, in plain Lean.
-/
import Derived.Test.YtkecpbdgcbgogaaActPlain
namespace Go.Proofs.Ytkecpbdgcbgogaa
set_option linter.unusedVariables false
set_option linter.unusedSimpArgs false

/-- The sum of the first m values. -/
def sumTo (m : Nat) (g : Nat → Nat) : Nat := ((List.range m).map g).sum
theorem sumTo_succ (m : Nat) (g : Nat → Nat) : sumTo (m + 1) g = sumTo m g + g m := by simp [sumTo, List.range_succ]
theorem sumTo_first (m : Nat) (g : Nat → Nat) : sumTo (m + 1) g = g 0 + sumTo m (fun x => g (x + 1)) := by simp [sumTo, List.range_succ_eq_map, List.map_map, Function.comp_def]
theorem sumTo_congr (m : Nat) (g h : Nat → Nat) (e : ∀ x, x < m → g x = h x) : sumTo m g = sumTo m h := by
  unfold sumTo
  congr 1
  exact List.map_congr_left (fun x hx => e x (List.mem_range.1 hx))
theorem sumTo_add (m : Nat) (g h : Nat → Nat) : sumTo m (fun x => g x + h x) = sumTo m g + sumTo m h := by
  induction m with
  | zero => rfl
  | succ m ih => rw [sumTo_succ, sumTo_succ, sumTo_succ, ih]; omega
theorem sumTo_const (m k : Nat) : sumTo m (fun _ => k) = m * k := by
  induction m with
  | zero => simp [sumTo]
  | succ m ih => rw [sumTo_succ, ih, Nat.add_mul, Nat.one_mul]
theorem sumTo_swap (m n : Nat) (g : Nat → Nat → Nat) : sumTo m (fun x => sumTo n (fun y => g x y)) = sumTo n (fun y => sumTo m (fun x => g x y)) := by
  induction m with
  | zero =>
    have := sumTo_const n 0
    simpa [sumTo] using this.symm
  | succ m ih =>
    rw [sumTo_succ, ih, ← sumTo_add]
    exact sumTo_congr _ _ _ (fun y _ => (sumTo_succ m (fun x => g x y)).symm)
theorem rot_nat (m d : Nat) (f : Nat → Nat) (hm : 1 ≤ m) : sumTo m (fun x => f ((x + d) % m)) = sumTo m f := by
  induction d with
  | zero => exact sumTo_congr _ _ _ (fun x hx => by rw [Nat.add_zero, Nat.mod_eq_of_lt hx])
  | succ d ih =>
    rw [← ih]
    have h1 := sumTo_first m (fun x => f ((x + d) % m))
    have h2 := sumTo_succ m (fun x => f ((x + d) % m))
    rw [h2] at h1
    have e : f ((m + d) % m) = f ((0 + d) % m) := by rw [Nat.add_mod_left, Nat.zero_add]
    have h3 : sumTo m (fun x => f ((x + (d + 1)) % m)) = sumTo m (fun x => f ((x + 1 + d) % m)) := sumTo_congr _ _ _ (fun x _ => by rw [Nat.add_assoc x 1 d, Nat.add_comm 1 d])
    rw [h3]
    rw [Nat.zero_add] at h1 e
    omega
theorem rot_int (m : Nat) (d : Int) (f : Nat → Nat) (hm : 1 ≤ m) : sumTo m (fun x => f (((x : Int) + d) % (m : Int)).toNat) = sumTo m f := by
  have h0 := Int.emod_nonneg d (b := (m : Int)) (by omega)
  obtain ⟨e, he⟩ := Int.eq_ofNat_of_zero_le h0
  rw [← rot_nat m e f hm]
  refine sumTo_congr _ _ _ (fun x _ => ?_)
  congr 1
  rw [← Int.add_emod_emod, he]
  rfl

/-- What of some actions is sent, or comes, as if all were sent. -/
def sendsL (z : Bool) (l : List RAct) : List RAct := (l.filter fun a => a.1.1 == z).map fun a => ((false, false), a.2.1, a.2.2)
theorem sendsL_append (z : Bool) (l k : List RAct) : sendsL z (l ++ k) = sendsL z l ++ sendsL z k := by simp [sendsL]
theorem sendsL_le (z : Bool) (l : List RAct) : (sendsL z l).length ≤ l.length := by
  unfold sendsL
  rw [List.length_map]
  exact List.length_filter_le _ _
/-- The messages of a list of chunks. -/
def msgTo (s b p r : Int) (xs : List (Int × Int)) (k : Nat) : List RAct := (List.range k).flatMap fun (i : Nat) => match xs[i]? with | some x => [((false, false), (s, b, p, r, (i : Int)), x)] | none => []
theorem msgTo_succ (s b p r : Int) (xs : List (Int × Int)) (k : Nat) : msgTo s b p r xs (k + 1) = msgTo s b p r xs k ++ (match xs[k]? with | some x => [((false, false), (s, b, p, r, (k : Int)), x)] | none => []) := by simp [msgTo, List.range_succ]
theorem msgTo_more (s b p r : Int) (xs : List (Int × Int)) (k : Nat) (h : xs.length ≤ k) : msgTo s b p r xs k = msgTo s b p r xs xs.length := by
  induction k with
  | zero => rw [show xs.length = 0 by omega]
  | succ k ih =>
    rcases Nat.lt_or_ge k xs.length with h1 | h1
    · rw [show k + 1 = xs.length by omega]
    · rw [msgTo_succ, List.getElem?_eq_none h1, ih h1, List.append_nil]
theorem msgTo_length (s b p r : Int) (xs : List (Int × Int)) (k : Nat) (h : k ≤ xs.length) : (msgTo s b p r xs k).length = k := by
  induction k with
  | zero => simp [msgTo]
  | succ k ih => rw [msgTo_succ, List.length_append, ih (by omega), List.getElem?_eq_getElem (by omega)]; rfl
theorem sends_rdTo (s b p r : Int) (xs ys : List (Int × Int)) (k : Nat) : sendsL true (rdTo s b p r xs ys k) = msgTo s b p r xs k ∧ sendsL false (rdTo s b p r xs ys k) = msgTo s b p r ys k := by
  induction k with
  | zero => simp [rdTo, msgTo, sendsL]
  | succ k ih =>
    rw [rdTo_succ, sendsL_append, sendsL_append, ih.1, ih.2, msgTo_succ, msgTo_succ]
    constructor <;> congr 1 <;> unfold rdAt <;> cases xs[k]? <;> cases ys[k]? <;> rfl
theorem sends_roundL (s b p r : Int) (xs ys : List (Int × Int)) : sendsL true (roundL s b p r xs ys) = msgTo s b p r xs xs.length ∧ sendsL false (roundL s b p r xs ys) = msgTo s b p r ys ys.length := by
  obtain ⟨h1, h2⟩ := sends_rdTo s b p r xs ys (max xs.length ys.length)
  rw [roundL, h1, h2]
  exact ⟨msgTo_more _ _ _ _ _ _ (by omega), msgTo_more _ _ _ _ _ _ (by omega)⟩

end Go.Proofs.Ytkecpbdgcbgogaa
