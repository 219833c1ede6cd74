/-
  How many items a plan has, in plain Lean.
-/
import Derived.Test.YtkecpbdgcbgogaaPlanRef4
import Derived.Test.YtkecpbdgcbgogaaPlanTotal
import Derived.Test.YtkecpbdgcbgogaaPairsPlain
namespace Go.Proofs.Ytkecpbdgcbgogaa
set_option linter.unusedVariables false
set_option linter.unusedSimpArgs false
set_option maxRecDepth 100000

theorem sumTo_split (a b : Nat) (f : Nat → Nat) : sumTo (a + b) f = sumTo a f + sumTo b (fun i => f (a + i)) := by
  induction b with
  | zero => simp [sumTo]
  | succ b ih => rw [← Nat.add_assoc, sumTo_succ, ih, sumTo_succ, Nat.add_assoc]
theorem flat_sum {α : Type} (f : Nat → List α) (n : Nat) : ((List.range n).flatMap f).length = sumTo n (fun i => (f i).length) := by
  induction n with
  | zero => rfl
  | succ n ih => rw [List.range_succ, List.flatMap_append, List.length_append, ih, sumTo_succ]; simp

/-- The groups cover the buckets. -/
def grpSum (f : Nat → Nat) (l : List (Int × Int)) : Nat := (l.map fun g => sumTo (g.2 - g.1).toNat (fun i => f (g.1.toNat + i))).sum
theorem grp_take (n s : Nat) (f : Nat → Nat) (hn : 1 ≤ n) (hs : 1 ≤ s) : ∀ k, k ≤ cnt n s → grpSum f ((blocksL n s).take k) = sumTo (min (k * s) n) f
  | 0, _ => by simp [grpSum, sumTo]
  | k + 1, hk => by
    have ih := grp_take n s f hn hs k (by omega)
    have hkl : k < (blocksL n s).length := by rw [blocksL_length]; omega
    have hle : k * s < n := by
      rw [cnt_pos n s hn hs] at hk
      have h1 : k ≤ (n - 1) / s := by omega
      have h2 : k * s ≤ (n - 1) / s * s := Nat.mul_le_mul_right s h1
      have h3 := Nat.div_mul_le_self (n - 1) s
      omega
    have hg : grpSum f ((blocksL n s).take (k + 1)) = grpSum f ((blocksL n s).take k) + sumTo ((blocksL n s)[k].2 - (blocksL n s)[k].1).toNat (fun i => f ((blocksL n s)[k].1.toNat + i)) := by
      unfold grpSum
      rw [take_snoc _ _ hkl, List.map_append, List.sum_append]
      simp only [List.map_cons, List.map_nil, List.sum_cons, List.sum_nil, Nat.add_zero]
    rw [hg, ih, blocksL_get n s k hkl]
    dsimp only
    rw [Int.toNat_natCast, show (((k * s + min s (n - k * s) : Nat) : Int) - ((k * s : Nat) : Int)).toNat = min s (n - k * s) by omega, show min (k * s) n = k * s by omega, ← sumTo_split,
      show min ((k + 1) * s) n = k * s + min s (n - k * s) by rw [Nat.add_mul, Nat.one_mul]; omega]
theorem grp_all (n s : Nat) (f : Nat → Nat) (hn : 1 ≤ n) (hs : 1 ≤ s) : grpSum f (blocksL n s) = sumTo n f := by
  have h := grp_take n s f hn hs (cnt n s) (Nat.le_refl _)
  rw [List.take_of_length_le (by rw [blocksL_length]; exact Nat.le_refl _)] at h
  rw [h]
  congr 1
  rw [cnt_pos n s hn hs, Nat.add_mul, Nat.one_mul]
  have := Nat.div_add_mod (n - 1) s
  have := Nat.mod_lt (n - 1) (show 0 < s by omega)
  have : s * ((n - 1) / s) = (n - 1) / s * s := Nat.mul_comm _ _
  omega

/-- The actions of a worker for a bucket, counted. -/
def PlC.al (c : PlC) (w : Int) (j : Nat) : Nat := match c.bks[j]? with
  | some x => (actionsL 0 j x.1 x.2 c.m c.ch w).length
  | none => 0
theorem PlC.jobs_sum (c : PlC) (hm : 1 ≤ c.m) (w : Int) (j : Nat) : sumTo (2 * (c.m - 1)) (fun q => (c.jobI w 0 j ((q / (c.m - 1) : Nat) : Int) ((q % (c.m - 1) : Nat) : Int)).length) = c.al w j := by
  unfold PlC.jobI PlC.al
  cases c.bks[j]? with
  | none => exact sumTo_const _ _ |>.trans (Nat.mul_zero _)
  | some x =>
    simp only [List.length_map]
    unfold actionsL actTo
    rw [show (((c.m : Nat) : Int) - 1).toNat = c.m - 1 by omega, flat_sum]
theorem PlC.rnd_sum (c : PlC) (hm : 1 ≤ c.m) (w : Int) (lo n : Nat) : (c.rndI w 0 lo n (2 * (c.m - 1))).length = sumTo n (fun i => c.al w (lo + i)) := by
  unfold PlC.rndI PlC.jobsI
  rw [flat_sum]
  have e1 : sumTo (2 * (c.m - 1)) (fun q => ((List.range n).flatMap fun i => c.jobI w 0 (lo + i) ((q / (c.m - 1) : Nat) : Int) ((q % (c.m - 1) : Nat) : Int)).length) =
      sumTo (2 * (c.m - 1)) (fun q => sumTo n (fun i => (c.jobI w 0 (lo + i) ((q / (c.m - 1) : Nat) : Int) ((q % (c.m - 1) : Nat) : Int)).length)) := sumTo_congr _ _ _ (fun q _ => flat_sum _ _)
  rw [e1, sumTo_swap]
  exact sumTo_congr _ _ _ (fun i _ => c.jobs_sum hm w (lo + i))
theorem PlC.group_sum (c : PlC) (hm : 1 ≤ c.m) (w : Int) (lo n : Nat) : (c.groupI w 0 lo n).length = sumTo n (fun i => 2 + c.al w (lo + i)) := by
  rw [PlC.groupI, List.length_append, List.length_append, rangeI_length, rangeI_length, c.rnd_sum hm, sumTo_add, sumTo_const]
  omega
theorem PlC.items_sum (c : PlC) (h : c.Ok) (w : Int) : (c.itemsI w 0).length = c.mi + (2 * c.nb + sumTo c.nb (c.al w)) + 1 := by
  have e : (c.grpsI w 0 (cnt c.nb c.wi)).length = grpSum (fun j => 2 + c.al w j) c.grps := by
    unfold PlC.grpsI
    rw [List.take_of_length_le (by rw [c.grps_length]; exact Nat.le_refl _)]
    unfold grpSum
    induction c.grps with
    | nil => rfl
    | cons g l ih =>
      rw [List.flatMap_cons, List.length_append, ih, List.map_cons, List.sum_cons]
      unfold PlC.groupG
      rw [c.group_sum h.m1]
  rw [PlC.itemsI, List.length_append, List.length_append, rangeI_length, e]
  unfold PlC.grps
  rw [grp_all _ _ _ (PlC.nb_pos h) h.w1, sumTo_add, sumTo_const]
  simp only [List.length_cons, List.length_nil]
  omega

theorem sends_both (l : List RAct) : (sendsL true l).length + (sendsL false l).length = l.length := by
  unfold sendsL
  simp only [List.length_map]
  induction l with
  | nil => rfl
  | cons a l ih =>
    cases h : a.1.1
    · rw [List.filter_cons_of_neg (by rw [h]; decide), List.filter_cons_of_pos (by rw [h]; decide), List.length_cons, List.length_cons]
      omega
    · rw [List.filter_cons_of_pos (by rw [h]; decide), List.filter_cons_of_neg (by rw [h]; decide), List.length_cons, List.length_cons]
      omega
theorem acts_all (s b lo hi : Int) (m : Nat) (c : Int) (h1 : lo ≤ hi) (hm : 1 ≤ m) : sumTo m (fun x => (actionsL s b lo hi m c (x : Int)).length) = 4 * (m - 1) * msgsF c (segsL lo hi m) := by
  have e1 : sumTo m (fun x => (actionsL s b lo hi m c (x : Int)).length) = sumTo m (fun x => (sendsL true (actionsL s b lo hi m c (x : Int))).length + (sendsL false (actionsL s b lo hi m c (x : Int))).length) :=
    sumTo_congr _ _ _ (fun x _ => (sends_both _).symm)
  have e2 : sumTo m (fun x => (sendsL false (actionsL s b lo hi m c (x : Int))).length) = sumTo m (fun x => (sendsL true (actionsL s b lo hi m c (x : Int))).length) := by
    rw [← rot_nat m 1 (fun x => (sendsL false (actionsL s b lo hi m c (x : Int))).length) hm]
    refine sumTo_congr _ _ _ (fun x hx => ?_)
    have := pairs_eq s b lo hi m c (x : Int) (by omega) (by omega) (by omega)
    rw [this]
    have e3 : (((x + 1) % m : Nat) : Int) = ((x : Int) + 1) % (m : Int) := by simp
    rw [← e3]
  have h3 := sent_all s b lo hi m c h1 (by omega)
  rw [Int.toNat_natCast, show (((m : Nat) : Int) - 1).toNat = m - 1 by omega] at h3
  rw [e1, sumTo_add, e2, h3]
  generalize msgsF c (segsL lo hi m) = u
  rw [show 4 * (m - 1) = 2 * (m - 1) + 2 * (m - 1) by omega, Nat.add_mul]
theorem PlC.al_sum (c : PlC) (h : c.Ok) (j : Nat) (x : Int × Int) (hx : c.bks[j]? = some x) : sumTo c.m (fun w => c.al (w : Int) j) = 4 * (c.m - 1) * c.msgI x := by
  have hin := PlC.bks_in hx
  unfold PlC.msgI
  rw [← acts_all 0 j x.1 x.2 c.m c.ch hin.2.1 h.m1]
  refine sumTo_congr _ _ _ (fun w _ => ?_)
  unfold PlC.al
  rw [hx]
theorem PlC.tot_sum (c : PlC) (h : c.Ok) : ∀ k, k ≤ c.nb → ((c.bks.take k).map fun x => 4 * (c.m - 1) * c.msgI x).sum = sumTo k (fun j => sumTo c.m (fun w => c.al (w : Int) j))
  | 0, _ => by simp [sumTo]
  | k + 1, hk => by
    have hkl : k < c.bks.length := by rw [c.bks_length]; omega
    rw [take_snoc _ _ hkl, List.map_append, List.sum_append, c.tot_sum h k (by omega), sumTo_succ, c.al_sum h k _ (List.getElem?_eq_getElem hkl)]
    simp
theorem PlC.sumI_sum (c : PlC) : ∀ k, c.sumI k = sumTo k (fun x => c.lenI (x : Int))
  | 0 => rfl
  | k + 1 => by rw [sumTo_succ, ← c.sumI_sum k]; rfl
/-- The number of all items is that of the formula. -/
theorem PlC.sum_tot (c : PlC) (h : c.Ok) : c.sumI c.m = c.totL c.nb := by
  have e1 : c.sumI c.m = sumTo c.m (fun x => (c.mi + 2 * c.nb + 1) + sumTo c.nb (c.al (x : Int))) := by
    rw [c.sumI_sum]
    refine sumTo_congr _ _ _ (fun x hx => ?_)
    rw [c.lenI_in x hx, c.items_sum h]
    omega
  rw [e1, sumTo_add, sumTo_const, sumTo_swap, ← c.tot_sum h c.nb (Nat.le_refl _), PlC.totL]

end Go.Proofs.Ytkecpbdgcbgogaa
