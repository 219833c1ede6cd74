/-
  What a worker sends in a step is what the next one receives, in plain Lean.
-/
import Derived.Test.YtkecpbdgcbgogaaPlanNear
import Derived.Test.YtkecpbdgcbgogaaPairsPlain
namespace Go.Proofs.Ytkecpbdgcbgogaa
set_option linter.unusedVariables false
set_option linter.unusedSimpArgs false
set_option maxRecDepth 100000

def sentF (y : RItem) : Option RItem := if y.1.1 = 3 then some ((0, y.1.2.1, 0), y.2) else none
def recvF (y : RItem) : Option RItem := if y.1.1 = 4 then some ((0, y.1.2.1, y.1.2.2), ((true, false), y.2.2)) else none
theorem fm_flat {α β γ : Type} (g : β → Option γ) (f : α → List β) : ∀ l : List α, (l.flatMap f).filterMap g = l.flatMap (fun x => (f x).filterMap g)
  | [] => rfl
  | x :: l => by rw [List.flatMap_cons, List.filterMap_append, fm_flat g f l, List.flatMap_cons]
theorem fm_range (g : RItem → Option RItem) (k t : Int) (lo n : Nat) (h : ∀ j, g (plainI k t j) = none) : (rangeI k t lo n).filterMap g = [] := by
  rw [List.filterMap_eq_nil_iff]
  intro y hy
  unfold rangeI at hy
  obtain ⟨i, _, rfl⟩ := List.mem_map.1 hy
  exact h _
def act0 (t : Int) (a : RAct) : RItem := ((0, t, 0), ((true, false), a.2))
theorem sent_acts (t : Int) : ∀ R : List RAct, (∀ a ∈ R, a.1.1 = true → a.1.2 = false) → (R.map (actI t)).filterMap sentF = (sendsL true R).map (act0 t)
  | [], _ => rfl
  | a :: R, h => by
    have ih := sent_acts t R (fun b hb => h b (by simp [hb]))
    have h0 := h a (by simp)
    obtain ⟨⟨sd, ad⟩, tg, at_⟩ := a
    cases sd
    · rw [List.map_cons, List.filterMap_cons_none (by rfl), ih]
      rfl
    · simp only at h0
      have := h0 trivial
      subst this
      rw [List.map_cons, List.filterMap_cons_some (by rfl), ih]
      rfl
theorem recv_acts (t : Int) : ∀ R : List RAct, (R.map (actI t)).filterMap recvF = (sendsL false R).map (act0 t)
  | [] => rfl
  | a :: R => by
    have ih := recv_acts t R
    obtain ⟨⟨sd, ad⟩, tg, at_⟩ := a
    cases sd
    · rw [List.map_cons, List.filterMap_cons_some (by rfl), ih]
      rfl
    · rw [List.map_cons, List.filterMap_cons_none (by rfl), ih]
      rfl
theorem rdAt_send (s b p r : Int) (xs ys : List (Int × Int)) (i : Nat) : ∀ a ∈ rdAt s b p r xs ys i, a.1.1 = true → a.1.2 = false := by
  intro a ha hs
  unfold rdAt at ha
  rcases List.mem_append.1 ha with ha | ha
  · cases hx : xs[i]? with
    | none => rw [hx] at ha; cases ha
    | some x =>
      rw [hx] at ha
      obtain rfl := List.mem_singleton.1 ha
      rfl
  · cases hy : ys[i]? with
    | none => rw [hy] at ha; cases ha
    | some y =>
      rw [hy] at ha
      obtain rfl := List.mem_singleton.1 ha
      cases hs
theorem rY_send (s b lo hi m c x p r : Int) : ∀ a ∈ rY s b lo hi m c x p r, a.1.1 = true → a.1.2 = false := by
  intro a ha
  unfold rY at ha
  split at ha
  · unfold roundR roundL rdTo at ha
    obtain ⟨i, _, hi⟩ := List.mem_flatMap.1 ha
    exact rdAt_send s b p r _ _ i a hi
  · cases ha
theorem PlC.job_pairs (c : PlC) (x t : Int) (hx0 : 0 ≤ x) (hx1 : x < c.m) (j : Nat) (p r : Int) (hp : p = 0 ∨ p = 1) (hr0 : 0 ≤ r) (hr1 : r < (c.m : Int) - 1) :
    (c.jobI x t j p r).filterMap sentF = (c.jobI ((x + 1) % c.m) t j p r).filterMap recvF := by
  unfold PlC.jobI
  cases c.bks[j]? with
  | none => rfl
  | some y =>
    simp only
    rw [sent_acts t _ (rY_send _ _ _ _ _ _ _ _ _), recv_acts, sends_rY _ _ _ _ _ _ _ _ _ hx0 hx1 hp hr0 hr1, recv_rY _ _ _ _ _ _ _ _ _ hx0 hx1 hp hr0 hr1]
theorem flatMap_congr' {α β : Type} (f g : α → List β) : ∀ l : List α, (∀ x ∈ l, f x = g x) → l.flatMap f = l.flatMap g
  | [], _ => rfl
  | x :: l, h => by rw [List.flatMap_cons, List.flatMap_cons, h x (by simp), flatMap_congr' f g l (fun y hy => h y (by simp [hy]))]
theorem PlC.rnd_pairs (c : PlC) (h : c.Ok) (x t : Int) (hx0 : 0 ≤ x) (hx1 : x < c.m) (lo n : Nat) :
    (c.rndI x t lo n (2 * (c.m - 1))).filterMap sentF = (c.rndI ((x + 1) % c.m) t lo n (2 * (c.m - 1))).filterMap recvF := by
  unfold PlC.rndI
  rw [fm_flat, fm_flat]
  refine flatMap_congr' _ _ _ (fun q hq => ?_)
  have hq' := List.mem_range.1 hq
  unfold PlC.jobsI
  rw [fm_flat, fm_flat]
  refine flatMap_congr' _ _ _ (fun i _ => ?_)
  obtain ⟨h1, h2, h3⟩ := round_at (c.m - 1) q hq'
  have := h.m1
  exact c.job_pairs x t hx0 hx1 _ _ _ h1 h2 (by omega)
theorem PlC.group_pairs (c : PlC) (h : c.Ok) (x t : Int) (hx0 : 0 ≤ x) (hx1 : x < c.m) (lo n : Nat) :
    (c.groupI x t lo n).filterMap sentF = (c.groupI ((x + 1) % c.m) t lo n).filterMap recvF := by
  unfold PlC.groupI
  rw [List.filterMap_append, List.filterMap_append, List.filterMap_append, List.filterMap_append, fm_range sentF 2 t lo n (fun _ => rfl), fm_range sentF 5 t lo n (fun _ => rfl), fm_range recvF 2 t lo n (fun _ => rfl), fm_range recvF 5 t lo n (fun _ => rfl), c.rnd_pairs h x t hx0 hx1]
theorem PlC.items_pairs (c : PlC) (h : c.Ok) (x t : Int) (hx0 : 0 ≤ x) (hx1 : x < c.m) :
    (c.itemsI x t).filterMap sentF = (c.itemsI ((x + 1) % c.m) t).filterMap recvF := by
  unfold PlC.itemsI PlC.grpsI
  rw [List.filterMap_append, List.filterMap_append, List.filterMap_append, List.filterMap_append, fm_range sentF 1 t 0 c.mi (fun _ => rfl), fm_range recvF 1 t 0 c.mi (fun _ => rfl), fm_flat, fm_flat]
  rw [flatMap_congr' (fun g => (c.groupG x t g).filterMap sentF) (fun g => (c.groupG ((x + 1) % c.m) t g).filterMap recvF) _ (fun g _ => c.group_pairs h x t hx0 hx1 _ _)]
  rfl
theorem PlC.step_pairs (c : PlC) (h : c.Ok) (st x t : Int) (hx0 : 0 ≤ x) (hx1 : x < c.m) :
    (c.stepI st x t).filterMap sentF = (c.stepI st ((x + 1) % c.m) t).filterMap recvF := by
  have hm := h.m1
  have h1 := Int.emod_nonneg (x + 1) (b := (c.m : Int)) (by omega)
  have h2 := Int.emod_lt_of_pos (x + 1) (b := (c.m : Int)) (by omega)
  unfold PlC.stepI
  by_cases ht : 0 ≤ t ∧ t < st
  · rw [if_pos ⟨hx0, hx1, ht.1, ht.2⟩, if_pos ⟨h1, h2, ht.1, ht.2⟩]
    exact c.items_pairs h x t hx0 hx1
  · rw [if_neg (fun hh => ht ⟨hh.2.2.1, hh.2.2.2⟩), if_neg (fun hh => ht ⟨hh.2.2.1, hh.2.2.2⟩)]
    rfl

end Go.Proofs.Ytkecpbdgcbgogaa
