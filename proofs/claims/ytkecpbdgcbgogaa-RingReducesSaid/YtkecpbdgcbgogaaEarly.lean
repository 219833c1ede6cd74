/-
  A region that draws its order: loads and pure operations whose values stay while the class of worlds is kept are taken first; the rest comes up one by one, and its last operation alone may leave the class.
-/
import Derived.Test.YtkecpbdgcbgogaaTail
import Derived.OrdersHeld
namespace Go.Proofs.Ytkecpbdgcbgogaa
set_option linter.unusedVariables false
set_option linter.unusedSimpArgs false
open Go.RowKit

section
variable {P : Program} {ops : Array Oper} {md : Region.Mode} {S : World → Prop} {Q Q' : Exit → Act → World → Prop}

theorem oper_monoQ {o : Oper} {a : Act} {w : World} {K : Act → World → Prop} (h : ∀ e a w, e ≠ Exit.normal → Q e a w → Q' e a w) (hh : o.wp P a w K Q) : o.wp P a w K Q' := by
  unfold Oper.wp at *
  generalize (execOp a.eval o).run P w = r at *
  cases r with
  | ok n w' =>
    cases n <;> simp only [Oper.upon] at hh ⊢
    case value u => exact hh
    case skip => exact hh
    case defer d => exact hh
    case enter f args =>
      refine Calls.mono hh fun e w'' he => ?_
      cases e with
      | returned u => exact he
      | panicked c => exact h _ _ _ (by simp) he
      | outgrown => obtain ⟨a', w₀, hq⟩ := he; exact ⟨a', w₀, h _ _ _ (by simp) hq⟩
    case row row args => exact hh
  | halt x w' =>
    cases x <;> simp only [Oper.upon] at hh ⊢
    case panic u => exact h _ _ _ (by simp) hh
theorem wpOp_monoQ {i : Nat} {a : Act} {w : World} {K : Act → World → Prop} (h : ∀ e a w, e ≠ Exit.normal → Q e a w → Q' e a w) (hh : wpOp P ops Q i K a w) : wpOp P ops Q' i K a w := by
  unfold wpOp at *
  split
  · rename_i ho; simp only [ho] at hh; exact hh
  · rename_i o ho
    simp only [ho] at hh
    split
    · rename_i hw
      simp only [hw, if_true] at hh
      rcases hh with hh | ⟨h1, a', w₀, hq⟩
      · exact .inl (oper_monoQ h hh)
      · exact .inr ⟨h1, a', w₀, h _ _ _ (by simp) hq⟩
    · rename_i hw
      simp only [hw] at hh
      exact hh

/-- f waits for i, directly or through others. -/
def reachB (md : Region.Mode) (ops : Array Oper) : Nat → Nat → Nat → Bool
  | 0, _, _ => false
  | fuel + 1, f, i => Region.waitsFor md ops f i || (List.range ops.size).any fun j => Region.waitsFor md ops f j && reachB md ops fuel j i
def ClosedL (md : Region.Mode) (ops : Array Oper) (listed : Array Bool) : Prop := ∀ j oj, ops[j]? = some oj → listed.getD j false = true → ∀ e ∈ oj.after, Region.binds md e = true → listed.getD e.on false = true
theorem reach_listed {listed : Array Bool} (hc : ClosedL md ops listed) {i : Nat} (fuel : Nat) : ∀ f, (∀ of, ops[f]? = some of → ∀ e ∈ of.after, Region.binds md e = true → listed.getD e.on false = true) → reachB md ops fuel f i = true → listed.getD i false = true := by
  induction fuel with
  | zero => intro f _ h; cases h
  | succ fuel ih =>
    intro f hf h
    simp only [reachB, Bool.or_eq_true, List.any_eq_true, Bool.and_eq_true] at h
    rcases h with h | ⟨j, _, h1, h2⟩
    · obtain ⟨oj, hoj, e, he, hb, hon⟩ := Region.waitsFor_spec h
      rw [← hon]
      exact hf oj hoj e he hb
    · obtain ⟨oj, hoj, e, he, hb, hon⟩ := Region.waitsFor_spec h1
      have hj : listed.getD j false = true := by rw [← hon]; exact hf oj hoj e he hb
      exact ih j (fun oj' hoj' => hc j oj' hoj' hj) h2
theorem ClosedL.set {listed : Array Bool} {i : Nat} (h : ClosedL md ops listed) (hi : i ∈ Region.ready md ops listed) : ClosedL md ops (listed.setIfInBounds i true) := by
  obtain ⟨_, oi, hoi, hall⟩ := mem_ready.1 hi
  intro j oj hj hl e he hb
  by_cases hij : i = j
  · subst hij
    have : oj = oi := Option.some.inj (hj.symm.trans hoi)
    subst this
    exact getD_set_true (hall e he hb)
  · rw [getD_set_ne false hij] at hl
    exact getD_set_true (h j oj hj hl e he hb)

/-- Whatever order is picked; behind every operation but those in F the class is kept. -/
def AnyT (P : Program) (md : Region.Mode) (ops : Array Oper) (Q : Exit → Act → World → Prop) (S : World → Prop) (F : List Nat) : Nat → Array Bool → Act → World → Prop
  | 0, listed, a, w => Region.ready md ops listed = [] ∧ Q .normal a w
  | f + 1, listed, a, w => (Region.ready md ops listed = [] → Q .normal a w) ∧ ∀ i ∈ Region.ready md ops listed, wpOp P ops Q i (fun a' w' => (i ∈ F ∨ S w') ∧ AnyT P md ops Q S F f (listed.setIfInBounds i true) a' w') a w

theorem AnyT.any {F : List Nat} (f : Nat) : ∀ (listed : Array Bool) (a : Act) (w : World), AnyT P md ops Q S F f listed a w → wpAny P md ops Q f listed a w := by
  induction f with
  | zero => intro listed a w h; exact h
  | succ f ih => intro listed a w h; exact ⟨h.1, fun i hi => wpOp_mono (fun a' w' h' => ih _ a' w' h'.2) (h.2 i hi)⟩

theorem AnyT.first {F : List Nat} {i N : Nat} {oi : Oper} {v : Value} (hi : ops[i]? = some oi) (hsel : ∀ (j : Nat) (o : Oper) cs b, ops[j]? = some o → o.op ≠ .select cs b) (hQ : ∀ c a w, Q (.panic c) (a.put oi.dst v) w → Q (.panic c) a w)
    (hwait : ∀ f ∈ F, reachB md ops N f i = true) (fuel : Nat) : ∀ (listed : Array Bool) (a : Act) (w : World), ClosedL md ops listed →
      (∀ j oj, ops[j]? = some oj → j ≠ i → listed.getD j true = false → (∀ e ∈ oj.after, Region.binds md e = true → e.on ≠ i) → oi.apart ops oj = true) →
      i ∈ Region.ready md ops listed → YieldsIf P ops S oi v a → S w → AnyT P md ops Q S F fuel (listed.setIfInBounds i true) (a.put oi.dst v) w → AnyT P md ops Q S F (fuel + 1) listed a w := by
  have notlast : ∀ {listed : Array Bool} {j : Nat}, ClosedL md ops listed → listed.getD i true = false → j ∈ Region.ready md ops listed → j ∉ F := fun {listed j} hc hun hr hF => by
    obtain ⟨_, ot, hot, hall⟩ := mem_ready.1 hr
    have h2 := reach_listed hc N j (fun of hof e he hb => by
      have : of = ot := Option.some.inj (hof.symm.trans hot)
      subst this
      exact hall e he hb) (hwait j hF)
    rw [getD_both hun] at h2
    cases h2
  induction fuel with
  | zero =>
    intro listed a w _ _ hr hy hS H
    refine ⟨fun h => (by rw [h] at hr; cases hr), fun j hj => ?_⟩
    by_cases hji : j = i
    · subst hji; exact hy.wpOp hi hS ⟨.inr hS, H⟩
    · have := ready_mono hj hji
      rw [H.1] at this
      cases this
  | succ fuel ih =>
    intro listed a w hcl hfree hr hy hS H
    have hun := (mem_ready.1 hr).1
    refine ⟨fun h => (by rw [h] at hr; cases hr), fun j hj => ?_⟩
    by_cases hji : j = i
    · subst hji; exact hy.wpOp hi hS ⟨.inr hS, H⟩
    · have hjn : j ∉ F := notlast hcl hun hj
      have h1 := H.2 j (ready_mono hj hji)
      obtain ⟨hjun, oj, hoj, hall⟩ := mem_ready.1 hj
      have hnot : ∀ e ∈ oj.after, Region.binds md e = true → e.on ≠ i := fun e he hb heq => by
        have h1 := hall e he hb
        rw [heq, getD_both hun] at h1
        cases h1
      have h2 := wpOp_putIf hoj (hfree j oj hoj hji hjun hnot) (fun cs b => hsel i oi cs b hi) (fun cs b => hsel j oj cs b hoj) hQ hy h1
      refine wpOp_mono (fun a' w' h3 => ?_) h2
      have hS' : S w' := h3.2.1.resolve_left hjn
      refine ⟨.inr hS', ih (listed.setIfInBounds j true) a' w' (hcl.set hj) (fun k ok hk hki hunk hno => hfree k ok hk hki ?_ hno) (ready_mono hr (Ne.symm hji)) h3.1 hS' ?_⟩
      · by_cases hjk : j = k
        · subst hjk; exact hjun
        · rwa [getD_set_ne true hjk] at hunk
      · rw [Array.setIfInBounds_comm _ _ hji]
        exact h3.2.2

/-- The operations that are taken first. -/
def EarlyW (P : Program) (ops : Array Oper) (S : World → Prop) (next : Act → Prop) : List Oper → Act → Prop
  | [], a => next a
  | o :: es, a => ∃ v, YieldsIf P ops S o v a ∧ EarlyW P ops S next es (a.put o.dst v)
def earlyB (md : Region.Mode) (ops : Array Oper) (F : List Nat) (N : Nat) : List Nat → Array Bool → Bool
  | [], _ => true
  | e :: es, listed => (Region.ready md ops listed).contains e && Region.free md ops listed e && F.all (fun f => reachB md ops N f e) && earlyB md ops F N es (listed.setIfInBounds e true)

theorem early_any (hs : Region.noSelect ops = true) {F : List Nat} {N fuel : Nat} {w : World} (hS : S w) {next : Act → Prop} (es : List Nat) : ∀ (le : List Oper) (listed : Array Bool) (a : Act), ClosedL md ops listed → es.map (ops[·]?) = le.map some → earlyB md ops F N es listed = true →
    (∀ a', next a' → AnyT P md ops (NoPanic Q) S F fuel (listAll listed es) a' w) → EarlyW P ops S next le a → AnyT P md ops (NoPanic Q) S F (es.length + fuel) listed a w := by
  induction es with
  | nil =>
    intro le listed a _ hm _ hn h
    cases le with
    | nil => rw [List.length_nil, Nat.zero_add]; exact hn a h
    | cons _ _ => simp at hm
  | cons e es ih =>
    intro le listed a hcl hm hB hn h
    cases le with
    | nil => simp at hm
    | cons o le =>
      simp only [List.map_cons, List.cons.injEq] at hm
      simp only [earlyB, Bool.and_eq_true] at hB
      obtain ⟨v, hy, h⟩ := h
      have hr : e ∈ Region.ready md ops listed := by simpa using hB.1.1.1
      rw [List.length_cons, show es.length + 1 + fuel = (es.length + fuel) + 1 by omega]
      exact AnyT.first hm.1 (Region.noSelect_spec hs) (fun _ _ _ h => h) (fun f hf => List.all_eq_true.1 hB.1.2 f hf) _ listed a w hcl (Region.free_spec hm.1 hB.1.1.2) hr hy hS (ih le _ _ (hcl.set hr) hm.2 hB.2 hn h)

/-- The rest, one by one; behind each the class is to be shown; then what is free of it. -/
def RestW (P : Program) (ops : Array Oper) (Q : Exit → Act → World → Prop) (S : World → Prop) (next : Act → World → Prop) : List Oper → Act → World → Prop
  | [], a, w => next a w
  | o :: rest, a, w => wpList P ops (fun e a' w' => match e with | .normal => S w' ∧ RestW P ops Q S next rest a' w' | e => Q e a' w') [o] a w

theorem rest_any {F : List Nat} {g : Nat} {next : Act → World → Prop} (ts : List Nat) : ∀ (lt : List Oper) (listed : Array Bool) (a : Act) (w : World), ts.map (ops[·]?) = lt.map some → (∀ a w, next a w → AnyT P md ops Q S F g (listAll listed ts) a w) →
    (seqR : Bool) → seqR = true → (seqR = true → ∀ k l, ts.take k = l → k < ts.length → Region.ready md ops (listAll listed l) = [ts.getD k 0]) → RestW P ops Q S next lt a w → AnyT P md ops Q S F (ts.length + g) listed a w := by
  induction ts with
  | nil =>
    intro lt listed a w hm hn b hb hseq h
    cases lt with
    | nil => rw [List.length_nil, Nat.zero_add]; exact hn a w h
    | cons _ _ => simp at hm
  | cons t ts ih =>
    intro lt listed a w hm hn b hb hseq h
    cases lt with
    | nil => simp at hm
    | cons o lt =>
      simp only [List.map_cons, List.cons.injEq] at hm
      have hr : Region.ready md ops listed = [t] := by simpa [listAll] using hseq hb 0 [] (by simp) (by simp)
      rw [List.length_cons, show ts.length + 1 + g = (ts.length + g) + 1 by omega]
      refine ⟨fun h1 => (by rw [hr] at h1; cases h1), fun i hi => ?_⟩
      rw [hr] at hi
      have hik : i = t := by simpa using hi
      subst hik
      have hw : wpOp P ops (fun e a' w' => match e with | .normal => S w' ∧ RestW P ops Q S next lt a' w' | e => Q e a' w') i (wpList P ops (fun e a' w' => match e with | .normal => S w' ∧ RestW P ops Q S next lt a' w' | e => Q e a' w') []) a w := by unfold wpOp; simp only [hm.1]; exact h
      refine wpOp_mono (fun a' w' h' => ⟨.inr h'.1, ih lt _ a' w' hm.2 hn b hb (fun hb k l hl hk => ?_) h'.2⟩) (wpOp_monoQ (Q' := Q) (fun e a w he h => ?_) hw)
      · have := hseq hb (k + 1) (i :: l) (by simp [hl]) (by simpa using hk)
        simpa [listAll] using this
      · cases e <;> first | exact absurd rfl he | exact h

theorem free_any {F : List Nat} (ts : List Nat) : ∀ (lt : List Oper) (listed : Array Bool) (a : Act) (w : World), (∀ t ∈ ts, t ∈ F) → ts.map (ops[·]?) = lt.map some → seqT md ops ts listed = true → wpList P ops Q lt a w → AnyT P md ops Q S F ts.length listed a w := by
  induction ts with
  | nil =>
    intro lt listed a w _ hm hB h
    cases lt with
    | nil => exact ⟨by simpa [seqT] using hB, h⟩
    | cons _ _ => simp at hm
  | cons t ts ih =>
    intro lt listed a w hF hm hB h
    cases lt with
    | nil => simp at hm
    | cons o lt =>
      simp only [List.map_cons, List.cons.injEq] at hm
      simp only [seqT, Bool.and_eq_true, decide_eq_true_eq] at hB
      refine ⟨fun h1 => (by rw [hB.1] at h1; cases h1), fun i hi => ?_⟩
      rw [hB.1] at hi
      have hik : i = t := by simpa using hi
      subst hik
      have hw : wpOp P ops Q i (wpList P ops Q lt) a w := by unfold wpOp; simp only [hm.1]; exact h
      exact wpOp_mono (fun a' w' h' => ⟨.inl (hF i (by simp)), ih lt _ a' w' (fun t ht => hF t (by simp [ht])) hm.2 hB.2 h'⟩) hw
end

def midB (ops : Array Oper) : List Nat → Array Bool → Bool
  | [], _ => true
  | t :: ts, listed => decide (Region.ready .any ops listed = [t]) && midB ops ts (listed.setIfInBounds t true)
theorem midB_spec {ops : Array Oper} (ts : List Nat) : ∀ (listed : Array Bool), midB ops ts listed = true → ∀ k l, ts.take k = l → k < ts.length → Region.ready .any ops (listAll listed l) = [ts.getD k 0] := by
  induction ts with
  | nil => intro listed _ k l _ hk; simp at hk
  | cons t ts ih =>
    intro listed hB k l hl hk
    simp only [midB, Bool.and_eq_true, decide_eq_true_eq] at hB
    cases k with
    | zero => subst hl; simpa [listAll] using hB.1
    | succ k =>
      subst hl
      have := ih _ hB.2 k (ts.take k) rfl (by simpa using hk)
      simpa [listAll] using this
def earlyAllB (ops : Array Oper) (E M F : List Nat) : Bool :=
  Region.noSelect ops && earlyB .any ops F ops.size E (Array.replicate ops.size false) && midB ops M (listAll (Array.replicate ops.size false) E) && seqT .any ops F (listAll (listAll (Array.replicate ops.size false) E) M) && decide (E.length + (M.length + F.length) = ops.size) && E.all (fun e => decide (e < ops.size)) && M.all (fun e => decide (e < ops.size)) && F.all (fun e => decide (e < ops.size))

/-- Loads and pure operations E first, then M one by one, the class kept behind each, then F one by one. -/
theorem wp_region_early {P : Program} {id : Nat} {Q : Exit → Act → World → Prop} {a : Act} {w : World} {l : List Oper} (S : World → Prop) (E M F : List Nat) (hm : P.follows .mixedOrders = true) (hB : earlyAllB l.toArray E M F = true) (hS : S w.drew)
    (h : EarlyW P l.toArray S (fun a' => RestW P l.toArray (NoPanic Q) S (fun a'' w'' => wpList P l.toArray (NoPanic Q) (F.filterMap (l[·]?)) a'' w'') (M.filterMap (l[·]?)) a' w.drew) (E.filterMap (l[·]?)) a) : (Code.region id l.toArray true).wp P Q a w := by
  simp only [earlyAllB, Bool.and_eq_true, decide_eq_true_eq] at hB
  obtain ⟨⟨⟨⟨⟨⟨⟨hsel, hE⟩, hM⟩, hF⟩, hlen⟩, hEs⟩, hMs⟩, hFs⟩ := hB
  refine wp_region_noPanic (wp_region_any hm (AnyT.any (S := S) (F := F) _ _ _ _ ?_))
  have h2 := early_any (P := P) (md := .any) (Q := Q) (S := S) (F := F) (N := l.toArray.size) (fuel := M.length + F.length) hsel hS E (E.filterMap (l[·]?)) (Array.replicate l.toArray.size false) a (fun j oj _ hl => by rw [getD_replicate_false] at hl; cases hl) (map_filterMap E (fun i hi => by simpa using List.all_eq_true.1 hEs i hi)) hE
    (fun a' h' => rest_any M (M.filterMap (l[·]?)) _ a' _ (map_filterMap M (fun i hi => by simpa using List.all_eq_true.1 hMs i hi)) (fun a'' w'' h'' => free_any F (F.filterMap (l[·]?)) _ a'' w'' (fun _ h => h) (map_filterMap F (fun i hi => by simpa using List.all_eq_true.1 hFs i hi)) hF h'') true rfl (fun _ => midB_spec M _ hM) h') h
  rw [hlen] at h2
  exact h2

theorem early_step {P : Program} {ops : Array Oper} {S : World → Prop} {next : Act → Prop} {o : Oper} {es : List Oper} {a : Act} (v : Value) (hg : Region.wanted o (yielded ops a.tmps) = true) (hy : ∀ W, S W → (execOp a.eval o).run P W = .ok (.value v) W) (h : EarlyW P ops S next es (a.put o.dst v)) : EarlyW P ops S next (o :: es) a :=
  ⟨v, .inl ⟨hg, hy⟩, h⟩

end Go.Proofs.Ytkecpbdgcbgogaa
