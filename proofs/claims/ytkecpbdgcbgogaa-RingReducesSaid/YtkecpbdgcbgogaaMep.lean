/-
  A region that draws its order: M one by one, then loads and pure operations E, then one operation x beside a chain T, then the rest R one by one; a class of worlds is kept all along.
-/
import Derived.Test.YtkecpbdgcbgogaaEarly
namespace Go.Proofs.Ytkecpbdgcbgogaa
set_option linter.unusedVariables false
set_option linter.unusedSimpArgs false
open Go.RowKit

section
variable {P : Program} {ops : Array Oper} {S : World → Prop} {Q : Exit → Act → World → Prop}

theorem step_any {i : Nat} {o : Oper} {a : Act} {w : World} {N K : Act → World → Prop} (hi : ops[i]? = some o) (h : wpList P ops (fun e a' w' => match e with | .normal => S w' ∧ N a' w' | e => Q e a' w') [o] a w) (hN : ∀ a' w', N a' w' → K a' w') :
    wpOp P ops Q i (fun a' w' => (i ∈ ([] : List Nat) ∨ S w') ∧ K a' w') a w := by
  have hw : wpOp P ops (fun e a' w' => match e with | .normal => S w' ∧ N a' w' | e => Q e a' w') i (wpList P ops (fun e a' w' => match e with | .normal => S w' ∧ N a' w' | e => Q e a' w') []) a w := by
    unfold wpOp
    simp only [hi]
    exact h
  refine wpOp_mono (fun a' w' h' => ⟨.inr h'.1, hN a' w' h'.2⟩) (wpOp_monoQ (Q' := Q) (fun e a w he h => ?_) hw)
  cases e <;> first | exact absurd rfl he | exact h

def seqE (ops : Array Oper) (ts : List Nat) (listed : Array Bool) : Bool := midB ops ts listed && (Region.ready .any ops (listAll listed ts)).isEmpty
theorem rest_all {ts : List Nat} {lt : List Oper} {listed : Array Bool} {a : Act} {w : World} (hm : ts.map (ops[·]?) = lt.map some) (hB : seqE ops ts listed = true) (h : RestW P ops Q S (fun a w => Q .normal a w) lt a w) : AnyT P .any ops Q S [] ts.length listed a w := by
  simp only [seqE, Bool.and_eq_true] at hB
  exact rest_any (F := []) (g := 0) ts lt listed a w hm (fun a w hq => ⟨by simpa using hB.2, hq⟩) true rfl (fun _ => midB_spec ts listed hB.1) h

/-- One operation beside a chain: it may come before each of the chain's operations, or behind all. -/
def ParW (P : Program) (ops : Array Oper) (Q : Exit → Act → World → Prop) (S : World → Prop) (X R : List Oper) : List Oper → Act → World → Prop
  | [], a, w => RestW P ops Q S (fun a w => Q .normal a w) (X ++ R) a w
  | t :: ts, a, w => RestW P ops Q S (fun a w => Q .normal a w) (X ++ (t :: (ts ++ R))) a w ∧ wpList P ops (fun e a' w' => match e with | .normal => S w' ∧ ParW P ops Q S X R ts a' w' | e => Q e a' w') [t] a w
def parB (ops : Array Oper) (x : Nat) (R : List Nat) : List Nat → Array Bool → Bool
  | [], listed => seqE ops (x :: R) listed
  | t :: ts, listed => decide (Region.ready .any ops listed = [x, t]) && (seqE ops (t :: (ts ++ R)) (listed.setIfInBounds x true) && parB ops x R ts (listed.setIfInBounds t true))
theorem par_any {x : Nat} {xo : Oper} {R : List Nat} {Ro : List Oper} (hx : ops[x]? = some xo) (hR : R.map (ops[·]?) = Ro.map some) (ts : List Nat) : ∀ (lt : List Oper) (listed : Array Bool) (a : Act) (w : World), ts.map (ops[·]?) = lt.map some → parB ops x R ts listed = true → ParW P ops Q S [xo] Ro lt a w → AnyT P .any ops Q S [] (ts.length + (R.length + 1)) listed a w := by
  induction ts with
  | nil =>
    intro lt listed a w hm hB h
    cases lt with
    | cons _ _ => simp at hm
    | nil =>
      rw [List.length_nil, Nat.zero_add]
      exact rest_all (ts := x :: R) (lt := xo :: Ro) (by simp [hx, hR]) hB h
  | cons t ts ih =>
    intro lt listed a w hm hB h
    cases lt with
    | nil => simp at hm
    | cons o lt =>
      simp only [List.map_cons, List.cons.injEq] at hm
      simp only [parB, Bool.and_eq_true, decide_eq_true_eq] at hB
      obtain ⟨hr, hs, hp⟩ := hB
      obtain ⟨h1, h2⟩ := h
      rw [List.length_cons, show ts.length + 1 + (R.length + 1) = (ts.length + (R.length + 1)) + 1 by omega]
      refine ⟨fun h0 => (by rw [hr] at h0; cases h0), fun i hi => ?_⟩
      rw [hr] at hi
      rcases List.mem_cons.1 hi with rfl | hi
      · refine step_any hx h1 (fun a' w' h' => ?_)
        have := rest_all (P := P) (Q := Q) (S := S) (ts := t :: (ts ++ R)) (lt := o :: (lt ++ Ro)) (a := a') (w := w') (by simp [hm.1, hm.2, hR]) hs h'
        rw [show ts.length + (R.length + 1) = (t :: (ts ++ R)).length by simp; omega]
        exact this
      · have hit : i = t := by simpa using hi
        subst hit
        exact step_any hm.1 h2 (fun a' w' h' => ih lt _ a' w' hm.2 hp h')
end

theorem closed_mid {ops : Array Oper} (ts : List Nat) : ∀ (listed : Array Bool), midB ops ts listed = true → ClosedL .any ops listed → ClosedL .any ops (listAll listed ts) := by
  induction ts with
  | nil => intro listed _ h; exact h
  | cons t ts ih =>
    intro listed hB h
    simp only [midB, Bool.and_eq_true, decide_eq_true_eq] at hB
    exact ih _ hB.2 (h.set (by rw [hB.1]; simp))

def mepB (ops : Array Oper) (M E : List Nat) (x : Nat) (T R : List Nat) : Bool :=
  Region.noSelect ops && midB ops M (Array.replicate ops.size false) && earlyB .any ops [] ops.size E (listAll (Array.replicate ops.size false) M) && parB ops x R T (listAll (listAll (Array.replicate ops.size false) M) E) &&
    decide (M.length + (E.length + (T.length + (R.length + 1))) = ops.size) && M.all (fun e => decide (e < ops.size)) && E.all (fun e => decide (e < ops.size)) && T.all (fun e => decide (e < ops.size)) && R.all (fun e => decide (e < ops.size)) && decide (x < ops.size)

theorem wp_region_mep {P : Program} {id : Nat} {Q : Exit → Act → World → Prop} {a : Act} {w : World} {l : List Oper} (S : World → Prop) (M E : List Nat) (x : Nat) (T R : List Nat) (hm : P.follows .mixedOrders = true) (hB : mepB l.toArray M E x T R = true) (hS : S w.drew)
    (h : RestW P l.toArray (NoPanic Q) S (fun a' w' => S w' ∧ EarlyW P l.toArray S (fun a'' => ParW P l.toArray (NoPanic Q) S ([x].filterMap (l[·]?)) (R.filterMap (l[·]?)) (T.filterMap (l[·]?)) a'' w') (E.filterMap (l[·]?)) a') (M.filterMap (l[·]?)) a w.drew) : (Code.region id l.toArray true).wp P Q a w := by
  simp only [mepB, Bool.and_eq_true, decide_eq_true_eq] at hB
  obtain ⟨⟨⟨⟨⟨⟨⟨⟨⟨hsel, hM⟩, hE⟩, hP⟩, hlen⟩, hMs⟩, hEs⟩, hTs⟩, hRs⟩, hx⟩ := hB
  have hx' : x < l.length := by simpa using hx
  have hmf : ∀ L : List Nat, L.all (fun e => decide (e < l.toArray.size)) = true → L.map (l.toArray[·]?) = (L.filterMap (l[·]?)).map some := fun L hL => map_filterMap L (fun i hi => by simpa using List.all_eq_true.1 hL i hi)
  have hxo : [x].filterMap (l[·]?) = [l[x]] := by simp [hx']
  rw [hxo] at h
  refine wp_region_noPanic (wp_region_any hm (AnyT.any (S := S) (F := []) _ _ _ _ ?_))
  have h2 := rest_any (P := P) (md := .any) (Q := NoPanic Q) (S := S) (F := []) (g := E.length + (T.length + (R.length + 1))) M (M.filterMap (l[·]?)) (Array.replicate l.toArray.size false) a w.drew (hmf M hMs)
    (fun a' w' h' => early_any (P := P) (md := .any) (Q := Q) (F := []) (N := l.toArray.size) (fuel := T.length + (R.length + 1)) hsel h'.1 E (E.filterMap (l[·]?)) _ a' (closed_mid M _ hM (fun j oj _ hl => by rw [getD_replicate_false] at hl; cases hl)) (hmf E hEs) hE
      (fun a'' h'' => par_any (P := P) (Q := NoPanic Q) (S := S) (xo := l[x]) (by simp [hx']) (hmf R hRs) T (T.filterMap (l[·]?)) _ a'' w' (hmf T hTs) hP h'') h'.2)
    true rfl (fun _ => midB_spec M _ hM) h
  rw [hlen] at h2
  exact h2

end Go.Proofs.Ytkecpbdgcbgogaa
