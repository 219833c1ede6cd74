/-
  A region that draws its order, inside a round of a range over a function (the widest fence).
-/
import Derived.Test.YtkecpbdgcbgogaaTail
import Derived.OrdersIn
import Derived.RangeFuncCalls
namespace Go.Proofs.Ytkecpbdgcbgogaa
set_option linter.unusedVariables false
set_option linter.unusedSimpArgs false
open Go.RowKit

section
variable {P : Program} {Q : Exit → Act → World → Prop} {ops : Array Oper} {l n : Nat}

theorem rowsIn_wide {row : String} {args : Array Value} {w : World} {R : Value → World → Prop} (h : Rows P row args w R) : RowsIn (Fence.wide.inRound l) n P row args w R := fun c cs _ => by
  obtain ⟨v, w', r, s⟩ := h c cs
  exact ⟨v, w', r, stepsIn_wide.2 s⟩

theorem uponIn_of {o : Oper} {a : Act} {K : Act → World → Prop} {r : Result Next} (h : o.upon P a K Q r) : o.uponIn (Fence.wide.inRound l) n P a K Q r := by
  cases r with
  | ok x w' =>
    cases x <;> simp only [Oper.upon, Oper.uponIn] at h ⊢ <;>
      first
        | exact h
        | exact ⟨fun h0 => (by cases h0), (callsIn_wide.2 h).inRound l⟩
        | exact ⟨fun h0 => (by cases h0), rowsIn_wide h⟩
  | halt x w' => cases x <;> simp only [Oper.upon, Oper.uponIn] at h ⊢ <;> exact h

theorem wpOpIn_of {i : Nat} {K : Act → World → Prop} {a : Act} {w : World} (hd : ∀ (o : Oper) (c : Call), ops[i]? = some o → o.op ≠ .defer c) (hno : ¬ LetsOut Q) (h : wpOp P ops Q i K a w) : wpOpIn (Fence.wide.inRound l) n P ops Q i K a w := by
  unfold wpOp at h
  unfold wpOpIn
  cases ho : ops[i]? with
  | none => simpa [ho] using h
  | some o =>
    simp only [ho] at h ⊢
    split
    · rename_i hw
      simp only [hw, if_true] at h
      rcases h with h | h
      · refine ⟨fun _ _ => trivial, ?_⟩
        rw [Oper.semAt_eq _ _ _ (fun c => hd o c ho)]
        exact uponIn_of h
      · exact absurd h.2 hno
    · rename_i hw
      simp only [hw] at h
      exact ⟨fun _ _ => trivial, h⟩

theorem wpAnyIn_of {md : Region.Mode} (hd : ∀ (i : Nat) (o : Oper) (c : Call), ops[i]? = some o → o.op ≠ .defer c) (hno : ¬ LetsOut Q) : ∀ (fuel : Nat) (listed : Array Bool) (a : Act) (w : World), wpAny P md ops Q fuel listed a w → wpAnyIn (Fence.wide.inRound l) n P md ops Q fuel listed a w := by
  intro fuel
  induction fuel with
  | zero => intro listed a w h; exact h
  | succ fuel ih =>
    intro listed a w h
    exact ⟨h.1, fun i hi => wpOpIn_mono (fun a' w' h' => ih _ a' w' h') (wpOpIn_of (fun o c ho => hd i o c ho) hno (h.2 i hi))⟩
end

/-- Q, but 'False' where a panic or the outgrown way is left. -/
def NoOut (Q : Exit → Act → World → Prop) : Exit → Act → World → Prop
  | .outgrown, _, _ => False
  | e, a, w => Q e a w
theorem NoOut.normal {Q : Exit → Act → World → Prop} {a : Act} {w : World} (h : Q .normal a w) : NoOut Q .normal a w := h

def noDefer (ops : Array Oper) : Bool := ops.all fun o => match o.op with | .defer _ => false | _ => true
theorem noDefer_spec {ops : Array Oper} (h : noDefer ops = true) : ∀ (i : Nat) (o : Oper) (c : Call), ops[i]? = some o → o.op ≠ .defer c := by
  intro i o c ho hc
  have := Array.all_eq_true_iff_forall_mem.1 h o (Array.mem_of_getElem? ho)
  rw [hc] at this
  cases this

/-- As wp_region_mix', in a round. -/
theorem wpIn_region_mix' {P : Program} {id : Nat} {Q : Exit → Act → World → Prop} {a : Act} {w : World} {l : List Oper} {r n : Nat} (W0 : World) (E H : List Nat) (t0 : Nat) (us : List Nat) (hm : P.follows .mixedOrders = true) (hB : mixB l.toArray E H t0 us = true) (hD : noDefer l.toArray = true) (hT : ((t0 :: us).all fun t => decide (t < l.length)) = true) (hk : Kept W0 w)
    (h : PureW P l.toArray (fun a' => wpQuiet P l.toArray (fun w' => ∃ u : KW W0, w' = u.w) (fun a'' => ∀ u : KW W0, wpList P l.toArray (NoPanic (NoOut Q)) ((t0 :: us).filterMap (l[·]?)) a'' u.w) (H.filterMap (l[·]?)) a') E a) : (Code.region id l.toArray true).wpIn (Fence.wide.inRound r) n P Q a w := by
  have h1 := mix_any' (Q := NoOut Q) W0 E H t0 us hB hT hk h
  refine wpIn_mono (wpIn_region_any hm (wpAnyIn_of (noDefer_spec hD) (fun h => ?_) _ _ _ _ h1)) (fun e a w he => ?_)
  · obtain ⟨a, w, h⟩ := h
    exact h
  · cases e <;> first | exact he | exact (he : False).elim

end Go.Proofs.Ytkecpbdgcbgogaa
