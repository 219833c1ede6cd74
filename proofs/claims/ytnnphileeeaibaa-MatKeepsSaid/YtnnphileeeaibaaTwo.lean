/-
  A region that draws its order: pure operations, then two operations in either order, then a rest that comes up one by one.
-/
import Derived.Test.YtnnphileeeaibaaTail
namespace Go.Proofs.Ytnnphileeeaibaa
set_option linter.unusedVariables false
set_option linter.unusedSimpArgs false
open Go.RowKit

def twoB (ops : Array Oper) (E : List Nat) (x y : Nat) (T : List Nat) : Bool :=
  Region.noSelect ops && pureB .any ops E (Array.replicate ops.size false) && decide (Region.ready .any ops (listAll (Array.replicate ops.size false) E) = [x, y]) &&
    seqT .any ops (y :: T) ((listAll (Array.replicate ops.size false) E).setIfInBounds x true) && seqT .any ops (x :: T) ((listAll (Array.replicate ops.size false) E).setIfInBounds y true) && decide (E.length + (T.length + 2) = ops.size) && (x :: y :: T).all (fun t => decide (t < ops.size))

theorem wp_region_two {P : Program} {id : Nat} {Q : Exit → Act → World → Prop} {a : Act} {w : World} {l : List Oper} (E : List Nat) (x y : Nat) (T : List Nat) (hm : P.follows .mixedOrders = true) (hB : twoB l.toArray E x y T = true)
    (h : PureW P l.toArray (fun a' => wpList P l.toArray (NoPanic Q) ((x :: y :: T).filterMap (l[·]?)) a' w.drew ∧ wpList P l.toArray (NoPanic Q) ((y :: x :: T).filterMap (l[·]?)) a' w.drew) E a) : (Code.region id l.toArray true).wp P Q a w := by
  simp only [twoB, Bool.and_eq_true, decide_eq_true_eq] at hB
  obtain ⟨⟨⟨⟨⟨⟨hsel, hpu⟩, hready⟩, hsx⟩, hsy⟩, hlen⟩, hin⟩ := hB
  have hin' : ∀ t ∈ x :: y :: T, t < l.length := fun t ht => by simpa using List.all_eq_true.1 hin t ht
  have hx : x < l.length := hin' x (by simp)
  have hy : y < l.length := hin' y (by simp)
  have hT : ∀ t ∈ T, t < l.length := fun t ht => hin' t (by simp [ht])
  refine wp_region_noPanic (wp_region_any hm ?_)
  have h2 := pure_any (P := P) (md := .any) (Q := Q) (w := w.drew) hsel (fuel := T.length + 2) E _ a hpu (fun a' h' => ?_) h
  · rw [hlen] at h2
    exact h2
  · obtain ⟨hxy, hyx⟩ := h'
    refine ⟨fun h0 => (by rw [hready] at h0; cases h0), fun i hi => ?_⟩
    rw [hready] at hi
    have key : ∀ u v, u < l.length → v < l.length → seqT .any l.toArray (v :: T) ((listAll (Array.replicate l.toArray.size false) E).setIfInBounds u true) = true → wpList P l.toArray (NoPanic Q) ((u :: v :: T).filterMap (l[·]?)) a' w.drew →
        wpOp P l.toArray (NoPanic Q) u (wpAny P .any l.toArray (NoPanic Q) (T.length + 1) ((listAll (Array.replicate l.toArray.size false) E).setIfInBounds u true)) a' w.drew := by
      intro u v hu hv hs hl
      rw [List.filterMap_cons_some (List.getElem?_eq_getElem hu)] at hl
      have hw : wpOp P l.toArray (NoPanic Q) u (wpList P l.toArray (NoPanic Q) ((v :: T).filterMap (l[·]?))) a' w.drew := by
        unfold wpOp
        have : l.toArray[u]? = some l[u] := by simp [hu]
        simp only [this]
        exact hl
      refine wpOp_mono (fun a'' w'' h'' => ?_) hw
      exact seqT_any (P := P) (md := .any) (Q' := NoPanic Q) (v :: T) _ _ a'' w'' (map_filterMap (v :: T) (fun t ht => by
        rcases List.mem_cons.1 ht with rfl | ht
        · exact hv
        · exact hT t ht)) hs h''
    rcases List.mem_cons.1 hi with rfl | hi
    · exact key _ _ hx hy hsx hxy
    · have hiy : i = y := by simpa using hi
      subst hiy
      exact key _ _ hy hx hsy hyx

end Go.Proofs.Ytnnphileeeaibaa
