/-
  A region that draws its order: loads and pure operations E first, M one by one, pure operations E2, then F one by one.
-/
import Derived.Test.YtkecpbdgcbgogaaMep
namespace Go.Proofs.Ytkecpbdgcbgogaa
set_option linter.unusedVariables false
set_option linter.unusedSimpArgs false
open Go.RowKit

theorem closed_early {ops : Array Oper} {F : List Nat} {N : Nat} (es : List Nat) : ∀ (listed : Array Bool), earlyB .any ops F N es listed = true → ClosedL .any ops listed → ClosedL .any ops (listAll listed es) := by
  induction es with
  | nil => intro listed _ h; exact h
  | cons e es ih =>
    intro listed hB h
    simp only [earlyB, Bool.and_eq_true] at hB
    exact ih _ hB.2 (h.set (by simpa using hB.1.1.1))

def emeB (ops : Array Oper) (E M E2 F : List Nat) : Bool :=
  Region.noSelect ops && earlyB .any ops F ops.size E (Array.replicate ops.size false) && midB ops M (listAll (Array.replicate ops.size false) E) && earlyB .any ops F ops.size E2 (listAll (listAll (Array.replicate ops.size false) E) M) && seqT .any ops F (listAll (listAll (listAll (Array.replicate ops.size false) E) M) E2) &&
    decide (E.length + (M.length + (E2.length + F.length)) = ops.size) && E.all (fun e => decide (e < ops.size)) && M.all (fun e => decide (e < ops.size)) && E2.all (fun e => decide (e < ops.size)) && F.all (fun e => decide (e < ops.size))

theorem wp_region_eme {P : Program} {id : Nat} {Q : Exit → Act → World → Prop} {a : Act} {w : World} {l : List Oper} (S : World → Prop) (E M E2 F : List Nat) (hm : P.follows .mixedOrders = true) (hB : emeB l.toArray E M E2 F = true) (hS : S w.drew)
    (h : EarlyW P l.toArray S (fun a' => RestW P l.toArray (NoPanic Q) S (fun a2 w2 => S w2 ∧ EarlyW P l.toArray S (fun a3 => wpList P l.toArray (NoPanic Q) (F.filterMap (l[·]?)) a3 w2) (E2.filterMap (l[·]?)) a2) (M.filterMap (l[·]?)) a' w.drew) (E.filterMap (l[·]?)) a) : (Code.region id l.toArray true).wp P Q a w := by
  simp only [emeB, Bool.and_eq_true, decide_eq_true_eq] at hB
  obtain ⟨⟨⟨⟨⟨⟨⟨⟨⟨hsel, hE⟩, hM⟩, hE2⟩, hF⟩, hlen⟩, hEs⟩, hMs⟩, hE2s⟩, hFs⟩ := hB
  have hmf : ∀ L : List Nat, L.all (fun e => decide (e < l.toArray.size)) = true → L.map (l.toArray[·]?) = (L.filterMap (l[·]?)).map some := fun L hL => map_filterMap L (fun i hi => by simpa using List.all_eq_true.1 hL i hi)
  have hc0 : ClosedL .any l.toArray (Array.replicate l.toArray.size false) := fun j oj _ hl => by rw [getD_replicate_false] at hl; cases hl
  refine wp_region_noPanic (wp_region_any hm (AnyT.any (S := S) (F := F) _ _ _ _ ?_))
  have h2 := early_any (P := P) (md := .any) (Q := Q) (S := S) (F := F) (N := l.toArray.size) (fuel := M.length + (E2.length + F.length)) hsel hS E (E.filterMap (l[·]?)) (Array.replicate l.toArray.size false) a hc0 (hmf E hEs) hE
    (fun a' h' => rest_any (P := P) (md := .any) (Q := NoPanic Q) (S := S) (F := F) (g := E2.length + F.length) M (M.filterMap (l[·]?)) _ a' _ (hmf M hMs)
      (fun a2 w2 h2 => early_any (P := P) (md := .any) (Q := Q) (F := F) (N := l.toArray.size) (fuel := F.length) hsel h2.1 E2 (E2.filterMap (l[·]?)) _ a2 (closed_mid M _ hM (closed_early E _ hE hc0)) (hmf E2 hE2s) hE2
        (fun a3 h3 => free_any F (F.filterMap (l[·]?)) _ a3 w2 (fun _ h => h) (hmf F hFs) hF h3) h2.2)
      true rfl (fun _ => midB_spec M _ hM) h') h
  rw [hlen] at h2
  exact h2

end Go.Proofs.Ytkecpbdgcbgogaa
