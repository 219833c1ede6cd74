/-
  Lemmas for grids: zeros, blocks where a round turns.
-/
import Derived.Laws.EntriesVeiled
import Derived.RangeFuncNested
import Derived.RangeFuncBox
import Derived.RangeFuncLeaves
import Derived.Shelf.Abstract
import Derived.OwnWalkIn
import Derived.TacticsInMore
import Derived.LoopNIn
import Derived.LoopIn
import Derived.Test.YtnnphileeeaibaaVecT
import Derived.Test.YtnnphileeeaibaaTwo
import Derived.Test.YtnnphileeeaibaaBut
import Derived.Test.YtnnphileeeaibaaRound
namespace Go.Proofs.Ytnnphileeeaibaa
set_option linter.unusedVariables false
set_option linter.unusedSimpArgs false
open Go.RowKit

/-- Zeros. -/
abbrev zeros (n : Nat) : List Int := List.replicate n 0
theorem iv_zeros (n : Nat) : (madeCells (Value.int .i64 0).cells (n * 1)).toList = iv (zeros n) := by
  rw [Nat.mul_one]
  exact (toList_madeCells_one _ _).trans (by simp [iv, zeros])

/-- A block that holds cells stays where a block without cells turns. -/
theorem Blk.turn {X Y : World} {row : Option Nat} {B g : Nat} {t : TypeId} {cs : Array Value} (h : Blk X g t cs) (hg : X.grownBy Y row) (hr : ∀ r, row = some r → B ≤ r ∧ ∃ o : Obj, X.heap[r]? = some o ∧ o.isCells = false) : Blk Y g t cs :=
  h.grown hg (fun e => by
    obtain ⟨_, o, ho, hc⟩ := hr g e.symm
    unfold Blk at h
    rw [h] at ho
    cases ho
    cases hc)
/-- But as what a round keeps. -/
theorem But.below' {S : Nat → Prop} {B : Nat} {a b : World} (h : Below B a b) (hS : ∀ i, ¬ S i → i < B) : But S a b := ⟨h.os, h.tape, h.output, h.size, fun i _ hn => h.block i (hS i hn)⟩
theorem butK_b {S : Nat → Prop} {w : World} (hS : ∀ i, w.heap.size ≤ i → S i) (W : World) (l : Nat) (o o' : Obj) (hl : w.heap.size ≤ l) (h : W.heap[l]? = some o) (_ : o.isCells = false) (_ : o.isWalk = false) : But S W (W.putObj l o') :=
  But.of_gr (grownBy_putObj' W l o') (hS l hl)
theorem But.cell {S : Nat → Prop} {a b : World} (h : But S a b) {g o : Nat} (hg : g < a.heap.size) (hn : ¬ S g) : b.cell? ⟨g, o, none⟩ = a.cell? ⟨g, o, none⟩ := World.cell?_of_block (a := ⟨g, o, none⟩) (h.block g hg hn)

end Go.Proofs.Ytnnphileeeaibaa
