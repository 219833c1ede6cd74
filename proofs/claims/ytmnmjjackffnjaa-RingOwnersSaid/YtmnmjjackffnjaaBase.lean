/-
  Small plain lemmas that the walks share; nothing here speaks of the program.
-/
import Derived.WalkKit
import Derived.WalkSpells
import Derived.WalkLawsBesides
import Derived.Lib.Hide
import Derived.Deep.QuietTactic
import Derived.BigQuiet
import Derived.IntWalk
import Derived.Deep.RegionHeld3
import Derived.Maps.AppendAt
namespace Go.Proofs.Ytmnmjjackffnjaa
open Go.RowKit

theorem ret_int {k : IntKind} {a b : Int} (h : a = b) : Ending.returned (.int k a) = .returned (.int k b) := by rw [h]
theorem ret_bool {a b : Bool} (h : a = b) : Ending.returned (.bool a) = .returned (.bool b) := by rw [h]
theorem ret_pair {a b c : Value} (h : a = b) : Ending.returned (.tuple #[a, c]) = .returned (.tuple #[b, c]) := by rw [h]

theorem bcell {W w1 : World} (hb : Below W.heap.size W w1) : (∀ b o, b < W.heap.size → w1.cell? ⟨b, o, none⟩ = W.cell? ⟨b, o, none⟩) ∧ (∀ b o, b < W.heap.size → w1.frozen? ⟨b, o, none⟩ = W.frozen? ⟨b, o, none⟩) :=
  ⟨fun b o h => hb.cell (p := ⟨b, o, none⟩) h, fun b o h => hb.frozen (p := ⟨b, o, none⟩) h⟩

/-- What a region keeps while it makes memory: all that lay when it began. -/
abbrev Kept (W0 w' : World) : Prop := (∀ b o, b < W0.heap.size → w'.cell? ⟨b, o, none⟩ = W0.cell? ⟨b, o, none⟩) ∧ W0.heap.size ≤ w'.heap.size ∧ Below W0.heap.size W0 w'
theorem Kept.of {W0 w' : World} (h : Below W0.heap.size W0 w') : Kept W0 w' := ⟨(bcell h).1, h.size, h⟩
theorem Kept.start (W0 : World) : Kept W0 W0.drew := Kept.of (Below.refl _ _).drew
theorem Kept.drew {W0 w : World} (h : Kept W0 w) : Kept W0 w.drew := Kept.of h.2.2.drew
theorem Kept.drewN {W0 w : World} (h : Kept W0 w) (n : Nat) : Kept W0 (w.drewN n) := Kept.of (below_drewN h.2.2 n)
theorem Kept.alloc {W0 w : World} (h : Kept W0 w) (o : Obj) : Kept W0 (w.alloc o) := Kept.of (h.2.2.alloc h.2.1 o)
theorem Kept.call {W0 w w1 : World} (h : Kept W0 w) (hb : Below w.heap.size w w1) : Kept W0 w1 := Kept.of (h.2.2.trans (hb.mono h.2.1))
theorem Kept.call_alloc {W0 w w1 : World} {o : Obj} (h : Kept W0 w) (hb : Below (w.heap.size + 1) (w.alloc o) w1) : Kept W0 w1 := (h.alloc o).call (by simpa using hb)

end Go.Proofs.Ytmnmjjackffnjaa
