/-
  Worlds in which some old blocks alone have turned.
-/
import Derived.Test.YtkecpbdgcbgogaaMem
namespace Go.Proofs.Ytkecpbdgcbgogaa
set_option linter.unusedVariables false
set_option linter.unusedSimpArgs false
open Go.RowKit

/-- Of the blocks that lay, those in S alone may have turned. -/
structure But (S : Nat → Prop) (w w' : World) : Prop where
  os : w'.os = w.os
  tape : w'.tape = w.tape
  output : w'.output = w.output
  size : w.heap.size ≤ w'.heap.size
  block : ∀ i, i < w.heap.size → ¬ S i → w'.heap[i]? = w.heap[i]?

section
variable {S T : Nat → Prop} {a b c w w' : World} {g B : Nat}
theorem But.refl (S : Nat → Prop) (w : World) : But S w w := ⟨rfl, rfl, rfl, Nat.le_refl _, fun _ _ _ => rfl⟩
theorem But.trans (h : But S a b) (k : But S b c) : But S a c :=
  ⟨k.os.trans h.os, k.tape.trans h.tape, k.output.trans h.output, Nat.le_trans h.size k.size, fun i hi hS => (k.block i (Nat.lt_of_lt_of_le hi h.size) hS).trans (h.block i hi hS)⟩
theorem But.of_below (S : Nat → Prop) (h : Below a.heap.size a b) : But S a b := ⟨h.os, h.tape, h.output, h.size, fun i hi _ => h.block i hi⟩
theorem But.of_gr (h : a.grownBy b (some g)) (hS : S g) : But S a b := ⟨h.os, h.tape, h.output, h.size, fun i hi hn => h.block i hi (fun e => hn (by injection e with e; rw [e]; exact hS))⟩
theorem But.of_own {v : Value} (h : a.grownBy b v.ownBlock) (hS : ∀ g, v.ownBlock = some g → S g) : But S a b := ⟨h.os, h.tape, h.output, h.size, fun i hi hn => h.block i hi (fun e => hn (hS i e.symm))⟩
theorem But.call (h : But S a b) (hb : Below b.heap.size b c) : But S a c := h.trans (.of_below S hb)
theorem But.mono (h : But S a b) (hT : ∀ i, i < a.heap.size → S i → T i) : But T a b := ⟨h.os, h.tape, h.output, h.size, fun i hi hn => h.block i hi (fun hs => hn (hT i hi hs))⟩
theorem But.below (h : But S a b) (hB : B ≤ a.heap.size) (hS : ∀ i, S i → B ≤ i) : Below B a b := ⟨h.os, h.tape, h.output, h.size, fun i hi => h.block i (by omega) (fun hs => by have := hS i hs; omega)⟩
theorem Blk.but {t : TypeId} {cs : Array Value} (h : Blk w g t cs) (hb : But S w w') (hg : ¬ S g) : Blk w' g t cs := (hb.block g h.lt hg).trans h
theorem Rd.but {size n : Nat} {A : Option Addr} {xs : List Value} (h : Rd w size A n xs) (hb : But S w w') (ha : ∀ b o, A = some ⟨b, o, none⟩ → 0 < n → ¬ S b) : Rd w' size A n xs := by
  refine ⟨h.1, fun hn => ?_⟩
  obtain ⟨b, o, e, hlt, hc⟩ := h.2 hn
  refine ⟨b, o, e, Nat.lt_of_lt_of_le hlt hb.size, fun j u hu => ?_⟩
  rw [World.cell?_of_block (a := ⟨b, o + j, none⟩) (hb.block b hlt (ha b o e hn))]
  exact hc j u hu
theorem own_but {base : Nat} {e : TypeId} {size n : Nat} {v : Value} {xs : List Value} (h : w.ownsRow base e size v n xs) (hb : But S w w') (hv : ∀ g, v.ownBlock = some g → ¬ S g) : w'.ownsRow base e size v n xs := by
  refine ⟨h.1, ?_⟩
  have hlt := h.lt
  rcases h.2 with h2 | ⟨g, cap, cur, rfl, hbg, hh, r⟩
  · exact .inl h2
  · exact .inr ⟨g, cap, cur, rfl, hbg, (hb.block g (hlt g rfl).2 (hv g rfl)).trans hh, r⟩
end

end Go.Proofs.Ytkecpbdgcbgogaa
