/-
  An append that tells where the new row lies.
-/
import Derived.Test.YtkecpbdgcbgogaaBut
namespace Go.Proofs.Ytkecpbdgcbgogaa
set_option linter.unusedVariables false
set_option linter.unusedSimpArgs false
open Go.RowKit

theorem wpList_pushL {P : Program} {w : World} {ops : Array Oper} {rest : List Oper} {o : Oper} {a : Act} {Q : Exit → Act → World → Prop} {t e : TypeId} {z : Value} {size bytes : Nat}
    (sl : Sl P t e z size bytes) (hgd : o.guard = none) (s x : Operand) (ho : o.op = .call { callee := .builtin .append, args := #[s, x], argTypes := #[t, t] })
    (base : Nat) (v : Value) (n : Nat) (xs : List Value) (hs : a.eval s = v) (hown : w.ownsRow base e size v n xs)
    (news : Array Value) (g : Nat) (hx : a.eval x = .slice (some ⟨g, 0, none⟩) 1 1) (hg : g = w.heap.size) (hl : news.size = size) (h1 : ∀ u ∈ news.toList, u.oneCell' = true)
    (h63 : n + 1 ≤ maxLen) (hbytes : (n + 1) * bytes ≤ 140737488355328) (hbase : base ≤ w.heap.size)
    (h : ∀ A' cap' w', w'.ownsRow base e size (.slice A' (n + 1) cap') (n + 1) (xs ++ news.toList) → Below base w w' → w.grownBy w' v.ownBlock → (∀ k, (Value.slice A' (n + 1) cap').ownBlock = some k → v.ownBlock = some k ∨ w.heap.size < k) →
      wpList P ops Q rest (a.put o.dst (.slice A' (n + 1) cap')) w') :
    wpList P ops Q (o :: rest) a (w.alloc (.cells news e)) := by
  subst hg
  obtain ⟨i, hi, hz0, hz1, hz2⟩ := info_parts sl.info
  refine wpList_append_own_at _ hgd s x t ho base e i z size bytes sl.slice hi hz0 hz1 hz2 sl.cells sl.pos v n xs hs (hown.alloc _) ⟨w.heap.size, 0, none⟩ 1 1 news.toList hx (by simpa using hl) (cells_new w news e) h1 h63 hbytes (by simp; omega) ?_
  intro v' w' h2 h3 _ h5
  obtain ⟨A, cap, rfl, _⟩ := own_form h2
  refine h A cap w' h2 (((Below.refl _ _).alloc hbase _).grown h3 (by simp; omega) fun k hk => (hown.lt k hk).1) (gr_below_first ((Below.refl _ _).alloc (Nat.le_refl _) _) h3) (fun k hk => ?_)
  rcases h5 with h5 | h5
  · exact .inl (h5 ▸ hk)
  · right
    rw [hk] at h5
    injection h5 with h5
    rw [h5]
    simp

end Go.Proofs.Ytkecpbdgcbgogaa
