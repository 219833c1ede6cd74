/-
  Runs of steps: the states one after the other, and rows of states as they are collected.
-/
import Derived.Test.YtnnphileeeaibaaSgdPieces
namespace Go.Proofs.Ytnnphileeeaibaa
set_option linter.unusedVariables false
set_option linter.unusedSimpArgs false
open Go.RowKit

theorem nextP_in (ra mo sh : Int) (Ps Ms gs : List Int) (h : AllIn Ps) : AllIn (nextP ra mo sh Ps Ms gs) := by rw [← pieceP_zero]; exact pieceP_in _ _ _ _ _ _ _ h
theorem nextM_in (mo sh : Int) (Ms gs : List Int) (h : AllIn Ms) : AllIn (nextM mo sh Ms gs) := by rw [← pieceM_zero]; exact pieceM_in _ _ _ _ _ h

/-- The state behind i steps. -/
def stAt (ra mo sh : Int) (Ps Ms : List Int) (gss : List (List Int)) : Nat → List Int × List Int
  | 0 => (Ps, Ms)
  | i + 1 => (nextP ra mo sh (stAt ra mo sh Ps Ms gss i).1 (stAt ra mo sh Ps Ms gss i).2 (gss.getD i []), nextM mo sh (stAt ra mo sh Ps Ms gss i).2 (gss.getD i []))
theorem stAt_len (ra mo sh : Int) (Ps Ms : List Int) (gss : List (List Int)) (i : Nat) : (stAt ra mo sh Ps Ms gss i).1.length = Ps.length ∧ (stAt ra mo sh Ps Ms gss i).2.length = Ms.length := by
  induction i with
  | zero => exact ⟨rfl, rfl⟩
  | succ i ih => exact ⟨by rw [stAt, nextP_length, ih.1], by rw [stAt, nextM_length, ih.2]⟩
theorem stAt_in (ra mo sh : Int) (Ps Ms : List Int) (gss : List (List Int)) (i : Nat) (hP : AllIn Ps) (hM : AllIn Ms) : AllIn (stAt ra mo sh Ps Ms gss i).1 ∧ AllIn (stAt ra mo sh Ps Ms gss i).2 := by
  induction i with
  | zero => exact ⟨hP, hM⟩
  | succ i ih => exact ⟨nextP_in _ _ _ _ _ _ ih.1, nextM_in _ _ _ _ ih.2⟩

/-- The slices of a state. -/
abbrev StS := Option Addr × Nat × Option Addr × Nat
def stv (N M : Nat) (l : List StS) : List Value := l.flatMap fun s => [.slice s.1 N s.2.1, .slice s.2.2.1 M s.2.2.2]
theorem stv_append (N M : Nat) (l k : List StS) : stv N M (l ++ k) = stv N M l ++ stv N M k := by simp [stv]
theorem stv_cons (N M : Nat) (s : StS) (l : List StS) : stv N M (s :: l) = .slice s.1 N s.2.1 :: .slice s.2.2.1 M s.2.2.2 :: stv N M l := rfl
theorem stv_length (N M : Nat) (l : List StS) : (stv N M l).length = l.length * 2 := by
  induction l with
  | nil => rfl
  | cons r l ih => rw [stv_cons]; simp [ih]; omega
theorem stv_get (N M : Nat) (l : List StS) (k : Nat) (s : StS) (hk : l[k]? = some s) : (stv N M l)[k * 2]? = some (.slice s.1 N s.2.1) ∧ (stv N M l)[k * 2 + 1]? = some (.slice s.2.2.1 M s.2.2.2) := by
  induction l generalizing k with
  | nil => simp at hk
  | cons r l ih =>
    rw [stv_cons]
    cases k with
    | zero =>
      obtain rfl : r = s := by simpa using hk
      exact ⟨rfl, rfl⟩
    | succ k =>
      have := ih k (by simpa using hk)
      rw [show (k + 1) * 2 = k * 2 + 2 by omega]
      simpa using this
theorem two_slices (A B : Option Addr) (N M c d : Nat) : ∀ u ∈ (#[Value.slice A N c, Value.slice B M d] : Array Value).toList, u.oneCell' = true := by
  intro u hu
  simp at hu
  rcases hu with rfl | rfl <;> rfl

/-- Two rows of different element types lie in different blocks. -/
theorem own_own_ne {w : World} {base base' : Nat} {e e' : TypeId} {size size' n n' : Nat} {v v' : Value} {xs xs' : List Value} (h : w.ownsRow base e size v n xs) (h' : w.ownsRow base' e' size' v' n' xs') (hne : e ≠ e') : v.ownBlock = none ∨ v.ownBlock ≠ v'.ownBlock := by
  rcases h'.2 with ⟨rfl, _⟩ | ⟨g', cap, cur, rfl, _, hh, _⟩
  · rcases h.2 with ⟨rfl, _⟩ | ⟨g, cap, cur, rfl, _⟩
    · exact .inl (by simp [Value.ownBlock])
    · exact .inr (by simp [Value.ownBlock])
  · exact .inr (by have := own_blk_ne h (g := g') (t := e') (cs := cur) hh hne; simpa [Value.ownBlock] using this)

/-- The rows of the states collected so far. -/
def OwnS (w : World) (base N M : Nat) (l : List StS) (f : Nat → List Int × List Int) : Prop :=
  ∀ i s, l[i]? = some s → w.ownsRow base 2 1 (.slice s.1 N s.2.1) N (iv (f (i + 1)).1) ∧ w.ownsRow base 2 1 (.slice s.2.2.1 M s.2.2.2) M (iv (f (i + 1)).2)
theorem OwnS.below {w w' : World} {base N M : Nat} {l : List StS} {f : Nat → List Int × List Int} (h : OwnS w base N M l f) (hb : Below w.heap.size w w') : OwnS w' base N M l f := fun i s hs => ⟨own_below (h i s hs).1 hb, own_below (h i s hs).2 hb⟩
theorem OwnS.base {w : World} {base base' N M : Nat} {l : List StS} {f : Nat → List Int × List Int} (h : OwnS w base N M l f) (hb : base' ≤ base) : OwnS w base' N M l f := fun i s hs => ⟨own_base (h i s hs).1 hb, own_base (h i s hs).2 hb⟩
theorem OwnS.row {w w' : World} {base N M : Nat} {l : List StS} {f : Nat → List Int × List Int} {base' : Nat} {t : TypeId} {size n : Nat} {v : Value} {xs : List Value} (h : OwnS w base N M l f) (hv : w.ownsRow base' t size v n xs) (ht : 2 ≠ t) (hg : w.grownBy w' v.ownBlock) : OwnS w' base N M l f :=
  fun i s hs => ⟨(h i s hs).1.kept hg (own_own_ne (h i s hs).1 hv ht), (h i s hs).2.kept hg (own_own_ne (h i s hs).2 hv ht)⟩
theorem OwnS.blk {w w' : World} {base N M : Nat} {l : List StS} {f : Nat → List Int × List Int} {g : Nat} {t : TypeId} {cs : Array Value} (h : OwnS w base N M l f) (hv : Blk w g t cs) (ht : 2 ≠ t) (hg : w.grownBy w' (some g)) : OwnS w' base N M l f :=
  fun i s hs => ⟨(h i s hs).1.kept hg (.inr (own_blk_ne (h i s hs).1 hv ht)), (h i s hs).2.kept hg (.inr (own_blk_ne (h i s hs).2 hv ht))⟩
theorem OwnS.snoc {w : World} {base N M : Nat} {l : List StS} {f : Nat → List Int × List Int} {A B : Option Addr} {c d : Nat} (h : OwnS w base N M l f) (h1 : w.ownsRow base 2 1 (.slice A N c) N (iv (f (l.length + 1)).1)) (h2 : w.ownsRow base 2 1 (.slice B M d) M (iv (f (l.length + 1)).2)) : OwnS w base N M (l ++ [(A, c, B, d)]) f := by
  intro i s hs
  rw [List.getElem?_append] at hs
  split at hs
  · exact h i s hs
  · rename_i hi
    have : i = l.length := by
      have := (List.getElem?_eq_some_iff.1 hs).1
      simp at this
      omega
    subst this
    obtain rfl : (A, c, B, d) = s := by simpa using hs
    exact ⟨h1, h2⟩

/-- Where a run stands behind j steps. -/
def RunSt (base : Nat) (t : TypeId) (b4 N M : Nat) (x0 : StS) (f : Nat → List Int × List Int) (j : Nat) (v : Value) (w : World) : Prop :=
  ∃ (l : List StS) (x : StS), l.length = j ∧ (∃ A c, v = .slice A j c) ∧ w.ownsRow base t 2 v j (stv N M l) ∧ OwnS w base N M l f ∧ Blk w b4 t #[.slice x.1 N x.2.1, .slice x.2.2.1 M x.2.2.2] ∧ (j = 0 ∧ x = x0 ∨ 0 < j ∧ l[j - 1]? = some x)

/-- What a run hands back. -/
def RunOut (w : World) (t : TypeId) (ok : Bool) (N M m : Nat) (f : Nat → List Int × List Int) (en : Ending) (w' : World) : Prop :=
  Below w.heap.size w w' ∧ ((ok = false ∧ en = .returned (.tuple #[.slice none 0 0, .bool false])) ∨
    (ok = true ∧ ∃ S cS l, l.length = m ∧ en = .returned (.tuple #[.slice S m cS, .bool true]) ∧ w'.ownsRow w.heap.size t 2 (.slice S m cS) m (stv N M l) ∧ OwnS w' w.heap.size N M l f))

/-- The rows of the state at hand. -/
theorem OwnS.rows {base : Nat} {N M : Nat} {x0 : StS} {f : Nat → List Int × List Int} {j : Nat} {w : World} {l : List StS} {x : StS} (ho : OwnS w base N M l f) (hx : j = 0 ∧ x = x0 ∨ 0 < j ∧ l[j - 1]? = some x)
    (h1 : Rd w 1 x0.1 N (iv (f 0).1)) (h2 : Rd w 1 x0.2.2.1 M (iv (f 0).2)) : Rd w 1 x.1 N (iv (f j).1) ∧ Rd w 1 x.2.2.1 M (iv (f j).2) := by
  rcases hx with ⟨rfl, rfl⟩ | ⟨h0, hx⟩
  · exact ⟨h1, h2⟩
  · have := ho _ _ hx
    rw [show j - 1 + 1 = j by omega] at this
    exact ⟨Rd.of_own this.1, Rd.of_own this.2⟩

theorem But.more {S : Nat → Prop} {a b c : World} (h : But S a b) (hb : Below a.heap.size b c) : But S a c :=
  ⟨hb.os.trans h.os, hb.tape.trans h.tape, hb.output.trans h.output, Nat.le_trans h.size hb.size, fun i hi hS => (hb.block i hi).trans (h.block i hi hS)⟩

end Go.Proofs.Ytnnphileeeaibaa
