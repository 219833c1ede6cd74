/-
  Items of a plan as cells; the blocks of other types stay.
-/
import Derived.Test.YtkecpbdgcbgogaaActions
import Derived.Test.YtkecpbdgcbgogaaPush
namespace Go.Proofs.Ytkecpbdgcbgogaa
set_option linter.unusedVariables false
set_option linter.unusedSimpArgs false
set_option maxRecDepth 100000
open Go.RowKit

/-- An item: its kind, its step, its number, its action. -/
abbrev RItem := (Int × Int × Int) × RAct
def itemV (x : RItem) : List Value := [.int .i64 x.1.1, .int .i64 x.1.2.1, .int .i64 x.1.2.2] ++ actV x.2
def itemsV (l : List RItem) : List Value := l.flatMap itemV
theorem itemV_length (x : RItem) : (itemV x).length = 12 := rfl
theorem itemsV_nil : itemsV [] = [] := rfl
theorem itemsV_append (l k : List RItem) : itemsV (l ++ k) = itemsV l ++ itemsV k := by simp [itemsV]
theorem itemsV_one (x : RItem) : itemsV [x] = itemV x := by simp [itemsV]
theorem itemsV_cons (x : RItem) (l : List RItem) : itemsV (x :: l) = itemV x ++ itemsV l := by simp [itemsV]
theorem itemsV_length (l : List RItem) : (itemsV l).length = l.length * 12 := by
  induction l with
  | nil => rfl
  | cons r l ih => rw [itemsV_cons, List.length_append, ih, itemV_length, List.length_cons]; omega
theorem itemsV_get (l : List RItem) (k : Nat) (x : RItem) (h : l[k]? = some x) (j : Nat) (hj : j < 12) : (itemsV l)[k * 12 + j]? = (itemV x)[j]? := by
  induction l generalizing k with
  | nil => simp at h
  | cons r l ih =>
    rw [itemsV_cons]
    cases k with
    | zero =>
      obtain rfl : r = x := by simpa using h
      rw [Nat.zero_mul, Nat.zero_add, List.getElem?_append_left (by rw [itemV_length]; exact hj)]
    | succ k =>
      rw [List.getElem?_append_right (by rw [itemV_length]; omega), itemV_length, show (k + 1) * 12 + j - 12 = k * 12 + j by omega]
      exact ih k (by simpa using h)
theorem itemV_cells (x : RItem) : ∀ u ∈ (itemV x).toArray.toList, u.oneCell' = true := by
  intro u hu
  simp [itemV, actV] at hu
  rcases hu with rfl | rfl | rfl | rfl | rfl | rfl | rfl | rfl | rfl | rfl | rfl | rfl <;> rfl
theorem itemsV_cell (l : List RItem) : ∀ u ∈ itemsV l, u.oneCell' = true := by
  intro u hu
  obtain ⟨x, _, hx⟩ := List.mem_flatMap.1 hu
  exact itemV_cells x u (by simpa using hx)
/-- The cells of an item in a slice. -/
theorem item_cells {w : World} {A : Option Addr} {n k : Nat} {l : List RItem} (hl : l.length = n) (h : Rd w 12 A n (itemsV l)) (hk : k < n) :
    ∃ b o x, A = some ⟨b, o, none⟩ ∧ b < w.heap.size ∧ l[k]? = some x ∧ ∀ j u, j < 12 → (itemV x)[j]? = some u → w.cell? ⟨b, o + (k * 12 + j), none⟩ = some u := by
  obtain ⟨b, o, e, hb, hc⟩ := h.2 (by omega)
  refine ⟨b, o, l[k]'(by omega), e, hb, List.getElem?_eq_getElem (by omega), fun j u hj hu => ?_⟩
  exact hc _ _ (by rw [itemsV_get l k _ (List.getElem?_eq_getElem (by omega)) j hj]; exact hu)

/-- All blocks of cells but those of two types stay. -/
def Stay (t u : TypeId) (w w' : World) : Prop := ∀ g e cs, e ≠ t → e ≠ u → Blk w g e cs → Blk w' g e cs
theorem Stay.refl (t u : TypeId) (w : World) : Stay t u w w := fun _ _ _ _ _ h => h
theorem Stay.trans {t u : TypeId} {a b c : World} (h : Stay t u a b) (k : Stay t u b c) : Stay t u a c := fun g e cs h1 h2 hb => k g e cs h1 h2 (h g e cs h1 h2 hb)
theorem Stay.of_below {t u : TypeId} {w w' : World} (h : Below w.heap.size w w') : Stay t u w w' := fun g e cs _ _ hb => hb.kept h
theorem Stay.of_own {t u : TypeId} {w w' : World} {base size n : Nat} {v : Value} {xs : List Value} (ho : w.ownsRow base u size v n xs) (h : w.grownBy w' v.ownBlock) : Stay t u w w' := fun g e cs _ h2 hb => hb.other ho h (fun e' => h2 e'.symm)
theorem Stay.of_own' {t u : TypeId} {w w' : World} {base size n : Nat} {v : Value} {xs : List Value} (ho : w.ownsRow base t size v n xs) (h : w.grownBy w' v.ownBlock) : Stay t u w w' := fun g e cs h1 _ hb => hb.other ho h (fun e' => h1 e'.symm)
theorem Stay.of_gr {t u : TypeId} {w w' : World} {b : Nat} {cs' : Array Value} (hb' : Blk w b t cs') (h : w.grownBy w' (some b)) : Stay t u w w' := fun g e cs h1 _ hb => hb.grown h (by simpa using hb.ne_ hb' h1)
theorem Stay.own {t u : TypeId} {w w' : World} (h : Stay t u w w') (hs : w.heap.size ≤ w'.heap.size) {e : TypeId} {base size n : Nat} {v : Value} {xs : List Value} (ho : w.ownsRow base e size v n xs) (h1 : e ≠ t) (h2 : e ≠ u) : w'.ownsRow base e size v n xs := by
  refine ⟨ho.1, ?_⟩
  rcases ho.2 with h3 | ⟨g, cap, cur, rfl, hbg, hh, r⟩
  · exact .inl h3
  · exact .inr ⟨g, cap, cur, rfl, hbg, h g e cur h1 h2 hh, r⟩

end Go.Proofs.Ytkecpbdgcbgogaa
