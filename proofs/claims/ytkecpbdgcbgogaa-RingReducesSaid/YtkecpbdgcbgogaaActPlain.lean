/-
  Actions of the ring as rows of cells, in plain Lean.
-/
import Derived.Test.YtkecpbdgcbgogaaMem
import Derived.Test.YtkecpbdgcbgogaaPartPlain
namespace Go.Proofs.Ytkecpbdgcbgogaa
set_option linter.unusedVariables false
set_option linter.unusedSimpArgs false
open Go.RowKit

/-- An action: whether it sends and adds; its tag (step, bucket, phase, round, chunk); its range. -/
abbrev RAct := (Bool × Bool) × (Int × Int × Int × Int × Int) × (Int × Int)
def actV (a : RAct) : List Value := [.bool a.1.1, .bool a.1.2, .int .i64 a.2.1.1, .int .i64 a.2.1.2.1, .int .i64 a.2.1.2.2.1, .int .i64 a.2.1.2.2.2.1, .int .i64 a.2.1.2.2.2.2, .int .i64 a.2.2.1, .int .i64 a.2.2.2]
def acts (l : List RAct) : List Value := l.flatMap actV
theorem acts_nil : acts [] = [] := rfl
theorem acts_append (l k : List RAct) : acts (l ++ k) = acts l ++ acts k := by simp [acts]
theorem acts_one (a : RAct) : acts [a] = actV a := by simp [acts]
theorem acts_cons (a : RAct) (l : List RAct) : acts (a :: l) = actV a ++ acts l := by simp [acts]
theorem actV_length (a : RAct) : (actV a).length = 9 := rfl
theorem acts_length (l : List RAct) : (acts l).length = l.length * 9 := by
  induction l with
  | nil => rfl
  | cons a l ih => rw [acts_cons, List.length_append, actV_length, ih, List.length_cons]; omega
theorem acts_get (l : List RAct) (k : Nat) (a : RAct) (h : l[k]? = some a) (j : Nat) (hj : j < 9) : (acts l)[k * 9 + j]? = (actV a)[j]? := by
  induction l generalizing k with
  | nil => simp at h
  | cons b l ih =>
    rw [acts_cons]
    cases k with
    | zero =>
      simp at h
      subst h
      rw [Nat.zero_mul, Nat.zero_add, List.getElem?_append_left (by rw [actV_length]; exact hj)]
    | succ k =>
      rw [List.getElem?_append_right (by rw [actV_length]; omega), actV_length, show (k + 1) * 9 + j - 9 = k * 9 + j by omega]
      exact ih k (by simpa using h)
theorem actV_cells (a : RAct) : ∀ u ∈ (actV a).toArray.toList, u.oneCell' = true := by
  intro u hu
  simp only [actV, List.mem_cons, List.not_mem_nil, or_false] at hu
  rcases hu with rfl | rfl | rfl | rfl | rfl | rfl | rfl | rfl | rfl <;> rfl
theorem acts_cell (l : List RAct) : ∀ u ∈ acts l, u.oneCell' = true := by
  intro u hu
  obtain ⟨a, _, ha⟩ := List.mem_flatMap.1 hu
  exact actV_cells a u (by simpa using ha)
theorem act_cells {w : World} {A : Option Addr} {n k : Nat} {l : List RAct} (hl : l.length = n) (h : Rd w 9 A n (acts l)) (hk : k < n) :
    ∃ b o sd ad s bu p r i x y, A = some ⟨b, o, none⟩ ∧ b < w.heap.size ∧ l[k]? = some ((sd, ad), (s, bu, p, r, i), (x, y)) ∧
      w.cell? ⟨b, o + k * 9, none⟩ = some (.bool sd) ∧ w.cell? ⟨b, o + k * 9 + 1, none⟩ = some (.bool ad) ∧ w.cell? ⟨b, o + k * 9 + 2, none⟩ = some (.int .i64 s) ∧ w.cell? ⟨b, o + k * 9 + 3, none⟩ = some (.int .i64 bu) ∧ w.cell? ⟨b, o + k * 9 + 4, none⟩ = some (.int .i64 p) ∧
      w.cell? ⟨b, o + k * 9 + 5, none⟩ = some (.int .i64 r) ∧ w.cell? ⟨b, o + k * 9 + 6, none⟩ = some (.int .i64 i) ∧ w.cell? ⟨b, o + k * 9 + 7, none⟩ = some (.int .i64 x) ∧ w.cell? ⟨b, o + k * 9 + 8, none⟩ = some (.int .i64 y) := by
  obtain ⟨b, o, e, hb, hc⟩ := h.2 (by omega)
  obtain ⟨⟨⟨sd, ad⟩, ⟨s, bu, p, r, i⟩, x, y⟩, ha⟩ : ∃ a, l[k]? = some a := ⟨_, List.getElem?_eq_getElem (by omega)⟩
  have g := fun j hj => acts_get l k _ ha j hj
  refine ⟨b, o, sd, ad, s, bu, p, r, i, x, y, e, hb, ha, ?_, ?_, ?_, ?_, ?_, ?_, ?_, ?_, ?_⟩
  · exact hc _ _ (g 0 (by omega))
  · rw [Nat.add_assoc]; exact hc _ _ (g 1 (by omega))
  · rw [Nat.add_assoc]; exact hc _ _ (g 2 (by omega))
  · rw [Nat.add_assoc]; exact hc _ _ (g 3 (by omega))
  · rw [Nat.add_assoc]; exact hc _ _ (g 4 (by omega))
  · rw [Nat.add_assoc]; exact hc _ _ (g 5 (by omega))
  · rw [Nat.add_assoc]; exact hc _ _ (g 6 (by omega))
  · rw [Nat.add_assoc]; exact hc _ _ (g 7 (by omega))
  · rw [Nat.add_assoc]; exact hc _ _ (g 8 (by omega))

/-- A row of n actions that a call collects. -/
def CollA (w : World) (e : TypeId) (n : Nat) (L : List RAct) (v : Value) (wr : World) : Prop :=
  (∃ A cap, v = .slice A n cap) ∧ wr.ownsRow w.heap.size e 9 v n (acts L) ∧ Below w.heap.size w wr
theorem CollA.start (w : World) (e : TypeId) : CollA w e 0 [] (.slice none 0 0) w := ⟨⟨_, _, rfl⟩, by simpa [acts_nil] using World.ownsRow_nil w w.heap.size e 9, Below.refl _ _⟩
theorem CollA.len {w wr : World} {e : TypeId} {n : Nat} {L : List RAct} {v : Value} (h : CollA w e n L v wr) : L.length = n := by
  have := h.2.1.1
  rw [acts_length] at this
  omega
theorem CollA.next {w wr w1 : World} {e : TypeId} {n : Nat} {L : List RAct} {v : Value} {A : Option Addr} {cap : Nat} {a : RAct} (h : CollA w e n L v wr)
    (hown : w1.ownsRow w.heap.size e 9 (.slice A (n + 1) cap) (n + 1) (acts L ++ (actV a).toArray.toList)) (hb : Below w.heap.size wr w1) : CollA w e (n + 1) (L ++ [a]) (.slice A (n + 1) cap) w1 := by
  refine ⟨⟨_, _, rfl⟩, ?_, h.2.2.trans hb⟩
  rw [acts_append, acts_one]
  exact hown
theorem CollA.more {w wr w1 : World} {e : TypeId} {n m : Nat} {L M : List RAct} {v : Value} {A : Option Addr} {cap : Nat} (h : CollA w e n L v wr)
    (hown : w1.ownsRow w.heap.size e 9 (.slice A (n + m) cap) (n + m) (acts L ++ acts M)) (hb : Below w.heap.size wr w1) : CollA w e (n + m) (L ++ M) (.slice A (n + m) cap) w1 := by
  refine ⟨⟨_, _, rfl⟩, ?_, h.2.2.trans hb⟩
  rw [acts_append]
  exact hown
theorem CollA.below {w wr w1 : World} {e : TypeId} {n : Nat} {L : List RAct} {v : Value} (h : CollA w e n L v wr) (hb : Below wr.heap.size wr w1) : CollA w e n L v w1 := ⟨h.1, own_below h.2.1 hb, h.2.2.trans (hb.mono h.2.2.size)⟩
theorem CollA.done {w wr : World} {e : TypeId} {n : Nat} {L : List RAct} {v : Value} (h : CollA w e n L v wr) : OwnRet w e 9 n (acts L) (.returned v) wr := by
  obtain ⟨A, cap, rfl⟩ := h.1
  exact ⟨A, cap, rfl, h.2.1, h.2.2⟩

/-- The actions of a round: what is sent and what comes, chunk by chunk. -/
def rdAt (s b p r : Int) (xs ys : List (Int × Int)) (i : Nat) : List RAct :=
  (match xs[i]? with | some x => [((true, false), (s, b, p, r, (i : Int)), x)] | none => []) ++ (match ys[i]? with | some y => [((false, decide (p = 0)), (s, b, p, r, (i : Int)), y)] | none => [])
def rdTo (s b p r : Int) (xs ys : List (Int × Int)) (k : Nat) : List RAct := (List.range k).flatMap (rdAt s b p r xs ys)
def roundL (s b p r : Int) (xs ys : List (Int × Int)) : List RAct := rdTo s b p r xs ys (max xs.length ys.length)
theorem rdTo_succ (s b p r : Int) (xs ys : List (Int × Int)) (k : Nat) : rdTo s b p r xs ys (k + 1) = rdTo s b p r xs ys k ++ rdAt s b p r xs ys k := by simp [rdTo, List.range_succ]
theorem rdAt_le (s b p r : Int) (xs ys : List (Int × Int)) (i : Nat) : (rdAt s b p r xs ys i).length ≤ 2 := by
  unfold rdAt
  split <;> split <;> simp
theorem rdTo_le (s b p r : Int) (xs ys : List (Int × Int)) (k : Nat) : (rdTo s b p r xs ys k).length ≤ 2 * k := by
  induction k with
  | zero => simp [rdTo]
  | succ k ih =>
    rw [rdTo_succ, List.length_append]
    have := rdAt_le s b p r xs ys k
    omega
theorem rdAt_both (s b p r : Int) (xs ys : List (Int × Int)) (i : Nat) (x y : Int × Int) (hx : xs[i]? = some x) (hy : ys[i]? = some y) : rdAt s b p r xs ys i = [((true, false), (s, b, p, r, (i : Int)), x)] ++ [((false, decide (p = 0)), (s, b, p, r, (i : Int)), y)] := by
  unfold rdAt
  rw [hx, hy]
theorem rdAt_left (s b p r : Int) (xs ys : List (Int × Int)) (i : Nat) (x : Int × Int) (hx : xs[i]? = some x) (hy : ys[i]? = none) : rdAt s b p r xs ys i = [((true, false), (s, b, p, r, (i : Int)), x)] := by
  unfold rdAt
  rw [hx, hy]
  rfl
theorem rdAt_right (s b p r : Int) (xs ys : List (Int × Int)) (i : Nat) (y : Int × Int) (hx : xs[i]? = none) (hy : ys[i]? = some y) : rdAt s b p r xs ys i = [((false, decide (p = 0)), (s, b, p, r, (i : Int)), y)] := by
  unfold rdAt
  rw [hx, hy]
  rfl
theorem rdAt_none (s b p r : Int) (xs ys : List (Int × Int)) (i : Nat) (hx : xs[i]? = none) (hy : ys[i]? = none) : rdAt s b p r xs ys i = [] := by
  unfold rdAt
  rw [hx, hy]
  rfl

end Go.Proofs.Ytkecpbdgcbgogaa
