/-
  A set of numbers that a call has made: a map from int to bool.
-/
import Derived.Test.YtncjfijpaheobaaDrawNexts
import Derived.Maps.Own
import Derived.Maps.Views
import Derived.Maps.Keyed
import Derived.Maps.OwnOps
import Derived.Maps.Ext
namespace Go.Proofs.Ytncjfijpaheobaa
set_option linter.unusedVariables false
set_option linter.unusedSimpArgs false
set_option maxRecDepth 100000
open Go.RowKit Go.Maps Go.ChangeShapes Go.WideShapes Go.ChangeAt

theorem keyInt : Keyed Try.prog 3 := int_keyed Try.underlying3

/-- Block b is a map that holds true for the numbers of s, and at most n entries. -/
def SetOf (w : World) (b n : Nat) (s : Int → Bool) : Prop :=
  ∃ D : DataW Unit, w.ownsMap Try.prog 3 (plainElem Try.prog 4) b n D ∧ IsMap D ∧ ∀ x, D.atKey (.int .i64 x) (.lit (.bool false)) = .lit (.bool (s x))

theorem SetOf.made (w : World) : SetOf (w.alloc (.map #[] 0)) w.heap.size 0 (fun _ => false) :=
  ⟨.map [], World.ownsMap_made w _ _ _, ⟨[], rfl⟩, fun _ => rfl⟩
theorem SetOf.kept {w w' : World} {b n : Nat} {s : Int → Bool} (h : SetOf w b n s) (hb : Below w.heap.size w w') : SetOf w' b n s := by
  obtain ⟨D, h1, h2⟩ := h
  exact ⟨D, h1.kept (gr_of_below hb none) (by simp), h2⟩
theorem SetOf.lt {w : World} {b n : Nat} {s : Int → Bool} (h : SetOf w b n s) : b < w.heap.size := by
  obtain ⟨D, h1, _⟩ := h
  exact h1.lt

theorem zeroBool (w : World) : (zeroValue 4).run Try.prog w = .ok (.bool false) w := by
  have h : Try.t4.zero = some (.bool false) := by kernel_rfl
  simp [zeroValue, go_sem, h]

theorem SetOf.look {w : World} {b n : Nat} {s : Int → Bool} (h : SetOf w b n s) (x : Int) (hx : (Lit.int .i64 x).wf = true) : (Instr.lookup 91 (.map (some b)) (.int .i64 x) false).run Try.prog w = .ok (.bool (s x)) w := by
  obtain ⟨D, h1, _, h3⟩ := h
  obtain ⟨v, ps, hrun, hv⟩ := h1.lookup keyInt Try.underlying91 (zeroBool w) (plainElem_bool Try.underlying4 false) (keyOf_int_mk Try.underlying3 hx)
  rw [h3 x] at hv
  have hv2 : v = .bool (s x) := by
    unfold plainElem at hv
    simp only [Try.underlying4] at hv
    split at hv
    all_goals first | (simp at hv; done) | skip
    all_goals simp_all
  rw [hrun, hv2]

theorem SetOf.put {w : World} {b n : Nat} {s : Int → Bool} (h : SetOf w b n s) (x : Int) (hx : (Lit.int .i64 x).wf = true) (hn : n < maxLen) : ∃ w', (Instr.mapUpdate 91 (.map (some b)) (.int .i64 x) (.bool true)).run Try.prog w = .ok () w' ∧ SetOf w' b (n + 1) (fun y => s y || y == x) ∧ w.grownBy w' (some b) := by
  obtain ⟨D, h1, h2, h3⟩ := h
  obtain ⟨w', hrun, r1, r2⟩ := h1.update keyInt Try.underlying91 hn (keyOf_int_mk Try.underlying3 hx) (plainElem_bool Try.underlying4 true)
  refine ⟨w', hrun, ⟨_, r1, ?_, fun y => ?_⟩, r2⟩
  · obtain ⟨es, rfl⟩ := h2
    exact ⟨_, rfl⟩
  · by_cases e : y = x
    · subst e
      rw [atKey_put_same h2 (by simp [WideAt.IsKeyLit])]
      simp
    · rw [atKey_put_other (by intro h; injection h with _ h; exact e h), h3]
      simp [e]

theorem SetOf.clear {w : World} {b n : Nat} {s : Int → Bool} (h : SetOf w b n s) : ∃ v w', (∀ ty, (Builtin.clear_ #[91] ty #[.map (some b)]).run Try.prog w = .ok v w') ∧ w.grownBy w' (some b) := by
  obtain ⟨D, ⟨es, clock, hb, _⟩, _⟩ := h
  refine ⟨.tuple #[], { w with heap := w.heap.setIfInBounds b (.map #[] clock) }, fun ty => ?_, ⟨rfl, rfl, rfl, by simp, fun i hi hne => ?_⟩⟩
  · simp [Builtin.clear_, run_underlying Try.underlying91, MapKept.run_getObj_map hb, MapKept.run_setObj_map _ hb, Result.andThen]
  · simp only [Array.getElem?_setIfInBounds]
    rw [if_neg (fun e => hne (by rw [e]))]

end Go.Proofs.Ytncjfijpaheobaa
