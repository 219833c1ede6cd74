/-
  A range over a method value whose function yields nothing; All of no stream.
-/
import Derived.Test.YtncjfijpaheobaaDrawNexts
import Derived.RangeFuncFrom
namespace Go.Proofs.Ytncjfijpaheobaa
set_option linter.unusedVariables false
set_option linter.unusedSimpArgs false
set_option maxRecDepth 100000
open Go.RowKit

/-- A range over a method value whose function returns without a round. -/
theorem wpIn_range_none {F : Fence} {n : Nat} {P : Program} {g : Operand} {ps : Array Tmp} {assign body : Code} {Q : Exit → Act → World → Prop} {a : Act} {w : World}
    (hro : F.round = none) (h1 : 1 ≤ n) {gf : Nat} {rv : Value} (hg : a.eval g = .func (.func gf) #[rv] #[]) (hFg : F.fn gf) (eg : ∀ args w, (callFunc gf args).run P w = .ok (.enter gf args) w)
    (hcall : ∀ yl W, CallsIn F (n - 1) P gf #[rv, .func (.yield yl) #[] #[]] W fun e W' => (∃ v, e = .returned v) ∧ W = W')
    (hdone : ∀ (D : Nat) (W : World), w.heap.size ≤ D → Below w.heap.size w W → W.heap[D]? = some (.deferred (some [])) → Q .normal { a with defers := { target := .collected D, args := #[] } :: a.defers } W) :
    (Code.rangeFunc g ps assign body).wpIn F n P Q a w := by
  refine wpIn_rangeFunc ?_
  intro fn hfn
  rw [hro]
  obtain ⟨r0, hr0⟩ : ∃ r0 : Loop, r0 = { state := .ready, pending := none, fn, tmps := a.tmps, params := ps, assign, body, defers := w.heap.size } := ⟨_, rfl⟩
  obtain ⟨W1, hW1⟩ : ∃ W1, (w.alloc (.deferred (some []))).alloc (.loop r0) = W1 := ⟨_, rfl⟩
  have hL1 : W1.heap[w.heap.size + 1]? = some (.loop r0) := by
    rw [← hW1]; have := World.alloc_heap_new (w.alloc (.deferred (some []))) (.loop r0); rwa [World.size_alloc] at this
  have hK1 : W1.heap[w.heap.size]? = some (.deferred (some [])) := by
    rw [← hW1]; exact (Below.heap_alloc _ _ _ (by simp)).trans (World.alloc_heap_new w _)
  have hb1 : Below w.heap.size w W1 := by
    rw [← hW1]; exact ((Below.refl _ w).alloc (Nat.le_refl _) _).alloc (by simp) _
  refine ⟨w.heap.size + 1, [{ target := .collected w.heap.size, args := #[] }], W1, { target := .fn (.func gf) #[], args := #[rv, .func (.yield (w.heap.size + 1)) #[] #[]] }, W1, gf,
    #[rv, .func (.yield (w.heap.size + 1)) #[] #[]], W1, ?_, ?_, ?_, ?_, fun _ => h1, ?_⟩
  · rw [← hW1, hr0]; exact run_enterLoop_outer _ _ _ _ _
  · simp only [resolve, hg]
    simp [go_sem]
  · intro f' hf'; simp [Target.leads] at hf'; subst hf'; exact hFg
  · simp [invoke, go_sem, eg]
  · refine (hcall _ W1).mono ?_
    rintro e W' ⟨⟨v, rfl⟩, rfl⟩
    have he := run_endLoop (P := P) hL1 (by rw [hr0]; simp)
    refine ⟨_, _, he, ?_⟩
    rw [hr0]
    have hlt : w.heap.size + 1 < W1.heap.size := (Array.getElem?_eq_some_iff.1 hL1).1
    have hg2 := grownBy_putObj' W1 (w.heap.size + 1) (.loop { r0 with state := .exhausted })
    rw [hr0] at hg2
    exact hdone w.heap.size _ (Nat.le_refl _) (hb1.grown hg2 (by omega) (fun k e => by cases e; omega)) ((World.putObj_heap_other (by omega)).trans hK1)

/-- All of no stream yields nothing. -/
theorem all_nil (yl n : Nat) (w : World) :
    CallsIn Fence.wide n Try.prog 21 #[.pointer none, .func (.yield yl) #[] #[]] w fun e w' => (∃ v, e = .returned v) ∧ w = w' := by
  refine callsIn_of_wp Try.func21 rfl trivial ?_ rfl
  simp only [Try.ntmps21, List.size_toArray, List.length_cons, List.length_nil, Nat.reduceAdd, Nat.reduceSub, Array.replicate_succ, Array.replicate_zero, List.push_toArray, List.append_toArray, List.nil_append, List.cons_append]
  gi_wp2
  refine bodyPost_ret (results_none rfl _ _ _) rfl ?_
  exact ⟨⟨_, rfl⟩, rfl⟩

/-- Next of no stream. -/
theorem next_nil (m : Int) (w : World) : Calls Try.prog 17 #[.pointer none, .int .i64 m] w fun e w' => e = .returned (.tuple #[.int .i64 0, .bool false]) ∧ Below w.heap.size w w' := by
  by_cases h : m < 1
  · go_enter Try.func17, Try.ntmps17
    go_wp2
    go_ret2
    exact ⟨rfl, Below.refl _ _⟩
  · go_enter Try.func17, Try.ntmps17
    go_wp2_with fail
    ((with_reducible refine (left_nil _).mono ?_); rintro e w1 ⟨rfl, rfl⟩)
    go_wp2
    go_ret2
    exact ⟨rfl, Below.refl _ _⟩

end Go.Proofs.Ytncjfijpaheobaa
