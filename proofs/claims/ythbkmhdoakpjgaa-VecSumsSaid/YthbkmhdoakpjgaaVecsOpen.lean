/-
  Lists of vectors that come in.
-/
import Derived.Test.YthbkmhdoakpjgaaVecOpen
namespace Go.Proofs.Ythbkmhdoakpjgaa
set_option linter.unusedVariables false
set_option linter.unusedSimpArgs false
open Go.ChangeShapes Go.WideShapes Go.ChangeAt Go.RowKit

/-- A row of known cells is read. -/
theorem rd_cells {w : World} {a : Addr} {n : Nat} {xs : List Value} (hn : xs.length = n) (h : ∀ i u, xs[i]? = some u → w.cell? (a.add i) = some u) : Rd w 1 (some a) n xs := by
  refine ⟨by omega, fun h0 => ?_⟩
  obtain ⟨b, o, sp⟩ := a
  have h0' := h 0 xs[0] (List.getElem?_eq_getElem (by omega))
  have hs : sp = none := by
    have := World.cell?_spot h0'
    simpa [Addr.add] using this
  subst hs
  refine ⟨b, o, rfl, ?_, fun j u hu => ?_⟩
  · have := World.block_lt_of_cell? w _ h0'
    simpa [Addr.add] using this
  · have hc := h j u hu
    rwa [show ((⟨b, o, none⟩ : Addr).add j) = ⟨b, o + j, none⟩ by unfold Addr.add; by_cases hj : j = 0 <;> simp [hj]] at hc

theorem vec_of {H : Type} {enc : TypeId × Value → H} {w : World} {base : Nat} {spare : Nat → Bool} {held : Bool} {fuel : Nat} {c : Value} {x : DataW H × List MemPlace}
    (h : DataW.trod enc Try.prog w base spare held fuel 32 [c] = some x) :
    ∃ (s : Option Addr × Nat × Nat) (l : List Int), c = slv s ∧ (s.2.1 ≤ 9223372036854775807 ∧ s.2.1 ≤ s.2.2 ∧ s.2.2 ≤ 9223372036854775807) ∧ l.length = s.2.1 ∧ Rd w 1 s.1 s.2.1 (iv l) ∧ ∀ x ∈ l, -9223372036854775808 ≤ x ∧ x ≤ 9223372036854775807 := by
  rcases Go.Deep.open_slice1 Try.underlying32 (by kernel_rfl) h with ⟨hcs, _⟩ | ⟨a, n, cap, m, fu, V, D, Pl, hcs, _, hl, hm, hmm, _, hi⟩
  · simp at hcs
    subst hcs
    exact ⟨(none, 0, 0), [], rfl, by simp, rfl, Rd.nil _ _ _, by simp⟩
  · simp at hcs
    subst hcs
    have hnm : n ≤ m := by rw [hmm]; split <;> omega
    have hall : ∀ i, i < n → ∃ x : Int, V i = .int .i64 x ∧ -9223372036854775808 ≤ x ∧ x ≤ 9223372036854775807 := by
      intro i him
      obtain ⟨_, ht⟩ := hi i (by omega)
      obtain ⟨n5, h5, w5⟩ := int_of Try.underlying2 ht
      exact ⟨n5, h5, bounds_i64 w5⟩
    obtain ⟨f, hf'⟩ := Go.Deep.choose_lt hall
    refine ⟨(some a, n, cap), (List.range n).map f, rfl, by unfold maxLen at hm; simp; omega, by simp, rd_cells (by simp [iv_length]) (fun i u hu => ?_), ?_⟩
    · have hin : i < n := by have := (List.getElem?_eq_some_iff.1 hu).1; simpa [iv_length] using this
      rw [iv_get _ i (by simpa using hin)] at hu
      injection hu with hu
      rw [(hi i (by omega)).1, (hf' i hin).1, ← hu]
      simp
    · intro x hx
      simp only [List.mem_map, List.mem_range] at hx
      obtain ⟨i, hi, rfl⟩ := hx
      exact (hf' i hi).2

theorem shape_vecs {H : Type} {enc : TypeId × Value → H} {w : World} {base : Nat} {spare : Nat → Bool} {held : Bool} {r : Reach} {b0 : Nat} {v : Value} {d : DataW H} {p : List MemPlace}
    (hv : Value.okWide Try.prog w r b0 39 v) (h : DataW.Trod enc Try.prog w base spare held 39 v d p) :
    ∃ (A : Option Addr) (n cap : Nat) (ss : List (Option Addr × Nat × Nat)) (zs : List (List Int)), v = .slice A n cap ∧ (n ≤ 9223372036854775807 ∧ n ≤ cap ∧ cap ≤ 9223372036854775807) ∧ ss.length = n ∧ (∀ s ∈ ss, s.2.1 ≤ 9223372036854775807) ∧ Rd w 1 A n (ss.map slv) ∧ RdV w ss zs ∧ ∀ z ∈ zs, ∀ x ∈ z, -9223372036854775808 ≤ x ∧ x ≤ 9223372036854775807 := by
  obtain ⟨A, n, cap, rfl⟩ := okWide_slice Try.underlying39 hv
  obtain ⟨fuel, hf⟩ := h
  rcases Go.Deep.open_slice1 Try.underlying39 (by kernel_rfl) hf with ⟨hcs, _⟩ | ⟨a, len, cap', m, fu, V, D, Pl, hcs, _, hl, hm, hmm, _, hi⟩
  · simp [Value.cells] at hcs
    obtain ⟨rfl, rfl, rfl⟩ := hcs
    exact ⟨none, 0, 0, [], [], rfl, by omega, rfl, by simp, Rd.nil _ _ _, ⟨rfl, fun i s z h => by simp at h⟩, by simp⟩
  · simp [Value.cells] at hcs
    obtain ⟨rfl, rfl, rfl⟩ := hcs
    have hnm : n ≤ m := by rw [hmm]; split <;> omega
    have hall : ∀ i, i < n → ∃ q : (Option Addr × Nat × Nat) × List Int, V i = slv q.1 ∧ (q.1.2.1 ≤ 9223372036854775807 ∧ q.1.2.1 ≤ q.1.2.2 ∧ q.1.2.2 ≤ 9223372036854775807) ∧ q.2.length = q.1.2.1 ∧ Rd w 1 q.1.1 q.1.2.1 (iv q.2) ∧ ∀ x ∈ q.2, -9223372036854775808 ≤ x ∧ x ≤ 9223372036854775807 := by
      intro i him
      obtain ⟨s, l, h1⟩ := vec_of (hi i (by omega)).2
      exact ⟨(s, l), h1⟩
    obtain ⟨f, hf'⟩ := Go.Deep.choose_lt hall
    refine ⟨some a, n, cap, (List.range n).map fun i => (f i).1, (List.range n).map fun i => (f i).2, rfl, by unfold maxLen at hm; omega, by simp, ?_, rd_cells (by simp) (fun i u hu => ?_), ⟨by simp, fun i s z h1 h2 => ?_⟩, ?_⟩
    · intro s hs
      simp only [List.mem_map, List.mem_range] at hs
      obtain ⟨i, hi, rfl⟩ := hs
      exact (hf' i hi).2.1.1
    · have hin : i < n := by have := (List.getElem?_eq_some_iff.1 hu).1; simpa using this
      rw [(hi i (by omega)).1, (hf' i hin).1, ← hu]
      simp [hin]
    · have hin : i < n := by have := (List.getElem?_eq_some_iff.1 h1).1; simpa using this
      simp [hin] at h1 h2
      subst h1 h2
      exact ⟨(hf' i hin).2.2.1, (hf' i hin).2.2.2.1⟩
    · intro z hz
      simp only [List.mem_map, List.mem_range] at hz
      obtain ⟨i, hi, rfl⟩ := hz
      exact (hf' i hi).2.2.2.2

end Go.Proofs.Ythbkmhdoakpjgaa
