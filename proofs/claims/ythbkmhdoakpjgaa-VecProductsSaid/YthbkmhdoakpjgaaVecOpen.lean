/-
  Vectors that come in.
-/
import Derived.Test.YthbkmhdoakpjgaaProg
import Derived.Test.YthbkmhdoakpjgaaVecPlain
namespace Go.Proofs.Ythbkmhdoakpjgaa
set_option linter.unusedVariables false
set_option linter.unusedSimpArgs false
open Go.ChangeShapes Go.WideShapes Go.ChangeAt Go.RowKit

/-- A row of integers whose cells are known is a vector that is read. -/
theorem rd_row {w : World} {a : Addr} {n : Nat} {zs : List Int} (hn : n ≤ zs.length) (h : ∀ i, i < n → w.cell? (a.add i) = some (.int .i64 (zs.getD i 0))) : Rd w 1 (some a) n (iv (zs.take n)) := by
  refine ⟨by rw [iv_length, List.length_take]; omega, fun h0 => ?_⟩
  obtain ⟨b, o, sp⟩ := a
  have hs : sp = none := by
    have := World.cell?_spot (h 0 h0)
    simpa [Addr.add] using this
  subst hs
  refine ⟨b, o, rfl, ?_, fun j u hu => ?_⟩
  · have := World.block_lt_of_cell? w _ (h 0 h0)
    simpa [Addr.add] using this
  · have hj : j < n := by
      have := (List.getElem?_eq_some_iff.1 hu).1
      rw [iv_length, List.length_take] at this
      omega
    have hc := h j hj
    rw [show ((⟨b, o, none⟩ : Addr).add j) = ⟨b, o + j, none⟩ by unfold Addr.add; by_cases hj : j = 0 <;> simp [hj]] at hc
    rw [hc, ← hu]
    unfold iv
    rw [List.getElem?_map, List.getElem?_take_of_lt hj, List.getElem?_eq_getElem (by omega)]
    simp [List.getD, List.getElem?_eq_getElem (show j < zs.length by omega)]

theorem shape_vec {H : Type} {enc : TypeId × Value → H} {w : World} {base : Nat} {spare : Nat → Bool} {held : Bool} {r : Reach} {b0 : Nat} {v : Value} {d : DataW H} {p : List MemPlace}
    (hv : Value.okWide Try.prog w r b0 32 v) (h : DataW.Trod enc Try.prog w base spare held 32 v d p) :
    ∃ (A : Option Addr) (n cap : Nat) (l : List Int), v = .slice A n cap ∧ (n ≤ 9223372036854775807 ∧ n ≤ cap ∧ cap ≤ 9223372036854775807) ∧ l.length = n ∧ Rd w 1 A n (iv l) ∧ ∀ x ∈ l, -9223372036854775808 ≤ x ∧ x ≤ 9223372036854775807 := by
  obtain ⟨A, n, cap, rfl⟩ := okWide_slice Try.underlying32 hv
  obtain ⟨fuel, hf⟩ := h
  rcases Go.Deep.open_slice Try.underlying32 hf with ⟨hcs, _⟩ | ⟨a, len, cap', m, fu, D, Pl, hcs, _, hl, hm, hmm, _, hi⟩
  · simp [Value.cells] at hcs
    obtain ⟨rfl, rfl, rfl⟩ := hcs
    exact ⟨none, 0, 0, [], rfl, by omega, rfl, Rd.nil _ _ _, by simp⟩
  · simp [Value.cells] at hcs
    obtain ⟨rfl, rfl, rfl⟩ := hcs
    have hc3 : Try.prog.cellsOf 2 = 1 := by kernel_rfl
    have hnm : n ≤ m := by rw [hmm]; split <;> omega
    rw [hc3] at hi
    have hall : ∀ i, i < n → ∃ x : Int, w.cell? (a.add i) = some (.int .i64 x) ∧ -9223372036854775808 ≤ x ∧ x ≤ 9223372036854775807 := by
      intro i him
      obtain ⟨cs', hc, ht⟩ := hi i (by omega)
      obtain ⟨_, hcl, hat⟩ := World.cells?_some hc
      match cs', hcl with
      | [c0], _ =>
        obtain ⟨n5, rfl, w5⟩ := int_of Try.underlying2 ht
        have h0 := hat 0 (by omega)
        rw [Go.Deep.add_add, Nat.mul_one, Nat.add_zero] at h0
        exact ⟨n5, h0, bounds_i64 w5⟩
    obtain ⟨f, hf'⟩ := Go.Deep.choose_lt hall
    have hrd := rd_row (w := w) (a := a) (n := n) (zs := (List.range n).map f) (by simp) (fun i hi => by rw [(hf' i hi).1]; simp [List.getD, hi])
    rw [List.take_of_length_le (by simp)] at hrd
    refine ⟨some a, n, cap, (List.range n).map f, rfl, by unfold maxLen at hm; omega, by simp, hrd, ?_⟩
    intro x hx
    simp only [List.mem_map, List.mem_range] at hx
    obtain ⟨i, hi, rfl⟩ := hx
    exact (hf' i hi).2

end Go.Proofs.Ythbkmhdoakpjgaa
