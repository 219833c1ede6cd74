/-
  A slice of ranges of the reference that comes in.
-/
import Derived.Test.YtmnmjjackffnjaaProg
import Derived.Test.YtmnmjjackffnjaaOpen
import Derived.Test.YtmnmjjackffnjaaPartPlain
namespace Go.Proofs.Ytmnmjjackffnjaa
set_option linter.unusedVariables false
set_option linter.unusedSimpArgs false
open Go.ChangeShapes Go.WideShapes Go.ChangeAt Go.RowKit

theorem addr_add (b o j : Nat) : (⟨b, o, none⟩ : Addr).add j = ⟨b, o + j, none⟩ := by
  unfold Addr.add
  by_cases h : j = 0 <;> simp [h]

theorem shape_ranges {H : Type} {enc : TypeId × Value → H} {w : World} {base : Nat} {spare : Nat → Bool} {held : Bool} {r : Reach} {b0 : Nat} {v : Value} {d : DataW H} {p : List MemPlace}
    (hv : Value.okWide Try.prog w r b0 41 v) (h : DataW.Trod enc Try.prog w base spare held 41 v d p) :
    ∃ (A : Option Addr) (n cap : Nat) (l : List (Int × Int)), v = .slice A n cap ∧ n ≤ 9223372036854775807 ∧ l.length = n ∧ Rd w 2 A n (rv l) ∧ ∀ x ∈ l, (-9223372036854775808 ≤ x.1 ∧ x.1 ≤ 9223372036854775807) ∧ -9223372036854775808 ≤ x.2 ∧ x.2 ≤ 9223372036854775807 := by
  obtain ⟨A, n, cap, rfl⟩ := okWide_slice Try.underlying41 hv
  have hc3 : Try.prog.cellsOf 3 = 1 := by kernel_rfl
  have hcr : Try.prog.cellsOf 23 = 2 := by kernel_rfl
  obtain ⟨fuel, hf⟩ := h
  rcases Go.Deep.open_slice Try.underlying41 hf with ⟨hcs, _⟩ | ⟨a, len, cap', m, fu, D, Pl, hcs, _, hl, hm, hmm, _, hi⟩
  · simp [Value.cells] at hcs
    obtain ⟨rfl, rfl, rfl⟩ := hcs
    exact ⟨none, 0, 0, [], rfl, by omega, rfl, Rd.nil _ _ _, by simp⟩
  · simp [Value.cells] at hcs
    obtain ⟨rfl, rfl, rfl⟩ := hcs
    have hnm : n ≤ m := by rw [hmm]; split <;> omega
    rw [hcr] at hi
    have hall : ∀ i, i < n → ∃ x : Int × Int, (w.cell? (a.add (i * 2)) = some (.int .i64 x.1) ∧ w.cell? (a.add (i * 2 + 1)) = some (.int .i64 x.2)) ∧ (-9223372036854775808 ≤ x.1 ∧ x.1 ≤ 9223372036854775807) ∧ -9223372036854775808 ≤ x.2 ∧ x.2 ≤ 9223372036854775807 := by
      intro i him
      obtain ⟨cs', hc, ht⟩ := hi i (by omega)
      obtain ⟨_, hcl, hat⟩ := World.cells?_some hc
      obtain ⟨c0, c1, rfl⟩ := list2 hcl
      obtain ⟨m2, hm2⟩ := field_at Try.underlying23 ht
      obtain ⟨y5, e5⟩ := hm2 0 _ rfl
      obtain ⟨y6, e6⟩ := hm2 1 _ rfl
      replace e5 : DataW.trod enc Try.prog w base spare held m2 3 (List.take (Try.prog.cellsOf 3) (List.drop 0 [c0, c1])) = some y5 := e5
      replace e6 : DataW.trod enc Try.prog w base spare held m2 3 (List.take (Try.prog.cellsOf 3) (List.drop 1 [c0, c1])) = some y6 := e6
      rw [hc3] at e5 e6
      obtain ⟨n5, rfl, w5⟩ := int_of Try.underlying3 e5
      obtain ⟨n6, rfl, w6⟩ := int_of Try.underlying3 e6
      have h0 := hat 0 (by omega)
      have h1 := hat 1 (by omega)
      rw [Go.Deep.add_add] at h0 h1
      exact ⟨(n5, n6), ⟨h0, h1⟩, bounds_i64 w5, bounds_i64 w6⟩
    obtain ⟨f, hf'⟩ := Go.Deep.choose_lt hall
    refine ⟨some a, n, cap, (List.range n).map f, rfl, by unfold maxLen at hm; omega, by simp, ⟨by rw [rv_length]; simp, fun hn => ?_⟩, ?_⟩
    · obtain ⟨b, o, sp⟩ := a
      have hs : sp = none := by
        have := (hf' 0 hn).1.1
        have := World.cell?_spot this
        simpa [Addr.add] using this
      subst hs
      refine ⟨b, o, rfl, ?_, fun j u hu => ?_⟩
      · have := World.block_lt_of_cell? w _ (hf' 0 hn).1.1
        rw [addr_add] at this
        exact this
      · have hlen : (rv ((List.range n).map f)).length = n * 2 := by rw [rv_length]; simp
        have hj : j < n * 2 := by
          have := (List.getElem?_eq_some_iff.1 hu).1
          omega
        have hk : j / 2 < ((List.range n).map f).length := by simp; omega
        obtain ⟨g1, g2⟩ := rv_get ((List.range n).map f) (j / 2) hk
        have hfk := (hf' (j / 2) (by omega)).1
        rw [addr_add, addr_add] at hfk
        rcases Nat.mod_two_eq_zero_or_one j with hp | hp
        · rw [show j / 2 * 2 = j by omega] at g1 hfk
          rw [hu] at g1
          injection g1 with g1
          rw [hfk.1, g1]
          simp
        · rw [show j / 2 * 2 + 1 = j by omega] at g2 hfk
          rw [hu] at g2
          injection g2 with g2
          rw [hfk.2, g2]
          simp
    · intro x hx
      simp only [List.mem_map, List.mem_range] at hx
      obtain ⟨i, hi, rfl⟩ := hx
      exact (hf' i hi).2

end Go.Proofs.Ytmnmjjackffnjaa
