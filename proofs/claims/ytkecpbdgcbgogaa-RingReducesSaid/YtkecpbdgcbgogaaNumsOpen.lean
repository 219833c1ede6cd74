/-
  Lists of integers, and lists of such lists, that come in; how long they are at most.
-/
import Derived.Test.YtkecpbdgcbgogaaOpen
import Derived.SizedLaws
namespace Go.Proofs.Ytkecpbdgcbgogaa
set_option linter.unusedVariables false
set_option linter.unusedSimpArgs false
open Go.ChangeShapes Go.WideShapes Go.ChangeAt Go.RowKit

/-- A row of known cells is read. -/
theorem rd_of_cells {w : World} {a : Addr} {n : Nat} {xs : List Value} (hn : xs.length = n) (h : ∀ i u, xs[i]? = some u → w.cell? (a.add i) = some u) : Rd w 1 (some a) n xs := by
  refine ⟨by omega, fun h0 => ?_⟩
  obtain ⟨b, o, sp⟩ := a
  have h0' := h 0 xs[0] (List.getElem?_eq_getElem (by omega))
  have hs : sp = none := by
    have := World.cell?_spot h0'
    simpa [Addr.add] using this
  subst hs
  refine ⟨b, o, rfl, ?_, fun j u hu => ?_⟩
  · have := World.block_lt_of_cell? w _ h0'
    simpa [Addr.add] using this
  · have hc := h j u hu
    rwa [show ((⟨b, o, none⟩ : Addr).add j) = ⟨b, o + j, none⟩ by unfold Addr.add; by_cases hj : j = 0 <;> simp [hj]] at hc

section
variable {H : Type} {enc : TypeId × Value → H} {P : Program} {w : World} {base : Nat} {spare : Nat → Bool} {held : Bool} {r : Reach} {b0 : Nat} {t e : TypeId} {v : Value} {d : DataW H} {p : List MemPlace}

theorem nums_of {k : IntKind} {fuel : Nat} {c : Value} {x : DataW H × List MemPlace} (ht : P.underlying t = some (.slice e)) (he : P.underlying e = some (.int k)) (hc : P.cellsOf e = 1)
    (h : DataW.trod enc P w base spare held fuel t [c] = some x) :
    ∃ (A : Option Addr) (n cap : Nat) (l : List Int), c = .slice A n cap ∧ (n ≤ 9223372036854775807 ∧ n ≤ cap ∧ cap ≤ 9223372036854775807) ∧ l.length = n ∧ Rd w 1 A n (l.map (Value.int k)) ∧ (∀ z ∈ l, (Lit.int k z).wf = true) ∧
      ((n = 0 ∧ x.1 = .nil) ∨ ∃ es sp, x.1 = .slice es sp ∧ n ≤ es.length + sp.length) := by
  rcases Go.Deep.open_slice1 ht hc h with ⟨hcs, hx⟩ | ⟨a, n, cap, m, fu, V, D, Pl, hcs, _, hl, hm, hmm, hx, hi⟩
  · simp at hcs
    subst hcs
    exact ⟨none, 0, 0, [], rfl, by simp, rfl, Rd.nil _ _ _, by simp, .inl ⟨rfl, by rw [hx]⟩⟩
  · simp at hcs
    subst hcs
    have hnm : n ≤ m := by rw [hmm]; split <;> omega
    have hall : ∀ i, i < n → ∃ z : Int, V i = .int k z ∧ (Lit.int k z).wf = true := by
      intro i him
      obtain ⟨_, ht⟩ := hi i (by omega)
      obtain ⟨n5, h5, w5⟩ := int_of he ht
      exact ⟨n5, h5, w5⟩
    obtain ⟨f, hf'⟩ := Go.Deep.choose_lt hall
    refine ⟨some a, n, cap, (List.range n).map f, rfl, by unfold maxLen at hm; omega, by simp, rd_of_cells (by simp) (fun i u hu => ?_), ?_, .inr ⟨_, _, by rw [hx], by simp⟩⟩
    · have hin : i < n := by have := (List.getElem?_eq_some_iff.1 hu).1; simpa using this
      rw [(hi i (by omega)).1, (hf' i hin).1, ← hu]
      simp [hin]
    · intro x hx
      simp only [List.mem_map, List.mem_range] at hx
      obtain ⟨i, hi, rfl⟩ := hx
      exact (hf' i hi).2

theorem shape_nums {k : IntKind} (ht : P.underlying t = some (.slice e)) (he : P.underlying e = some (.int k)) (hc : P.cellsOf e = 1) (hv : Value.okWide P w r b0 t v) (h : DataW.Trod enc P w base spare held t v d p) :
    ∃ (A : Option Addr) (n cap : Nat) (l : List Int), v = .slice A n cap ∧ (n ≤ 9223372036854775807 ∧ n ≤ cap ∧ cap ≤ 9223372036854775807) ∧ l.length = n ∧ Rd w 1 A n (l.map (Value.int k)) ∧ (∀ z ∈ l, (Lit.int k z).wf = true) ∧
      ((n = 0 ∧ d = .nil) ∨ ∃ es sp, d = .slice es sp ∧ n ≤ es.length + sp.length) := by
  obtain ⟨A, n, cap, rfl⟩ := okWide_slice ht hv
  obtain ⟨fuel, hf⟩ := h
  have hf' : DataW.trod enc P w base spare held fuel t [.slice A n cap] = some (d, p) := by simpa [Value.cells] using hf
  obtain ⟨A', n', cap', l, hc, h1, h2, h3, h4, h5⟩ := nums_of ht he hc hf'
  injection hc with e1 e2 e3
  subst e1 e2 e3
  exact ⟨A, n, cap, l, rfl, h1, h2, h3, h4, h5⟩

/-- A nil slice has no room. -/
theorem nil_cap {A : Option Addr} {n cap : Nat} (ht : P.underlying t = some (.slice e)) (hc : P.cellsOf e = 1) (h : DataW.Trod enc P w base spare held t (.slice A n cap) d p) : A = none → cap = 0 := by
  obtain ⟨fuel, hf⟩ := h
  rcases Go.Deep.open_slice1 ht hc hf with ⟨hcs, _⟩ | ⟨a, n', cap', m, fu, V, D, Pl, hcs, _⟩
  · simp [Value.cells] at hcs
    intro _
    exact hcs.2.2
  · simp [Value.cells] at hcs
    intro h0
    rw [hcs.1] at h0
    cases h0

/-- How many elements of eight bytes come in at most. -/
theorem reach_nums {ts : List TypeId} {ds : List (DataW H)} {j n : Nat} (hsz : (DataW.weightsEach P ts ds).all (· ≤ reachBytes) = true) (ht : ts[j]? = some t) (hd : ds[j]? = some d) (hu : P.underlying t = some (.slice e)) (hb : P.bytesOf e = 8)
    (h : (n = 0 ∧ d = .nil) ∨ ∃ es sp, d = .slice es sp ∧ n ≤ es.length + sp.length) : n * 8 ≤ 140737488351232 := by
  rcases h with ⟨rfl, _⟩ | ⟨es, sp, rfl, hn⟩
  · omega
  · have := sized_slice hsz ht hd hu
    rw [hb] at this
    simp only [reachBytes] at this
    omega

/-- A list of lists of integers: the slices, and what each holds. -/
theorem shape_numss {k : IntKind} {u : TypeId} (hu : P.underlying u = some (.slice t)) (hcu : P.cellsOf t = 1) (ht : P.underlying t = some (.slice e)) (he : P.underlying e = some (.int k)) (hc : P.cellsOf e = 1) (hv : Value.okWide P w r b0 u v) (h : DataW.Trod enc P w base spare held u v d p) :
    ∃ (A : Option Addr) (n cap : Nat) (ss : List (Option Addr × Nat × Nat)) (zs : List (List Int)), v = .slice A n cap ∧ (n ≤ 9223372036854775807 ∧ n ≤ cap ∧ cap ≤ 9223372036854775807) ∧ ss.length = n ∧ zs.length = n ∧ (∀ s ∈ ss, s.2.1 ≤ s.2.2 ∧ s.2.2 ≤ 9223372036854775807) ∧
      Rd w 1 A n (ss.map fun s => Value.slice s.1 s.2.1 s.2.2) ∧ (∀ (i : Nat) (s : Option Addr × Nat × Nat) (z : List Int), ss[i]? = some s → zs[i]? = some z → z.length = s.2.1 ∧ Rd w 1 s.1 s.2.1 (z.map (Value.int k))) ∧ (∀ z ∈ zs, ∀ x ∈ z, (Lit.int k x).wf = true) ∧
      ((n = 0 ∧ d = .nil) ∨ ∃ es sp, d = .slice es sp ∧ n ≤ es.length + sp.length) := by
  obtain ⟨A, n, cap, rfl⟩ := okWide_slice hu hv
  obtain ⟨fuel, hf⟩ := h
  rcases Go.Deep.open_slice1 hu hcu hf with ⟨hcs, hx⟩ | ⟨a, len, cap', m, fu, V, D, Pl, hcs, _, hl, hm, hmm, hx, hi⟩
  · simp [Value.cells] at hcs
    obtain ⟨rfl, rfl, rfl⟩ := hcs
    simp only [Prod.mk.injEq] at hx
    exact ⟨none, 0, 0, [], [], rfl, by omega, rfl, rfl, by simp, Rd.nil _ _ _, fun i s z h => by simp at h, by simp, .inl ⟨rfl, hx.1⟩⟩
  · simp [Value.cells] at hcs
    obtain ⟨rfl, rfl, rfl⟩ := hcs
    have hnm : n ≤ m := by rw [hmm]; split <;> omega
    have hall : ∀ i, i < n → ∃ q : (Option Addr × Nat × Nat) × List Int, V i = .slice q.1.1 q.1.2.1 q.1.2.2 ∧ (q.1.2.1 ≤ 9223372036854775807 ∧ q.1.2.1 ≤ q.1.2.2 ∧ q.1.2.2 ≤ 9223372036854775807) ∧ q.2.length = q.1.2.1 ∧ Rd w 1 q.1.1 q.1.2.1 (q.2.map (Value.int k)) ∧ ∀ x ∈ q.2, (Lit.int k x).wf = true := by
      intro i him
      obtain ⟨A', n', c', l, h1, h2, h3, h4, h5, _⟩ := nums_of ht he hc (hi i (by omega)).2
      exact ⟨((A', n', c'), l), h1, h2, h3, h4, h5⟩
    obtain ⟨f, hf'⟩ := Go.Deep.choose_lt hall
    simp only [Prod.mk.injEq] at hx
    refine ⟨some a, n, cap, (List.range n).map fun i => (f i).1, (List.range n).map fun i => (f i).2, rfl, by unfold maxLen at hm; omega, by simp, by simp, ?_, rd_of_cells (by simp) (fun i u hu => ?_), fun i s z h1 h2 => ?_, ?_, .inr ⟨_, _, hx.1, by simp⟩⟩
    · intro s hs
      simp only [List.mem_map, List.mem_range] at hs
      obtain ⟨i, hi, rfl⟩ := hs
      exact (hf' i hi).2.1.2
    · have hin : i < n := by have := (List.getElem?_eq_some_iff.1 hu).1; simpa using this
      rw [(hi i (by omega)).1, (hf' i hin).1, ← hu]
      simp [hin]
    · have hin : i < n := by have := (List.getElem?_eq_some_iff.1 h1).1; simpa using this
      simp [hin] at h1 h2
      subst h1 h2
      exact ⟨(hf' i hin).2.2.1, (hf' i hin).2.2.2.1⟩
    · intro z hz
      simp only [List.mem_map, List.mem_range] at hz
      obtain ⟨i, hi, rfl⟩ := hz
      exact (hf' i hi).2.2.2.2
end
end Go.Proofs.Ytkecpbdgcbgogaa
