/-
  What a law's arguments are as values: small lemmas over any program.
-/
import Derived.Test.YtkecpbdgcbgogaaBase
import Derived.ProofKit
import Derived.OpenShut
import Derived.Deep.Slices
import Derived.Deep.Fields
namespace Go.Proofs.Ytkecpbdgcbgogaa
set_option linter.unusedVariables false
set_option linter.unusedSimpArgs false
open Go.ChangeShapes Go.WideShapes Go.ChangeAt Go.RowKit

/-- A slice (its address A, its length n) holds the cells xs, each element 'size' of them. -/
def Rd (w : World) (size : Nat) (A : Option Addr) (n : Nat) (xs : List Value) : Prop :=
  xs.length = n * size ∧ (0 < n → ∃ b o, A = some ⟨b, o, none⟩ ∧ b < w.heap.size ∧ ∀ j u, xs[j]? = some u → w.cell? ⟨b, o + j, none⟩ = some u)

theorem Rd.below {w w' : World} {size : Nat} {A : Option Addr} {n : Nat} {xs : List Value} (h : Rd w size A n xs) (hb : Below w.heap.size w w') : Rd w' size A n xs := by
  refine ⟨h.1, fun hn => ?_⟩
  obtain ⟨b, o, e, hlt, hc⟩ := h.2 hn
  refine ⟨b, o, e, Nat.lt_of_lt_of_le hlt hb.size, fun j u hu => ?_⟩
  rw [hb.cell (p := ⟨b, o + j, none⟩) hlt]
  exact hc j u hu
theorem Rd.kept {w w' : World} {size : Nat} {A : Option Addr} {n : Nat} {xs : List Value} (h : Rd w size A n xs) (hb : Kept w w') : Rd w' size A n xs := h.below hb.2.2
theorem Rd.nil (w : World) (size : Nat) (A : Option Addr) : Rd w size A 0 [] := ⟨by simp, fun h => absurd h (by omega)⟩
theorem Rd.alloc {w : World} {size : Nat} {A : Option Addr} {n : Nat} {xs : List Value} (h : Rd w size A n xs) (o : Obj) : Rd (w.alloc o) size A n xs := h.below ((Below.refl _ _).alloc (Nat.le_refl _) _)
theorem Rd.drew {w : World} {size : Nat} {A : Option Addr} {n : Nat} {xs : List Value} (h : Rd w size A n xs) : Rd w.drew size A n xs := h
theorem Rd.drewN {w : World} {size : Nat} {A : Option Addr} {n : Nat} {xs : List Value} (h : Rd w size A n xs) (k : Nat) : Rd (w.drewN k) size A n xs := h
theorem Rd.of_own {w : World} {base : Nat} {e : TypeId} {size c : Nat} {A : Option Addr} {n : Nat} {xs : List Value} (h : w.ownsRow base e size (.slice A n c) n xs) : Rd w size A n xs := by
  refine ⟨h.1, fun hn => ?_⟩
  rcases h.2 with ⟨hv, _⟩ | ⟨g, cap, cur, hv, _, hh, _⟩
  · injection hv with _ h2; omega
  · injection hv with h1 _ _
    subst h1
    refine ⟨g, 0, rfl, (h.lt g rfl).2, fun j u hu => ?_⟩
    have := h.cells (g := g) rfl j u hu
    rw [← this]
    congr 1
    unfold Addr.add
    by_cases hj : j = 0 <;> simp [hj]

section
variable {H : Type} {enc : TypeId × Value → H} {P : Program} {w : World} {base : Nat} {spare : Nat → Bool} {held : Bool} {r : Reach} {b0 : Nat} {t : TypeId} {v : Value} {d : DataW H} {p : List MemPlace}

theorem shape_int {k : IntKind} (ht : P.underlying t = some (.int k)) (hv : Value.okWide P w r b0 t v) (h : DataW.Trod enc P w base spare held t v d p) : ∃ n, v = .int k n ∧ (Lit.int k n).wf = true := by
  obtain ⟨n, rfl⟩ := okWide_int ht hv
  obtain ⟨fuel, hf⟩ := h
  obtain ⟨m, hm, _, hw⟩ := DataW.trod_int ht hf
  simp [Value.cells] at hm
  subst hm
  exact ⟨_, rfl, hw⟩
theorem shape_bool (ht : P.underlying t = some .bool) (hv : Value.okWide P w r b0 t v) : ∃ b, v = .bool b := okWide_bool ht hv
theorem shape_array {n : Nat} {e : TypeId} (ht : P.underlying t = some (.array n e)) (hv : Value.okWide P w r b0 t v) : ∃ cs, v = .agg cs ∧ cs.size = P.cellsOf t := by
  simp only [Value.okWide, ht] at hv
  obtain ⟨cs, h1, h2, _⟩ := hv
  exact ⟨cs, h1, h2⟩
theorem elem_at {n : Nat} {e : TypeId} {fuel : Nat} {cs : List Value} {x : DataW H × List MemPlace} (ht : P.underlying t = some (.array n e)) (h : DataW.trod enc P w base spare held fuel t cs = some x) :
    ∃ m, ∀ i, i < n → ∃ y, DataW.trod enc P w base spare held m e ((cs.drop (i * P.cellsOf e)).take (P.cellsOf e)) = some y := by
  obtain ⟨xs, m, _, _, _, hl, hg⟩ := DataW.trod_array ht h
  refine ⟨m, fun i hi => ⟨xs[i]'(by omega), ?_⟩⟩
  rw [hg i hi]
  exact List.getElem?_eq_getElem (by omega)
theorem field_at {fs : Array Field} {fuel : Nat} {cs : List Value} {x : DataW H × List MemPlace} (ht : P.underlying t = some (.struct fs)) (h : DataW.trod enc P w base spare held fuel t cs = some x) :
    ∃ m, ∀ (i : Nat) (f : Field), fs[i]? = some f → ∃ y, DataW.trod enc P w base spare held m f.type ((cs.drop f.offset).take (P.cellsOf f.type)) = some y := by
  obtain ⟨xs, m, _, _, _, hl, hg⟩ := DataW.trod_struct ht h
  refine ⟨m, fun i f hi => ?_⟩
  have hlt : i < fs.size := (Array.getElem?_eq_some_iff.1 hi).1
  refine ⟨xs[i]'(by omega), ?_⟩
  rw [hg i f hi]
  exact List.getElem?_eq_getElem (by omega)
theorem int_of {k : IntKind} {fuel : Nat} {c : Value} {x : DataW H × List MemPlace} (ht : P.underlying t = some (.int k)) (h : DataW.trod enc P w base spare held fuel t [c] = some x) : ∃ n, c = .int k n ∧ (Lit.int k n).wf = true := by
  obtain ⟨m, hm, _, hw⟩ := DataW.trod_int ht h
  simp at hm
  exact ⟨m, hm, hw⟩

theorem list3 {α : Type} {l : List α} (h : l.length = 3) : ∃ a b c, l = [a, b, c] := by
  match l, h with
  | [a, b, c], _ => exact ⟨a, b, c, rfl⟩
theorem list2 {α : Type} {l : List α} (h : l.length = 2) : ∃ a b, l = [a, b] := by
  match l, h with
  | [a, b], _ => exact ⟨a, b, rfl⟩
theorem list4 {α : Type} {l : List α} (h : l.length = 4) : ∃ a b c e, l = [a, b, c, e] := by
  match l, h with
  | [a, b, c, e], _ => exact ⟨a, b, c, e, rfl⟩
theorem list6 {α : Type} {l : List α} (h : l.length = 6) : ∃ a b c e f g, l = [a, b, c, e, f, g] := by
  match l, h with
  | [a, b, c, e, f, g], _ => exact ⟨a, b, c, e, f, g, rfl⟩

/-- An array of integers by value. -/
theorem shape_ints {n : Nat} {e : TypeId} {k : IntKind} (ht : P.underlying t = some (.array n e)) (he : P.underlying e = some (.int k)) (hce : P.cellsOf e = 1) (hct : P.cellsOf t = n)
    (hv : Value.okWide P w r b0 t v) (h : DataW.Trod enc P w base spare held t v d p) : ∃ zs : List Int, zs.length = n ∧ v = .agg (zs.map (Value.int k)).toArray ∧ ∀ z ∈ zs, (Lit.int k z).wf = true := by
  obtain ⟨cs, rfl, hs⟩ := shape_array ht hv
  obtain ⟨fuel, hf⟩ := h
  obtain ⟨m, hm⟩ := elem_at ht hf
  rw [hct] at hs
  have hall : ∀ i, i < n → ∃ z, cs.toList[i]? = some (.int k z) ∧ (Lit.int k z).wf = true := by
    intro i hi
    obtain ⟨y, hy⟩ := hm i hi
    have hlt : i < cs.toList.length := by simpa [hs] using hi
    rw [hce, Nat.mul_one] at hy
    have e1 : ((Value.agg cs).cells.toList.drop i).take 1 = [cs.toList[i]] := by
      show (cs.toList.drop i).take 1 = _
      rw [List.drop_eq_getElem_cons hlt]
      rfl
    rw [e1] at hy
    obtain ⟨z, hz, hw⟩ := int_of he hy
    exact ⟨z, by rw [List.getElem?_eq_getElem hlt, hz], hw⟩
  obtain ⟨f, hf'⟩ := Go.Deep.choose_lt hall
  refine ⟨(List.range n).map f, by simp, ?_, ?_⟩
  · congr 1
    apply Array.ext'
    simp only [List.map_map]
    apply List.ext_getElem?
    intro i
    by_cases hi : i < n
    · rw [(hf' i hi).1]
      simp [hi]
    · have h1 : cs.toList.length = n := by simpa using hs
      rw [List.getElem?_eq_none (by omega), List.getElem?_eq_none (by simp; omega)]
  · intro z hz
    simp only [List.mem_map, List.mem_range] at hz
    obtain ⟨i, hi, rfl⟩ := hz
    exact (hf' i hi).2
end
end Go.Proofs.Ytkecpbdgcbgogaa
