/-
  A plan of the reference that comes in: a list of sizes, and twelve integers.
-/
import Derived.Test.YtkecpbdgcbgogaaPlanRef1
import Derived.Test.YtkecpbdgcbgogaaNumsOpen
namespace Go.Proofs.Ytkecpbdgcbgogaa
set_option linter.unusedVariables false
set_option linter.unusedSimpArgs false
open Go.ChangeShapes Go.WideShapes Go.ChangeAt Go.RowKit

theorem list13 {α : Type} {l : List α} (h : l.length = 13) : ∃ a0 a1 a2 a3 a4 a5 a6 a7 a8 a9 a10 a11 a12, l = [a0, a1, a2, a3, a4, a5, a6, a7, a8, a9, a10, a11, a12] := by
  match l, h with
  | [a0, a1, a2, a3, a4, a5, a6, a7, a8, a9, a10, a11, a12], _ => exact ⟨_, _, _, _, _, _, _, _, _, _, _, _, _, rfl⟩

set_option maxRecDepth 100000 in
theorem shape_plan {H : Type} {enc : TypeId × Value → H} {w : World} {base : Nat} {spare : Nat → Bool} {held : Bool} {r : Reach} {b0 : Nat} {v : Value} {d : DataW H} {p : List MemPlace}
    (hv : Value.okWide Try.prog w r b0 60 v) (h : DataW.Trod enc Try.prog w base spare held 60 v d p) :
    ∃ (A : Option Addr) (n cap : Nat) (l : List Int) (c : Cfg) (P : Int), v = rplV A n cap c P ∧ l.length = n ∧ Rd w 1 A n (iv l) ∧ n ≤ cap := by
  obtain ⟨⟨l⟩, rfl, hs⟩ := okWide_struct Try.underlying60 hv
  have hc : Try.prog.cellsOf 60 = 13 := by kernel_rfl
  have hc3 : Try.prog.cellsOf 3 = 1 := by kernel_rfl
  have hc6 : Try.prog.cellsOf 2 = 1 := by kernel_rfl
  have hcs : Try.prog.cellsOf 56 = 1 := by kernel_rfl
  have hcr : Try.prog.cellsOf 58 = 12 := by kernel_rfl
  rw [hc] at hs
  obtain ⟨c0, c1, c2, c3, c4, c5, c6, c7, c8, c9, c10, c11, c12, rfl⟩ := list13 (by simpa using hs)
  obtain ⟨fuel, hf⟩ := h
  obtain ⟨m, hm⟩ := field_at Try.underlying60 hf
  obtain ⟨y0, e0⟩ := hm 0 _ rfl
  obtain ⟨y1, e1⟩ := hm 1 _ rfl
  simp only [Value.cells, hc3, hcr, List.drop_zero, List.take_succ_cons, List.take_zero, List.drop_succ_cons] at e0 e1
  obtain ⟨m2, hm2⟩ := field_at Try.underlying58 e0
  obtain ⟨z0, f0⟩ := hm2 0 _ rfl
  obtain ⟨z1, f1⟩ := hm2 1 _ rfl
  obtain ⟨z2, f2⟩ := hm2 2 _ rfl
  obtain ⟨z3, f3⟩ := hm2 3 _ rfl
  obtain ⟨z4, f4⟩ := hm2 4 _ rfl
  obtain ⟨z5, f5⟩ := hm2 5 _ rfl
  obtain ⟨z6, f6⟩ := hm2 6 _ rfl
  obtain ⟨z7, f7⟩ := hm2 7 _ rfl
  obtain ⟨z8, f8⟩ := hm2 8 _ rfl
  obtain ⟨z9, f9⟩ := hm2 9 _ rfl
  obtain ⟨z10, f10⟩ := hm2 10 _ rfl
  obtain ⟨z11, f11⟩ := hm2 11 _ rfl
  replace f0 : DataW.trod enc Try.prog w base spare held m2 56 (List.take (Try.prog.cellsOf 56) (List.drop 0 [c0, c1, c2, c3, c4, c5, c6, c7, c8, c9, c10, c11])) = some z0 := f0
  rw [hcs] at f0
  replace f1 : DataW.trod enc Try.prog w base spare held m2 3 (List.take (Try.prog.cellsOf 3) (List.drop 1 [c0, c1, c2, c3, c4, c5, c6, c7, c8, c9, c10, c11])) = some z1 := f1
  rw [hc3] at f1
  replace f2 : DataW.trod enc Try.prog w base spare held m2 2 (List.take (Try.prog.cellsOf 2) (List.drop 2 [c0, c1, c2, c3, c4, c5, c6, c7, c8, c9, c10, c11])) = some z2 := f2
  rw [hc6] at f2
  replace f3 : DataW.trod enc Try.prog w base spare held m2 2 (List.take (Try.prog.cellsOf 2) (List.drop 3 [c0, c1, c2, c3, c4, c5, c6, c7, c8, c9, c10, c11])) = some z3 := f3
  rw [hc6] at f3
  replace f4 : DataW.trod enc Try.prog w base spare held m2 3 (List.take (Try.prog.cellsOf 3) (List.drop 4 [c0, c1, c2, c3, c4, c5, c6, c7, c8, c9, c10, c11])) = some z4 := f4
  rw [hc3] at f4
  replace f5 : DataW.trod enc Try.prog w base spare held m2 3 (List.take (Try.prog.cellsOf 3) (List.drop 5 [c0, c1, c2, c3, c4, c5, c6, c7, c8, c9, c10, c11])) = some z5 := f5
  rw [hc3] at f5
  replace f6 : DataW.trod enc Try.prog w base spare held m2 3 (List.take (Try.prog.cellsOf 3) (List.drop 6 [c0, c1, c2, c3, c4, c5, c6, c7, c8, c9, c10, c11])) = some z6 := f6
  rw [hc3] at f6
  replace f7 : DataW.trod enc Try.prog w base spare held m2 3 (List.take (Try.prog.cellsOf 3) (List.drop 7 [c0, c1, c2, c3, c4, c5, c6, c7, c8, c9, c10, c11])) = some z7 := f7
  rw [hc3] at f7
  replace f8 : DataW.trod enc Try.prog w base spare held m2 3 (List.take (Try.prog.cellsOf 3) (List.drop 8 [c0, c1, c2, c3, c4, c5, c6, c7, c8, c9, c10, c11])) = some z8 := f8
  rw [hc3] at f8
  replace f9 : DataW.trod enc Try.prog w base spare held m2 3 (List.take (Try.prog.cellsOf 3) (List.drop 9 [c0, c1, c2, c3, c4, c5, c6, c7, c8, c9, c10, c11])) = some z9 := f9
  rw [hc3] at f9
  replace f10 : DataW.trod enc Try.prog w base spare held m2 3 (List.take (Try.prog.cellsOf 3) (List.drop 10 [c0, c1, c2, c3, c4, c5, c6, c7, c8, c9, c10, c11])) = some z10 := f10
  rw [hc3] at f10
  replace f11 : DataW.trod enc Try.prog w base spare held m2 3 (List.take (Try.prog.cellsOf 3) (List.drop 11 [c0, c1, c2, c3, c4, c5, c6, c7, c8, c9, c10, c11])) = some z11 := f11
  rw [hc3] at f11
  obtain ⟨n1, rfl, _⟩ := int_of Try.underlying3 f1
  obtain ⟨n2, rfl, _⟩ := int_of Try.underlying2 f2
  obtain ⟨n3, rfl, _⟩ := int_of Try.underlying2 f3
  obtain ⟨n4, rfl, _⟩ := int_of Try.underlying3 f4
  obtain ⟨n5, rfl, _⟩ := int_of Try.underlying3 f5
  obtain ⟨n6, rfl, _⟩ := int_of Try.underlying3 f6
  obtain ⟨n7, rfl, _⟩ := int_of Try.underlying3 f7
  obtain ⟨n8, rfl, _⟩ := int_of Try.underlying3 f8
  obtain ⟨n9, rfl, _⟩ := int_of Try.underlying3 f9
  obtain ⟨n10, rfl, _⟩ := int_of Try.underlying3 f10
  obtain ⟨n11, rfl, _⟩ := int_of Try.underlying3 f11
  obtain ⟨n12, rfl, _⟩ := int_of Try.underlying3 e1
  obtain ⟨A, N, cap, ls, rfl, a1, a2, a3, a4, _⟩ := nums_of Try.underlying56 Try.underlying3 (by kernel_rfl) f0
  exact ⟨A, N, cap, ls, ⟨n1, n2, n3, n4, n5, n6, n7, n8, n9, n10, n11⟩, n12, rfl, a2, a3, a1.2.1⟩

end Go.Proofs.Ytkecpbdgcbgogaa
