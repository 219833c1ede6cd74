/-
  Small plans, right ones.
-/
import Derived.Test.YtkecpbdgcbgogaaPlanLaw
import Derived.Test.YtkecpbdgcbgogaaPlanTotal
namespace Go.Proofs.Ytkecpbdgcbgogaa
set_option linter.unusedVariables false
set_option linter.unusedSimpArgs false
set_option maxRecDepth 100000
open Go.RowKit

theorem near_of {n : Nat} {l : List Int} {c : Cfg} {P : Int} (h1 : fewPB n l c P = true) (h2 : rightB l c P = true) :
    n ≤ 40 ∧ okCfg l c = true ∧ (pcOf c P.toNat).Ok ∧ Fits (pcOf c P.toNat) c ∧ P = (pcOf c P.toNat).P := by
  have hn : n ≤ 40 := by
    rcases Nat.lt_or_ge 40 n with h | h
    · rw [fewPB, if_pos h] at h1; cases h1
    · exact h
  rw [fewPB, if_neg (by omega), h2] at h1
  simp only [if_true, Bool.and_eq_true, decide_eq_true_eq] at h1
  obtain ⟨hP, hw, hmi, hst⟩ := h1
  unfold rightB at h2
  simp only [Bool.and_eq_true, decide_eq_true_eq] at h2
  obtain ⟨hok, hP1, hP2⟩ := h2
  have hok' := hok
  simp only [okCfg, btB, szB, Bool.and_eq_true, decide_eq_true_eq] at hok'
  obtain ⟨⟨k1, k2⟩, ⟨k3, k4⟩, k5, ⟨k6, k7⟩, ⟨k8, k9⟩, ⟨k10, k11⟩, ⟨k12, k13⟩, ⟨k14, k15⟩, ⟨k16, k17⟩, k18, k19⟩ := hok'
  refine ⟨hn, hok, ⟨?_, ?_, ?_, ?_, ?_, ?_, ?_, ?_, ?_, ?_, ?_⟩, ⟨?_, rfl, ?_, ?_, ?_, k16, by omega⟩, ?_⟩ <;> simp only [pcOf] <;> omega
theorem few_n {n : Nat} {l : List Int} {c : Cfg} {P : Int} (h : fewPB n l c P = true) : n ≤ 40 := by
  rcases Nat.lt_or_ge 40 n with h' | h'
  · rw [fewPB, if_pos h'] at h; cases h
  · exact h'

end Go.Proofs.Ytkecpbdgcbgogaa
