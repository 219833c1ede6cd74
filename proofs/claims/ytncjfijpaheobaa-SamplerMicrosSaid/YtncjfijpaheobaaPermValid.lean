/-
  Valid.
-/
import Derived.Test.YtncjfijpaheobaaPermSet
import Derived.Carry
namespace Go.Proofs.Ytncjfijpaheobaa
set_option linter.unusedVariables false
set_option linter.unusedSimpArgs false
set_option maxRecDepth 100000
open Go.RowKit

/-- The first k numbers are below n and differ from each other. -/
def goodTo (l : List Int) (k : Nat) : Prop := ∀ i x, i < k → l[i]? = some x → (0 ≤ x ∧ x < (l.length : Int)) ∧ x ∉ l.take i
theorem goodTo_zero (l : List Int) : goodTo l 0 := fun i x h => absurd h (by omega)
theorem goodTo_succ {l : List Int} {k : Nat} {x : Int} (h : goodTo l k) (hx : l[k]? = some x) (h1 : 0 ≤ x ∧ x < (l.length : Int)) (h2 : x ∉ l.take k) : goodTo l (k + 1) := by
  intro i y hi hy
  by_cases e : i = k
  · subst e
    rw [hx] at hy
    injection hy with hy
    subst hy
    exact ⟨h1, h2⟩
  · exact h i y (by omega) hy
theorem goodTo_bad {l : List Int} {k n : Nat} {x : Int} (hk : k < n) (hx : l[k]? = some x) (hb : ¬ (0 ≤ x ∧ x < (l.length : Int)) ∨ x ∈ l.take k) : ¬ goodTo l n := fun h => by
  obtain ⟨a, b⟩ := h k x hk hx
  rcases hb with hb | hb
  · exact hb a
  · exact b hb
theorem take_mem {l : List Int} {k : Nat} {x : Int} (hx : l[k]? = some x) (y : Int) : decide (y ∈ l.take (k + 1)) = (decide (y ∈ l.take k) || y == x) := by
  rw [List.take_add_one, hx]
  rw [Bool.eq_iff_iff]
  simp

set_option maxHeartbeats 2000000 in
theorem valid_good (A : Option Addr) (n c : Nat) (l : List Int) (w : World) (hl : l.length = n) (h : Rd w 1 A n (iv l)) (hn : n ≤ 1000000) (hw : ∀ x ∈ l, (Lit.int .i64 x).wf = true) (q : Bool) (hq : q = true ↔ goodTo l n) :
    Calls Try.prog 34 #[.slice A n c] w fun e w' => e = .returned (.bool q) ∧ Below w.heap.size w w' := by
  have HQ := Lib.hid hq
  have HL := Lib.hid hl
  have HR := Lib.hid h
  have HWF := Lib.hid hw
  obtain ⟨b, hb⟩ : ∃ b, w.heap.size = b := ⟨_, rfl⟩
  obtain ⟨W0, hW0⟩ : ∃ W0, w.alloc (.map #[] 0) = W0 := ⟨_, rfl⟩
  have k0 : Below w.heap.size w W0 := by rw [← hW0]; exact (Below.refl _ _).alloc (Nat.le_refl _) _
  have s0 : SetOf W0 b 0 (fun y => decide (y ∈ l.take 0)) := by
    rw [← hW0, ← hb]
    have h := SetOf.made w
    have e : (fun y => decide (y ∈ l.take 0)) = (fun _ : Int => false) := by funext y; simp
    rw [e]
    exact h
  have HS0 := Lib.hid s0
  have HK0 := Lib.hid k0
  have HW0 := Lib.hid hW0
  have HBB := Lib.hid hb
  have hmm := @run_makeMap Try.prog
  have hno : ¬ goodTo l n → q = false := fun h => by cases q; rfl; exact absurd (HQ.out.1 rfl) h
  have HNO := Lib.hid hno
  clear hl h hw k0 s0 hW0 hb hq hno
  go_enter Try.func34, Try.ntmps34
  go_wp2_with fail
  rw [HW0.out, HBB.out]
  go_loopw [9] (fun i wr => ∃ k : Nat, k ≤ n ∧ i = .int .i64 k ∧ Hid (goodTo l k) ∧ SetOf wr b k (fun y => decide (y ∈ l.take k)) ∧ Below w.heap.size w wr) (fun i _ => n - (intOf i).toNat)
  case atStart => exact ⟨0, by omega, rfl, Lib.hid (goodTo_zero l), HS0.out, HK0.out⟩
  case round =>
    obtain ⟨k, hk, rfl, hg, hs, hb⟩ := hrel
    by_cases hlt : k < n
    · obtain ⟨g, o, x, rfl, hbl, hx, c1⟩ := iv_at HL.out (HR.out.below hb) hlt
      have wfx := HWF.out x (List.mem_of_getElem? hx)
      have HX := Lib.hid hx
      obtain ⟨v, w2, hcl, hgr⟩ := hs.clear
      have hb2 := Lib.hid (below_gr hb hb.size hgr (by rw [HBB.out]; exact Nat.le_refl _))
      have HS := Lib.hid hs
      have HB := Lib.hid hb
      have HLn := HL.out
      clear hs hb hx hgr
      by_cases h1 : x < 0
      · have e1 : decide (x < 0) = true := decide_eq_true h1
        go_wp2_with fail
        go_ret
        rw [HNO.out (goodTo_bad hlt HX.out (.inl (by omega)))]
        exact ⟨rfl, hb2.out⟩
      · have e1 : decide (x < 0) = false := decide_eq_false h1
        by_cases h2 : (n : Int) ≤ x
        · have e2 : decide ((n : Int) ≤ x) = true := decide_eq_true h2
          go_wp2_with fail
          go_ret
          rw [HNO.out (goodTo_bad hlt HX.out (.inl (by omega)))]
          exact ⟨rfl, hb2.out⟩
        · have e2 : decide ((n : Int) ≤ x) = false := decide_eq_false h2
          have hlk := HS.out.look x wfx
          by_cases h3 : x ∈ l.take k
          · rw [decide_eq_true h3] at hlk
            go_wp2_with fail
            go_ret
            rw [HNO.out (goodTo_bad hlt HX.out (.inr h3))]
            exact ⟨rfl, hb2.out⟩
          · rw [decide_eq_false h3] at hlk
            obtain ⟨w3, hput, hs3, hg3⟩ := HS.out.put x wfx (by unfold maxLen; omega)
            have HS3 := Lib.hid hs3
            have hb3 := Lib.hid (below_gr HB.out HB.out.size hg3 (by rw [HBB.out]; exact Nat.le_refl _))
            clear hs3 hg3 hcl
            go_wp2_with fail
            go_roundw
            case rel => exact ⟨k + 1, by omega, by go_num, Lib.hid (goodTo_succ hg.out HX.out ⟨by omega, by omega⟩ h3), by
              have e : (fun y => decide (y ∈ l.take (k + 1))) = (fun y => decide (y ∈ l.take k) || y == x) := by funext y; exact take_mem HX.out y
              rw [e]
              exact HS3.out, hb3.out⟩
            case measure => simp [intOf]; omega
    · obtain rfl : k = n := by omega
      have HS := Lib.hid hs
      clear hs
      go_wp2_with fail
      go_ret
      rw [HQ.out.2 hg.out]
      exact ⟨rfl, hb⟩

end Go.Proofs.Ytncjfijpaheobaa
