/-
  slices.Equal on ranges of the reference.
-/
import Derived.Test.YtkecpbdgcbgogaaBucketS
namespace Go.Proofs.Ytkecpbdgcbgogaa
set_option linter.unusedVariables false
set_option linter.unusedSimpArgs false
open Go.RowKit

theorem same_step {l k : List (Int × Int)} {j : Nat} {r : Int × Int} (h : Hid (l.take j = k.take j)) (h1 : Hid (l[j]? = some r)) (h2 : Hid (k[j]? = some r)) : Hid (l.take (j + 1) = k.take (j + 1)) := by
  refine Lib.hid ?_
  obtain ⟨a, ha⟩ := List.getElem?_eq_some_iff.1 h1.out
  obtain ⟨b, hb⟩ := List.getElem?_eq_some_iff.1 h2.out
  rw [take_snoc l j a, take_snoc k j b, h.out, ha, hb]
theorem differ_at {l k : List (Int × Int)} {j : Nat} {r q : Int × Int} (h1 : Hid (l[j]? = some r)) (h2 : Hid (k[j]? = some q)) (hne : r ≠ q) : ¬ l = k := by
  rintro rfl
  have := h1.out.symm.trans h2.out
  injection this with e
  exact hne e
theorem guardRange_ref : Try.prog.eqGuardType Try.prog.depth 23 = false := by kernel_rfl
attribute [go_sem] guardRange_ref

set_option maxHeartbeats 400000 in
theorem equalRef_any (A B : Option Addr) (n m c d : Nat) (l k : List (Int × Int)) (w : World) (hl : l.length = n) (hk : k.length = m) (h : Rd w 2 A n (rv l)) (h' : Rd w 2 B m (rv k)) (hn : n ≤ 1000000) (hm : m ≤ 1000000) :
    Calls Try.prog 42 #[.slice A n c, .slice B m d] w fun e w' => e = .returned (.bool (decide (l = k))) ∧ Below w.heap.size w w' := by
  by_cases hnm : n = m
  · subst hnm
    have HL := Lib.hid hl
    have HK := Lib.hid hk
    have HR := Lib.hid h
    have HR' := Lib.hid h'
    clear hl hk h h'
    go_enter Try.func42, Try.ntmps42
    go_wp2_with fail
    go_loopw [13] (fun i wr => ∃ j : Nat, j ≤ n ∧ i = .int .i64 j ∧ Below w.heap.size w wr ∧ Hid (l.take j = k.take j)) (fun i _ => n - (intOf i).toNat)
    case atStart => exact ⟨0, by omega, rfl, Below.refl _ _, Lib.hid rfl⟩
    case round =>
      obtain ⟨j, hj, rfl, hb, he⟩ := hrel
      by_cases hlt : j < n
      · obtain ⟨b, o, x, y, rfl, hbl, hx, c1, c2⟩ := rd_at HL.out (HR.out.below hb) hlt
        obtain ⟨b', o', x', y', rfl, hbl', hx', c1', c2'⟩ := rd_at HK.out (HR'.out.below hb) hlt
        have HX := Lib.hid hx
        have HX' := Lib.hid hx'
        clear hx hx'
        have i1 : (0 : Int) ≤ (j : Int) := by omega
        have i2 : (j : Int) < (n : Int) := by omega
        by_cases e1 : x = x'
        · subst e1
          by_cases e2 : y = y'
          · subst e2
            go_wp2_with fail
            go_quiet (fail)
            go_wp2
            go_roundw
            case rel => exact ⟨j + 1, by omega, by go_num, below_drewN hb _, same_step he HX HX'⟩
            case measure => simp [intOf]; omega
          · go_wp2_with fail
            go_quiet (fail)
            go_wp2
            go_ret
            exact ⟨ret_bool (by simp [differ_at HX HX' (by simp [e2])]), below_drewN hb _⟩
        · go_wp2_with fail
          go_quiet (fail)
          go_wp2
          go_ret
          exact ⟨ret_bool (by simp [differ_at HX HX' (by simp [e1])]), below_drewN hb _⟩
      · go_wp2
        go_ret
        refine ⟨ret_bool ?_, hb⟩
        have h1 := he.out
        rw [List.take_of_length_le (by have := HL.out; omega), List.take_of_length_le (by have := HK.out; omega)] at h1
        simp [h1]
  · have hne : l ≠ k := fun e => hnm (by rw [← hl, ← hk, e])
    have d1 : ((n : Int) != (m : Int)) = true := by simp; omega
    clear hl hk h h'
    go_enter Try.func42, Try.ntmps42
    go_wp2
    go_ret
    exact ⟨ret_bool (by simp [hne]), Below.refl _ _⟩

end Go.Proofs.Ytkecpbdgcbgogaa
