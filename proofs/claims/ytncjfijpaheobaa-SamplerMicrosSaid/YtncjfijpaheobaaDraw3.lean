/-
  The example of the chapter on draws; slices.Equal at []int; the reference's Many.
-/
import Derived.Test.YtncjfijpaheobaaDraw2
import Derived.OpenShut
namespace Go.Proofs.Ytncjfijpaheobaa
set_option linter.unusedVariables false
set_option linter.unusedSimpArgs false
open Go.RowKit

theorem inU_of {l : List Int} (h : ∀ z ∈ l, (Lit.int .u64 z).wf = true) : InU l := fun x hx => by have := bounds_u64 (h x hx); omega

set_option maxHeartbeats 800000 in
theorem alive05_any (w : World) : Calls Try.prog 16 #[] w fun e w' => e = .returned (.bool true) ∧ Below w.heap.size w w' := by
  have HC := Lib.hid (drawNew_any (some ⟨w.heap.size, 0, none⟩) 2 2 [7, 9] _ rfl (rd_new w #[.int .u64 7, .int .u64 9] 38 2 rfl) (by omega) (by intro x hx; simp at hx; omega))
  go_enter Try.func16, Try.ntmps16
  go_wp2_with fail
  ((with_reducible refine HC.out.mono ?_); rintro e w1 ⟨g, A, cap, rfl, hst, hg, hA, hb1⟩)
  have hlt := hst.blk.lt
  have HS := Lib.hid (hst.kept ((Below.refl _ _).alloc (Nat.le_refl _) (.cells #[.int .i64 5, .int .i64 4] 3)))
  have hs1 := hb1.size
  have hb0 : Below w.heap.size w w1 := ((Below.refl _ _).alloc (Nat.le_refl _) _).trans (hb1.mono (by simp))
  simp only [World.size_alloc] at hg hs1
  have HM := Lib.hid (many_some g A (some ⟨w1.heap.size, 0, none⟩) 2 cap 0 2 2 [7, 9] [5, 4] _ HS.out (by omega) rfl (rd_new w1 #[.int .i64 5, .int .i64 4] 3 2 rfl) (by intro b' o e _; injection e with e; injection e with e; omega) (by omega) rfl (by intro x hx; simp at hx; omega))
  clear hst hA hb1 HC
  go_wp2_with fail
  ((with_reducible refine HM.out.mono ?_); rintro e w2 ⟨A2, c2, rfl, hown, hg2, hblk⟩)
  obtain ⟨_, _, q1, q2, q3, q6⟩ := own_form hown
  injection q1 with q4 _ q5
  subst q4 q5
  obtain ⟨g2, rfl, hg3, hg4⟩ := q6 (by omega)
  have c0 : w2.cell? ⟨g2, 0, none⟩ = some (.int .i64 2) := hown.cellAt 0 (by omega)
  have c1 : w2.cell? ⟨g2, 1, none⟩ = some (.int .i64 1) := hown.cellAt 1 (by omega)
  have hb2 : Below w.heap.size w w2 := below_gr (hb0.alloc hb0.size _) (by have := hb0.size; simp; omega) hg2 (by omega)
  clear hown hblk hg2 HS hb0 q6
  go_wp2
  go_ret
  exact ⟨rfl, hb2⟩

theorem isame_step {l k : List Int} {j : Nat} {r : Int} (h : Hid (l.take j = k.take j)) (h1 : Hid (l[j]? = some r)) (h2 : Hid (k[j]? = some r)) : Hid (l.take (j + 1) = k.take (j + 1)) := by
  refine Lib.hid ?_
  obtain ⟨a, ha⟩ := List.getElem?_eq_some_iff.1 h1.out
  obtain ⟨b, hb⟩ := List.getElem?_eq_some_iff.1 h2.out
  rw [List.take_succ_eq_append_getElem a, List.take_succ_eq_append_getElem b, h.out, ha, hb]
theorem idiffer_at {l k : List Int} {j : Nat} {r q : Int} (h1 : Hid (l[j]? = some r)) (h2 : Hid (k[j]? = some q)) (hne : r ≠ q) : ¬ l = k := by
  rintro rfl
  have := h1.out.symm.trans h2.out
  injection this with e
  exact hne e

set_option maxHeartbeats 400000 in
theorem equalInt_any (A B : Option Addr) (n m c d : Nat) (l k : List Int) (w : World) (hl : l.length = n) (hk : k.length = m) (h : Rd w 1 A n (iv l)) (h' : Rd w 1 B m (iv k)) (hn : n ≤ 9223372036854775807) (hm : m ≤ 9223372036854775807) :
    Calls Try.prog 24 #[.slice A n c, .slice B m d] w fun e w' => e = .returned (.bool (decide (l = k))) ∧ Below w.heap.size w w' := by
  by_cases hnm : n = m
  · subst hnm
    have HL := Lib.hid hl
    have HK := Lib.hid hk
    have HR := Lib.hid h
    have HR' := Lib.hid h'
    clear hl hk h h'
    go_enter Try.func24, Try.ntmps24
    go_wp2_with fail
    go_loopw [13] (fun i wr => ∃ j : Nat, j ≤ n ∧ i = .int .i64 j ∧ Below w.heap.size w wr ∧ Hid (l.take j = k.take j)) (fun i _ => n - (intOf i).toNat)
    case atStart => exact ⟨0, by omega, rfl, Below.refl _ _, Lib.hid rfl⟩
    case round =>
      obtain ⟨j, hj, rfl, hb, he⟩ := hrel
      by_cases hlt : j < n
      · obtain ⟨b, o, x, rfl, hbl, hx, c1⟩ := iv_at HL.out (HR.out.below hb) hlt
        obtain ⟨b', o', x', rfl, hbl', hx', c1'⟩ := iv_at HK.out (HR'.out.below hb) hlt
        have HX := Lib.hid hx
        have HX' := Lib.hid hx'
        clear hx hx'
        have i1 : (0 : Int) ≤ (j : Int) := by omega
        have i2 : (j : Int) < (n : Int) := by omega
        by_cases e1 : x = x'
        · subst e1
          go_wp2_with fail
          go_quiet (fail)
          go_wp2
          go_roundw
          case rel => exact ⟨j + 1, by omega, by go_num, below_drewN hb _, isame_step he HX HX'⟩
          case measure => simp [intOf]; omega
        · go_wp2_with fail
          go_quiet (fail)
          go_wp2
          go_ret
          exact ⟨ret_bool (by simp [idiffer_at HX HX' (by simp [e1])]), below_drewN hb _⟩
      · go_wp2
        go_ret
        refine ⟨ret_bool ?_, hb⟩
        have h1 := he.out
        rw [List.take_of_length_le (by have := HL.out; omega), List.take_of_length_le (by have := HK.out; omega)] at h1
        simp [h1]
  · have hne : l ≠ k := fun e => hnm (by rw [← hl, ← hk, e])
    have d1 : ((n : Int) != (m : Int)) = true := by simp; omega
    clear hl hk h h'
    go_enter Try.func24, Try.ntmps24
    go_wp2
    go_ret
    exact ⟨ret_bool (by simp [hne]), Below.refl _ _⟩

end Go.Proofs.Ytncjfijpaheobaa
