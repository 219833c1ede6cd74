/-
  Contracts: Same of states, and the reference's Start.
-/
import Derived.Test.YtnnphileeeaibaaSgdStart
namespace Go.Proofs.Ytnnphileeeaibaa
set_option linter.unusedVariables false
set_option maxRecDepth 100000
set_option linter.unusedSimpArgs false
open Go.RowKit

set_option maxHeartbeats 1000000 in
theorem sgdSame_any (A B A' B' : Option Addr) (N M N' M' c d c' d' : Nat) (Ps Ms Ps' Ms' : List Int) (w : World) (h1 : Ps.length = N) (h2 : Ms.length = M) (h3 : Ps'.length = N') (h4 : Ms'.length = M') (r1 : Rd w 1 A N (iv Ps)) (r2 : Rd w 1 B M (iv Ms)) (r3 : Rd w 1 A' N' (iv Ps')) (r4 : Rd w 1 B' M' (iv Ms'))
    (l1 : N ≤ 1000000) (l2 : M ≤ 1000000) (l3 : N' ≤ 1000000) (l4 : M' ≤ 1000000) :
    Calls Try.prog 36 #[.agg #[.slice A N c, .slice B M d], .agg #[.slice A' N' c', .slice B' M' d']] w fun e w' => e = .returned (.bool (decide (Ps = Ps') && decide (Ms = Ms'))) ∧ Below w.heap.size w w' := by
  have HC1 := Lib.hid (fun W (hb : Below w.heap.size w W) => vecSame_any A A' N N' c c' Ps Ps' W h1 h3 (r1.below hb) (r3.below hb) (by omega) (by omega))
  have HC2 := Lib.hid (fun W (hb : Below w.heap.size w W) => vecSame_any B B' M M' d d' Ms Ms' W h2 h4 (r2.below hb) (r4.below hb) (by omega) (by omega))
  clear h1 h2 h3 h4 r1 r2 r3 r4
  go_enter Try.func36, Try.ntmps36
  go_wp2_with fail
  obtain ⟨w0, hw0⟩ : ∃ w0, (w.alloc (.cells #[.slice A N c, .slice B M d] 31)).alloc (.cells #[.slice A' N' c', .slice B' M' d'] 31) = w0 := ⟨_, rfl⟩
  have k0 : Below w.heap.size w w0 := by rw [← hw0]; exact ((Below.refl _ _).alloc (Nat.le_refl _) _).alloc (by simp) _
  have hA0 : Blk w0 w.heap.size 31 #[.slice A N c, .slice B M d] := by rw [← hw0]; exact (Blk.new w _ _).alloc _
  have hB0 : Blk w0 (w.heap.size + 1) 31 #[.slice A' N' c', .slice B' M' d'] := by rw [← hw0]; exact Blk.new' _ _ (by simp)
  rw [hw0]
  clear hw0
  ((with_reducible refine (HC1.out w0 k0).mono ?_); rintro e w1 ⟨rfl, hb1⟩)
  have hA1 := hA0.kept hb1
  have hB1 := hB0.kept hb1
  have a1 : w1.cell? ⟨w.heap.size, 1, none⟩ = some (.slice B M d) := hA1.cell 1
  have b1 : w1.cell? ⟨w.heap.size + 1, 1, none⟩ = some (.slice B' M' d') := hB1.cell 1
  have k1 := ((Kept.of k0).call hb1).2.2
  clear hA0 hB0 hA1 hB1 k0 hb1
  by_cases hP : Ps = Ps'
  · rw [decide_eq_true hP]
    have HP := Lib.hid hP
    clear hP
    go_wp2_with fail
    ((with_reducible refine (HC2.out w1 k1).mono ?_); rintro e w2 ⟨rfl, hb2⟩)
    go_wp2_with fail
    go_ret
    exact ⟨ret_bool (by rw [decide_eq_true HP.out]; rfl), ((Kept.of k1).call hb2).2.2⟩
  · rw [decide_eq_false hP]
    have HP := Lib.hid hP
    clear hP
    go_wp2_with fail
    go_ret
    exact ⟨ret_bool (by rw [decide_eq_false HP.out]; rfl), k1⟩

/-- The reference's Start: the weights as they are, zeros beside them. -/
def RsRet (w : World) (A : Option Addr) (n c : Nat) (en : Ending) (w' : World) : Prop :=
  ∃ Z cZ, en = .returned (.agg #[.slice A n c, .slice Z n cZ]) ∧ Rd w' 1 Z n (iv (zeros n)) ∧ Below w.heap.size w w'

set_option maxHeartbeats 1000000 in
theorem refStart13_any (A : Option Addr) (n c : Nat) (w : World) (hn : n ≤ 1000000) :
    Calls Try.prog 35 #[.slice A n c] w (RsRet w A n c) := by
  obtain ⟨i0, hi0, q0, q1, q2⟩ := info_parts slI64.info
  go_enter Try.func35, Try.ntmps35
  have HH : ∀ w0, w.alloc (.cells #[.slice none 0 0, .slice none 0 0] 26) = w0 → Below w.heap.size w w0 ∧ Blk w0 w.heap.size 26 #[.slice none 0 0, .slice none 0 0] := fun w0 hw0 => ⟨by rw [← hw0]; exact (Below.refl _ _).alloc (Nat.le_refl _) _, by rw [← hw0]; exact Blk.new _ _ _⟩
  have HH' := Lib.hid HH
  clear HH
  go_wp2_with (at_make; obtain ⟨w0, hw0⟩ : ∃ w0, w.alloc (.cells #[.slice none 0 0, .slice none 0 0] 26) = w0 := ⟨_, rfl⟩; rw [hw0]; have KD := Lib.hid (HH'.out w0 hw0).1; have SD := Lib.hid (HH'.out w0 hw0).2; clear hw0; go_must (refine wpList_make_full w0 rfl _ _ _ rfl w0.heap.size 2 i0 (.int .i64 0) 1 (by first | exact slI64.slice | exact slVec.slice) hi0 q0 q1 .i64 .i64 _ _ n rfl rfl rfl rfl (by rw [q2]; omega) (by unfold maxLen; omega) (Nat.le_refl _) ?_); intro w2 hown2 hg2; (have K2 := Lib.hid (Below.grown (Below.refl w0.heap.size w0) hg2 (Nat.le_refl _) (by simp))); (have O2 := Lib.hid hown2); (have s0 : w2.cell? ⟨w.heap.size, 0, none⟩ = some (.slice none 0 0) := (SD.out.kept K2.out).cell 0); (have s1 : w2.cell? ⟨w.heap.size, 1, none⟩ = some (.slice none 0 0) := (SD.out.kept K2.out).cell 1); (have f0 := (SD.out.kept K2.out).frozen 0); (have f1 := (SD.out.kept K2.out).frozen 1); (have ls := (SD.out.kept K2.out).lt); clear hown2 hg2)
  have S2 := SD.out.kept K2.out
  have hst := store2' S2 (.slice A n c) (.slice (some ⟨w0.heap.size, 0, none⟩) n n)
  have hz := KD.out.size
  have o2 := O2.out
  rw [iv_zeros] at o2
  refine bodyPost_ret (v := .agg #[.slice A n c, .slice (some ⟨w0.heap.size, 0, none⟩) n n]) (by simp [results, Try.results35, go_sem, s0, s1, ls]) rfl ⟨_, _, rfl, Rd.of_own (o2.kept hst.1 (.inr (own_blk_ne o2 S2 (by decide)))), below_gr ((Kept.of KD.out).call K2.out).2.2 (Nat.le_trans hz K2.out.size) hst.1 (Nat.le_refl _)⟩

end Go.Proofs.Ytnnphileeeaibaa
