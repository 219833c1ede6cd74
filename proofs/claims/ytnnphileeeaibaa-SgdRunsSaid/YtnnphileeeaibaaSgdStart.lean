/-
  Contracts: Start, the reference's Start, and Same of states.
-/
import Derived.Test.YtnnphileeeaibaaSgdApplies
import Derived.Test.YtnnphileeeaibaaVecT
import Derived.Test.YtnnphileeeaibaaTwo
namespace Go.Proofs.Ytnnphileeeaibaa
set_option linter.unusedVariables false
set_option linter.unusedSimpArgs false
open Go.RowKit

/-- Zeros. -/
abbrev zeros (n : Nat) : List Int := List.replicate n 0
theorem iv_zeros (n : Nat) : (madeCells (Value.int .i64 0).cells (n * 1)).toList = iv (zeros n) := by
  rw [Nat.mul_one]
  exact (toList_madeCells_one _ _).trans (by simp [iv, zeros])

/-- A new state comes back, its rows in two blocks. -/
def StRet2 (w : World) (n : Nat) (Ps Ms : List Int) (en : Ending) (w' : World) : Prop :=
  ∃ AP cP AM cM, en = .returned (.agg #[.slice AP n cP, .slice AM n cM]) ∧ w'.ownsRow w.heap.size 2 1 (.slice AP n cP) n (iv Ps) ∧ w'.ownsRow w.heap.size 2 1 (.slice AM n cM) n (iv Ms) ∧
    (∀ g h, (Value.slice AP n cP).ownBlock = some g → (Value.slice AM n cM).ownBlock = some h → g ≠ h) ∧ Below w.heap.size w w'

set_option maxHeartbeats 1000000 in
theorem sgdStart_any (A : Option Addr) (n c : Nat) (l : List Int) (w : World) (hl : l.length = n) (h : Rd w 1 A n (iv l)) (hn : n ≤ 1000000) :
    Calls Try.prog 33 #[.slice A n c] w (StRet2 w n l (zeros n)) := by
  have HC := Lib.hid (fun W (hb : Below w.heap.size w W) => vecClone_any A n c l W hl (h.below hb) (by omega))
  obtain ⟨i0, hi0, q0, q1, q2⟩ := info_parts slI64.info
  clear hl h
  go_enter Try.func33, Try.ntmps33
  go_wp2_with fail
  obtain ⟨w0, hw0⟩ : ∃ w0, w.alloc (.cells #[.slice none 0 0, .slice none 0 0] 31) = w0 := ⟨_, rfl⟩
  have k0 : Below w.heap.size w w0 := by rw [← hw0]; exact (Below.refl _ _).alloc (Nat.le_refl _) _
  have S0 : Blk w0 w.heap.size 31 #[.slice none 0 0, .slice none 0 0] := by rw [← hw0]; exact Blk.new _ _ _
  rw [hw0]
  clear hw0
  have kd : Below w.heap.size w w0.drew := k0.drew
  have KD := Lib.hid kd
  have SD := Lib.hid S0.drew
  clear k0 S0 kd
  refine wp_region_two [0, 2, 3] 1 4 [5, 6] (by kernel_rfl) (by kernel_rfl) ?_
  refine ⟨_, _, rfl, .inl ⟨rfl, fun w => rfl⟩, ?_⟩
  refine ⟨_, _, rfl, .inl ⟨rfl, fun w => rfl⟩, ?_⟩
  refine ⟨_, .int .i64 n, rfl, .inl ⟨rfl, fun w => by go_simp⟩, ?_⟩
  simp only [PureW, List.filterMap_cons, List.filterMap_nil, List.getElem?_cons_succ, List.getElem?_cons_zero]
  go_simp
  refine ⟨?_, ?_⟩
  · change wpList _ _ _ (_ :: _ :: _ :: _ :: []) _ _
    go_wp2_with fail
    ((with_reducible refine (HC.out _ KD.out).mono ?_); rintro e w1 ⟨A1, c1, rfl, hown1, hb1⟩)
    have K1 := Lib.hid ((Kept.of KD.out).call hb1).2.2
    have S1 := Lib.hid (SD.out.kept hb1)
    have O1 := Lib.hid hown1
    clear hown1 hb1
    go_wp2_with (at_make; go_must (refine wpList_make_full w1 rfl _ _ _ rfl w1.heap.size 2 i0 (.int .i64 0) 1 slVec.slice hi0 q0 q1 .i64 .i64 _ _ n rfl rfl rfl rfl (by rw [q2]; omega) (by unfold maxLen; omega) (Nat.le_refl _) ?_); intro w2 hown2 hg2; (have K2 := Lib.hid (Below.grown (Below.refl w1.heap.size w1) hg2 (Nat.le_refl _) (by simp))); (have O2 := Lib.hid hown2); (have s0 : w2.cell? ⟨w.heap.size, 0, none⟩ = some (.slice none 0 0) := (S1.out.kept K2.out).cell 0); (have s1 : w2.cell? ⟨w.heap.size, 1, none⟩ = some (.slice none 0 0) := (S1.out.kept K2.out).cell 1); (have f0 := (S1.out.kept K2.out).frozen 0); (have f1 := (S1.out.kept K2.out).frozen 1); (have ls := (S1.out.kept K2.out).lt); clear hown2 hg2)
    refine NoPanic.normal ?_
    go_wp2_with fail
    have S2 := S1.out.kept K2.out
    have hst := store2' S2 (.slice A1 n c1) (.slice (some ⟨w1.heap.size, 0, none⟩) n n)
    have hz := K1.out.size
    have o1 := own_below O1.out K2.out
    have o2 := O2.out
    rw [iv_zeros] at o2
    have kd := KD.out.size
    refine bodyPost_ret (v := .agg #[.slice A1 n c1, .slice (some ⟨w1.heap.size, 0, none⟩) n n]) (by simp [results, Try.results33, go_sem, s0, s1, ls]) rfl ⟨_, _, _, _, rfl, own_base (o1.kept hst.1 (.inr (own_blk_ne o1 S2 (by decide)))) kd, own_base (o2.kept hst.1 (.inr (own_blk_ne o2 S2 (by decide)))) hz, fun g h hg hh => ?_, below_gr ((Kept.of K1.out).call K2.out).2.2 (Nat.le_trans hz K2.out.size) hst.1 (Nat.le_refl _)⟩
    have a1 := (O1.out.lt g hg).2
    have a2 := (O2.out.lt h hh).1
    omega
  · change wpList _ _ _ (_ :: _ :: _ :: _ :: []) _ _
    go_wp2_with (at_make; go_must (refine wpList_make_full w0.drew rfl _ _ _ rfl w0.drew.heap.size 2 i0 (.int .i64 0) 1 slVec.slice hi0 q0 q1 .i64 .i64 _ _ n rfl rfl rfl rfl (by rw [q2]; omega) (by unfold maxLen; omega) (Nat.le_refl _) ?_); intro w2 hown2 hg2; (have K2 := Lib.hid (Below.grown (Below.refl w0.drew.heap.size w0.drew) hg2 (Nat.le_refl _) (by simp))); (have O2 := Lib.hid hown2); clear hown2 hg2)
    have KK2 := Lib.hid ((Kept.of KD.out).call K2.out).2.2
    ((with_reducible refine (HC.out _ KK2.out).mono ?_); rintro e w1 ⟨A1, c1, rfl, hown1, hb1⟩)
    have K1 := Lib.hid ((Kept.of KK2.out).call hb1).2.2
    have S1 := Lib.hid ((SD.out.kept K2.out).kept hb1)
    have O1 := Lib.hid hown1
    have O3 := Lib.hid (own_below O2.out hb1)
    have s0 : w1.cell? ⟨w.heap.size, 0, none⟩ = some (.slice none 0 0) := S1.out.cell 0
    have s1 : w1.cell? ⟨w.heap.size, 1, none⟩ = some (.slice none 0 0) := S1.out.cell 1
    have f0 := S1.out.frozen 0
    have f1 := S1.out.frozen 1
    have ls := S1.out.lt
    clear hown1 hb1
    go_wp2_with fail
    refine NoPanic.normal ?_
    go_wp2_with fail
    have hst := store2' S1.out (.slice A1 n c1) (.slice (some ⟨w0.heap.size, 0, none⟩) n n)
    have hz := K1.out.size
    have o1 := O1.out
    have o2 := O3.out
    rw [iv_zeros] at o2
    have kd := KD.out.size
    have kd2 := KK2.out.size
    refine bodyPost_ret (v := .agg #[.slice A1 n c1, .slice (some ⟨w0.heap.size, 0, none⟩) n n]) (by simp [results, Try.results33, go_sem, s0, s1, ls]) rfl ⟨_, _, _, _, rfl, own_base (o1.kept hst.1 (.inr (own_blk_ne o1 S1.out (by decide)))) kd2, own_base (o2.kept hst.1 (.inr (own_blk_ne o2 S1.out (by decide)))) kd, fun g h hg hh => ?_, below_gr K1.out hz hst.1 (Nat.le_refl _)⟩
    have a1 := (O1.out.lt g hg).1
    have a2 := (O2.out.lt h hh).2
    omega

end Go.Proofs.Ytnnphileeeaibaa
