/-
  Contracts: the reference's New of grids.
-/
import Derived.Test.YtnnphileeeaibaaMatA
namespace Go.Proofs.Ytnnphileeeaibaa
set_option linter.unusedVariables false
set_option linter.unusedSimpArgs false
set_option maxRecDepth 100000
open Go.RowKit

/-- A new grid of zeros. -/
def GridRet (w : World) (r q n : Nat) (en : Ending) (w' : World) : Prop :=
  ∃ A c, en = .returned (.agg #[.int .i64 r, .int .i64 q, .slice A n c]) ∧ w'.ownsRow w.heap.size 2 1 (.slice A n c) n (iv (zeros n)) ∧ Below w.heap.size w w'

theorem set3 {w : World} {g : Nat} {t : TypeId} {x y z : Value} (h : Blk w g t #[x, y, z]) (a b c : Value) :
    w.grownBy (((w.setCell ⟨g, 0, none⟩ a).setCell ⟨g, 1, none⟩ b).setCell ⟨g, 2, none⟩ c) (some g) ∧ Blk (((w.setCell ⟨g, 0, none⟩ a).setCell ⟨g, 1, none⟩ b).setCell ⟨g, 2, none⟩ c) g t #[a, b, c] :=
  ⟨gr_set (p := ⟨g, 2, none⟩) (gr_set (p := ⟨g, 1, none⟩) (gr_set (p := ⟨g, 0, none⟩) (World.grownBy.refl w _) (.inl rfl) a) (.inl rfl) b) (.inl rfl) c, by simpa using ((h.set_ 0 a).set_ 1 b).set_ 2 c⟩

set_option maxHeartbeats 1000000 in
theorem refNew07_any (r q n : Nat) (w : World) (hr : 1 ≤ r) (hq : 1 ≤ q) (hr' : r ≤ 1048576) (hq' : q ≤ 1048576) (hn : n ≤ 1048576) (he : IntKind.i64.wrap ((r : Int) * (q : Int)) = (n : Int)) :
    Calls Try.prog 46 #[.int .i64 r, .int .i64 q] w (GridRet w r q n) := by
  obtain ⟨i0, hi0, q0, q1, q2⟩ := info_parts slI64.info
  have HH' := Lib.hid (fun (w0 : World) (hw0 : w.alloc (.cells #[.int .i64 0, .int .i64 0, .slice none 0 0] 55) = w0) => (⟨by rw [← hw0]; exact (Below.refl _ _).alloc (Nat.le_refl _) _, by rw [← hw0]; exact Blk.new _ _ _⟩ : Below w.heap.size w w0 ∧ Blk w0 w.heap.size 55 #[.int .i64 0, .int .i64 0, .slice none 0 0]))
  have e1 : decide ((r : Int) < 1) = false := decide_eq_false (by omega)
  have e2 : decide ((q : Int) < 1) = false := decide_eq_false (by omega)
  have e3 : decide ((1048576 : Int) < (r : Int)) = false := decide_eq_false (by omega)
  have e4 : decide ((1048576 : Int) < (q : Int)) = false := decide_eq_false (by omega)
  have e5 : decide ((1048576 : Int) < (n : Int)) = false := decide_eq_false (by omega)
  go_enter Try.func46, Try.ntmps46
  go_wp2_with (at_make; obtain ⟨w0, hw0⟩ : ∃ w0, w.alloc (.cells #[.int .i64 0, .int .i64 0, .slice none 0 0] 55) = w0 := ⟨_, rfl⟩; rw [hw0]; have KD := Lib.hid (HH'.out w0 hw0).1; have SD := Lib.hid (HH'.out w0 hw0).2; clear hw0; go_must (refine wpList_make_full w0 rfl _ _ _ rfl w0.heap.size 2 i0 (.int .i64 0) 1 slI64.slice hi0 q0 q1 .i64 .i64 _ _ n rfl rfl rfl rfl (by rw [q2]; omega) (by unfold maxLen; omega) (Nat.le_refl _) ?_); go_must (intro w2 hown2 hg2; (have K2 := Lib.hid (Below.grown (Below.refl w0.heap.size w0) hg2 (Nat.le_refl _) (by simp))); (have O2 := Lib.hid hown2); (have s0 := (SD.out.kept K2.out).cell 0); (have s1 := (SD.out.kept K2.out).cell 1); (have s2 := (SD.out.kept K2.out).cell 2); (have f0 := (SD.out.kept K2.out).frozen 0); (have f1 := (SD.out.kept K2.out).frozen 1); (have f2 := (SD.out.kept K2.out).frozen 2); (have ls := (SD.out.kept K2.out).lt); clear hown2 hg2))
  have S2 := SD.out.kept K2.out
  have hst := set3 S2 (.int .i64 r) (.int .i64 q) (.slice (some ⟨w0.heap.size, 0, none⟩) n n)
  have hz := KD.out.size
  have o2 := O2.out
  rw [iv_zeros] at o2
  exact bodyPost_ret (v := .agg #[.int .i64 r, .int .i64 q, .slice (some ⟨w0.heap.size, 0, none⟩) n n]) (by simp [results, Try.results46, go_sem, s0, s1, s2, ls]) rfl ⟨_, _, rfl, own_base (o2.kept hst.1 (.inr (own_blk_ne o2 S2 (by decide)))) hz, below_gr ((Kept.of KD.out).call K2.out).2.2 (Nat.le_trans hz K2.out.size) hst.1 (Nat.le_refl _)⟩

end Go.Proofs.Ytnnphileeeaibaa
