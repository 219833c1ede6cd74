/-
  Contracts of the statements' own functions of layer 13, and of the reference's Same.
-/
import Derived.Test.YtnnphileeeaibaaSgd5
namespace Go.Proofs.Ytnnphileeeaibaa
set_option linter.unusedVariables false
set_option linter.unusedSimpArgs false
open Go.RowKit

set_option maxHeartbeats 400000 in
theorem back13_any (A B : Option Addr) (N M c d : Nat) (w : World) :
    Calls Try.prog 20 #[.agg #[.slice A N c, .slice B M d]] w fun e w' => e = .returned (.agg #[.slice A N c, .slice B M d]) ∧ Below w.heap.size w w' := by
  go_enter Try.func20, Try.ntmps20
  go_wp2
  exact bodyPost_ret (v := .agg #[.slice A N c, .slice B M d]) (by simp [results, Try.results20, go_sem]) rfl ⟨rfl, ((Below.refl _ _).alloc (Nat.le_refl _) _).alloc (by simp) _⟩

set_option maxHeartbeats 1000000 in
theorem refSame13_any (A B A' B' : Option Addr) (N M N' M' c d c' d' : Nat) (Ps Ms Ps' Ms' : List Int) (w : World) (h1 : Ps.length = N) (h2 : Ms.length = M) (h3 : Ps'.length = N') (h4 : Ms'.length = M') (r1 : Rd w 1 A N (iv Ps)) (r2 : Rd w 1 B M (iv Ms)) (r3 : Rd w 1 A' N' (iv Ps')) (r4 : Rd w 1 B' M' (iv Ms'))
    (l1 : N ≤ 1000000) (l2 : M ≤ 1000000) (l3 : N' ≤ 1000000) (l4 : M' ≤ 1000000) :
    Calls Try.prog 19 #[.agg #[.slice A N c, .slice B M d], .agg #[.slice A' N' c', .slice B' M' d']] w fun e w' => e = .returned (.bool (decide (Ps = Ps') && decide (Ms = Ms'))) ∧ Below w.heap.size w w' := by
  have HC1 := Lib.hid (fun W (hb : Below w.heap.size w W) => refSame_any A A' N N' c c' Ps Ps' W h1 h3 (r1.below hb) (r3.below hb) (by omega) (by omega))
  have HC2 := Lib.hid (fun W (hb : Below w.heap.size w W) => refSame_any B B' M M' d d' Ms Ms' W h2 h4 (r2.below hb) (r4.below hb) (by omega) (by omega))
  clear h1 h2 h3 h4 r1 r2 r3 r4
  go_enter Try.func19, Try.ntmps19
  go_wp2_with fail
  obtain ⟨w0, hw0⟩ : ∃ w0, (w.alloc (.cells #[.slice A N c, .slice B M d] 26)).alloc (.cells #[.slice A' N' c', .slice B' M' d'] 26) = w0 := ⟨_, rfl⟩
  have k0 : Below w.heap.size w w0 := by rw [← hw0]; exact ((Below.refl _ _).alloc (Nat.le_refl _) _).alloc (by simp) _
  have hA0 : Blk w0 w.heap.size 26 #[.slice A N c, .slice B M d] := by rw [← hw0]; exact (Blk.new w _ _).alloc _
  have hB0 : Blk w0 (w.heap.size + 1) 26 #[.slice A' N' c', .slice B' M' d'] := by rw [← hw0]; exact Blk.new' _ _ (by simp)
  rw [hw0]
  clear hw0
  ((with_reducible refine (HC1.out w0 k0).mono ?_); rintro e w1 ⟨rfl, hb1⟩)
  have hA1 := hA0.kept hb1
  have hB1 := hB0.kept hb1
  have a1 : w1.cell? ⟨w.heap.size, 1, none⟩ = some (.slice B M d) := hA1.cell 1
  have b1 : w1.cell? ⟨w.heap.size + 1, 1, none⟩ = some (.slice B' M' d') := hB1.cell 1
  have k1 := ((Kept.of k0).call hb1).2.2
  clear hA0 hB0 hA1 hB1 k0 hb1
  by_cases hP : Ps = Ps'
  · rw [decide_eq_true hP]
    have HP := Lib.hid hP
    clear hP
    go_wp2_with fail
    ((with_reducible refine (HC2.out w1 k1).mono ?_); rintro e w2 ⟨rfl, hb2⟩)
    go_wp2_with fail
    go_ret
    exact ⟨ret_bool (by rw [decide_eq_true HP.out]; rfl), ((Kept.of k1).call hb2).2.2⟩
  · rw [decide_eq_false hP]
    have HP := Lib.hid hP
    clear hP
    go_wp2_with fail
    go_ret
    exact ⟨ret_bool (by rw [decide_eq_false HP.out]; rfl), k1⟩

theorem rd_three (w : World) (t : TypeId) (x y z : Value) : Rd (w.alloc (.cells #[x, y, z] t)) 1 (some ⟨w.heap.size, 0, none⟩) 3 [x, y, z] := by
  refine ⟨rfl, fun h => ⟨w.heap.size, 0, rfl, by simp, fun j u hu => ?_⟩⟩
  have := (Blk.new w t #[x, y, z]).cell (0 + j)
  rw [this, Nat.zero_add, ← hu]
  simp

set_option maxHeartbeats 400000 in
theorem few13_any (A B G : Option Addr) (N M n c d e : Nat) (w : World) (hN : N ≤ 9223372036854775807) (hM : M ≤ 9223372036854775807) (hn : n ≤ 9223372036854775807) :
    Calls Try.prog 13 #[.agg #[.slice A N c, .slice B M d], .slice G n e] w fun e w' => e = .returned (.bool (fewL [N, M, n])) ∧ Below w.heap.size w w' := by
  have HF := Lib.hid (fun W => few03_any (some ⟨World.heap W |>.size, 0, none⟩) 3 3 [(A, N, c), (B, M, d), (G, n, e)] (W.alloc (.cells #[.slice A N c, .slice B M d, .slice G n e] 24)) rfl (by intro s hs; simp at hs; rcases hs with rfl | rfl | rfl <;> assumption) (rd_three W _ _ _ _) (by omega))
  go_enter Try.func13, Try.ntmps13
  go_wp2_with fail
  have hf := HF.out (w.alloc (.cells #[.slice A N c, .slice B M d] 26))
  simp only [World.size_alloc] at hf
  have HF2 := Lib.hid hf
  clear hf HF
  ((with_reducible refine HF2.out.mono ?_); rintro e w1 ⟨rfl, rfl⟩)
  go_wp2_with fail
  go_ret
  exact ⟨rfl, ((Below.refl _ _).alloc (Nat.le_refl _) _).alloc (by simp) _⟩

theorem few_three (N M n : Nat) (h : fewL [N, M, n] = true) : N + M + n ≤ 1500 := by
  simp [fewL, fewN] at h
  omega

theorem rd_single (w : World) (x : Int) : Rd (w.alloc (.cells #[.int .i64 x] 2)) 1 (some ⟨w.heap.size, 0, none⟩) 1 (iv [x]) := by
  refine ⟨rfl, fun h => ⟨w.heap.size, 0, rfl, by simp, fun j u hu => ?_⟩⟩
  have := (Blk.new w 2 #[.int .i64 x]).cell (0 + j)
  rw [this, Nat.zero_add, ← hu]
  simp [iv]

set_option maxHeartbeats 1000000 in
theorem alive13_any (w : World) : Calls Try.prog 14 #[] w fun e w' => e = .returned (.bool true) ∧ Below w.heap.size w w' := by
  have e1 : nextP 1 1 1 [10] [4] [2] = [8] := by simp [nextP, applyP, updP, updM, mulQ, mulV, wrap64]
  have e2 : nextM 1 1 [4] [2] = [4] := by simp [nextM, applyM, updM, mulQ, mulV, wrap64]
  obtain ⟨w0, hw0⟩ : ∃ w0, ((w.alloc (.cells #[.int .i64 10] 2)).alloc (.cells #[.int .i64 4] 2)).alloc (.cells #[.int .i64 2] 2) = w0 := ⟨_, rfl⟩
  have k0 : Below w.heap.size w w0 := by rw [← hw0]; exact (((Below.refl _ _).alloc (Nat.le_refl _) _).alloc (by simp) _).alloc (by simp <;> omega) _
  have r1 : Rd w0 1 (some ⟨w.heap.size, 0, none⟩) 1 (iv [10]) := by rw [← hw0]; exact ((rd_single w 10).alloc _).alloc _
  have r2 : Rd w0 1 (some ⟨w.heap.size + 1, 0, none⟩) 1 (iv [4]) := by rw [← hw0]; have := (rd_single (w.alloc (.cells #[.int .i64 10] 2)) 4).alloc (.cells #[.int .i64 2] 2); simpa using this
  have r3 : Rd w0 1 (some ⟨w.heap.size + 1 + 1, 0, none⟩) 1 (iv [2]) := by rw [← hw0]; have := rd_single ((w.alloc (.cells #[.int .i64 10] 2)).alloc (.cells #[.int .i64 4] 2)) 2; simpa using this
  have C := next13_some 1 1 1 _ _ _ 1 1 1 1 [10] [4] [2] w0 rfl rfl rfl r1 r2 r3 (by omega) (by constructor <;> omega) (by constructor <;> omega) (by intro x hx; simp at hx; subst hx; constructor <;> omega) (by intro x hx; simp at hx; subst hx; constructor <;> omega)
  rw [e1, e2] at C
  have HC := Lib.hid C
  have HW := Lib.hid hw0
  clear C e1 e2 r1 r2 r3 hw0
  go_enter Try.func14, Try.ntmps14
  go_wp2_with fail
  rw [HW.out]
  ((with_reducible refine HC.out.mono ?_); rintro e w1 ⟨AP, cP, AM, cM, rfl, hOP, hOM, _, hb1⟩)
  obtain ⟨_, _, q1, _, _, q6⟩ := own_form hOP
  obtain ⟨_, _, s1, _, _, s6⟩ := own_form hOM
  injection q1 with q4
  injection s1 with s4
  subst q4 s4
  obtain ⟨g, rfl, _, hg⟩ := q6 (by omega)
  obtain ⟨h, rfl, _, hh⟩ := s6 (by omega)
  have c0 : w1.cell? ⟨g, 0, none⟩ = some (.int .i64 8) := hOP.cellAt 0 (by omega)
  have c1 : w1.cell? ⟨h, 0, none⟩ = some (.int .i64 4) := hOM.cellAt 0 (by omega)
  have k1 := ((Kept.of k0).call hb1).2.2
  have hs := k1.size
  clear hOP hOM q6 s6 hb1 HC HW k0
  go_wp2
  go_ret
  exact ⟨rfl, k1.alloc hs _⟩

end Go.Proofs.Ytnnphileeeaibaa
