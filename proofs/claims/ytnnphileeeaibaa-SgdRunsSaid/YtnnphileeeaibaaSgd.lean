/-
  Contracts of package sgd: update.
-/
import Derived.Test.YtnnphileeeaibaaVecS
import Derived.Test.YtnnphileeeaibaaFixpSumS
import Derived.Test.YtnnphileeeaibaaBut
import Derived.Test.YtnnphileeeaibaaTail
namespace Go.Proofs.Ytnnphileeeaibaa
set_option linter.unusedVariables false
set_option linter.unusedSimpArgs false
open Go.RowKit

theorem sub_any (a b : Int) (w : World) : Calls Try.prog 70 #[.int .i64 a, .int .i64 b] w fun e w' => e = .returned (.int .i64 (wrap64 (a - b))) ∧ w = w' := by
  go_enter Try.func70, Try.ntmps70
  go_wp2
  go_ret
  exact ⟨rfl, rfl⟩

theorem rd_two (w : World) (x y : Int) : Rd (w.alloc (.cells #[.int .i64 x, .int .i64 y] 2)) 1 (some ⟨w.heap.size, 0, none⟩) 2 (iv [x, y]) := by
  refine ⟨rfl, fun h => ⟨w.heap.size, 0, rfl, by simp, fun j u hu => ?_⟩⟩
  have := (Blk.new w 2 #[.int .i64 x, .int .i64 y]).cell (0 + j)
  rw [this, Nat.zero_add, ← hu]
  simp [iv]

/-- What an update makes of a number of the momentum, and of a parameter. -/
def updM (mo sh m g : Int) : Int := wrap64 (mulQ mo m sh + g)
def updP (ra sh p m' : Int) : Int := wrap64 (p - mulQ ra m' sh)
theorem wrap64_in1 (x : Int) : In1 (wrap64 x) := by unfold wrap64; constructor <;> omega
theorem updM_in (mo sh m g : Int) : In1 (updM mo sh m g) := wrap64_in1 _
theorem updP_in (ra sh p m' : Int) : In1 (updP ra sh p m') := wrap64_in1 _
theorem sumW_two (x y : Int) (hx : In1 x) : sumW [x, y] = wrap64 (x + y) := by
  simp only [sumW, List.foldl_cons, List.foldl_nil, Int.zero_add]
  congr 2
  unfold wrap64
  omega

theorem own_cell {w : World} {base : Nat} {g N c i : Nat} {l : List Int} {x : Int} {e : TypeId} (h : w.ownsRow base e 1 (.slice (some ⟨g, 0, none⟩) N c) N (iv l)) (hx : l[i]? = some x) : w.cell? ⟨g, i, none⟩ = some (.int .i64 x) := by
  have hl : l.length = N := by have := h.1; rw [iv_length] at this; omega
  obtain ⟨hi, hx'⟩ := List.getElem?_eq_some_iff.1 hx
  rw [h.cellAt i (by omega), iv_get l i hi, hx']

set_option maxHeartbeats 1000000 in
theorem update_any (ra mo sh p m g : Int) (bp bm i N M cP cM base : Nat) (Ps Ms : List Int) (w : World) (hP : w.ownsRow base 2 1 (.slice (some ⟨bp, 0, none⟩) N cP) N (iv Ps)) (hM : w.ownsRow base 2 1 (.slice (some ⟨bm, 0, none⟩) M cM) M (iv Ms))
    (hp : Ps[i]? = some p) (hm : Ms[i]? = some m) (hne : bp ≠ bm) (hra : In1 ra) (hmo : In1 mo) (hpi : In1 p) (hmi : In1 m) :
    Calls Try.prog 55 #[.agg #[.int .i64 ra, .int .i64 mo, .int .i64 sh], .pointer (some ⟨bp, i, none⟩), .pointer (some ⟨bm, i, none⟩), .int .i64 g] w fun e w' => e = .returned (.tuple #[]) ∧
      w'.ownsRow base 2 1 (.slice (some ⟨bp, 0, none⟩) N cP) N (iv (Ps.set i (updP ra sh p (updM mo sh m g)))) ∧ w'.ownsRow base 2 1 (.slice (some ⟨bm, 0, none⟩) M cM) M (iv (Ms.set i (updM mo sh m g))) ∧ But (fun b => b = bp ∨ b = bm) w w' := by
  have hbp := (hP.lt bp rfl).2
  have hbm := (hM.lt bm rfl).2
  have cp : w.cell? ⟨bp, i, none⟩ = some (.int .i64 p) := own_cell hP hp
  have cm : w.cell? ⟨bm, i, none⟩ = some (.int .i64 m) := own_cell hM hm
  obtain ⟨x, hx⟩ : ∃ x, mulQ mo m sh = x := ⟨_, rfl⟩
  obtain ⟨m', hm'⟩ : ∃ m', updM mo sh m g = m' := ⟨_, rfl⟩
  obtain ⟨y, hy⟩ : ∃ y, mulQ ra m' sh = y := ⟨_, rfl⟩
  have C1 := (fun W => mulQ_any mo m sh W hmo hmi)
  have C3 := (fun W => mulQ_any ra m' sh W hra (by rw [← hm']; exact updM_in _ _ _ _))
  simp only [hx] at C1
  simp only [hy] at C3
  have C2 : ∀ W : World, Calls Try.prog 69 #[.slice (some ⟨W.heap.size, 0, none⟩) 2 2] (W.alloc (.cells #[.int .i64 x, .int .i64 g] 2)) fun e w' => e = .returned (.int .i64 m') ∧ Below (W.heap.size + 1) (W.alloc (.cells #[.int .i64 x, .int .i64 g] 2)) w' := fun W => by
    have := fixpSum_any (some ⟨W.heap.size, 0, none⟩) 2 2 [x, g] _ rfl (rd_two W x g) (by omega)
    have e : sumW [x, g] = m' := by rw [sumW_two x g (by rw [← hx]; exact mulQ_in _ _ _), ← hm', updM, hx]
    rw [e] at this
    simpa using this
  have HC1 := Lib.hid C1
  have HC2 := Lib.hid C2
  have HC3 := Lib.hid C3
  have HX := Lib.hid hx
  have HM' := Lib.hid hm'
  have HY := Lib.hid hy
  have HP := Lib.hid hP
  have HM := Lib.hid hM
  have HPi := Lib.hid hp
  have HMi := Lib.hid hm
  clear hx hm' hy C1 C2 C3 hP hM hp hm
  go_enter Try.func55, Try.ntmps55
  go_wp2_with fail
  obtain ⟨w0, hw0⟩ : ∃ w0, w.alloc (.cells #[.int .i64 ra, .int .i64 mo, .int .i64 sh] 35) = w0 := ⟨_, rfl⟩
  have k0 : Below w.heap.size w w0 := by rw [← hw0]; exact (Below.refl _ _).alloc (Nat.le_refl _) _
  have hR0 : Blk w0 w.heap.size 35 #[.int .i64 ra, .int .i64 mo, .int .i64 sh] := by rw [← hw0]; exact Blk.new _ _ _
  have r0 : w0.cell? ⟨w.heap.size, 0, none⟩ = some (.int .i64 ra) := hR0.cell 0
  have r1 : w0.cell? ⟨w.heap.size, 1, none⟩ = some (.int .i64 mo) := hR0.cell 1
  have r2 : w0.cell? ⟨w.heap.size, 2, none⟩ = some (.int .i64 sh) := hR0.cell 2
  have rlt := hR0.lt
  have cm0 : w0.cell? ⟨bm, i, none⟩ = some (.int .i64 m) := (k0.cell (p := ⟨bm, i, none⟩) hbm).trans cm
  have hlt0 : bm < w0.heap.size := by have := k0.size; omega
  rw [hw0]
  clear hw0
  refine wp_region_mix' w0 [0] [1, 2, 3, 4, 5, 6, 7, 8, 9] 10 [11, 12, 13] (by kernel_rfl) (by kernel_rfl) (by kernel_rfl) (Kept.of (Below.refl _ _)) ?_
  refine ⟨_, _, rfl, .inl ⟨rfl, fun w => rfl⟩, ?_⟩
  simp only [PureW, List.filterMap_cons, List.filterMap_nil, List.getElem?_cons_succ, List.getElem?_cons_zero]
  go_simp
  change wpQuiet _ _ _ _ (_ :: _ :: _ :: _ :: _ :: _ :: _ :: _ :: _ :: []) _
  have KC := fun (u : KW w0) b o h => KW.cells u b o h
  iterate 9 (go_big_quiet_step ((go_at_call 57; (with_reducible exact kept_call (HC1.out _)))))
  refine wpQuiet_nil ?_
  rintro ⟨w1, k1⟩
  change wpList _ _ _ (_ :: _ :: _ :: _ :: []) _ _
  dsimp only
  clear KC
  go_wp2_with fail
  ((with_reducible refine (HC2.out _).mono ?_); rintro e w2 ⟨rfl, hb2⟩)
  have k2 := k1.call_alloc hb2
  have hO2 : w2.ownsRow base 2 1 (.slice (some ⟨bm, 0, none⟩) M cM) M (iv Ms) := own_below HM.out ((Kept.of k0).call k2.2.2).2.2
  have hO2p : w2.ownsRow base 2 1 (.slice (some ⟨bp, 0, none⟩) N cP) N (iv Ps) := own_below HP.out ((Kept.of k0).call k2.2.2).2.2
  have cm2 : w2.cell? ⟨bm, i, none⟩ = some (.int .i64 m) := (k2.1 bm i hlt0).trans cm0
  have fm2 : w2.frozen? ⟨bm, i, none⟩ = false := hO2.frozenAt i
  have HK2 := Lib.hid (((Kept.of k0).call k2.2.2).2.2)
  have HR2 := Lib.hid (hR0.kept k2.2.2)
  have HO2 := Lib.hid hO2
  have HO2p := Lib.hid hO2p
  clear k1 hb2 k2 hO2 hO2p r0 r1 r2 cm0 k0 hR0
  go_wp2_with fail
  refine NoPanic.normal ?_
  go_wp2_with fail
  obtain ⟨w3, hw3⟩ : ∃ w3, w2.setCell ⟨bm, i, none⟩ (.int .i64 m') = w3 := ⟨_, rfl⟩
  have hst := HO2.out.stored i (.int .i64 m')
  rw [hw3] at hst ⊢
  have HO3 := Lib.hid hst.1
  have hR3 := HR2.out.grown hst.2 (by simp; omega)
  have HO3p := Lib.hid (HO2p.out.kept hst.2 (.inr (by simp [Value.ownBlock]; omega)))
  have HB3 := Lib.hid ((But.of_below (fun b => b = bp ∨ b = bm) HK2.out).trans (But.of_gr hst.2 (.inr rfl)))
  have r0 : w3.cell? ⟨w.heap.size, 0, none⟩ = some (.int .i64 ra) := hR3.cell 0
  have r2 : w3.cell? ⟨w.heap.size, 2, none⟩ = some (.int .i64 sh) := hR3.cell 2
  have rlt3 := hR3.lt
  have cp3 : w3.cell? ⟨bp, i, none⟩ = some (.int .i64 p) := own_cell HO3p.out HPi.out
  have cm3 : w3.cell? ⟨bm, i, none⟩ = some (.int .i64 m') := own_cell (by have := HO3.out; rwa [iv_set] at this) (by rw [List.getElem?_set_self (List.getElem?_eq_some_iff.1 HMi.out).1])
  have hltp : bp < w3.heap.size := (HO3p.out.lt bp rfl).2
  have hltm : bm < w3.heap.size := (HO3.out.lt bm rfl).2
  clear hst hw3 cm2 fm2 hR3 HO2 HO2p HK2 HR2
  refine wp_region_mix' w3 [0] [1, 2, 3, 4, 5, 6, 7, 8, 9, 10, 11, 12] 13 [14] (by kernel_rfl) (by kernel_rfl) (by kernel_rfl) (Kept.of (Below.refl _ _)) ?_
  refine ⟨_, _, rfl, .inl ⟨rfl, fun w => rfl⟩, ?_⟩
  simp only [PureW, List.filterMap_cons, List.filterMap_nil, List.getElem?_cons_succ, List.getElem?_cons_zero]
  go_simp
  change wpQuiet _ _ _ _ (_ :: _ :: _ :: _ :: _ :: _ :: _ :: _ :: _ :: _ :: _ :: _ :: []) _
  have KC := fun (u : KW w3) b o h => KW.cells u b o h
  iterate 12 (go_big_quiet_step (first | (go_at_call 57; (with_reducible exact kept_call (HC3.out _))) | (go_at_call 70; (with_reducible exact kept_same (sub_any _ _ _)))))
  refine wpQuiet_nil ?_
  rintro ⟨w4, k4⟩
  change wpList _ _ _ (_ :: _ :: []) _ _
  dsimp only
  clear KC
  have hO4 := own_below HO3.out k4.2.2
  have hO4p := own_below HO3p.out k4.2.2
  have cp4 : w4.cell? ⟨bp, i, none⟩ = some (.int .i64 p) := (k4.1 bp i hltp).trans cp3
  have fp4 : w4.frozen? ⟨bp, i, none⟩ = false := hO4p.frozenAt i
  have HB4 := Lib.hid (HB3.out.call k4.2.2)
  have HO4 := Lib.hid hO4
  have HO4p := Lib.hid hO4p
  clear k4 hO4 hO4p cp3 cm3 r0 r2
  go_wp2_with fail
  refine NoPanic.normal ?_
  go_wp2_with fail
  go_end0
  have hst := HO4p.out.stored i (.int .i64 (wrap64 (p - y)))
  have e1 : updP ra sh p (updM mo sh m g) = wrap64 (p - y) := by rw [HM'.out, updP, HY.out]
  rw [e1, HM'.out]
  refine ⟨rfl, ?_, ?_, HB4.out.trans (But.of_gr hst.2 (.inl rfl))⟩
  · rw [← iv_set]; exact hst.1
  · rw [← iv_set]; exact HO4.out.kept hst.2 (.inr (by simp [Value.ownBlock]; omega))

end Go.Proofs.Ytnnphileeeaibaa
