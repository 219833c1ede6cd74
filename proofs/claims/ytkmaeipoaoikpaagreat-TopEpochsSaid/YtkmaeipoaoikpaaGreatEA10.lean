/-
  Lemmas and contracts (10 of 44): Sgd, Sgd2, RunPlain, NetP.
-/
import Derived.WalkKit
import Derived.WalkSpells
import Derived.WalkLawsBesides
import Derived.Lib.Hide
import Derived.Deep.QuietTactic
import Derived.BigQuiet
import Derived.IntWalk
import Derived.Deep.RegionHeld3
import Derived.Maps.AppendAt
import Derived.ProofKit
import Derived.OpenShut
import Derived.Deep.Slices
import Derived.Deep.Fields
import Derived.Laws.OwnMore
import Derived.Deep.Draws
import Derived.Laws.Rows
import Derived.StillTail
import Derived.Laws.Bits64
import Derived.Laws.BitsAllLaws
import Derived.Test.YtkmaeipoaoikpaaGreatProg
import Derived.Test.YtkmaeipoaoikpaaGreatShelf
import Derived.Deep.DeepCutAuto
import Derived.RangeFuncBox
import Derived.RangeFuncLeaves
import Derived.Shelf.Abstract
import Derived.OwnWalkIn
import Derived.TacticsInMore
import Derived.LoopNIn
import Derived.LoopIn
import Derived.OrdersHeld
import Derived.Laws.EntriesVeiled
import Derived.RangeFuncNested
import Derived.OrdersIn
import Derived.RangeFuncCalls
import Derived.Deep.DeepMust
import Derived.BigRegion
import Derived.SizedLaws
import Derived.Deep.OwnRows
import Derived.Laws.CopyOwn
import Derived.RangeFuncFrom
import Derived.Test.YtkmaeipoaoikpaaGreatEA01
import Derived.Test.YtkmaeipoaoikpaaGreatEA02
import Derived.Test.YtkmaeipoaoikpaaGreatEA03
import Derived.Test.YtkmaeipoaoikpaaGreatEA04
import Derived.Test.YtkmaeipoaoikpaaGreatEA05
import Derived.Test.YtkmaeipoaoikpaaGreatEA06
import Derived.Test.YtkmaeipoaoikpaaGreatEA07
import Derived.Test.YtkmaeipoaoikpaaGreatEA08
import Derived.Test.YtkmaeipoaoikpaaGreatEA09
namespace Go.Proofs.YtkmaeipoaoikpaaGreat
set_option linter.unusedVariables false
set_option linter.unusedSimpArgs false
set_option maxRecDepth 100000
section
open Go.RowKit
theorem sub_any_Sgd (a b : Int) (w : World) : Calls Tryz.prog 204 #[.int .i64 a, .int .i64 b] w fun e w' => e = .returned (.int .i64 (wrap64 (a - b))) ∧ w = w' := by
  go_enter Tryz.func204, Tryz.ntmps204
  go_wp2
  go_ret
  exact ⟨rfl, rfl⟩
theorem rd_two (w : World) (x y : Int) : Rd (w.alloc (.cells #[.int .i64 x, .int .i64 y] 2)) 1 (some ⟨w.heap.size, 0, none⟩) 2 (iv [x, y]) := by
  refine ⟨rfl, fun h => ⟨w.heap.size, 0, rfl, by simp, fun j u hu => ?_⟩⟩
  have := (Blk.new w 2 #[.int .i64 x, .int .i64 y]).cell (0 + j)
  rw [this, Nat.zero_add, ← hu]
  simp [iv]
def updM (mo sh m g : Int) : Int := wrap64 (mulQ mo m sh + g)
def updP (ra sh p m' : Int) : Int := wrap64 (p - mulQ ra m' sh)
theorem wrap64_in1 (x : Int) : In1 (wrap64 x) := by unfold wrap64; constructor <;> omega
theorem updM_in (mo sh m g : Int) : In1 (updM mo sh m g) := wrap64_in1 _
theorem updP_in (ra sh p m' : Int) : In1 (updP ra sh p m') := wrap64_in1 _
theorem sumW_two (x y : Int) (hx : In1 x) : sumW [x, y] = wrap64 (x + y) := by
  simp only [sumW, List.foldl_cons, List.foldl_nil, Int.zero_add]
  congr 2
  unfold wrap64
  omega
theorem own_cell {w : World} {base : Nat} {g N c i : Nat} {l : List Int} {x : Int} {e : TypeId} (h : w.ownsRow base e 1 (.slice (some ⟨g, 0, none⟩) N c) N (iv l)) (hx : l[i]? = some x) : w.cell? ⟨g, i, none⟩ = some (.int .i64 x) := by
  have hl : l.length = N := by have := h.1; rw [iv_length] at this; omega
  obtain ⟨hi, hx'⟩ := List.getElem?_eq_some_iff.1 hx
  rw [h.cellAt i (by omega), iv_get l i hi, hx']
set_option maxHeartbeats 1000000 in
theorem update_any (ra mo sh p m g : Int) (bp bm i N M cP cM base : Nat) (Ps Ms : List Int) (w : World) (hP : w.ownsRow base 2 1 (.slice (some ⟨bp, 0, none⟩) N cP) N (iv Ps)) (hM : w.ownsRow base 2 1 (.slice (some ⟨bm, 0, none⟩) M cM) M (iv Ms))
    (hp : Ps[i]? = some p) (hm : Ms[i]? = some m) (hne : bp ≠ bm) (hra : In1 ra) (hmo : In1 mo) (hpi : In1 p) (hmi : In1 m) :
    Calls Tryz.prog 280 #[.agg #[.int .i64 ra, .int .i64 mo, .int .i64 sh], .pointer (some ⟨bp, i, none⟩), .pointer (some ⟨bm, i, none⟩), .int .i64 g] w fun e w' => e = .returned (.tuple #[]) ∧
      w'.ownsRow base 2 1 (.slice (some ⟨bp, 0, none⟩) N cP) N (iv (Ps.set i (updP ra sh p (updM mo sh m g)))) ∧ w'.ownsRow base 2 1 (.slice (some ⟨bm, 0, none⟩) M cM) M (iv (Ms.set i (updM mo sh m g))) ∧ But (fun b => b = bp ∨ b = bm) w w' := by
  have hbp := (hP.lt bp rfl).2
  have hbm := (hM.lt bm rfl).2
  have cp : w.cell? ⟨bp, i, none⟩ = some (.int .i64 p) := own_cell hP hp
  have cm : w.cell? ⟨bm, i, none⟩ = some (.int .i64 m) := own_cell hM hm
  obtain ⟨x, hx⟩ : ∃ x, mulQ mo m sh = x := ⟨_, rfl⟩
  obtain ⟨m', hm'⟩ : ∃ m', updM mo sh m g = m' := ⟨_, rfl⟩
  obtain ⟨y, hy⟩ : ∃ y, mulQ ra m' sh = y := ⟨_, rfl⟩
  have C1 := (fun W => mulQ_any mo m sh W hmo hmi)
  have C3 := (fun W => mulQ_any ra m' sh W hra (by rw [← hm']; exact updM_in _ _ _ _))
  simp only [hx] at C1
  simp only [hy] at C3
  have C2 : ∀ W : World, Calls Tryz.prog 63 #[.slice (some ⟨W.heap.size, 0, none⟩) 2 2] (W.alloc (.cells #[.int .i64 x, .int .i64 g] 2)) fun e w' => e = .returned (.int .i64 m') ∧ Below (W.heap.size + 1) (W.alloc (.cells #[.int .i64 x, .int .i64 g] 2)) w' := fun W => by
    have := fixpSum_any (some ⟨W.heap.size, 0, none⟩) 2 2 [x, g] _ rfl (rd_two W x g) (by omega)
    have e : sumW [x, g] = m' := by rw [sumW_two x g (by rw [← hx]; exact mulQ_in _ _ _), ← hm', updM, hx]
    rw [e] at this
    simpa using this
  have HC1 := Lib.hid C1
  have HC2 := Lib.hid C2
  have HC3 := Lib.hid C3
  have HX := Lib.hid hx
  have HM' := Lib.hid hm'
  have HY := Lib.hid hy
  have HP := Lib.hid hP
  have HM := Lib.hid hM
  have HPi := Lib.hid hp
  have HMi := Lib.hid hm
  clear hx hm' hy C1 C2 C3 hP hM hp hm
  go_enter Tryz.func280, Tryz.ntmps280
  go_wp2_with fail
  obtain ⟨w0, hw0⟩ : ∃ w0, w.alloc (.cells #[.int .i64 ra, .int .i64 mo, .int .i64 sh] 102) = w0 := ⟨_, rfl⟩
  have k0 : Below w.heap.size w w0 := by rw [← hw0]; exact (Below.refl _ _).alloc (Nat.le_refl _) _
  have hR0 : Blk w0 w.heap.size 102 #[.int .i64 ra, .int .i64 mo, .int .i64 sh] := by rw [← hw0]; exact Blk.new _ _ _
  have r0 : w0.cell? ⟨w.heap.size, 0, none⟩ = some (.int .i64 ra) := hR0.cell 0
  have r1 : w0.cell? ⟨w.heap.size, 1, none⟩ = some (.int .i64 mo) := hR0.cell 1
  have r2 : w0.cell? ⟨w.heap.size, 2, none⟩ = some (.int .i64 sh) := hR0.cell 2
  have rlt := hR0.lt
  have cm0 : w0.cell? ⟨bm, i, none⟩ = some (.int .i64 m) := (k0.cell (p := ⟨bm, i, none⟩) hbm).trans cm
  have hlt0 : bm < w0.heap.size := by have := k0.size; omega
  rw [hw0]
  clear hw0
  refine wp_region_mix' w0 [0] [1, 2, 3, 4, 5, 6, 7, 8, 9] 10 [11, 12, 13] (by kernel_rfl) (by kernel_rfl) (by kernel_rfl) (Kept.of (Below.refl _ _)) ?_
  refine ⟨_, _, rfl, .inl ⟨rfl, fun w => rfl⟩, ?_⟩
  simp only [PureW, List.filterMap_cons, List.filterMap_nil, List.getElem?_cons_succ, List.getElem?_cons_zero]
  go_simp
  change wpQuiet _ _ _ _ (_ :: _ :: _ :: _ :: _ :: _ :: _ :: _ :: _ :: []) _
  have KC := fun (u : KW w0) b o h => KW.cells u b o h
  iterate 9 (go_big_quiet_step ((go_at_call 205; (with_reducible exact kept_call (HC1.out _)))))
  refine wpQuiet_nil ?_
  rintro ⟨w1, k1⟩
  change wpList _ _ _ (_ :: _ :: _ :: _ :: []) _ _
  dsimp only
  clear KC
  go_wp2_with fail
  ((with_reducible refine (HC2.out _).mono ?_); rintro e w2 ⟨rfl, hb2⟩)
  have k2 := k1.call_alloc hb2
  have hO2 : w2.ownsRow base 2 1 (.slice (some ⟨bm, 0, none⟩) M cM) M (iv Ms) := own_below HM.out ((Kept.of k0).call k2.2.2).2.2
  have hO2p : w2.ownsRow base 2 1 (.slice (some ⟨bp, 0, none⟩) N cP) N (iv Ps) := own_below HP.out ((Kept.of k0).call k2.2.2).2.2
  have cm2 : w2.cell? ⟨bm, i, none⟩ = some (.int .i64 m) := (k2.1 bm i hlt0).trans cm0
  have fm2 : w2.frozen? ⟨bm, i, none⟩ = false := hO2.frozenAt i
  have HK2 := Lib.hid (((Kept.of k0).call k2.2.2).2.2)
  have HR2 := Lib.hid (hR0.kept k2.2.2)
  have HO2 := Lib.hid hO2
  have HO2p := Lib.hid hO2p
  clear k1 hb2 k2 hO2 hO2p r0 r1 r2 cm0 k0 hR0
  go_wp2_with fail
  refine NoPanic.normal ?_
  go_wp2_with fail
  obtain ⟨w3, hw3⟩ : ∃ w3, w2.setCell ⟨bm, i, none⟩ (.int .i64 m') = w3 := ⟨_, rfl⟩
  have hst := HO2.out.stored i (.int .i64 m')
  rw [hw3] at hst ⊢
  have HO3 := Lib.hid hst.1
  have hR3 := HR2.out.grown hst.2 (by simp; omega)
  have HO3p := Lib.hid (HO2p.out.kept hst.2 (.inr (by simp [Value.ownBlock]; omega)))
  have HB3 := Lib.hid ((But.of_below (fun b => b = bp ∨ b = bm) HK2.out).trans (But.of_gr hst.2 (.inr rfl)))
  have r0 : w3.cell? ⟨w.heap.size, 0, none⟩ = some (.int .i64 ra) := hR3.cell 0
  have r2 : w3.cell? ⟨w.heap.size, 2, none⟩ = some (.int .i64 sh) := hR3.cell 2
  have rlt3 := hR3.lt
  have cp3 : w3.cell? ⟨bp, i, none⟩ = some (.int .i64 p) := own_cell HO3p.out HPi.out
  have cm3 : w3.cell? ⟨bm, i, none⟩ = some (.int .i64 m') := own_cell (by have := HO3.out; rwa [iv_set] at this) (by rw [List.getElem?_set_self (List.getElem?_eq_some_iff.1 HMi.out).1])
  have hltp : bp < w3.heap.size := (HO3p.out.lt bp rfl).2
  have hltm : bm < w3.heap.size := (HO3.out.lt bm rfl).2
  clear hst hw3 cm2 fm2 hR3 HO2 HO2p HK2 HR2
  refine wp_region_mix' w3 [0] [1, 2, 3, 4, 5, 6, 7, 8, 9, 10, 11, 12] 13 [14] (by kernel_rfl) (by kernel_rfl) (by kernel_rfl) (Kept.of (Below.refl _ _)) ?_
  refine ⟨_, _, rfl, .inl ⟨rfl, fun w => rfl⟩, ?_⟩
  simp only [PureW, List.filterMap_cons, List.filterMap_nil, List.getElem?_cons_succ, List.getElem?_cons_zero]
  go_simp
  change wpQuiet _ _ _ _ (_ :: _ :: _ :: _ :: _ :: _ :: _ :: _ :: _ :: _ :: _ :: _ :: []) _
  have KC := fun (u : KW w3) b o h => KW.cells u b o h
  iterate 12 (go_big_quiet_step (first | (go_at_call 205; (with_reducible exact kept_call (HC3.out _))) | (go_at_call 204; (with_reducible exact kept_same (sub_any_Sgd _ _ _)))))
  refine wpQuiet_nil ?_
  rintro ⟨w4, k4⟩
  change wpList _ _ _ (_ :: _ :: []) _ _
  dsimp only
  clear KC
  have hO4 := own_below HO3.out k4.2.2
  have hO4p := own_below HO3p.out k4.2.2
  have cp4 : w4.cell? ⟨bp, i, none⟩ = some (.int .i64 p) := (k4.1 bp i hltp).trans cp3
  have fp4 : w4.frozen? ⟨bp, i, none⟩ = false := hO4p.frozenAt i
  have HB4 := Lib.hid (HB3.out.call k4.2.2)
  have HO4 := Lib.hid hO4
  have HO4p := Lib.hid hO4p
  clear k4 hO4 hO4p cp3 cm3 r0 r2
  go_wp2_with fail
  refine NoPanic.normal ?_
  go_wp2_with fail
  go_end0
  have hst := HO4p.out.stored i (.int .i64 (wrap64 (p - y)))
  have e1 : updP ra sh p (updM mo sh m g) = wrap64 (p - y) := by rw [HM'.out, updP, HY.out]
  rw [e1, HM'.out]
  refine ⟨rfl, ?_, ?_, HB4.out.trans (But.of_gr hst.2 (.inl rfl))⟩
  · rw [← iv_set]; exact hst.1
  · rw [← iv_set]; exact HO4.out.kept hst.2 (.inr (by simp [Value.ownBlock]; omega))
end
section
open Go.RowKit
def applyM (mo sh : Int) (Ms gs : List Int) (lo k : Nat) : List Int := Ms.mapIdx fun j m => if lo ≤ j ∧ j < lo + k then updM mo sh m (gs.getD (j - lo) 0) else m
def applyP (ra mo sh : Int) (Ps Ms gs : List Int) (lo k : Nat) : List Int := Ps.mapIdx fun j p => if lo ≤ j ∧ j < lo + k then updP ra sh p (updM mo sh (Ms.getD j 0) (gs.getD (j - lo) 0)) else p
theorem applyM_length (mo sh : Int) (Ms gs : List Int) (lo k : Nat) : (applyM mo sh Ms gs lo k).length = Ms.length := by simp [applyM]
theorem applyP_length (ra mo sh : Int) (Ps Ms gs : List Int) (lo k : Nat) : (applyP ra mo sh Ps Ms gs lo k).length = Ps.length := by simp [applyP]
theorem applyM_get (mo sh : Int) (Ms gs : List Int) (lo k i : Nat) : (applyM mo sh Ms gs lo k)[i]? = Ms[i]?.map fun m => if lo ≤ i ∧ i < lo + k then updM mo sh m (gs.getD (i - lo) 0) else m := by simp [applyM]
theorem applyP_get (ra mo sh : Int) (Ps Ms gs : List Int) (lo k i : Nat) : (applyP ra mo sh Ps Ms gs lo k)[i]? = Ps[i]?.map fun p => if lo ≤ i ∧ i < lo + k then updP ra sh p (updM mo sh (Ms.getD i 0) (gs.getD (i - lo) 0)) else p := by simp [applyP]
theorem applyM_zero (mo sh : Int) (Ms gs : List Int) (lo : Nat) : applyM mo sh Ms gs lo 0 = Ms := by
  apply List.ext_getElem?
  intro i
  rw [applyM_get]
  cases Ms[i]? with
  | none => rfl
  | some x => simp; omega
theorem applyP_zero (ra mo sh : Int) (Ps Ms gs : List Int) (lo : Nat) : applyP ra mo sh Ps Ms gs lo 0 = Ps := by
  apply List.ext_getElem?
  intro i
  rw [applyP_get]
  cases Ps[i]? with
  | none => rfl
  | some x => simp; omega
theorem applyM_next (mo sh : Int) (Ms gs : List Int) (lo k : Nat) (m g : Int) (hm : Ms[lo + k]? = some m) (hg : gs[k]? = some g) : (applyM mo sh Ms gs lo k).set (lo + k) (updM mo sh m g) = applyM mo sh Ms gs lo (k + 1) := by
  apply List.ext_getElem?
  intro i
  rw [List.getElem?_set, applyM_get, applyM_get]
  by_cases e : lo + k = i
  · subst e
    have hlt : lo + k < Ms.length := (List.getElem?_eq_some_iff.1 hm).1
    rw [if_pos rfl, if_pos (by rw [applyM_length]; exact hlt), hm]
    simp [hg]
  · rw [if_neg e]
    cases Ms[i]? with
    | none => rfl
    | some x =>
      simp only [Option.map_some]
      congr 1
      by_cases h1 : lo ≤ i ∧ i < lo + k
      · rw [if_pos h1, if_pos (by omega)]
      · rw [if_neg h1, if_neg (by omega)]
theorem applyP_next (ra mo sh : Int) (Ps Ms gs : List Int) (lo k : Nat) (p m g : Int) (hp : Ps[lo + k]? = some p) (hm : Ms[lo + k]? = some m) (hg : gs[k]? = some g) : (applyP ra mo sh Ps Ms gs lo k).set (lo + k) (updP ra sh p (updM mo sh m g)) = applyP ra mo sh Ps Ms gs lo (k + 1) := by
  apply List.ext_getElem?
  intro i
  rw [List.getElem?_set, applyP_get, applyP_get]
  by_cases e : lo + k = i
  · subst e
    have hlt : lo + k < Ps.length := (List.getElem?_eq_some_iff.1 hp).1
    rw [if_pos rfl, if_pos (by rw [applyP_length]; exact hlt), hp]
    simp [hg, hm]
  · rw [if_neg e]
    cases Ps[i]? with
    | none => rfl
    | some x =>
      simp only [Option.map_some]
      congr 1
      by_cases h1 : lo ≤ i ∧ i < lo + k
      · rw [if_pos h1, if_pos (by omega)]
      · rw [if_neg h1, if_neg (by omega)]
theorem applyM_at (mo sh : Int) (Ms gs : List Int) (lo k : Nat) (m : Int) (hm : Ms[lo + k]? = some m) : (applyM mo sh Ms gs lo k)[lo + k]? = some m := by rw [applyM_get, hm]; simp
theorem applyP_at (ra mo sh : Int) (Ps Ms gs : List Int) (lo k : Nat) (p : Int) (hp : Ps[lo + k]? = some p) : (applyP ra mo sh Ps Ms gs lo k)[lo + k]? = some p := by rw [applyP_get, hp]; simp
def AllIn (l : List Int) : Prop := ∀ x ∈ l, In1 x
set_option maxHeartbeats 2000000 in
theorem apply_any (ra mo sh : Int) (AP AM AG : Option Addr) (N cP cM n cG lo hi bp bm base : Nat) (Ps Ms gs : List Int) (w : World) (hP : w.ownsRow base 2 1 (.slice AP N cP) N (iv Ps)) (hM : w.ownsRow base 2 1 (.slice AM N cM) N (iv Ms))
    (hap : 0 < N → AP = some ⟨bp, 0, none⟩ ∧ AM = some ⟨bm, 0, none⟩ ∧ bp ≠ bm) (hG : Rd w 1 AG n (iv gs)) (hgl : gs.length = n) (hGb : ∀ b o, AG = some ⟨b, o, none⟩ → 0 < n → b ≠ bp ∧ b ≠ bm) (hhi : hi = lo + n) (hfit : hi ≤ N) (hN : N ≤ 1000000)
    (hra : In1 ra) (hmo : In1 mo) (hPi : AllIn Ps) (hMi : AllIn Ms) :
    Calls Tryz.prog 266 #[.agg #[.int .i64 ra, .int .i64 mo, .int .i64 sh], .agg #[.slice AP N cP, .slice AM N cM], .agg #[.int .i64 lo, .int .i64 hi], .slice AG n cG] w fun e w' => e = .returned (.bool true) ∧
      w'.ownsRow base 2 1 (.slice AP N cP) N (iv (applyP ra mo sh Ps Ms gs lo n)) ∧ w'.ownsRow base 2 1 (.slice AM N cM) N (iv (applyM mo sh Ms gs lo n)) ∧ But (fun b => 0 < N ∧ (b = bp ∨ b = bm)) w w' := by
  have hPl : Ps.length = N := by have := hP.1; rw [iv_length] at this; omega
  have hMl : Ms.length = N := by have := hM.1; rw [iv_length] at this; omega
  have HP := Lib.hid hP
  have HM := Lib.hid hM
  have HAP := Lib.hid hap
  have HG := Lib.hid hG
  have HGL := Lib.hid hgl
  have HGB := Lib.hid hGb
  have HHI := Lib.hid hhi
  have HPL := Lib.hid hPl
  have HML := Lib.hid hMl
  have HPI := Lib.hid hPi
  have HMI := Lib.hid hMi
  have h1 : lo ≤ hi := by omega
  have h2 : lo + n ≤ N := by omega
  have HSz := Lib.hid (fun W => size_of lo hi n W hhi (by omega) (by omega))
  clear hP hM hap hG hgl hGb hhi hPl hMl hPi hMi
  go_enter Tryz.func266, Tryz.ntmps266
  go_wp2_with fail
  obtain ⟨w0, hw0⟩ : ∃ w0, ((w.alloc (.cells #[.int .i64 ra, .int .i64 mo, .int .i64 sh] 102)).alloc (.cells #[.slice AP N cP, .slice AM N cM] 92)).alloc (.cells #[.int .i64 lo, .int .i64 hi] 218) = w0 := ⟨_, rfl⟩
  have k0 : Below w.heap.size w w0 := by rw [← hw0]; exact (((Below.refl _ _).alloc (Nat.le_refl _) _).alloc (by simp) _).alloc (by simp <;> omega) _
  have hR0 : Blk w0 w.heap.size 102 #[.int .i64 ra, .int .i64 mo, .int .i64 sh] := by rw [← hw0]; exact ((Blk.new w _ _).alloc _).alloc _
  have hS0 : Blk w0 (w.heap.size + 1) 92 #[.slice AP N cP, .slice AM N cM] := by rw [← hw0]; exact (Blk.new' _ _ (by simp)).alloc _
  have hA0 : Blk w0 (w.heap.size + 1 + 1) 218 #[.int .i64 lo, .int .i64 hi] := by rw [← hw0]; exact Blk.new' _ _ (by simp)
  rw [hw0]
  clear hw0
  ((with_reducible refine (HSz.out _).mono ?_); rintro e w1 ⟨rfl, hb1⟩)
  have hA1 := hA0.kept hb1
  have q0 : w1.cell? ⟨w.heap.size + 1 + 1, 0, none⟩ = some (.int .i64 lo) := hA1.cell 0
  have q1 : w1.cell? ⟨w.heap.size + 1 + 1, 1, none⟩ = some (.int .i64 hi) := hA1.cell 1
  have hn1 : ((n : Int) != (n : Int)) = false := by simp
  go_wp2_with fail
  ((with_reducible refine (HSz.out _).mono ?_); rintro e w2 ⟨rfl, hb2⟩)
  have HK2 := Lib.hid (((Kept.of k0).call hb1).call hb2).2.2
  have HR2 := Lib.hid ((hR0.kept hb1).kept hb2)
  have HS2 := Lib.hid ((hS0.kept hb1).kept hb2)
  have HA2 := Lib.hid (hA1.kept hb2)
  clear hA1 q0 q1 hn1 hb1 hb2 k0 hR0 hS0 hA0
  go_wp2_with fail
  go_loopw [46] (fun c wr => ∃ k : Nat, k ≤ n ∧ c = .int .i64 k ∧ wr.ownsRow base 2 1 (.slice AP N cP) N (iv (applyP ra mo sh Ps Ms gs lo k)) ∧ wr.ownsRow base 2 1 (.slice AM N cM) N (iv (applyM mo sh Ms gs lo k)) ∧ But (fun b => 0 < N ∧ (b = bp ∨ b = bm)) w wr ∧
      Blk wr w.heap.size 102 #[.int .i64 ra, .int .i64 mo, .int .i64 sh] ∧ Blk wr (w.heap.size + 1) 92 #[.slice AP N cP, .slice AM N cM] ∧ Blk wr (w.heap.size + 1 + 1) 218 #[.int .i64 lo, .int .i64 hi]) (fun c _ => n - (intOf c).toNat)
  case atStart => exact ⟨0, by omega, rfl, by rw [applyP_zero]; exact own_below HP.out HK2.out, by rw [applyM_zero]; exact own_below HM.out HK2.out, But.of_below _ HK2.out, HR2.out, HS2.out, HA2.out⟩
  case round =>
    obtain ⟨k, hk, rfl, hP, hM, hB, hR, hS, hA⟩ := hrel
    by_cases hlt : k < n
    · obtain ⟨e1, e2, hne⟩ := HAP.out (by omega)
      subst e1 e2
      have hbp := (HP.out.lt bp rfl).2
      have hbm := (HM.out.lt bm rfl).2
      have hPk : lo + k < Ps.length := by rw [HPL.out]; omega
      have hMk : lo + k < Ms.length := by rw [HML.out]; omega
      have hGk : k < gs.length := by rw [HGL.out]; exact hlt
      have gP := List.getElem?_eq_getElem hPk
      have gM := List.getElem?_eq_getElem hMk
      have gG := List.getElem?_eq_getElem hGk
      have iP := HPI.out _ (List.getElem_mem hPk)
      have iM := HMI.out _ (List.getElem_mem hMk)
      generalize Ps[lo + k] = p at gP iP
      generalize Ms[lo + k] = m at gM iM
      generalize gs[k] = g at gG
      obtain ⟨b, o, g', rfl, hbl, hg', cg⟩ := iv_at HGL.out (HG.out.but hB (fun b o e h0 hh => by have := HGB.out b o e h0; omega)) hlt
      obtain rfl : g' = g := by rw [gG] at hg'; injection hg' with e; exact e.symm
      obtain ⟨j, hj⟩ : ∃ j, lo + k = j := ⟨_, rfl⟩
      rw [hj] at gP gM
      have HU := Lib.hid (fun W (kW : Kept wr W) => update_any ra mo sh p m g' bp bm j N N cP cM base _ _ W (own_below hP kW.2.2) (own_below hM kW.2.2) (by rw [← hj]; exact applyP_at _ _ _ _ _ _ _ _ _ (by rw [hj]; exact gP)) (by rw [← hj]; exact applyM_at _ _ _ _ _ _ _ (by rw [hj]; exact gM)) hne hra hmo iP iM)
      have HPn := Lib.hid (applyP_next ra mo sh Ps Ms gs lo k p m g' (by rw [hj]; exact gP) (by rw [hj]; exact gM) gG)
      have HMn := Lib.hid (applyM_next mo sh Ms gs lo k m g' (by rw [hj]; exact gM) gG)
      have c0 : wr.cell? ⟨w.heap.size, 0, none⟩ = some (.int .i64 ra) := hR.cell 0
      have c1 : wr.cell? ⟨w.heap.size, 1, none⟩ = some (.int .i64 mo) := hR.cell 1
      have c2 : wr.cell? ⟨w.heap.size, 2, none⟩ = some (.int .i64 sh) := hR.cell 2
      have c3 : wr.cell? ⟨w.heap.size + 1, 0, none⟩ = some (.slice (some ⟨bp, 0, none⟩) N cP) := hS.cell 0
      have c4 : wr.cell? ⟨w.heap.size + 1, 1, none⟩ = some (.slice (some ⟨bm, 0, none⟩) N cM) := hS.cell 1
      have c5 : wr.cell? ⟨w.heap.size + 1 + 1, 0, none⟩ = some (.int .i64 lo) := hA.cell 0
      have lt0 := hA.lt
      have lt1 := hS.lt
      have lt2 := hR.lt
      have z1 : IntKind.i64.wrap ((lo : Int) + (k : Int)) = (j : Int) := by rw [IntWalk.i64_in _ (by omega)]; omega
      have z2 : (lo : Int) + (k : Int) = (j : Int) := by omega
      have i1 : (0 : Int) ≤ (j : Int) := by omega
      have i2 : (j : Int) < (N : Int) := by omega
      have i3 : (0 : Int) ≤ (k : Int) := by omega
      have i4 : (k : Int) < (n : Int) := by omega
      have HJ := Lib.hid hj
      have HB3 := Lib.hid hB
      have HR3 := Lib.hid hR
      have HS3 := Lib.hid hS
      have HA3 := Lib.hid hA
      clear hP hM hB hR hS hA gP gM gG hg' hj hPk hMk hGk
      go_wp2_with fail
      have KC := fun (u : KW wr) b o h => KW.cells u b o h
      refine wp_region_mix' wr [] [0, 1, 2, 3, 4, 5, 6, 7, 8, 9, 10, 11, 12, 13, 14, 15, 16, 17, 18] 19 [] (by kernel_rfl) (by kernel_rfl) (by kernel_rfl) (Kept.of (Below.refl _ _)) ?_
      simp only [PureW, List.filterMap_cons, List.filterMap_nil, List.getElem?_cons_succ, List.getElem?_cons_zero]
      change wpQuiet _ _ _ _ (_ :: _ :: _ :: _ :: _ :: _ :: _ :: _ :: _ :: _ :: _ :: _ :: _ :: _ :: _ :: _ :: _ :: _ :: _ :: []) _
      iterate 19 (go_big_quiet_step (fail))
      refine wpQuiet_nil ?_
      rintro ⟨w4, k4⟩
      change wpList _ _ _ (_ :: []) _ _
      dsimp only
      clear KC
      go_wp2_with fail
      ((with_reducible refine (HU.out _ k4).mono ?_); rintro e w5 ⟨rfl, hP5, hM5, hB5⟩)
      have HP5 := Lib.hid hP5
      have HM5 := Lib.hid hM5
      have HB5 := Lib.hid ((But.of_below (fun b => b = bp ∨ b = bm) k4.2.2).trans hB5)
      clear hP5 hM5 hB5 k4 HU c0 c1 c2 c3 c4 c5 cg z1 z2
      go_wp2_with fail
      refine NoPanic.normal ?_
      go_wp2
      go_roundw
      case rel => exact ⟨k + 1, by omega, by go_num, by rw [← HPn.out, HJ.out]; exact HP5.out, by rw [← HMn.out, HJ.out]; exact HM5.out, HB3.out.trans (HB5.out.mono (fun i _ h => ⟨by omega, h⟩)), HR3.out.but HB5.out (by omega), HS3.out.but HB5.out (by omega), HA3.out.but HB5.out (by omega)⟩
      case measure => simp [intOf]; omega
    · obtain rfl : k = n := by omega
      go_wp2
      go_ret
      exact ⟨rfl, hP, hM, hB⟩
end
section
open Go.RowKit
abbrev StS := Option Addr × Nat × Option Addr × Nat
def stv (N M : Nat) (l : List StS) : List Value := l.flatMap fun s => [.slice s.1 N s.2.1, .slice s.2.2.1 M s.2.2.2]
theorem stv_append (N M : Nat) (l k : List StS) : stv N M (l ++ k) = stv N M l ++ stv N M k := by simp [stv]
theorem stv_cons (N M : Nat) (s : StS) (l : List StS) : stv N M (s :: l) = .slice s.1 N s.2.1 :: .slice s.2.2.1 M s.2.2.2 :: stv N M l := rfl
theorem stv_get (N M : Nat) (l : List StS) (k : Nat) (s : StS) (hk : l[k]? = some s) : (stv N M l)[k * 2]? = some (.slice s.1 N s.2.1) ∧ (stv N M l)[k * 2 + 1]? = some (.slice s.2.2.1 M s.2.2.2) := by
  induction l generalizing k with
  | nil => simp at hk
  | cons r l ih =>
    rw [stv_cons]
    cases k with
    | zero =>
      obtain rfl : r = s := by simpa using hk
      exact ⟨rfl, rfl⟩
    | succ k =>
      have := ih k (by simpa using hk)
      rw [show (k + 1) * 2 = k * 2 + 2 by omega]
      simpa using this
theorem two_slices (A B : Option Addr) (N M c d : Nat) : ∀ u ∈ (#[Value.slice A N c, Value.slice B M d] : Array Value).toList, u.oneCell' = true := by
  intro u hu
  simp at hu
  rcases hu with rfl | rfl <;> rfl
theorem own_own_ne {w : World} {base base' : Nat} {e e' : TypeId} {size size' n n' : Nat} {v v' : Value} {xs xs' : List Value} (h : w.ownsRow base e size v n xs) (h' : w.ownsRow base' e' size' v' n' xs') (hne : e ≠ e') : v.ownBlock = none ∨ v.ownBlock ≠ v'.ownBlock := by
  rcases h'.2 with ⟨rfl, _⟩ | ⟨g', cap, cur, rfl, _, hh, _⟩
  · rcases h.2 with ⟨rfl, _⟩ | ⟨g, cap, cur, rfl, _⟩
    · exact .inl (by simp [Value.ownBlock])
    · exact .inr (by simp [Value.ownBlock])
  · exact .inr (by have := own_blk_ne h (g := g') (t := e') (cs := cur) hh hne; simpa [Value.ownBlock] using this)
def OwnS (w : World) (base N M : Nat) (l : List StS) (f : Nat → List Int × List Int) : Prop :=
  ∀ i s, l[i]? = some s → w.ownsRow base 2 1 (.slice s.1 N s.2.1) N (iv (f (i + 1)).1) ∧ w.ownsRow base 2 1 (.slice s.2.2.1 M s.2.2.2) M (iv (f (i + 1)).2)
theorem OwnS.below {w w' : World} {base N M : Nat} {l : List StS} {f : Nat → List Int × List Int} (h : OwnS w base N M l f) (hb : Below w.heap.size w w') : OwnS w' base N M l f := fun i s hs => ⟨own_below (h i s hs).1 hb, own_below (h i s hs).2 hb⟩
theorem OwnS.base {w : World} {base base' N M : Nat} {l : List StS} {f : Nat → List Int × List Int} (h : OwnS w base N M l f) (hb : base' ≤ base) : OwnS w base' N M l f := fun i s hs => ⟨own_base (h i s hs).1 hb, own_base (h i s hs).2 hb⟩
theorem OwnS.row {w w' : World} {base N M : Nat} {l : List StS} {f : Nat → List Int × List Int} {base' : Nat} {t : TypeId} {size n : Nat} {v : Value} {xs : List Value} (h : OwnS w base N M l f) (hv : w.ownsRow base' t size v n xs) (ht : 2 ≠ t) (hg : w.grownBy w' v.ownBlock) : OwnS w' base N M l f :=
  fun i s hs => ⟨(h i s hs).1.kept hg (own_own_ne (h i s hs).1 hv ht), (h i s hs).2.kept hg (own_own_ne (h i s hs).2 hv ht)⟩
theorem OwnS.blk {w w' : World} {base N M : Nat} {l : List StS} {f : Nat → List Int × List Int} {g : Nat} {t : TypeId} {cs : Array Value} (h : OwnS w base N M l f) (hv : Blk w g t cs) (ht : 2 ≠ t) (hg : w.grownBy w' (some g)) : OwnS w' base N M l f :=
  fun i s hs => ⟨(h i s hs).1.kept hg (.inr (own_blk_ne (h i s hs).1 hv ht)), (h i s hs).2.kept hg (.inr (own_blk_ne (h i s hs).2 hv ht))⟩
theorem OwnS.snoc {w : World} {base N M : Nat} {l : List StS} {f : Nat → List Int × List Int} {A B : Option Addr} {c d : Nat} (h : OwnS w base N M l f) (h1 : w.ownsRow base 2 1 (.slice A N c) N (iv (f (l.length + 1)).1)) (h2 : w.ownsRow base 2 1 (.slice B M d) M (iv (f (l.length + 1)).2)) : OwnS w base N M (l ++ [(A, c, B, d)]) f := by
  intro i s hs
  rw [List.getElem?_append] at hs
  split at hs
  · exact h i s hs
  · rename_i hi
    have : i = l.length := by
      have := (List.getElem?_eq_some_iff.1 hs).1
      simp at this
      omega
    subst this
    obtain rfl : (A, c, B, d) = s := by simpa using hs
    exact ⟨h1, h2⟩
end
section
open Go.RowKit
def szN (l : List Int) (k : Nat) : Nat := (l.getD k 0).toNat
def ofN (l : List Int) : Nat → Nat
  | 0 => 0
  | k + 1 => ofN l k + szN l (k + 1) * szN l k + szN l (k + 1)
def obN (l : List Int) (k : Nat) : Nat := ofN l k + szN l (k + 1) * szN l k
theorem ofN_succ (l : List Int) (k : Nat) : ofN l (k + 1) = obN l k + szN l (k + 1) := rfl
theorem ofN_mono (l : List Int) : ∀ j k, j ≤ k → ofN l j ≤ ofN l k := by
  intro j k h
  induction k with
  | zero => rw [Nat.le_zero.1 h]; exact Nat.le_refl _
  | succ k ih =>
    rcases Nat.lt_or_ge j (k + 1) with h1 | h1
    · have := ih (by omega)
      rw [ofN]; omega
    · rw [Nat.le_antisymm h h1]; exact Nat.le_refl _
structure NetP (l : List Int) (n NP : Nat) (P : List Int) (q : Int) : Prop where
  len : l.length = n
  n2 : 2 ≤ n
  n16 : n ≤ 16
  pos : ∀ (k : Nat) (x : Int), l[k]? = some x → 1 ≤ x ∧ x ≤ 1000
  cnt : ofN l (n - 1) = NP
  np : NP ≤ 1000
  pl : P.length = NP
  pin : AllIn P
  q0 : 0 ≤ q
  q62 : q ≤ 62
end
section
open Go.RowKit
variable {l : List Int} {n NP : Nat} {P : List Int} {q : Int}
theorem NetP.sz (h : NetP l n NP P q) {k : Nat} (hk : k < n) : l[k]? = some (szN l k : Int) ∧ 1 ≤ szN l k ∧ szN l k ≤ 1000 := by
  obtain ⟨x, hx⟩ : ∃ x, l[k]? = some x := ⟨_, List.getElem?_eq_getElem (by rw [h.len]; exact hk)⟩
  have hp := h.pos k x hx
  have e : szN l k = x.toNat := by rw [szN, List.getD_eq_getElem?_getD, hx]; rfl
  rw [hx, e]
  refine ⟨by congr 1; omega, by omega, by omega⟩
theorem NetP.getD (h : NetP l n NP P q) {k : Nat} (hk : k < n) : l.getD k 0 = (szN l k : Int) := by rw [List.getD_eq_getElem?_getD, (h.sz hk).1]; rfl
theorem NetP.cnt_eq (h : NetP l n NP P q) : ∀ k, k < n → cntS l k = (ofN l k : Int) := by
  intro k
  induction k with
  | zero => intro _; rfl
  | succ k ih =>
    intro hk
    have h1 := h.getD hk
    have h2 := h.getD (show k < n by omega)
    have e := ih (by omega)
    show _ = ((ofN l k + szN l (k + 1) * szN l k + szN l (k + 1) : Nat) : Int)
    rw [cntS]
    rw [e, h1, h2]
    rw [Int.add_mul, Int.one_mul, Int.mul_comm]
    simp only [Int.natCast_add, Int.natCast_mul]
    omega
theorem NetP.fit (h : NetP l n NP P q) {k : Nat} (hk : k < n - 1) : obN l k + szN l (k + 1) ≤ NP := by
  rw [← h.cnt, ← ofN_succ]
  exact ofN_mono l _ _ (by omega)
end
section
open Go.RowKit
def wtL (l P : List Int) (k : Nat) : List Int := (P.drop (ofN l k)).take (szN l (k + 1) * szN l k)
def bsL (l P : List Int) (k : Nat) : List Int := (P.drop (obN l k)).take (szN l (k + 1))
def lkE (l : List Int) (k : Nat) (s : StS) : List Value := [.int .i64 (szN l (k + 1)), .int .i64 (szN l k), .slice s.1 (szN l (k + 1) * szN l k) s.2.1, .slice s.2.2.1 (szN l (k + 1)) s.2.2.2]
def lkV (l : List Int) (ls : List StS) : List Value := ls.zipIdx.flatMap fun x => lkE l x.2 x.1
theorem lkV_snoc (l : List Int) (ls : List StS) (s : StS) : lkV l (ls ++ [s]) = lkV l ls ++ lkE l ls.length s := by simp [lkV, List.zipIdx_append]
theorem chunk_get {α : Type} {β : Type} (f : α → List β) (c : Nat) (hf : ∀ x, (f x).length = c) : ∀ (l : List α) (k j : Nat) (x : α), j < c → l[k]? = some x → (l.flatMap f)[k * c + j]? = (f x)[j]? := by
  intro l
  induction l with
  | nil => intro k j x _ h; simp at h
  | cons a l ih =>
    intro k j x hj h
    rw [List.flatMap_cons]
    cases k with
    | zero =>
      obtain rfl : a = x := by simpa using h
      rw [Nat.zero_mul, Nat.zero_add, List.getElem?_append_left (by rw [hf]; exact hj)]
    | succ k =>
      rw [List.getElem?_append_right (by rw [hf, Nat.succ_mul]; omega), hf, show (k + 1) * c + j - c = k * c + j by rw [Nat.succ_mul]; omega]
      exact ih k j x hj (by simpa using h)
theorem lkV_get (l : List Int) (ls : List StS) (k j : Nat) (s : StS) (hj : j < 4) (hk : ls[k]? = some s) : (lkV l ls)[k * 4 + j]? = (lkE l k s)[j]? :=
  chunk_get (fun x : StS × Nat => lkE l x.2 x.1) 4 (fun _ => rfl) ls.zipIdx k j (s, k) hj (by simp [hk])
theorem slLink : Sl Tryz.prog 266 275 (.agg #[.int .i64 0, .int .i64 0, .slice none 0 0, .slice none 0 0]) 4 64 := ⟨Tryz.underlying266, by kernel_rfl, rfl, by omega⟩
def LkOk (w : World) (l P : List Int) (Ap : Option Addr) (cp : Nat) (ls : List StS) (lb : Nat) : Prop := ∀ k s, ls[k]? = some s →
  w.ownsRow lb 2 1 (.slice s.1 (szN l (k + 1) * szN l k) s.2.1) (szN l (k + 1) * szN l k) (iv (wtL l P k)) ∧ s.2.2.1 = pcA_RedMove Ap cp (obN l k) ∧ s.2.2.2 = cp - obN l k
theorem LkOk.nil (w : World) (l P : List Int) (Ap : Option Addr) (cp lb : Nat) : LkOk w l P Ap cp [] lb := fun k s h => by simp at h
theorem LkOk.snoc {w : World} {l P : List Int} {Ap : Option Addr} {cp : Nat} {ls : List StS} {AV : Option Addr} {cV lb : Nat} (h : LkOk w l P Ap cp ls lb) (hV : w.ownsRow lb 2 1 (.slice AV (szN l (ls.length + 1) * szN l ls.length) cV) (szN l (ls.length + 1) * szN l ls.length) (iv (wtL l P ls.length))) :
    LkOk w l P Ap cp (ls ++ [(AV, cV, pcA_RedMove Ap cp (obN l ls.length), cp - obN l ls.length)]) lb := by
  intro k s hs
  by_cases hk : k < ls.length
  · rw [List.getElem?_append_left hk] at hs
    exact h k s hs
  · have hk2 : k < (ls ++ [(AV, cV, pcA_RedMove Ap cp (obN l ls.length), cp - obN l ls.length)]).length := (List.getElem?_eq_some_iff.1 hs).1
    simp at hk2
    obtain rfl : k = ls.length := by omega
    rw [List.getElem?_append_right (by omega)] at hs
    simp at hs
    subst hs
    exact ⟨hV, rfl, rfl⟩
theorem LkOk.stay {t u : TypeId} {w w' : World} {l P : List Int} {Ap : Option Addr} {cp : Nat} {ls : List StS} {lb : Nat} (h : LkOk w l P Ap cp ls lb) (hs : Stay t u w w') (hz : w.heap.size ≤ w'.heap.size) (h1 : 2 ≠ t) (h2 : 2 ≠ u) : LkOk w' l P Ap cp ls lb :=
  fun k s hk => ⟨hs.own hz (h k s hk).1 h1 h2, (h k s hk).2⟩
theorem LkOk.below {w w' : World} {l P : List Int} {Ap : Option Addr} {cp : Nat} {ls : List StS} {lb : Nat} (h : LkOk w l P Ap cp ls lb) (hb : Below w.heap.size w w') : LkOk w' l P Ap cp ls lb :=
  fun k s hk => ⟨own_below (h k s hk).1 hb, (h k s hk).2⟩
theorem ShapeAt.stay {t u : TypeId} {w w' : World} {base bs n : Nat} {l : List Int} (h : ShapeAt w base bs l n) (hs : Stay t u w w') (hz : w.heap.size ≤ w'.heap.size) (h1 : 228 ≠ t ∧ 228 ≠ u) (h2 : 3 ≠ t ∧ 3 ≠ u) (h3 : 218 ≠ t ∧ 218 ≠ u) : ShapeAt w' base bs l n := by
  obtain ⟨h0, A, c, Aw, cw, Ab, cb, k1, k2, k3, k4⟩ := h
  exact ⟨h0, A, c, Aw, cw, Ab, cb, hs _ _ _ h1.1 h1.2 k1, hs.own hz k2 h2.1 h2.2, hs.own hz k3 h3.1 h3.2, hs.own hz k4 h3.1 h3.2⟩
abbrev netC (bs : Nat) (Ap : Option Addr) (NP cp : Nat) (q : Int) (Al : Option Addr) (k cl : Nat) : Array Value := #[.pointer (some ⟨bs, 0, none⟩), .slice Ap NP cp, .int .i64 q, .slice Al k cl]
structure NetIn (w : World) (nb : Nat) (l : List Int) (n NP : Nat) (P : List Int) (q : Int) (base bs : Nat) (Ap : Option Addr) (cp : Nat) (Al : Option Addr) (cl : Nat) (ls : List StS) (lb : Nat) : Prop where
  blk : Blk w nb 268 (netC bs Ap NP cp q Al (n - 1) cl)
  shp : ShapeAt w base bs l n
  prow : w.ownsRow lb 2 1 (.slice Ap NP cp) NP (iv P)
  lrow : w.ownsRow lb 275 4 (.slice Al (n - 1) cl) (n - 1) (lkV l ls)
  len : ls.length = n - 1
  wts : LkOk w l P Ap cp ls lb
  nbl : lb ≤ nb
def NetAt (w : World) (nb : Nat) (l : List Int) (n NP : Nat) (P : List Int) (q : Int) : Prop := ∃ base bs Ap cp Al cl ls lb, NetIn w nb l n NP P q base bs Ap cp Al cl ls lb
theorem NetIn.below {w w' : World} {nb : Nat} {l : List Int} {n NP : Nat} {P : List Int} {q : Int} {base bs : Nat} {Ap : Option Addr} {cp : Nat} {Al : Option Addr} {cl : Nat} {ls : List StS} {lb : Nat} (h : NetIn w nb l n NP P q base bs Ap cp Al cl ls lb) (hb : Below w.heap.size w w') : NetIn w' nb l n NP P q base bs Ap cp Al cl ls lb :=
  ⟨h.blk.kept hb, h.shp.below hb, own_below h.prow hb, own_below h.lrow hb, h.len, h.wts.below hb, h.nbl⟩
theorem NetAt.below {w w' : World} {nb : Nat} {l : List Int} {n NP : Nat} {P : List Int} {q : Int} (h : NetAt w nb l n NP P q) (hb : Below w.heap.size w w') : NetAt w' nb l n NP P q := by
  obtain ⟨base, bs, Ap, cp, Al, cl, ls, lb, h⟩ := h
  exact ⟨base, bs, Ap, cp, Al, cl, ls, lb, h.below hb⟩
def NetAtB (lb base bs : Nat) (w : World) (nb : Nat) (l : List Int) (n NP : Nat) (P : List Int) (q : Int) : Prop := ∃ Ap cp Al cl ls, NetIn w nb l n NP P q base bs Ap cp Al cl ls lb
theorem NetAtB.net {lb base bs : Nat} {w : World} {nb : Nat} {l : List Int} {n NP : Nat} {P : List Int} {q : Int} (h : NetAtB lb base bs w nb l n NP P q) : NetAt w nb l n NP P q := by
  obtain ⟨Ap, cp, Al, cl, ls, h⟩ := h
  exact ⟨base, bs, Ap, cp, Al, cl, ls, lb, h⟩
theorem NetAtB.below {lb base bs : Nat} {w w' : World} {nb : Nat} {l : List Int} {n NP : Nat} {P : List Int} {q : Int} (h : NetAtB lb base bs w nb l n NP P q) (hb : Below w.heap.size w w') : NetAtB lb base bs w' nb l n NP P q := by
  obtain ⟨Ap, cp, Al, cl, ls, h⟩ := h
  exact ⟨Ap, cp, Al, cl, ls, h.below hb⟩
theorem NetAtB.but {T : Nat → Prop} {lb base bs : Nat} {w w' : World} {nb : Nat} {l : List Int} {n NP : Nat} {P : List Int} {q : Int} (h : NetAtB lb base bs w nb l n NP P q) (hb : But T w w') (hT : ∀ i, T i → i < lb) (hs : ShapeAt w' base bs l n) : NetAtB lb base bs w' nb l n NP P q := by
  obtain ⟨Ap, cp, Al, cl, ls, h⟩ := h
  have ho : ∀ {e : TypeId} {size n : Nat} {v : Value} {xs : List Value}, w.ownsRow lb e size v n xs → w'.ownsRow lb e size v n xs := fun {e size n v xs} r => by
    refine ⟨r.1, ?_⟩
    have hlt := r.lt
    rcases r.2 with r2 | ⟨g, cap, cur, rfl, hbg, hh, r3⟩
    · exact .inl r2
    · exact .inr ⟨g, cap, cur, rfl, hbg, (hb.block g (hlt g rfl).2 (fun e => by have := hT g e; omega)).trans hh, r3⟩
  exact ⟨Ap, cp, Al, cl, ls, (hb.block nb h.blk.lt (fun e => by have := hT nb e; have := h.nbl; omega)).trans h.blk, hs, ho h.prow, ho h.lrow, h.len, fun k s hk => ⟨ho (h.wts k s hk).1, (h.wts k s hk).2⟩, h.nbl⟩
end
end Go.Proofs.YtkmaeipoaoikpaaGreat
