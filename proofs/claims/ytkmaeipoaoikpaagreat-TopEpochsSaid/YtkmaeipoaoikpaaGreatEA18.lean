/-
  Lemmas and contracts (18 of 44): RoundAdd.
-/
import Derived.WalkKit
import Derived.WalkSpells
import Derived.WalkLawsBesides
import Derived.Lib.Hide
import Derived.Deep.QuietTactic
import Derived.BigQuiet
import Derived.IntWalk
import Derived.Deep.RegionHeld3
import Derived.Maps.AppendAt
import Derived.ProofKit
import Derived.OpenShut
import Derived.Deep.Slices
import Derived.Deep.Fields
import Derived.Test.YtkmaeipoaoikpaaGreatProg
import Derived.Laws.OwnMore
import Derived.Deep.Draws
import Derived.Laws.Rows
import Derived.Laws.EntriesVeiled
import Derived.RangeFuncNested
import Derived.RangeFuncBox
import Derived.RangeFuncLeaves
import Derived.Shelf.Abstract
import Derived.OwnWalkIn
import Derived.TacticsInMore
import Derived.LoopNIn
import Derived.LoopIn
import Derived.StillTail
import Derived.OrdersIn
import Derived.RangeFuncCalls
import Derived.OrdersHeld
import Derived.Deep.DeepMust
import Derived.Deep.DeepCutAuto
import Derived.Test.YtkmaeipoaoikpaaGreatEA01
import Derived.Test.YtkmaeipoaoikpaaGreatEA02
import Derived.Test.YtkmaeipoaoikpaaGreatEA03
import Derived.Test.YtkmaeipoaoikpaaGreatEA04
import Derived.Test.YtkmaeipoaoikpaaGreatEA17
namespace Go.Proofs.YtkmaeipoaoikpaaGreat
set_option linter.unusedVariables false
set_option linter.unusedSimpArgs false
set_option maxRecDepth 100000
section
open Go.RowKit
set_option maxHeartbeats 400000 in
theorem add_miss (sd : Bool) (i m c Bj Bp Br Bl : Nat) (A : Option Addr) (w : World) (hmi : m ≤ i) (hi : i ≤ 1000000) :
    Calls Tryz.prog 262 #[.bool sd, .int .i64 i, .slice A m c, .pointer (some ⟨Bj, 0, none⟩), .pointer (some ⟨Bp, 0, none⟩), .pointer (some ⟨Br, 0, none⟩), .pointer (some ⟨Bl, 0, none⟩)] w fun e w' => e = .returned (.tuple #[]) ∧ w = w' := by
  go_enter Tryz.func262, Tryz.ntmps262
  go_wp2_with fail
  go_end0
  exact ⟨rfl, rfl⟩
def Added (base n Bl : Nat) (L : List RAct) (w : World) (e : Ending) (w' : World) : Prop :=
  e = .returned (.tuple #[]) ∧ ∃ A' cap', Boxed w' Bl 381 (.slice A' n cap') ∧ w'.ownsRow base 220 9 (.slice A' n cap') n (acts L) ∧ But (fun q => q = Bl ∨ base ≤ q) w w'
set_option maxHeartbeats 2000000 in
theorem add_send (p : Int) (i m c base n c0 : Nat) (s b lo hi mm cc r x y : Int) (A A0 : Option Addr) (Bj Bp Br Bl : Nat) (L : List RAct) (ys : List (Int × Int)) (w : World) (him : i < m) (hm : m ≤ 1000000) (hyl : ys.length = m) (hy : ys[i]? = some (x, y)) (hR : Rd w 2 A m (rv ys))
    (hJ : Blk w Bj 380 #[.int .i64 s, .int .i64 b, .int .i64 lo, .int .i64 hi, .int .i64 mm, .int .i64 cc]) (hP : Boxed w Bp 3 (.int .i64 p)) (hRr : Boxed w Br 3 (.int .i64 r)) (hL : Boxed w Bl 381 (.slice A0 n c0)) (hown : w.ownsRow base 220 9 (.slice A0 n c0) n (acts L)) (hn : n ≤ 1000000) (hbase : base ≤ w.heap.size) :
    Calls Tryz.prog 262 #[.bool true, .int .i64 i, .slice A m c, .pointer (some ⟨Bj, 0, none⟩), .pointer (some ⟨Bp, 0, none⟩), .pointer (some ⟨Br, 0, none⟩), .pointer (some ⟨Bl, 0, none⟩)] w (Added base (n + 1) Bl (L ++ [((true, false), (s, b, p, r, (i : Int)), (x, y))]) w) := by
  obtain ⟨g, o, x', y', rfl, hg, hxy, e0, e1⟩ := rd_at hyl hR him
  rw [hy] at hxy
  injection hxy with hxy
  injection hxy with e2 e3
  subst e2 e3
  have j0 : w.cell? ⟨Bj, 0, none⟩ = some (.int .i64 s) := hJ.cell 0
  have j1 : w.cell? ⟨Bj, 1, none⟩ = some (.int .i64 b) := hJ.cell 1
  have p0 := hP.cell
  have r0 := hRr.cell
  have lj := hJ.lt
  have lp := hP.lt
  have lr := hRr.lt
  have ll := hL.lt
  have i1 : (0 : Int) ≤ (i : Int) := by omega
  have i2 : (i : Int) < (m : Int) := by omega
  have HL := Lib.hid hL
  have HO := Lib.hid hown
  have HP := Lib.hid hP
  have HE := Lib.hid (And.intro e0 e1)
  clear hJ hP hRr hL hown hR hyl hy e0 e1
  go_enter Tryz.func262, Tryz.ntmps262
  go_wp2_with fail
  obtain ⟨w1, hw1⟩ : ∃ w1, w.alloc (.cells #[.int .i64 s, .int .i64 b, .int .i64 p, .int .i64 r, .int .i64 i] 216) = w1 := ⟨_, rfl⟩
  have k1 : Below w.heap.size w w1 := by rw [← hw1]; exact (Below.refl _ _).alloc (Nat.le_refl _) _
  have t1 : Blk w1 w.heap.size 216 #[.int .i64 s, .int .i64 b, .int .i64 p, .int .i64 r, .int .i64 i] := by rw [← hw1]; exact Blk.new _ _ _
  rw [hw1]
  clear hw1 j0 j1 p0 r0 lj lr
  have t0c : w1.cell? ⟨w.heap.size, 0, none⟩ = some (.int .i64 s) := t1.cell 0
  have t1c : w1.cell? ⟨w.heap.size, 1, none⟩ = some (.int .i64 b) := t1.cell 1
  have t2c : w1.cell? ⟨w.heap.size, 2, none⟩ = some (.int .i64 p) := t1.cell 2
  have t3c : w1.cell? ⟨w.heap.size, 3, none⟩ = some (.int .i64 r) := t1.cell 3
  have t4c : w1.cell? ⟨w.heap.size, 4, none⟩ = some (.int .i64 i) := t1.cell 4
  have tl := t1.lt
  have hL1 : Boxed w1 Bl 381 (.slice A0 n c0) := Blk.kept HL.out k1
  have hP1 : Boxed w1 Bp 3 (.int .i64 p) := Blk.kept HP.out k1
  have l0 := hL1.cell
  have pp := hP1.cell
  have e0 : w1.cell? ⟨g, o + i * 2, none⟩ = some (.int .i64 x) := (k1.cell (p := ⟨g, o + i * 2, none⟩) hg).trans HE.out.1
  have e1 : w1.cell? ⟨g, o + i * 2 + 1, none⟩ = some (.int .i64 y) := (k1.cell (p := ⟨g, o + i * 2 + 1, none⟩) hg).trans HE.out.2
  have ls := k1.size
  have g1 : g < w1.heap.size := by omega
  have g2 : Bl < w1.heap.size := by omega
  have g3 : Bp < w1.heap.size := by omega
  have HL1 := Lib.hid hL1
  have HO1 := Lib.hid (own_below HO.out k1)
  have HK1 := Lib.hid k1
  clear hL1 hP1 t1 k1 lp ll hg
  refine wp_region_early (Kept w1) [0, 1, 2, 3, 4, 5, 6, 7, 8, 9, 10, 11, 12, 13] [14] [15, 16] (by kernel_rfl) (by kernel_rfl) (Kept.start w1) ?_
  simp only [List.filterMap_cons, List.filterMap_nil, List.getElem?_cons_succ, List.getElem?_cons_zero]
  refine early_step (.slice A0 n c0) rfl (fun W hW => ?_) ?_
  · obtain ⟨hc, -, -⟩ := hW
    go_simp
  go_simp
  refine early_step (.bool true) rfl (fun W hW => ?_) ?_
  · obtain ⟨hc, -, -⟩ := hW
    go_simp
  go_simp
  refine early_step (.bool true) rfl (fun W hW => ?_) ?_
  · obtain ⟨hc, -, -⟩ := hW
    go_simp
  go_simp
  refine early_step (.bool false) rfl (fun W hW => ?_) ?_
  · obtain ⟨hc, -, -⟩ := hW
    go_simp
  go_simp
  refine early_step (.bool false) rfl (fun W hW => ?_) ?_
  · obtain ⟨hc, -, -⟩ := hW
    go_simp
  go_simp
  refine ⟨undef, .inr ⟨rfl, rfl⟩, ?_⟩
  go_simp
  refine ⟨undef, .inr ⟨rfl, rfl⟩, ?_⟩
  go_simp
  refine early_step (.bool false) rfl (fun W hW => ?_) ?_
  · obtain ⟨hc, -, -⟩ := hW
    go_simp
  go_simp
  refine early_step (.agg #[.int .i64 s, .int .i64 b, .int .i64 p, .int .i64 r, .int .i64 i]) rfl (fun W hW => ?_) ?_
  · obtain ⟨hc, -, -⟩ := hW
    go_simp
  go_simp
  refine early_step (.slice (some ⟨g, o, none⟩) m c) rfl (fun W hW => ?_) ?_
  · obtain ⟨hc, -, -⟩ := hW
    go_simp
  go_simp
  refine early_step (.int .i64 i) rfl (fun W hW => ?_) ?_
  · obtain ⟨hc, -, -⟩ := hW
    go_simp
  go_simp
  refine early_step (.pointer (some ⟨g, o + i * 2, none⟩)) rfl (fun W hW => ?_) ?_
  · obtain ⟨hc, -, -⟩ := hW
    go_simp
  go_simp
  refine early_step (.agg #[.int .i64 x, .int .i64 y]) rfl (fun W hW => ?_) ?_
  · obtain ⟨hc, -, -⟩ := hW
    go_simp
  go_simp
  refine early_step (.agg #[.bool true, .bool false, .int .i64 s, .int .i64 b, .int .i64 p, .int .i64 r, .int .i64 i, .int .i64 x, .int .i64 y]) rfl (fun W hW => ?_) ?_
  · obtain ⟨hc, -, -⟩ := hW
    go_simp
  go_simp
  change RestW _ _ _ _ _ (_ :: []) _ _
  unfold RestW
  go_wp2_with fail
  refine ⟨(Kept.start w1).alloc _, ?_⟩
  unfold RestW
  clear t0c t1c t2c t3c t4c l0 pp e0 e1
  change wpList _ _ _ (_ :: _ :: []) _ (w1.drew.alloc (.cells #[.bool true, .bool false, .int .i64 s, .int .i64 b, .int .i64 p, .int .i64 r, .int .i64 i, .int .i64 x, .int .i64 y] 220))
  have HL2 := Lib.hid (Blk.drew HL1.out)
  have HO2 := Lib.hid (own_drewN HO1.out 1)
  have hz1 : base ≤ w1.drew.heap.size := by show base ≤ w1.heap.size; omega
  go_wp2_with (at_builtin; go_must (refine wpList_pushG slAct rfl _ _ rfl base _ n (acts L) rfl HO2.out (actV ((true, false), (s, b, p, r, (i : Int)), (x, y))).toArray w1.heap.size rfl rfl rfl (actV_cells _) (by unfold maxLen; omega) (by omega) hz1 ?_); intro A' cap' w3 hown3 hb3 hgr3; (have HL3 := Lib.hid (Blk.other HL2.out HO2.out hgr3 (by decide))); (have v0 : w3.cell? ⟨Bl, 0, none⟩ = some (.slice A0 n c0) := HL3.out.cell 0); (have f0 := HL3.out.frozen 0))
  refine NoPanic.normal ?_
  go_wp2_with fail
  go_end0
  have hb : Boxed w3 Bl 381 (.slice A0 n c0) := HL3.out
  refine ⟨rfl, A', cap', hb.set _, ?_, ?_⟩
  · rw [acts_append, acts_one]
    exact hown3.kept (grownBy_setCell' _ _ _) (.inr (own_blk_ne hown3 HL3.out (by decide)))
  · exact ((But.of_below _ HK1.out).trans (But.of_below _ (Below.refl _ _).drew)).trans ((But.of_own hgr3 (fun q hq => .inr (HO1.out.lt q hq).1)).trans (But.of_gr (grownBy_setCell' _ _ _) (.inl rfl)))
set_option maxHeartbeats 2000000 in
theorem add_recv0 (i m c base n c0 : Nat) (s b lo hi mm cc r x y : Int) (A A0 : Option Addr) (Bj Bp Br Bl : Nat) (L : List RAct) (ys : List (Int × Int)) (w : World) (him : i < m) (hm : m ≤ 1000000) (hyl : ys.length = m) (hy : ys[i]? = some (x, y)) (hR : Rd w 2 A m (rv ys))
    (hJ : Blk w Bj 380 #[.int .i64 s, .int .i64 b, .int .i64 lo, .int .i64 hi, .int .i64 mm, .int .i64 cc]) (hP : Boxed w Bp 3 (.int .i64 0)) (hRr : Boxed w Br 3 (.int .i64 r)) (hL : Boxed w Bl 381 (.slice A0 n c0)) (hown : w.ownsRow base 220 9 (.slice A0 n c0) n (acts L)) (hn : n ≤ 1000000) (hbase : base ≤ w.heap.size) :
    Calls Tryz.prog 262 #[.bool false, .int .i64 i, .slice A m c, .pointer (some ⟨Bj, 0, none⟩), .pointer (some ⟨Bp, 0, none⟩), .pointer (some ⟨Br, 0, none⟩), .pointer (some ⟨Bl, 0, none⟩)] w (Added base (n + 1) Bl (L ++ [((false, true), (s, b, 0, r, (i : Int)), (x, y))]) w) := by
  obtain ⟨g, o, x', y', rfl, hg, hxy, e0, e1⟩ := rd_at hyl hR him
  rw [hy] at hxy
  injection hxy with hxy
  injection hxy with e2 e3
  subst e2 e3
  have j0 : w.cell? ⟨Bj, 0, none⟩ = some (.int .i64 s) := hJ.cell 0
  have j1 : w.cell? ⟨Bj, 1, none⟩ = some (.int .i64 b) := hJ.cell 1
  have p0 := hP.cell
  have r0 := hRr.cell
  have lj := hJ.lt
  have lp := hP.lt
  have lr := hRr.lt
  have ll := hL.lt
  have i1 : (0 : Int) ≤ (i : Int) := by omega
  have i2 : (i : Int) < (m : Int) := by omega
  have HL := Lib.hid hL
  have HO := Lib.hid hown
  have HP := Lib.hid hP
  have HE := Lib.hid (And.intro e0 e1)
  clear hJ hP hRr hL hown hR hyl hy e0 e1
  go_enter Tryz.func262, Tryz.ntmps262
  go_wp2_with fail
  obtain ⟨w1, hw1⟩ : ∃ w1, w.alloc (.cells #[.int .i64 s, .int .i64 b, .int .i64 0, .int .i64 r, .int .i64 i] 216) = w1 := ⟨_, rfl⟩
  have k1 : Below w.heap.size w w1 := by rw [← hw1]; exact (Below.refl _ _).alloc (Nat.le_refl _) _
  have t1 : Blk w1 w.heap.size 216 #[.int .i64 s, .int .i64 b, .int .i64 0, .int .i64 r, .int .i64 i] := by rw [← hw1]; exact Blk.new _ _ _
  rw [hw1]
  clear hw1 j0 j1 p0 r0 lj lr
  have t0c : w1.cell? ⟨w.heap.size, 0, none⟩ = some (.int .i64 s) := t1.cell 0
  have t1c : w1.cell? ⟨w.heap.size, 1, none⟩ = some (.int .i64 b) := t1.cell 1
  have t2c : w1.cell? ⟨w.heap.size, 2, none⟩ = some (.int .i64 0) := t1.cell 2
  have t3c : w1.cell? ⟨w.heap.size, 3, none⟩ = some (.int .i64 r) := t1.cell 3
  have t4c : w1.cell? ⟨w.heap.size, 4, none⟩ = some (.int .i64 i) := t1.cell 4
  have tl := t1.lt
  have hL1 : Boxed w1 Bl 381 (.slice A0 n c0) := Blk.kept HL.out k1
  have hP1 : Boxed w1 Bp 3 (.int .i64 0) := Blk.kept HP.out k1
  have l0 := hL1.cell
  have pp := hP1.cell
  have e0 : w1.cell? ⟨g, o + i * 2, none⟩ = some (.int .i64 x) := (k1.cell (p := ⟨g, o + i * 2, none⟩) hg).trans HE.out.1
  have e1 : w1.cell? ⟨g, o + i * 2 + 1, none⟩ = some (.int .i64 y) := (k1.cell (p := ⟨g, o + i * 2 + 1, none⟩) hg).trans HE.out.2
  have ls := k1.size
  have g1 : g < w1.heap.size := by omega
  have g2 : Bl < w1.heap.size := by omega
  have g3 : Bp < w1.heap.size := by omega
  have HL1 := Lib.hid hL1
  have HO1 := Lib.hid (own_below HO.out k1)
  have HK1 := Lib.hid k1
  clear hL1 hP1 t1 k1 lp ll hg
  refine wp_region_early (Kept w1) [0, 1, 2, 3, 4, 5, 6, 7, 8, 9, 10, 11, 12, 13] [14] [15, 16] (by kernel_rfl) (by kernel_rfl) (Kept.start w1) ?_
  simp only [List.filterMap_cons, List.filterMap_nil, List.getElem?_cons_succ, List.getElem?_cons_zero]
  refine early_step (.slice A0 n c0) rfl (fun W hW => ?_) ?_
  · obtain ⟨hc, -, -⟩ := hW
    go_simp
  go_simp
  refine early_step (.bool false) rfl (fun W hW => ?_) ?_
  · obtain ⟨hc, -, -⟩ := hW
    go_simp
  go_simp
  refine early_step (.bool false) rfl (fun W hW => ?_) ?_
  · obtain ⟨hc, -, -⟩ := hW
    go_simp
  go_simp
  refine early_step (.bool true) rfl (fun W hW => ?_) ?_
  · obtain ⟨hc, -, -⟩ := hW
    go_simp
  go_simp
  refine early_step (.bool true) rfl (fun W hW => ?_) ?_
  · obtain ⟨hc, -, -⟩ := hW
    go_simp
  go_simp
  refine early_step (.int .i64 0) rfl (fun W hW => ?_) ?_
  · obtain ⟨hc, -, -⟩ := hW
    go_simp
  go_simp
  refine early_step (.bool true) rfl (fun W hW => ?_) ?_
  · obtain ⟨hc, -, -⟩ := hW
    go_simp
  go_simp
  refine early_step (.bool true) rfl (fun W hW => ?_) ?_
  · obtain ⟨hc, -, -⟩ := hW
    go_simp
  go_simp
  refine early_step (.agg #[.int .i64 s, .int .i64 b, .int .i64 0, .int .i64 r, .int .i64 i]) rfl (fun W hW => ?_) ?_
  · obtain ⟨hc, -, -⟩ := hW
    go_simp
  go_simp
  refine early_step (.slice (some ⟨g, o, none⟩) m c) rfl (fun W hW => ?_) ?_
  · obtain ⟨hc, -, -⟩ := hW
    go_simp
  go_simp
  refine early_step (.int .i64 i) rfl (fun W hW => ?_) ?_
  · obtain ⟨hc, -, -⟩ := hW
    go_simp
  go_simp
  refine early_step (.pointer (some ⟨g, o + i * 2, none⟩)) rfl (fun W hW => ?_) ?_
  · obtain ⟨hc, -, -⟩ := hW
    go_simp
  go_simp
  refine early_step (.agg #[.int .i64 x, .int .i64 y]) rfl (fun W hW => ?_) ?_
  · obtain ⟨hc, -, -⟩ := hW
    go_simp
  go_simp
  refine early_step (.agg #[.bool false, .bool true, .int .i64 s, .int .i64 b, .int .i64 0, .int .i64 r, .int .i64 i, .int .i64 x, .int .i64 y]) rfl (fun W hW => ?_) ?_
  · obtain ⟨hc, -, -⟩ := hW
    go_simp
  go_simp
  change RestW _ _ _ _ _ (_ :: []) _ _
  unfold RestW
  go_wp2_with fail
  refine ⟨(Kept.start w1).alloc _, ?_⟩
  unfold RestW
  clear t0c t1c t2c t3c t4c l0 pp e0 e1
  change wpList _ _ _ (_ :: _ :: []) _ (w1.drew.alloc (.cells #[.bool false, .bool true, .int .i64 s, .int .i64 b, .int .i64 0, .int .i64 r, .int .i64 i, .int .i64 x, .int .i64 y] 220))
  have HL2 := Lib.hid (Blk.drew HL1.out)
  have HO2 := Lib.hid (own_drewN HO1.out 1)
  have hz1 : base ≤ w1.drew.heap.size := by show base ≤ w1.heap.size; omega
  go_wp2_with (at_builtin; go_must (refine wpList_pushG slAct rfl _ _ rfl base _ n (acts L) rfl HO2.out (actV ((false, true), (s, b, 0, r, (i : Int)), (x, y))).toArray w1.heap.size rfl rfl rfl (actV_cells _) (by unfold maxLen; omega) (by omega) hz1 ?_); intro A' cap' w3 hown3 hb3 hgr3; (have HL3 := Lib.hid (Blk.other HL2.out HO2.out hgr3 (by decide))); (have v0 : w3.cell? ⟨Bl, 0, none⟩ = some (.slice A0 n c0) := HL3.out.cell 0); (have f0 := HL3.out.frozen 0))
  refine NoPanic.normal ?_
  go_wp2_with fail
  go_end0
  have hb : Boxed w3 Bl 381 (.slice A0 n c0) := HL3.out
  refine ⟨rfl, A', cap', hb.set _, ?_, ?_⟩
  · rw [acts_append, acts_one]
    exact hown3.kept (grownBy_setCell' _ _ _) (.inr (own_blk_ne hown3 HL3.out (by decide)))
  · exact ((But.of_below _ HK1.out).trans (But.of_below _ (Below.refl _ _).drew)).trans ((But.of_own hgr3 (fun q hq => .inr (HO1.out.lt q hq).1)).trans (But.of_gr (grownBy_setCell' _ _ _) (.inl rfl)))
set_option maxHeartbeats 2000000 in
theorem add_recv1 (i m c base n c0 : Nat) (s b lo hi mm cc r x y : Int) (A A0 : Option Addr) (Bj Bp Br Bl : Nat) (L : List RAct) (ys : List (Int × Int)) (w : World) (him : i < m) (hm : m ≤ 1000000) (hyl : ys.length = m) (hy : ys[i]? = some (x, y)) (hR : Rd w 2 A m (rv ys))
    (hJ : Blk w Bj 380 #[.int .i64 s, .int .i64 b, .int .i64 lo, .int .i64 hi, .int .i64 mm, .int .i64 cc]) (hP : Boxed w Bp 3 (.int .i64 1)) (hRr : Boxed w Br 3 (.int .i64 r)) (hL : Boxed w Bl 381 (.slice A0 n c0)) (hown : w.ownsRow base 220 9 (.slice A0 n c0) n (acts L)) (hn : n ≤ 1000000) (hbase : base ≤ w.heap.size) :
    Calls Tryz.prog 262 #[.bool false, .int .i64 i, .slice A m c, .pointer (some ⟨Bj, 0, none⟩), .pointer (some ⟨Bp, 0, none⟩), .pointer (some ⟨Br, 0, none⟩), .pointer (some ⟨Bl, 0, none⟩)] w (Added base (n + 1) Bl (L ++ [((false, false), (s, b, 1, r, (i : Int)), (x, y))]) w) := by
  obtain ⟨g, o, x', y', rfl, hg, hxy, e0, e1⟩ := rd_at hyl hR him
  rw [hy] at hxy
  injection hxy with hxy
  injection hxy with e2 e3
  subst e2 e3
  have j0 : w.cell? ⟨Bj, 0, none⟩ = some (.int .i64 s) := hJ.cell 0
  have j1 : w.cell? ⟨Bj, 1, none⟩ = some (.int .i64 b) := hJ.cell 1
  have p0 := hP.cell
  have r0 := hRr.cell
  have lj := hJ.lt
  have lp := hP.lt
  have lr := hRr.lt
  have ll := hL.lt
  have i1 : (0 : Int) ≤ (i : Int) := by omega
  have i2 : (i : Int) < (m : Int) := by omega
  have HL := Lib.hid hL
  have HO := Lib.hid hown
  have HP := Lib.hid hP
  have HE := Lib.hid (And.intro e0 e1)
  clear hJ hP hRr hL hown hR hyl hy e0 e1
  go_enter Tryz.func262, Tryz.ntmps262
  go_wp2_with fail
  obtain ⟨w1, hw1⟩ : ∃ w1, w.alloc (.cells #[.int .i64 s, .int .i64 b, .int .i64 1, .int .i64 r, .int .i64 i] 216) = w1 := ⟨_, rfl⟩
  have k1 : Below w.heap.size w w1 := by rw [← hw1]; exact (Below.refl _ _).alloc (Nat.le_refl _) _
  have t1 : Blk w1 w.heap.size 216 #[.int .i64 s, .int .i64 b, .int .i64 1, .int .i64 r, .int .i64 i] := by rw [← hw1]; exact Blk.new _ _ _
  rw [hw1]
  clear hw1 j0 j1 p0 r0 lj lr
  have t0c : w1.cell? ⟨w.heap.size, 0, none⟩ = some (.int .i64 s) := t1.cell 0
  have t1c : w1.cell? ⟨w.heap.size, 1, none⟩ = some (.int .i64 b) := t1.cell 1
  have t2c : w1.cell? ⟨w.heap.size, 2, none⟩ = some (.int .i64 1) := t1.cell 2
  have t3c : w1.cell? ⟨w.heap.size, 3, none⟩ = some (.int .i64 r) := t1.cell 3
  have t4c : w1.cell? ⟨w.heap.size, 4, none⟩ = some (.int .i64 i) := t1.cell 4
  have tl := t1.lt
  have hL1 : Boxed w1 Bl 381 (.slice A0 n c0) := Blk.kept HL.out k1
  have hP1 : Boxed w1 Bp 3 (.int .i64 1) := Blk.kept HP.out k1
  have l0 := hL1.cell
  have pp := hP1.cell
  have e0 : w1.cell? ⟨g, o + i * 2, none⟩ = some (.int .i64 x) := (k1.cell (p := ⟨g, o + i * 2, none⟩) hg).trans HE.out.1
  have e1 : w1.cell? ⟨g, o + i * 2 + 1, none⟩ = some (.int .i64 y) := (k1.cell (p := ⟨g, o + i * 2 + 1, none⟩) hg).trans HE.out.2
  have ls := k1.size
  have g1 : g < w1.heap.size := by omega
  have g2 : Bl < w1.heap.size := by omega
  have g3 : Bp < w1.heap.size := by omega
  have HL1 := Lib.hid hL1
  have HO1 := Lib.hid (own_below HO.out k1)
  have HK1 := Lib.hid k1
  clear hL1 hP1 t1 k1 lp ll hg
  refine wp_region_early (Kept w1) [0, 1, 2, 3, 4, 5, 6, 7, 8, 9, 10, 11, 12, 13] [14] [15, 16] (by kernel_rfl) (by kernel_rfl) (Kept.start w1) ?_
  simp only [List.filterMap_cons, List.filterMap_nil, List.getElem?_cons_succ, List.getElem?_cons_zero]
  refine early_step (.slice A0 n c0) rfl (fun W hW => ?_) ?_
  · obtain ⟨hc, -, -⟩ := hW
    go_simp
  go_simp
  refine early_step (.bool false) rfl (fun W hW => ?_) ?_
  · obtain ⟨hc, -, -⟩ := hW
    go_simp
  go_simp
  refine early_step (.bool false) rfl (fun W hW => ?_) ?_
  · obtain ⟨hc, -, -⟩ := hW
    go_simp
  go_simp
  refine early_step (.bool true) rfl (fun W hW => ?_) ?_
  · obtain ⟨hc, -, -⟩ := hW
    go_simp
  go_simp
  refine early_step (.bool true) rfl (fun W hW => ?_) ?_
  · obtain ⟨hc, -, -⟩ := hW
    go_simp
  go_simp
  refine early_step (.int .i64 1) rfl (fun W hW => ?_) ?_
  · obtain ⟨hc, -, -⟩ := hW
    go_simp
  go_simp
  refine early_step (.bool false) rfl (fun W hW => ?_) ?_
  · obtain ⟨hc, -, -⟩ := hW
    go_simp
  go_simp
  refine early_step (.bool false) rfl (fun W hW => ?_) ?_
  · obtain ⟨hc, -, -⟩ := hW
    go_simp
  go_simp
  refine early_step (.agg #[.int .i64 s, .int .i64 b, .int .i64 1, .int .i64 r, .int .i64 i]) rfl (fun W hW => ?_) ?_
  · obtain ⟨hc, -, -⟩ := hW
    go_simp
  go_simp
  refine early_step (.slice (some ⟨g, o, none⟩) m c) rfl (fun W hW => ?_) ?_
  · obtain ⟨hc, -, -⟩ := hW
    go_simp
  go_simp
  refine early_step (.int .i64 i) rfl (fun W hW => ?_) ?_
  · obtain ⟨hc, -, -⟩ := hW
    go_simp
  go_simp
  refine early_step (.pointer (some ⟨g, o + i * 2, none⟩)) rfl (fun W hW => ?_) ?_
  · obtain ⟨hc, -, -⟩ := hW
    go_simp
  go_simp
  refine early_step (.agg #[.int .i64 x, .int .i64 y]) rfl (fun W hW => ?_) ?_
  · obtain ⟨hc, -, -⟩ := hW
    go_simp
  go_simp
  refine early_step (.agg #[.bool false, .bool false, .int .i64 s, .int .i64 b, .int .i64 1, .int .i64 r, .int .i64 i, .int .i64 x, .int .i64 y]) rfl (fun W hW => ?_) ?_
  · obtain ⟨hc, -, -⟩ := hW
    go_simp
  go_simp
  change RestW _ _ _ _ _ (_ :: []) _ _
  unfold RestW
  go_wp2_with fail
  refine ⟨(Kept.start w1).alloc _, ?_⟩
  unfold RestW
  clear t0c t1c t2c t3c t4c l0 pp e0 e1
  change wpList _ _ _ (_ :: _ :: []) _ (w1.drew.alloc (.cells #[.bool false, .bool false, .int .i64 s, .int .i64 b, .int .i64 1, .int .i64 r, .int .i64 i, .int .i64 x, .int .i64 y] 220))
  have HL2 := Lib.hid (Blk.drew HL1.out)
  have HO2 := Lib.hid (own_drewN HO1.out 1)
  have hz1 : base ≤ w1.drew.heap.size := by show base ≤ w1.heap.size; omega
  go_wp2_with (at_builtin; go_must (refine wpList_pushG slAct rfl _ _ rfl base _ n (acts L) rfl HO2.out (actV ((false, false), (s, b, 1, r, (i : Int)), (x, y))).toArray w1.heap.size rfl rfl rfl (actV_cells _) (by unfold maxLen; omega) (by omega) hz1 ?_); intro A' cap' w3 hown3 hb3 hgr3; (have HL3 := Lib.hid (Blk.other HL2.out HO2.out hgr3 (by decide))); (have v0 : w3.cell? ⟨Bl, 0, none⟩ = some (.slice A0 n c0) := HL3.out.cell 0); (have f0 := HL3.out.frozen 0))
  refine NoPanic.normal ?_
  go_wp2_with fail
  go_end0
  have hb : Boxed w3 Bl 381 (.slice A0 n c0) := HL3.out
  refine ⟨rfl, A', cap', hb.set _, ?_, ?_⟩
  · rw [acts_append, acts_one]
    exact hown3.kept (grownBy_setCell' _ _ _) (.inr (own_blk_ne hown3 HL3.out (by decide)))
  · exact ((But.of_below _ HK1.out).trans (But.of_below _ (Below.refl _ _).drew)).trans ((But.of_own hgr3 (fun q hq => .inr (HO1.out.lt q hq).1)).trans (But.of_gr (grownBy_setCell' _ _ _) (.inl rfl)))
end
end Go.Proofs.YtkmaeipoaoikpaaGreat
