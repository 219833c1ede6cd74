/- RoundAdd, RoundIn, Actions, PlanL. -/
import Derived.Test.YtkmaeipoaoikpaaGreatEB16
namespace Go.Proofs.YtkmaeipoaoikpaaGreat
set_option linter.all false
set_option maxRecDepth 100000
set_option maxHeartbeats 2000000
open Lib (hid)
section
open Go.RowKit
theorem add_miss (sd : Bool) (i m c Bj Bp Br Bl : Nat) (A : Option Addr) (w : World) (hmi : m <= i) (hi : i <= 1000000) :
  Calls Tryz.prog 262 #[.bool sd,.int .i64 i,.slice A m c,.pointer (some ⟨Bj,0,none⟩),.pointer (some ⟨Bp,0,none⟩),.pointer (some ⟨Br,0,none⟩),.pointer (some ⟨Bl,0,none⟩)] w fun e w' => e = .returned (.tuple #[]) /\ w = w' := by
 go_enter Tryz.func262,Tryz.ntmps262
 go_wp2_with fail
 go_end0
 exact ⟨rfl,rfl⟩
def Added (base n Bl : Nat) (L : List RAct) (w : World) (e : Ending) (w' : World) : Prop :=
 e = .returned (.tuple #[]) /\ ∃ A' cap',Boxed w' Bl 381 (.slice A' n cap') /\ w'.ownsRow base 220 9 (.slice A' n cap') n (acts L) /\ But (fun q => q = Bl \/ base <= q) w w'
theorem add_send (p : Int) (i m c base n c0 : Nat) (s b lo hi mm cc r x y : Int) (A A0 : Option Addr) (Bj Bp Br Bl : Nat) (L : List RAct) (ys : List (Int × Int)) (w : World) (him : i < m) (hm : m <= 1000000) (hyl : ys.length = m) (hy : ys[i]? = some (x,y)) (hR : Rd w 2 A m (rv ys))
  (hJ : Blk w Bj 380 #[.int .i64 s,.int .i64 b,.int .i64 lo,.int .i64 hi,.int .i64 mm,.int .i64 cc]) (hP : Boxed w Bp 3 (.int .i64 p)) (hRr : Boxed w Br 3 (.int .i64 r)) (hL : Boxed w Bl 381 (.slice A0 n c0)) (hown : w.ownsRow base 220 9 (.slice A0 n c0) n (acts L)) (hn : n <= 1000000) (hbase : base <= w.heap.size) :
  Calls Tryz.prog 262 #[.bool true,.int .i64 i,.slice A m c,.pointer (some ⟨Bj,0,none⟩),.pointer (some ⟨Bp,0,none⟩),.pointer (some ⟨Br,0,none⟩),.pointer (some ⟨Bl,0,none⟩)] w (Added base (n + 1) Bl (L ++ [((true,false),(s,b,p,r,(i : Int)),(x,y))]) w) := by
 obtain ⟨g,o,x',y',rfl,hg,hxy,e0,e1⟩ := rd_at hyl hR him
 rw [hy] at hxy
 injection hxy with hxy
 injection hxy with e2 e3
 subst e2 e3
 have j0 : w.cell? ⟨Bj,0,none⟩ = some (.int .i64 s) := hJ.cell 0
 have j1 : w.cell? ⟨Bj,1,none⟩ = some (.int .i64 b) := hJ.cell 1
 have p0 := hP.cell
 have r0 := hRr.cell
 have lj := hJ.lt
 have lp := hP.lt
 have lr := hRr.lt
 have ll := hL.lt
 have i1 : (0 : Int) <= (i : Int) := by omega
 have i2 : (i : Int) < (m : Int) := by omega
 have HL := hid hL
 have HO := hid hown
 have HP := hid hP
 have HE := hid (And.intro e0 e1)
 clear hJ hP hRr hL hown hR hyl hy e0 e1
 go_enter Tryz.func262,Tryz.ntmps262
 go_wp2_with fail
 obtain ⟨w1,hw1⟩ : ∃ w1,w.alloc (.cells #[.int .i64 s,.int .i64 b,.int .i64 p,.int .i64 r,.int .i64 i] 216) = w1 := ⟨_,rfl⟩
 have k1 : Below w.heap.size w w1 := by rw [<- hw1]; exact (Below.refl _ _).alloc (Nat.le_refl _) _
 have t1 : Blk w1 w.heap.size 216 #[.int .i64 s,.int .i64 b,.int .i64 p,.int .i64 r,.int .i64 i] := by rw [<- hw1]; exact Blk.new _ _ _
 rw [hw1]
 clear hw1 j0 j1 p0 r0 lj lr
 have t0c : w1.cell? ⟨w.heap.size,0,none⟩ = some (.int .i64 s) := t1.cell 0
 have t1c : w1.cell? ⟨w.heap.size,1,none⟩ = some (.int .i64 b) := t1.cell 1
 have t2c : w1.cell? ⟨w.heap.size,2,none⟩ = some (.int .i64 p) := t1.cell 2
 have t3c : w1.cell? ⟨w.heap.size,3,none⟩ = some (.int .i64 r) := t1.cell 3
 have t4c : w1.cell? ⟨w.heap.size,4,none⟩ = some (.int .i64 i) := t1.cell 4
 have tl := t1.lt
 have hL1 : Boxed w1 Bl 381 (.slice A0 n c0) := Blk.kept HL.out k1
 have hP1 : Boxed w1 Bp 3 (.int .i64 p) := Blk.kept HP.out k1
 have l0 := hL1.cell
 have pp := hP1.cell
 have e0 : w1.cell? ⟨g,o + i * 2,none⟩ = some (.int .i64 x) := (k1.cell (p := ⟨g,o + i * 2,none⟩) hg).trans HE.out.1
 have e1 : w1.cell? ⟨g,o + i * 2 + 1,none⟩ = some (.int .i64 y) := (k1.cell (p := ⟨g,o + i * 2 + 1,none⟩) hg).trans HE.out.2
 have ls := k1.size
 have g1 : g < w1.heap.size := by omega
 have g2 : Bl < w1.heap.size := by omega
 have g3 : Bp < w1.heap.size := by omega
 have HL1 := hid hL1
 have HO1 := hid (own_below HO.out k1)
 have HK1 := hid k1
 clear hL1 hP1 t1 k1 lp ll hg
 refine wp_region_early (Kept w1) [0,1,2,3,4,5,6,7,8,9,10,11,12,13] [14] [15,16] (by kernel_rfl) (by kernel_rfl) (Kept.start w1) ?_
 simp only [List.filterMap_cons,List.filterMap_nil,List.getElem?_cons_succ,List.getElem?_cons_zero]
 refine early_step (.slice A0 n c0) rfl (fun W hW => ?_) ?_
 ·obtain ⟨hc,-,-⟩ := hW
  go_simp
 go_simp
 refine early_step (.bool true) rfl (fun W hW => ?_) ?_
 ·obtain ⟨hc,-,-⟩ := hW
  go_simp
 go_simp
 refine early_step (.bool true) rfl (fun W hW => ?_) ?_
 ·obtain ⟨hc,-,-⟩ := hW
  go_simp
 go_simp
 refine early_step (.bool false) rfl (fun W hW => ?_) ?_
 ·obtain ⟨hc,-,-⟩ := hW
  go_simp
 go_simp
 refine early_step (.bool false) rfl (fun W hW => ?_) ?_
 ·obtain ⟨hc,-,-⟩ := hW
  go_simp
 go_simp
 refine ⟨undef,.inr ⟨rfl,rfl⟩,?_⟩
 go_simp
 refine ⟨undef,.inr ⟨rfl,rfl⟩,?_⟩
 go_simp
 refine early_step (.bool false) rfl (fun W hW => ?_) ?_
 ·obtain ⟨hc,-,-⟩ := hW
  go_simp
 go_simp
 refine early_step (.agg #[.int .i64 s,.int .i64 b,.int .i64 p,.int .i64 r,.int .i64 i]) rfl (fun W hW => ?_) ?_
 ·obtain ⟨hc,-,-⟩ := hW
  go_simp
 go_simp
 refine early_step (.slice (some ⟨g,o,none⟩) m c) rfl (fun W hW => ?_) ?_
 ·obtain ⟨hc,-,-⟩ := hW
  go_simp
 go_simp
 refine early_step (.int .i64 i) rfl (fun W hW => ?_) ?_
 ·obtain ⟨hc,-,-⟩ := hW
  go_simp
 go_simp
 refine early_step (.pointer (some ⟨g,o + i * 2,none⟩)) rfl (fun W hW => ?_) ?_
 ·obtain ⟨hc,-,-⟩ := hW
  go_simp
 go_simp
 refine early_step (.agg #[.int .i64 x,.int .i64 y]) rfl (fun W hW => ?_) ?_
 ·obtain ⟨hc,-,-⟩ := hW
  go_simp
 go_simp
 refine early_step (.agg #[.bool true,.bool false,.int .i64 s,.int .i64 b,.int .i64 p,.int .i64 r,.int .i64 i,.int .i64 x,.int .i64 y]) rfl (fun W hW => ?_) ?_
 ·obtain ⟨hc,-,-⟩ := hW
  go_simp
 go_simp
 change RestW _ _ _ _ _ (_ :: []) _ _
 unfold RestW
 go_wp2_with fail
 refine ⟨(Kept.start w1).alloc _,?_⟩
 unfold RestW
 clear t0c t1c t2c t3c t4c l0 pp e0 e1
 change wpList _ _ _ (_ :: _ :: []) _ (w1.drew.alloc (.cells #[.bool true,.bool false,.int .i64 s,.int .i64 b,.int .i64 p,.int .i64 r,.int .i64 i,.int .i64 x,.int .i64 y] 220))
 have HL2 := hid (Blk.drew HL1.out)
 have HO2 := hid (own_drewN HO1.out 1)
 have hz1 : base <= w1.drew.heap.size := by show base <= w1.heap.size; omega
 go_wp2_with (at_builtin; go_must (refine wpList_pushG slAct rfl _ _ rfl base _ n (acts L) rfl HO2.out (actV ((true,false),(s,b,p,r,(i : Int)),(x,y))).toArray w1.heap.size rfl rfl rfl (actV_cells _) (by unfold maxLen; omega) (by omega) hz1 ?_); intro A' cap' w3 hown3 hb3 hgr3; (have HL3 := hid (Blk.other HL2.out HO2.out hgr3 (by decide))); (have v0 : w3.cell? ⟨Bl,0,none⟩ = some (.slice A0 n c0) := HL3.out.cell 0); (have f0 := HL3.out.frozen 0))
 refine NoPanic.normal ?_
 go_wp2_with fail
 go_end0
 have hb : Boxed w3 Bl 381 (.slice A0 n c0) := HL3.out
 refine ⟨rfl,A',cap',hb.set _,?_,?_⟩
 ·rw [acts_append,acts_one]
  exact hown3.kept (grownBy_setCell' _ _ _) (.inr (own_blk_ne hown3 HL3.out (by decide)))
 ·exact ((But.of_below _ HK1.out).trans (But.of_below _ (Below.refl _ _).drew)).trans ((But.of_own hgr3 (fun q hq => .inr (HO1.out.lt q hq).1)).trans (But.of_gr (grownBy_setCell' _ _ _) (.inl rfl)))
theorem add_recv0 (i m c base n c0 : Nat) (s b lo hi mm cc r x y : Int) (A A0 : Option Addr) (Bj Bp Br Bl : Nat) (L : List RAct) (ys : List (Int × Int)) (w : World) (him : i < m) (hm : m <= 1000000) (hyl : ys.length = m) (hy : ys[i]? = some (x,y)) (hR : Rd w 2 A m (rv ys))
  (hJ : Blk w Bj 380 #[.int .i64 s,.int .i64 b,.int .i64 lo,.int .i64 hi,.int .i64 mm,.int .i64 cc]) (hP : Boxed w Bp 3 (.int .i64 0)) (hRr : Boxed w Br 3 (.int .i64 r)) (hL : Boxed w Bl 381 (.slice A0 n c0)) (hown : w.ownsRow base 220 9 (.slice A0 n c0) n (acts L)) (hn : n <= 1000000) (hbase : base <= w.heap.size) :
  Calls Tryz.prog 262 #[.bool false,.int .i64 i,.slice A m c,.pointer (some ⟨Bj,0,none⟩),.pointer (some ⟨Bp,0,none⟩),.pointer (some ⟨Br,0,none⟩),.pointer (some ⟨Bl,0,none⟩)] w (Added base (n + 1) Bl (L ++ [((false,true),(s,b,0,r,(i : Int)),(x,y))]) w) := by
 obtain ⟨g,o,x',y',rfl,hg,hxy,e0,e1⟩ := rd_at hyl hR him
 rw [hy] at hxy
 injection hxy with hxy
 injection hxy with e2 e3
 subst e2 e3
 have j0 : w.cell? ⟨Bj,0,none⟩ = some (.int .i64 s) := hJ.cell 0
 have j1 : w.cell? ⟨Bj,1,none⟩ = some (.int .i64 b) := hJ.cell 1
 have p0 := hP.cell
 have r0 := hRr.cell
 have lj := hJ.lt
 have lp := hP.lt
 have lr := hRr.lt
 have ll := hL.lt
 have i1 : (0 : Int) <= (i : Int) := by omega
 have i2 : (i : Int) < (m : Int) := by omega
 have HL := hid hL
 have HO := hid hown
 have HP := hid hP
 have HE := hid (And.intro e0 e1)
 clear hJ hP hRr hL hown hR hyl hy e0 e1
 go_enter Tryz.func262,Tryz.ntmps262
 go_wp2_with fail
 obtain ⟨w1,hw1⟩ : ∃ w1,w.alloc (.cells #[.int .i64 s,.int .i64 b,.int .i64 0,.int .i64 r,.int .i64 i] 216) = w1 := ⟨_,rfl⟩
 have k1 : Below w.heap.size w w1 := by rw [<- hw1]; exact (Below.refl _ _).alloc (Nat.le_refl _) _
 have t1 : Blk w1 w.heap.size 216 #[.int .i64 s,.int .i64 b,.int .i64 0,.int .i64 r,.int .i64 i] := by rw [<- hw1]; exact Blk.new _ _ _
 rw [hw1]
 clear hw1 j0 j1 p0 r0 lj lr
 have t0c : w1.cell? ⟨w.heap.size,0,none⟩ = some (.int .i64 s) := t1.cell 0
 have t1c : w1.cell? ⟨w.heap.size,1,none⟩ = some (.int .i64 b) := t1.cell 1
 have t2c : w1.cell? ⟨w.heap.size,2,none⟩ = some (.int .i64 0) := t1.cell 2
 have t3c : w1.cell? ⟨w.heap.size,3,none⟩ = some (.int .i64 r) := t1.cell 3
 have t4c : w1.cell? ⟨w.heap.size,4,none⟩ = some (.int .i64 i) := t1.cell 4
 have tl := t1.lt
 have hL1 : Boxed w1 Bl 381 (.slice A0 n c0) := Blk.kept HL.out k1
 have hP1 : Boxed w1 Bp 3 (.int .i64 0) := Blk.kept HP.out k1
 have l0 := hL1.cell
 have pp := hP1.cell
 have e0 : w1.cell? ⟨g,o + i * 2,none⟩ = some (.int .i64 x) := (k1.cell (p := ⟨g,o + i * 2,none⟩) hg).trans HE.out.1
 have e1 : w1.cell? ⟨g,o + i * 2 + 1,none⟩ = some (.int .i64 y) := (k1.cell (p := ⟨g,o + i * 2 + 1,none⟩) hg).trans HE.out.2
 have ls := k1.size
 have g1 : g < w1.heap.size := by omega
 have g2 : Bl < w1.heap.size := by omega
 have g3 : Bp < w1.heap.size := by omega
 have HL1 := hid hL1
 have HO1 := hid (own_below HO.out k1)
 have HK1 := hid k1
 clear hL1 hP1 t1 k1 lp ll hg
 refine wp_region_early (Kept w1) [0,1,2,3,4,5,6,7,8,9,10,11,12,13] [14] [15,16] (by kernel_rfl) (by kernel_rfl) (Kept.start w1) ?_
 simp only [List.filterMap_cons,List.filterMap_nil,List.getElem?_cons_succ,List.getElem?_cons_zero]
 refine early_step (.slice A0 n c0) rfl (fun W hW => ?_) ?_
 ·obtain ⟨hc,-,-⟩ := hW
  go_simp
 go_simp
 refine early_step (.bool false) rfl (fun W hW => ?_) ?_
 ·obtain ⟨hc,-,-⟩ := hW
  go_simp
 go_simp
 refine early_step (.bool false) rfl (fun W hW => ?_) ?_
 ·obtain ⟨hc,-,-⟩ := hW
  go_simp
 go_simp
 refine early_step (.bool true) rfl (fun W hW => ?_) ?_
 ·obtain ⟨hc,-,-⟩ := hW
  go_simp
 go_simp
 refine early_step (.bool true) rfl (fun W hW => ?_) ?_
 ·obtain ⟨hc,-,-⟩ := hW
  go_simp
 go_simp
 refine early_step (.int .i64 0) rfl (fun W hW => ?_) ?_
 ·obtain ⟨hc,-,-⟩ := hW
  go_simp
 go_simp
 refine early_step (.bool true) rfl (fun W hW => ?_) ?_
 ·obtain ⟨hc,-,-⟩ := hW
  go_simp
 go_simp
 refine early_step (.bool true) rfl (fun W hW => ?_) ?_
 ·obtain ⟨hc,-,-⟩ := hW
  go_simp
 go_simp
 refine early_step (.agg #[.int .i64 s,.int .i64 b,.int .i64 0,.int .i64 r,.int .i64 i]) rfl (fun W hW => ?_) ?_
 ·obtain ⟨hc,-,-⟩ := hW
  go_simp
 go_simp
 refine early_step (.slice (some ⟨g,o,none⟩) m c) rfl (fun W hW => ?_) ?_
 ·obtain ⟨hc,-,-⟩ := hW
  go_simp
 go_simp
 refine early_step (.int .i64 i) rfl (fun W hW => ?_) ?_
 ·obtain ⟨hc,-,-⟩ := hW
  go_simp
 go_simp
 refine early_step (.pointer (some ⟨g,o + i * 2,none⟩)) rfl (fun W hW => ?_) ?_
 ·obtain ⟨hc,-,-⟩ := hW
  go_simp
 go_simp
 refine early_step (.agg #[.int .i64 x,.int .i64 y]) rfl (fun W hW => ?_) ?_
 ·obtain ⟨hc,-,-⟩ := hW
  go_simp
 go_simp
 refine early_step (.agg #[.bool false,.bool true,.int .i64 s,.int .i64 b,.int .i64 0,.int .i64 r,.int .i64 i,.int .i64 x,.int .i64 y]) rfl (fun W hW => ?_) ?_
 ·obtain ⟨hc,-,-⟩ := hW
  go_simp
 go_simp
 change RestW _ _ _ _ _ (_ :: []) _ _
 unfold RestW
 go_wp2_with fail
 refine ⟨(Kept.start w1).alloc _,?_⟩
 unfold RestW
 clear t0c t1c t2c t3c t4c l0 pp e0 e1
 change wpList _ _ _ (_ :: _ :: []) _ (w1.drew.alloc (.cells #[.bool false,.bool true,.int .i64 s,.int .i64 b,.int .i64 0,.int .i64 r,.int .i64 i,.int .i64 x,.int .i64 y] 220))
 have HL2 := hid (Blk.drew HL1.out)
 have HO2 := hid (own_drewN HO1.out 1)
 have hz1 : base <= w1.drew.heap.size := by show base <= w1.heap.size; omega
 go_wp2_with (at_builtin; go_must (refine wpList_pushG slAct rfl _ _ rfl base _ n (acts L) rfl HO2.out (actV ((false,true),(s,b,0,r,(i : Int)),(x,y))).toArray w1.heap.size rfl rfl rfl (actV_cells _) (by unfold maxLen; omega) (by omega) hz1 ?_); intro A' cap' w3 hown3 hb3 hgr3; (have HL3 := hid (Blk.other HL2.out HO2.out hgr3 (by decide))); (have v0 : w3.cell? ⟨Bl,0,none⟩ = some (.slice A0 n c0) := HL3.out.cell 0); (have f0 := HL3.out.frozen 0))
 refine NoPanic.normal ?_
 go_wp2_with fail
 go_end0
 have hb : Boxed w3 Bl 381 (.slice A0 n c0) := HL3.out
 refine ⟨rfl,A',cap',hb.set _,?_,?_⟩
 ·rw [acts_append,acts_one]
  exact hown3.kept (grownBy_setCell' _ _ _) (.inr (own_blk_ne hown3 HL3.out (by decide)))
 ·exact ((But.of_below _ HK1.out).trans (But.of_below _ (Below.refl _ _).drew)).trans ((But.of_own hgr3 (fun q hq => .inr (HO1.out.lt q hq).1)).trans (But.of_gr (grownBy_setCell' _ _ _) (.inl rfl)))
theorem add_recv1 (i m c base n c0 : Nat) (s b lo hi mm cc r x y : Int) (A A0 : Option Addr) (Bj Bp Br Bl : Nat) (L : List RAct) (ys : List (Int × Int)) (w : World) (him : i < m) (hm : m <= 1000000) (hyl : ys.length = m) (hy : ys[i]? = some (x,y)) (hR : Rd w 2 A m (rv ys))
  (hJ : Blk w Bj 380 #[.int .i64 s,.int .i64 b,.int .i64 lo,.int .i64 hi,.int .i64 mm,.int .i64 cc]) (hP : Boxed w Bp 3 (.int .i64 1)) (hRr : Boxed w Br 3 (.int .i64 r)) (hL : Boxed w Bl 381 (.slice A0 n c0)) (hown : w.ownsRow base 220 9 (.slice A0 n c0) n (acts L)) (hn : n <= 1000000) (hbase : base <= w.heap.size) :
  Calls Tryz.prog 262 #[.bool false,.int .i64 i,.slice A m c,.pointer (some ⟨Bj,0,none⟩),.pointer (some ⟨Bp,0,none⟩),.pointer (some ⟨Br,0,none⟩),.pointer (some ⟨Bl,0,none⟩)] w (Added base (n + 1) Bl (L ++ [((false,false),(s,b,1,r,(i : Int)),(x,y))]) w) := by
 obtain ⟨g,o,x',y',rfl,hg,hxy,e0,e1⟩ := rd_at hyl hR him
 rw [hy] at hxy
 injection hxy with hxy
 injection hxy with e2 e3
 subst e2 e3
 have j0 : w.cell? ⟨Bj,0,none⟩ = some (.int .i64 s) := hJ.cell 0
 have j1 : w.cell? ⟨Bj,1,none⟩ = some (.int .i64 b) := hJ.cell 1
 have p0 := hP.cell
 have r0 := hRr.cell
 have lj := hJ.lt
 have lp := hP.lt
 have lr := hRr.lt
 have ll := hL.lt
 have i1 : (0 : Int) <= (i : Int) := by omega
 have i2 : (i : Int) < (m : Int) := by omega
 have HL := hid hL
 have HO := hid hown
 have HP := hid hP
 have HE := hid (And.intro e0 e1)
 clear hJ hP hRr hL hown hR hyl hy e0 e1
 go_enter Tryz.func262,Tryz.ntmps262
 go_wp2_with fail
 obtain ⟨w1,hw1⟩ : ∃ w1,w.alloc (.cells #[.int .i64 s,.int .i64 b,.int .i64 1,.int .i64 r,.int .i64 i] 216) = w1 := ⟨_,rfl⟩
 have k1 : Below w.heap.size w w1 := by rw [<- hw1]; exact (Below.refl _ _).alloc (Nat.le_refl _) _
 have t1 : Blk w1 w.heap.size 216 #[.int .i64 s,.int .i64 b,.int .i64 1,.int .i64 r,.int .i64 i] := by rw [<- hw1]; exact Blk.new _ _ _
 rw [hw1]
 clear hw1 j0 j1 p0 r0 lj lr
 have t0c : w1.cell? ⟨w.heap.size,0,none⟩ = some (.int .i64 s) := t1.cell 0
 have t1c : w1.cell? ⟨w.heap.size,1,none⟩ = some (.int .i64 b) := t1.cell 1
 have t2c : w1.cell? ⟨w.heap.size,2,none⟩ = some (.int .i64 1) := t1.cell 2
 have t3c : w1.cell? ⟨w.heap.size,3,none⟩ = some (.int .i64 r) := t1.cell 3
 have t4c : w1.cell? ⟨w.heap.size,4,none⟩ = some (.int .i64 i) := t1.cell 4
 have tl := t1.lt
 have hL1 : Boxed w1 Bl 381 (.slice A0 n c0) := Blk.kept HL.out k1
 have hP1 : Boxed w1 Bp 3 (.int .i64 1) := Blk.kept HP.out k1
 have l0 := hL1.cell
 have pp := hP1.cell
 have e0 : w1.cell? ⟨g,o + i * 2,none⟩ = some (.int .i64 x) := (k1.cell (p := ⟨g,o + i * 2,none⟩) hg).trans HE.out.1
 have e1 : w1.cell? ⟨g,o + i * 2 + 1,none⟩ = some (.int .i64 y) := (k1.cell (p := ⟨g,o + i * 2 + 1,none⟩) hg).trans HE.out.2
 have ls := k1.size
 have g1 : g < w1.heap.size := by omega
 have g2 : Bl < w1.heap.size := by omega
 have g3 : Bp < w1.heap.size := by omega
 have HL1 := hid hL1
 have HO1 := hid (own_below HO.out k1)
 have HK1 := hid k1
 clear hL1 hP1 t1 k1 lp ll hg
 refine wp_region_early (Kept w1) [0,1,2,3,4,5,6,7,8,9,10,11,12,13] [14] [15,16] (by kernel_rfl) (by kernel_rfl) (Kept.start w1) ?_
 simp only [List.filterMap_cons,List.filterMap_nil,List.getElem?_cons_succ,List.getElem?_cons_zero]
 refine early_step (.slice A0 n c0) rfl (fun W hW => ?_) ?_
 ·obtain ⟨hc,-,-⟩ := hW
  go_simp
 go_simp
 refine early_step (.bool false) rfl (fun W hW => ?_) ?_
 ·obtain ⟨hc,-,-⟩ := hW
  go_simp
 go_simp
 refine early_step (.bool false) rfl (fun W hW => ?_) ?_
 ·obtain ⟨hc,-,-⟩ := hW
  go_simp
 go_simp
 refine early_step (.bool true) rfl (fun W hW => ?_) ?_
 ·obtain ⟨hc,-,-⟩ := hW
  go_simp
 go_simp
 refine early_step (.bool true) rfl (fun W hW => ?_) ?_
 ·obtain ⟨hc,-,-⟩ := hW
  go_simp
 go_simp
 refine early_step (.int .i64 1) rfl (fun W hW => ?_) ?_
 ·obtain ⟨hc,-,-⟩ := hW
  go_simp
 go_simp
 refine early_step (.bool false) rfl (fun W hW => ?_) ?_
 ·obtain ⟨hc,-,-⟩ := hW
  go_simp
 go_simp
 refine early_step (.bool false) rfl (fun W hW => ?_) ?_
 ·obtain ⟨hc,-,-⟩ := hW
  go_simp
 go_simp
 refine early_step (.agg #[.int .i64 s,.int .i64 b,.int .i64 1,.int .i64 r,.int .i64 i]) rfl (fun W hW => ?_) ?_
 ·obtain ⟨hc,-,-⟩ := hW
  go_simp
 go_simp
 refine early_step (.slice (some ⟨g,o,none⟩) m c) rfl (fun W hW => ?_) ?_
 ·obtain ⟨hc,-,-⟩ := hW
  go_simp
 go_simp
 refine early_step (.int .i64 i) rfl (fun W hW => ?_) ?_
 ·obtain ⟨hc,-,-⟩ := hW
  go_simp
 go_simp
 refine early_step (.pointer (some ⟨g,o + i * 2,none⟩)) rfl (fun W hW => ?_) ?_
 ·obtain ⟨hc,-,-⟩ := hW
  go_simp
 go_simp
 refine early_step (.agg #[.int .i64 x,.int .i64 y]) rfl (fun W hW => ?_) ?_
 ·obtain ⟨hc,-,-⟩ := hW
  go_simp
 go_simp
 refine early_step (.agg #[.bool false,.bool false,.int .i64 s,.int .i64 b,.int .i64 1,.int .i64 r,.int .i64 i,.int .i64 x,.int .i64 y]) rfl (fun W hW => ?_) ?_
 ·obtain ⟨hc,-,-⟩ := hW
  go_simp
 go_simp
 change RestW _ _ _ _ _ (_ :: []) _ _
 unfold RestW
 go_wp2_with fail
 refine ⟨(Kept.start w1).alloc _,?_⟩
 unfold RestW
 clear t0c t1c t2c t3c t4c l0 pp e0 e1
 change wpList _ _ _ (_ :: _ :: []) _ (w1.drew.alloc (.cells #[.bool false,.bool false,.int .i64 s,.int .i64 b,.int .i64 1,.int .i64 r,.int .i64 i,.int .i64 x,.int .i64 y] 220))
 have HL2 := hid (Blk.drew HL1.out)
 have HO2 := hid (own_drewN HO1.out 1)
 have hz1 : base <= w1.drew.heap.size := by show base <= w1.heap.size; omega
 go_wp2_with (at_builtin; go_must (refine wpList_pushG slAct rfl _ _ rfl base _ n (acts L) rfl HO2.out (actV ((false,false),(s,b,1,r,(i : Int)),(x,y))).toArray w1.heap.size rfl rfl rfl (actV_cells _) (by unfold maxLen; omega) (by omega) hz1 ?_); intro A' cap' w3 hown3 hb3 hgr3; (have HL3 := hid (Blk.other HL2.out HO2.out hgr3 (by decide))); (have v0 : w3.cell? ⟨Bl,0,none⟩ = some (.slice A0 n c0) := HL3.out.cell 0); (have f0 := HL3.out.frozen 0))
 refine NoPanic.normal ?_
 go_wp2_with fail
 go_end0
 have hb : Boxed w3 Bl 381 (.slice A0 n c0) := HL3.out
 refine ⟨rfl,A',cap',hb.set _,?_,?_⟩
 ·rw [acts_append,acts_one]
  exact hown3.kept (grownBy_setCell' _ _ _) (.inr (own_blk_ne hown3 HL3.out (by decide)))
 ·exact ((But.of_below _ HK1.out).trans (But.of_below _ (Below.refl _ _).drew)).trans ((But.of_own hgr3 (fun q hq => .inr (HO1.out.lt q hq).1)).trans (But.of_gr (grownBy_setCell' _ _ _) (.inl rfl)))
def sendAt (s b p r : Int) (xs : List (Int × Int)) (i : Nat) : List RAct := match xs[i]? with | some x => [((true,false),(s,b,p,r,(i : Int)),x)] | none => []
def recvAt (s b p r : Int) (ys : List (Int × Int)) (i : Nat) : List RAct := match ys[i]? with | some y => [((false,decide (p = 0)),(s,b,p,r,(i : Int)),y)] | none => []
theorem rdAt_eq (s b p r : Int) (xs ys : List (Int × Int)) (i : Nat) : rdAt s b p r xs ys i = sendAt s b p r xs i ++ recvAt s b p r ys i := rfl
def AddSt (base Bl : Nat) (L : List RAct) (w : World) : Prop := ∃ A0 n c0,Boxed w Bl 381 (.slice A0 n c0) /\ w.ownsRow base 220 9 (.slice A0 n c0) n (acts L)
theorem AddSt.len {base n : Nat} {v : Value} {L : List RAct} {w : World} (h : w.ownsRow base 220 9 v n (acts L)) : L.length = n := by
 have := h.1
 rw [acts_length] at this
 omega
def AddRet (base Bl : Nat) (L : List RAct) (w : World) (e : Ending) (w' : World) : Prop :=
 e = .returned (.tuple #[]) /\ AddSt base Bl L w' /\ But (fun q => q = Bl \/ base <= q) w w'
end
section
open Go.RowKit
variable (i m c base : Nat) (s b lo hi mm cc r : Int) (A : Option Addr) (Bj Bp Br Bl : Nat) (L : List RAct) (ys : List (Int × Int)) (w : World)
theorem addX_send (p : Int) (hi' : i <= 1000000) (hm : m <= 1000000) (hyl : ys.length = m) (hR : Rd w 2 A m (rv ys)) (hJ : Blk w Bj 380 #[.int .i64 s,.int .i64 b,.int .i64 lo,.int .i64 hi,.int .i64 mm,.int .i64 cc]) (hP : Boxed w Bp 3 (.int .i64 p)) (hRr : Boxed w Br 3 (.int .i64 r)) (hst : AddSt base Bl L w) (hn : L.length <= 1000000) (hbase : base <= w.heap.size) :
  Calls Tryz.prog 262 #[.bool true,.int .i64 i,.slice A m c,.pointer (some ⟨Bj,0,none⟩),.pointer (some ⟨Bp,0,none⟩),.pointer (some ⟨Br,0,none⟩),.pointer (some ⟨Bl,0,none⟩)] w (AddRet base Bl (L ++ sendAt s b p r ys i) w) := by
 by_cases h : i < m
 ·obtain ⟨A0,n,c0,hL,hown⟩ := hst
  have hln := AddSt.len hown
  have hy : ys[i]? = some (ys[i]'(by omega)) := List.getElem?_eq_getElem (by omega)
  generalize ys[i]'(by omega) = x at hy
  obtain ⟨x,y⟩ := x
  refine (add_send p i m c base n c0 s b lo hi mm cc r x y A A0 Bj Bp Br Bl L ys w h hm hyl hy hR hJ hP hRr hL hown (by omega) hbase).mono ?_
  rintro e w' ⟨rfl,A',cap',h1,h2,h3⟩
  refine ⟨rfl,⟨A',n + 1,cap',h1,?_⟩,h3⟩
  have e2 : sendAt s b p r ys i = [((true,false),(s,b,p,r,(i : Int)),(x,y))] := by unfold sendAt; rw [hy]
  rw [e2]
  exact h2
 ·refine (add_miss true i m c Bj Bp Br Bl A w (by omega) hi').mono ?_
  rintro e w' ⟨rfl,rfl⟩
  have e2 : sendAt s b p r ys i = [] := by unfold sendAt; rw [List.getElem?_eq_none (by omega)]
  rw [e2,List.append_nil]
  exact ⟨rfl,hst,But.refl _ _⟩
theorem addX_recv (p : Int) (hp : p = 0 \/ p = 1) (hi' : i <= 1000000) (hm : m <= 1000000) (hyl : ys.length = m) (hR : Rd w 2 A m (rv ys)) (hJ : Blk w Bj 380 #[.int .i64 s,.int .i64 b,.int .i64 lo,.int .i64 hi,.int .i64 mm,.int .i64 cc]) (hP : Boxed w Bp 3 (.int .i64 p)) (hRr : Boxed w Br 3 (.int .i64 r)) (hst : AddSt base Bl L w) (hn : L.length <= 1000000) (hbase : base <= w.heap.size) :
  Calls Tryz.prog 262 #[.bool false,.int .i64 i,.slice A m c,.pointer (some ⟨Bj,0,none⟩),.pointer (some ⟨Bp,0,none⟩),.pointer (some ⟨Br,0,none⟩),.pointer (some ⟨Bl,0,none⟩)] w (AddRet base Bl (L ++ recvAt s b p r ys i) w) := by
 by_cases h : i < m
 ·obtain ⟨A0,n,c0,hL,hown⟩ := hst
  have hln := AddSt.len hown
  have hy : ys[i]? = some (ys[i]'(by omega)) := List.getElem?_eq_getElem (by omega)
  generalize ys[i]'(by omega) = x at hy
  obtain ⟨x,y⟩ := x
  have e2 : recvAt s b p r ys i = [((false,decide (p = 0)),(s,b,p,r,(i : Int)),(x,y))] := by unfold recvAt; rw [hy]
  rw [e2]
  rcases hp with rfl | rfl
  ·refine (add_recv0 i m c base n c0 s b lo hi mm cc r x y A A0 Bj Bp Br Bl L ys w h hm hyl hy hR hJ hP hRr hL hown (by omega) hbase).mono ?_
   rintro e w' ⟨rfl,A',cap',h1,h2,h3⟩
   exact ⟨rfl,⟨A',n + 1,cap',h1,h2⟩,h3⟩
  ·refine (add_recv1 i m c base n c0 s b lo hi mm cc r x y A A0 Bj Bp Br Bl L ys w h hm hyl hy hR hJ hP hRr hL hown (by omega) hbase).mono ?_
   rintro e w' ⟨rfl,A',cap',h1,h2,h3⟩
   exact ⟨rfl,⟨A',n + 1,cap',h1,h2⟩,h3⟩
 ·refine (add_miss false i m c Bj Bp Br Bl A w (by omega) hi').mono ?_
  rintro e w' ⟨rfl,rfl⟩
  have e2 : recvAt s b p r ys i = [] := by unfold recvAt; rw [List.getElem?_eq_none (by omega)]
  rw [e2,List.append_nil]
  exact ⟨rfl,hst,But.refl _ _⟩
end
section
open Go.RowKit
def segR (lo hi m : Int) (q : Nat) : Int × Int := ((bnd (hi - lo).toNat m.toNat q : Int) + lo,(bnd (hi - lo).toNat m.toNat (q + 1) : Int) + lo)
def chS (lo hi m c : Int) (q : Nat) : List (Int × Int) := chunksL (segR lo hi m q).1 (segR lo hi m q).2 c
def roundR (s b lo hi m c x p r : Int) : List RAct := roundL s b p r (chS lo hi m c ((x - r + p) % m).toNat) (chS lo hi m c ((x - r + p - 1) % m).toNat)
theorem segR_in (lo hi m : Int) (q : Nat) (h1 : lo <= hi) (hq : (q : Int) < m) : lo <= (segR lo hi m q).1 /\ (segR lo hi m q).1 <= (segR lo hi m q).2 /\ (segR lo hi m q).2 <= hi :=
 segs_in lo hi m h1 _ (List.mem_of_getElem? (segs_at lo hi m q h1 hq))
theorem chS_le (lo hi m c : Int) (q : Nat) (h1 : lo <= hi) (h2 : hi <= 1000) (h0 : 0 <= lo) (hq : (q : Int) < m) : (chS lo hi m c q).length <= 1000 := by
 obtain ⟨a1,a2,a3⟩ := segR_in lo hi m q h1 hq
 rw [chS,chunksL_length]
 have := cnt_le ((segR lo hi m q).2 - (segR lo hi m q).1).toNat c.toNat
 omega
theorem round_out (s b lo hi m c x p r : Int) (w : World) (hm1 : 1 <= m) (hm2 : m <= 1000000) (h : x < 0 \/ m <= x \/ p < 0 \/ 1 < p \/ r < 0 \/ m - 1 <= r) :
  Calls Tryz.prog 228 #[jobV s b lo hi m c,.int .i64 x,.int .i64 p,.int .i64 r] w fun e w' => e = .returned (.slice none 0 0) /\ Below w.heap.size w w' := by
 have HS := hid (fun z W => segment_out s b lo hi m c x p r z W hm1 hm2 h)
 clear h
 go_enter Tryz.func228,Tryz.ntmps228
 go_wp2_with fail
 ((with_reducible refine (HS.out _ _).mono ?_); rintro e w1 ⟨rfl,hb1⟩)
 go_wp2_with fail
 go_ret
 exact ⟨rfl,((((Kept.of (Below.refl _ w)).alloc _).alloc _).alloc _ |>.call hb1).2.2⟩
theorem round_in (s b lo hi m c x p r : Int) (w : World) (h0 : 0 <= lo) (h1 : lo <= hi) (h2 : hi <= 1000) (hm2 : m <= 1000) (hx1 : 0 <= x) (hx2 : x < m) (hp : p = 0 \/ p = 1) (hr1 : 0 <= r) (hr2 : r < m - 1) (hc : c <= 9223372036854775807) :
  Calls Tryz.prog 228 #[jobV s b lo hi m c,.int .i64 x,.int .i64 p,.int .i64 r] w (OwnRet w 220 9 (roundR s b lo hi m c x p r).length (acts (roundR s b lo hi m c x p r))) := by
 have z1 := Int.emod_nonneg (x - r + p) (b := m) (by omega)
 have z2 := Int.emod_lt_of_pos (x - r + p) (b := m) (by omega)
 have z3 := Int.emod_nonneg (x - r + p - 1) (b := m) (by omega)
 have z4 := Int.emod_lt_of_pos (x - r + p - 1) (b := m) (by omega)
 obtain ⟨q1,hq1⟩ := Int.eq_ofNat_of_zero_le z1
 obtain ⟨q2,hq2⟩ := Int.eq_ofNat_of_zero_le z3
 have e : roundR s b lo hi m c x p r = roundL s b p r (chS lo hi m c q1) (chS lo hi m c q2) := by unfold roundR; rw [hq1,hq2]; rfl
 rw [e]
 have CS := fun W => segment_send s b lo hi m c x p r W (by omega) (by omega) hx1 hx2 hp hr1 hr2
 have CR := fun W => segment_recv s b lo hi m c x p r W (by omega) (by omega) hx1 hx2 hp hr1 hr2
 rw [hq1] at CS z2
 rw [hq2] at CR z4
 have HCS := hid CS
 have HCR := hid CR
 have CSg := fun W => segments_any lo hi m W h0 h1 (by omega) (by omega)
 have hlen := segsL_length lo hi m h1
 rw [hlen] at CSg
 have HCSg := hid CSg
 have HLen := hid hlen
 obtain ⟨a1,a2,a3⟩ := segR_in lo hi m q1 h1 z2
 obtain ⟨b1,b2,b3⟩ := segR_in lo hi m q2 h1 z4
 have HA1 := hid (segs_at lo hi m q1 h1 z2)
 have HA2 := hid (segs_at lo hi m q2 h1 z4)
 have hle1 := chS_le lo hi m c q1 h1 (by omega) h0 z2
 have hle2 := chS_le lo hi m c q2 h1 (by omega) h0 z4
 obtain ⟨x1,hx1'⟩ : ∃ v,(segR lo hi m q1).1 = v := ⟨_,rfl⟩
 obtain ⟨y1,hy1'⟩ : ∃ v,(segR lo hi m q1).2 = v := ⟨_,rfl⟩
 obtain ⟨x2,hx2'⟩ : ∃ v,(segR lo hi m q2).1 = v := ⟨_,rfl⟩
 obtain ⟨y2,hy2'⟩ : ∃ v,(segR lo hi m q2).2 = v := ⟨_,rfl⟩
 rw [hx1',hy1'] at a2
 rw [hx1'] at a1
 rw [hy1'] at a3
 rw [hx2',hy2'] at b2
 rw [hx2'] at b1
 rw [hy2'] at b3
 have HC1 := hid (fun W => chunks_any x1 y1 c W (by omega) a2 (by omega) hc)
 have HC2 := hid (fun W => chunks_any x2 y2 c W (by omega) b2 (by omega) hc)
 have e1 : chS lo hi m c q1 = chunksL x1 y1 c := by rw [chS,hx1',hy1']
 have e2 : chS lo hi m c q2 = chunksL x2 y2 c := by rw [chS,hx2',hy2']
 rw [e1] at hle1
 rw [e2] at hle2
 rw [e1,e2]
 have HA1' : Hid ((segsL lo hi m)[q1]? = some (x1,y1)) := hid (by rw [HA1.out,<- hx1',<- hy1']; rfl)
 have HA2' : Hid ((segsL lo hi m)[q2]? = some (x2,y2)) := hid (by rw [HA2.out,<- hx2',<- hy2']; rfl)
 obtain ⟨xs,hxs⟩ : ∃ v,chunksL x1 y1 c = v := ⟨_,rfl⟩
 obtain ⟨ys,hys⟩ : ∃ v,chunksL x2 y2 c = v := ⟨_,rfl⟩
 rw [hxs] at HC1 hle1 ⊢
 rw [hys] at HC2 hle2 ⊢
 obtain ⟨n1,hn1⟩ : ∃ v,xs.length = v := ⟨_,rfl⟩
 obtain ⟨n2,hn2⟩ : ∃ v,ys.length = v := ⟨_,rfl⟩
 rw [hn1] at HC1 hle1
 rw [hn2] at HC2 hle2
 have HN1 := hid hn1
 have HN2 := hid hn2
 clear e e1 e2 hx1' hy1' hx2' hy2' hxs hys hn1 hn2 CS CR CSg HA1 HA2 hlen hq1 hq2 z1 z3
 go_enter Tryz.func228,Tryz.ntmps228
 go_wp2_with fail
 obtain ⟨w0,hw0⟩ : ∃ w0,((w.alloc (.cells #[.int .i64 s,.int .i64 b,.int .i64 lo,.int .i64 hi,.int .i64 m,.int .i64 c] 380)).alloc (.cells #[.int .i64 p] 3)).alloc (.cells #[.int .i64 r] 3) = w0 := ⟨_,rfl⟩
 have k0 : Below w.heap.size w w0 := by rw [<- hw0]; exact (((Below.refl _ _).alloc (Nat.le_refl _) _).alloc (by simp) _).alloc (by simp <;> omega) _
 have J0 : Blk w0 w.heap.size 380 #[.int .i64 s,.int .i64 b,.int .i64 lo,.int .i64 hi,.int .i64 m,.int .i64 c] := by rw [<- hw0]; exact ((Blk.new w _ _).alloc _).alloc _
 have P0 : Blk w0 (w.heap.size + 1) 3 #[.int .i64 p] := by rw [<- hw0]; exact (Blk.new' _ _ (by simp)).alloc _
 have R0 : Blk w0 (w.heap.size + 1 + 1) 3 #[.int .i64 r] := by rw [<- hw0]; exact Blk.new' _ _ (by simp)
 rw [hw0]
 clear hw0
 ((with_reducible refine (HCS.out _).mono ?_); rintro e wa ⟨rfl,hba⟩)
 have Ja := J0.kept hba
 have Pa := P0.kept hba
 have Ra := R0.kept hba
 have ka := ((Kept.of k0).call hba).2.2
 have j0 : wa.cell? ⟨w.heap.size,0,none⟩ = some (.int .i64 s) := Ja.cell 0
 have j1 : wa.cell? ⟨w.heap.size,1,none⟩ = some (.int .i64 b) := Ja.cell 1
 have j2 : wa.cell? ⟨w.heap.size,2,none⟩ = some (.int .i64 lo) := Ja.cell 2
 have j3 : wa.cell? ⟨w.heap.size,3,none⟩ = some (.int .i64 hi) := Ja.cell 3
 have j4 : wa.cell? ⟨w.heap.size,4,none⟩ = some (.int .i64 m) := Ja.cell 4
 have j5 : wa.cell? ⟨w.heap.size,5,none⟩ = some (.int .i64 c) := Ja.cell 5
 have p0 : wa.cell? ⟨w.heap.size + 1,0,none⟩ = some (.int .i64 p) := Pa.cell 0
 have r0 : wa.cell? ⟨w.heap.size + 1 + 1,0,none⟩ = some (.int .i64 r) := Ra.cell 0
 clear hba J0 P0 R0 k0
 go_wp2_with fail
 ((with_reducible refine (HCR.out _).mono ?_); rintro e wb ⟨rfl,hbb⟩)
 have Jb := Ja.kept hbb
 have Pb := Pa.kept hbb
 have Rb := Ra.kept hbb
 have kb := ((Kept.of ka).call hbb).2.2
 clear j0 j1 j2 j3 j4 j5 p0 r0 hbb Ja Pa Ra ka
 have j2 : wb.cell? ⟨w.heap.size,2,none⟩ = some (.int .i64 lo) := Jb.cell 2
 have j3 : wb.cell? ⟨w.heap.size,3,none⟩ = some (.int .i64 hi) := Jb.cell 3
 have j4 : wb.cell? ⟨w.heap.size,4,none⟩ = some (.int .i64 m) := Jb.cell 4
 go_wp2_with fail
 ((with_reducible refine (HCSg.out _).mono ?_); rintro e wc ⟨A,cA,rfl,hown,hbc⟩)
 have Jc := Jb.kept hbc
 have Pc := Pb.kept hbc
 have Rc := Rb.kept hbc
 have kc := ((Kept.of kb).call hbc).2.2
 clear j2 j3 j4 hbc Jb Pb Rb kb
 have j5 : wc.cell? ⟨w.heap.size,5,none⟩ = some (.int .i64 c) := Jc.cell 5
 obtain ⟨n,hn⟩ : ∃ n,m.toNat = n := ⟨_,rfl⟩
 rw [hn] at hown ⊢
 have HL : Hid ((segsL lo hi m).length = n) := hid (HLen.out.trans hn)
 have hRd := Rd.of_own hown
 obtain ⟨g,o,x',y',hA,hg,hxy,d0,d1⟩ := rd_at HL.out hRd (show q1 < n by omega)
 subst hA
 obtain ⟨g',o',x'',y'',hA,_,hxy',d2,d3⟩ := rd_at HL.out hRd (show q2 < n by omega)
 injection hA with hA
 injection hA with eg eo
 subst eg eo
 rw [HA1'.out] at hxy
 rw [HA2'.out] at hxy'
 injection hxy with hxy
 injection hxy with f1 f2
 injection hxy' with hxy'
 injection hxy' with f3 f4
 subst f1 f2 f3 f4
 have i1 : (0 : Int) <= (q1 : Int) := by omega
 have i2 : (q1 : Int) < (n : Int) := by omega
 have i3 : (0 : Int) <= (q2 : Int) := by omega
 have i4 : (q2 : Int) < (n : Int) := by omega
 have lj := Jc.lt
 have HJc := hid Jc
 have HPc := hid Pc
 have HRc := hid Rc
 have HKc := hid kc
 clear hown hRd hn Jc Pc Rc kc
 go_wp2_with fail
 go_region_held3 (fun w' => Kept wc w') (first | exact kk | exact kk.alloc _ | exact Kept.start wc) (first
  | (go_at_call 261; (with_reducible refine (HC1.out _).mono ?_); rintro e wd ⟨A1,c1,rfl,hown1,hbd⟩; have kk := (Kept.start wc).call hbd; have HR1 := hid (Rd.of_own hown1); clear hown1 hbd)
  | (go_at_call 261; (with_reducible refine (HC2.out _).mono ?_); rintro e we ⟨A2,c2,rfl,hown2,hbe⟩; replace kk := kk.call hbe; replace HR1 := hid (HR1.out.below hbe); have HR2 := hid (Rd.of_own hown2); clear hown2 hbe))
 all_goals clear d0 d1 d2 d3 j5 lj
 all_goals go_wp2_with fail
 all_goals
  obtain ⟨w3,hw3⟩ : ∃ w3,we.alloc (.cells #[.slice none 0 0] 381) = w3 := ⟨_,rfl⟩
  have k3 : Below we.heap.size we w3 := by rw [<- hw3]; exact (Below.refl _ _).alloc (Nat.le_refl _) _
  have L3 : Blk w3 we.heap.size 381 #[.slice none 0 0] := by rw [<- hw3]; exact Blk.new _ _ _
  rw [hw3]
  clear hw3
  have hc3 := (kk.call k3).2.2
  have HJ3 := hid (HJc.out.kept hc3)
  have HP3 := hid (HPc.out.kept hc3)
  have HR3 := hid (HRc.out.kept hc3)
  have HK3 := hid (((Kept.of HKc.out).call hc3).2.2)
  have HX3 := hid (HR1.out.below k3)
  have HY3 := hid (HR2.out.below k3)
  have HXB := hid (HR1.out.lt)
  have HYB := hid (HR2.out.lt)
  have HL3 := hid L3
  have z1 := HJc.out.lt
  have z2 := HPc.out.lt
  have z3 := HRc.out.lt
  have z4 := kk.2.1
  have z5 := L3.lt
  clear k3 L3 hc3 kk HR1 HR2
  go_loopw [62] (fun i wr => ∃ k : Nat,k <= max n1 n2 /\ i = .int .i64 k /\ AddSt w3.heap.size we.heap.size (rdTo s b p r xs ys k) wr /\ But (fun q => q = we.heap.size \/ w3.heap.size <= q) w3 wr) (fun i _ => max n1 n2 - (intOf i).toNat)
  case atStart => exact ⟨0,by omega,rfl,⟨none,0,0,HL3.out,by simpa [rdTo,acts_nil] using World.ownsRow_nil w3 w3.heap.size 220 9⟩,But.refl _ _⟩
  case round =>
   obtain ⟨k,hk,rfl,hst,hB⟩ := hrel
   by_cases hlt : k < max n1 n2
   ·have hrl := rdTo_le s b p r xs ys k
    have nJ : ¬ (w.heap.size = we.heap.size \/ w3.heap.size <= w.heap.size) := by omega
    have nP : ¬ (w.heap.size + 1 = we.heap.size \/ w3.heap.size <= w.heap.size + 1) := by omega
    have nR : ¬ (w.heap.size + 1 + 1 = we.heap.size \/ w3.heap.size <= w.heap.size + 1 + 1) := by omega
    have HC1 := hid (addX_send k n1 c1 w3.heap.size s b lo hi m c r A1 w.heap.size (w.heap.size + 1) (w.heap.size + 1 + 1) we.heap.size (rdTo s b p r xs ys k) xs wr p (by omega) (by omega) HN1.out (HX3.out.but hB (fun q o e h0 => by have := HXB.out q o e h0; omega)) (HJ3.out.but hB nJ) (HP3.out.but hB nP) (HR3.out.but hB nR) hst (by omega) hB.size)
    have HB := hid hB
    clear hB hst
    go_wp2_with fail
    ((with_reducible refine HC1.out.mono ?_); rintro e w4 ⟨rfl,hst4,hB4⟩)
    have hB4' := HB.out.trans hB4
    have hsl : (rdTo s b p r xs ys k ++ sendAt s b p r xs k).length <= 1000000 := by
     rw [List.length_append]
     have : (sendAt s b p r xs k).length <= 1 := by unfold sendAt; split <;> simp
     omega
    have HC2 := hid (addX_recv k n2 c2 w3.heap.size s b lo hi m c r A2 w.heap.size (w.heap.size + 1) (w.heap.size + 1 + 1) we.heap.size (rdTo s b p r xs ys k ++ sendAt s b p r xs k) ys w4 p hp (by omega) (by omega) HN2.out (HY3.out.but hB4' (fun q o e h0 => by have := HYB.out q o e h0; omega)) (HJ3.out.but hB4' nJ) (HP3.out.but hB4' nP) (HR3.out.but hB4' nR) hst4 hsl hB4'.size)
    have HB4 := hid hB4'
    clear hB4' hB4 hst4 HC1
    go_wp2_with fail
    ((with_reducible refine HC2.out.mono ?_); rintro e w5 ⟨rfl,hst5,hB5⟩)
    have HB5 := hid (HB4.out.trans hB5)
    have HS5 := hid hst5
    clear hB5 hst5 HC2
    go_wp2_with fail
    go_roundw
    case rel => exact ⟨k + 1,by omega,by go_num,by rw [rdTo_succ,rdAt_eq,<- List.append_assoc]; exact HS5.out,HB5.out⟩
    case measure => simp [intOf]; omega
   ·obtain rfl : k = max n1 n2 := by omega
    obtain ⟨A0,n0,c0,hb0,hown⟩ := hst
    have e0 := hb0.cell
    have hln := AddSt.len hown
    have eL : rdTo s b p r xs ys (max n1 n2) = roundL s b p r xs ys := by rw [roundL,HN1.out,HN2.out]
    rw [eL] at hln hown
    have HO := hid hown
    have HB := hid hB
    have HLN := hid hln
    clear hown hb0 hB hln eL
    go_wp2
    go_ret
    rw [HLN.out]
    exact ⟨A0,c0,rfl,own_base HO.out HK3.out.size,HK3.out.trans (HB.out.below HK3.out.size (fun q hq => by have := HK3.out.size; omega))⟩
def rY (s b lo hi m c x p r : Int) : List RAct := if 0 <= x /\ x < m /\ (p = 0 \/ p = 1) /\ 0 <= r /\ r < m - 1 then roundR s b lo hi m c x p r else []
theorem roundR_le (s b lo hi m c x p r : Int) (h0 : 0 <= lo) (h1 : lo <= hi) (h2 : hi <= 1000) (hm : 1 <= m) : (roundR s b lo hi m c x p r).length <= 2000 := by
 have z1 := Int.emod_nonneg (x - r + p) (b := m) (by omega)
 have z2 := Int.emod_lt_of_pos (x - r + p) (b := m) (by omega)
 have z3 := Int.emod_nonneg (x - r + p - 1) (b := m) (by omega)
 have z4 := Int.emod_lt_of_pos (x - r + p - 1) (b := m) (by omega)
 have a1 := chS_le lo hi m c ((x - r + p) % m).toNat h1 h2 h0 (by omega)
 have a2 := chS_le lo hi m c ((x - r + p - 1) % m).toNat h1 h2 h0 (by omega)
 have := rdTo_le s b p r (chS lo hi m c ((x - r + p) % m).toNat) (chS lo hi m c ((x - r + p - 1) % m).toNat) (max (chS lo hi m c ((x - r + p) % m).toNat).length (chS lo hi m c ((x - r + p - 1) % m).toNat).length)
 rw [roundR,roundL]
 omega
theorem rY_le (s b lo hi m c x p r : Int) (h0 : 0 <= lo) (h1 : lo <= hi) (h2 : hi <= 1000) (hm : 1 <= m) : (rY s b lo hi m c x p r).length <= 2000 := by
 unfold rY
 split
 ·exact roundR_le s b lo hi m c x p r h0 h1 h2 hm
 ·simp
theorem roundY_any (s b lo hi m c x p r : Int) (w : World) (h0 : 0 <= lo) (h1 : lo <= hi) (h2 : hi <= 1000) (hm1 : 1 <= m) (hm2 : m <= 1000) (hc : c <= 9223372036854775807) :
  Calls Tryz.prog 228 #[jobV s b lo hi m c,.int .i64 x,.int .i64 p,.int .i64 r] w (OwnRet w 220 9 (rY s b lo hi m c x p r).length (acts (rY s b lo hi m c x p r))) := by
 unfold rY
 split
 ·rename_i h
  obtain ⟨a1,a2,a3,a4,a5⟩ := h
  exact round_in s b lo hi m c x p r w h0 h1 h2 hm2 a1 a2 a3 a4 a5 hc
 ·refine (round_out s b lo hi m c x p r w hm1 (by omega) (by omega)).mono ?_
  rintro e w' ⟨rfl,hb⟩
  exact ⟨none,0,rfl,World.ownsRow_nil _ _ _ _,hb⟩
end
def zeroA : RAct := ((false,false),(0,0,0,0,0),(0,0))
def plainI (k t n : Int) : RItem := ((k,t,n),zeroA)
def actI (t : Int) (a : RAct) : RItem := ((if a.1.1 = true then 3 else 4,t,0),a)
def rangeI (k t : Int) (lo n : Nat) : List RItem := (List.range n).map fun i => plainI k t ((lo + i : Nat) : Int)
theorem rangeI_succ (k t : Int) (lo n : Nat) : rangeI k t lo (n + 1) = rangeI k t lo n ++ [plainI k t ((lo + n : Nat) : Int)] := by simp [rangeI,List.range_succ]
theorem rangeI_length (k t : Int) (lo n : Nat) : (rangeI k t lo n).length = n := by simp [rangeI]
structure PlC where
 P : Nat
 bu : Nat
 m : Nat
 ch : Int
 wi : Nat
 mi : Nat
structure PlC.Ok (c : PlC) : Prop where
 p1 : 1 <= c.P
 p2 : c.P <= 60
 b1 : 1 <= c.bu
 b2 : c.bu <= 1048576
 m1 : 1 <= c.m
 m2 : c.m <= 8
 c2 : c.ch <= 1048576
 w1 : 1 <= c.wi
 w2 : c.wi <= 1048576
 i1 : 1 <= c.mi
 i2 : c.mi <= 20
def PlC.bks (c : PlC) : List (Int × Int) := bucketsL c.P c.bu
def PlC.nb (c : PlC) : Nat := cnt c.P c.bu
def PlC.grps (c : PlC) : List (Int × Int) := blocksL c.nb c.wi
theorem PlC.bks_length (c : PlC) : c.bks.length = c.nb := bucketsL_length _ _
theorem PlC.grps_length (c : PlC) : c.grps.length = cnt c.nb c.wi := blocksL_length _ _
theorem PlC.nb_le {c : PlC} (h : c.Ok) : c.nb <= 60 := by have := cnt_le c.P c.bu; have := h.p2; unfold PlC.nb; omega
theorem PlC.nb_pos {c : PlC} (h : c.Ok) : 1 <= c.nb := by unfold PlC.nb; rw [cnt_pos _ _ h.p1 h.b1]; exact Nat.le_add_left 1 _
theorem blocks_in (n s k : Nat) (x : Int × Int) (h : (blocksL n s)[k]? = some x) : 0 <= x.1 /\ x.1 <= x.2 /\ x.2 <= n /\ x.2 - x.1 <= s := by
 have hk : k < (blocksL n s).length := by
  rcases Nat.lt_or_ge k (blocksL n s).length with h' | h'
  ·exact h'
  ·rw [List.getElem?_eq_none h'] at h; cases h
 rw [List.getElem?_eq_getElem hk] at h
 injection h with h
 rw [<- h,blocksL_get]
 dsimp only
 rw [blocksL_length] at hk
 have hle : k * s <= n := by
  unfold cnt at hk
  split at hk
  ·omega
  ·have h1 : k <= (n - 1) / s := by omega
   have h2 : k * s <= (n - 1) / s * s := Nat.mul_le_mul_right s h1
   have h3 := Nat.div_mul_le_self (n - 1) s
   omega
 omega
theorem PlC.bks_in {c : PlC} {j : Nat} {x : Int × Int} (h : c.bks[j]? = some x) : 0 <= x.1 /\ x.1 <= x.2 /\ x.2 <= c.P := by
 have hm : x ∈ blocksL c.P c.bu := by
  have := List.mem_of_getElem? h
  unfold PlC.bks bucketsL at this
  simpa using this
 obtain ⟨i,hi,e⟩ := List.mem_iff_getElem.1 hm
 obtain ⟨a,b,d,_⟩ := blocks_in c.P c.bu i x (by rw [List.getElem?_eq_getElem hi,e])
 exact ⟨a,b,d⟩
theorem PlC.grps_in {c : PlC} {j : Nat} {x : Int × Int} (h : c.grps[j]? = some x) : 0 <= x.1 /\ x.1 <= x.2 /\ x.2 <= c.nb /\ x.2 - x.1 <= c.wi := blocks_in _ _ _ _ h
def PlC.jobI (c : PlC) (w t : Int) (j : Nat) (p r : Int) : List RItem := match c.bks[j]? with
 | some x => (rY t j x.1 x.2 c.m c.ch w p r).map (actI t)
 | none => []
def PlC.jobsI (c : PlC) (w t : Int) (lo n : Nat) (p r : Int) : List RItem := (List.range n).flatMap fun i => c.jobI w t (lo + i) p r
def PlC.rndI (c : PlC) (w t : Int) (lo n k : Nat) : List RItem := (List.range k).flatMap fun q => c.jobsI w t lo n ((q / (c.m - 1) : Nat) : Int) ((q % (c.m - 1) : Nat) : Int)
def PlC.groupI (c : PlC) (w t : Int) (lo n : Nat) : List RItem := rangeI 2 t lo n ++ c.rndI w t lo n (2 * (c.m - 1)) ++ rangeI 5 t lo n
def PlC.groupG (c : PlC) (w t : Int) (g : Int × Int) : List RItem := c.groupI w t g.1.toNat (g.2 - g.1).toNat
def PlC.grpsI (c : PlC) (w t : Int) (k : Nat) : List RItem := (c.grps.take k).flatMap (c.groupG w t)
def PlC.itemsI (c : PlC) (w t : Int) : List RItem := rangeI 1 t 0 c.mi ++ c.grpsI w t (cnt c.nb c.wi) ++ [plainI 6 t 0]
theorem PlC.jobsI_succ (c : PlC) (w t : Int) (lo n : Nat) (p r : Int) : c.jobsI w t lo (n + 1) p r = c.jobsI w t lo n p r ++ c.jobI w t (lo + n) p r := by simp [PlC.jobsI,List.range_succ]
theorem PlC.rndI_succ (c : PlC) (w t : Int) (lo n k : Nat) : c.rndI w t lo n (k + 1) = c.rndI w t lo n k ++ c.jobsI w t lo n ((k / (c.m - 1) : Nat) : Int) ((k % (c.m - 1) : Nat) : Int) := by simp [PlC.rndI,List.range_succ]
theorem PlC.grpsI_succ (c : PlC) (w t : Int) (k : Nat) (g : Int × Int) (h : c.grps[k]? = some g) : c.grpsI w t (k + 1) = c.grpsI w t k ++ c.groupG w t g := by
 have hk : k < c.grps.length := by
  rcases Nat.lt_or_ge k c.grps.length with h' | h'
  ·exact h'
  ·rw [List.getElem?_eq_none h'] at h; cases h
 rw [List.getElem?_eq_getElem hk] at h
 injection h with h
 rw [PlC.grpsI,take_snoc _ _ hk,List.flatMap_append,h]
 simp [PlC.grpsI]
theorem flat_le_PlanL {α : Type} (f : Nat -> List α) (d : Nat) (h : ∀ i,(f i).length <= d) (n : Nat) : ((List.range n).flatMap f).length <= n * d := by
 induction n with
 | zero => simp
 | succ n ih =>
  rw [List.range_succ,List.flatMap_append,List.length_append,Nat.succ_mul]
  have := h n
  simp only [List.flatMap_cons,List.flatMap_nil,List.append_nil]
  omega
theorem PlC.jobI_le {c : PlC} (h : c.Ok) (w t : Int) (j : Nat) (p r : Int) : (c.jobI w t j p r).length <= 2000 := by
 unfold PlC.jobI
 cases hx : c.bks[j]? with
 | none => simp
 | some x =>
  obtain ⟨a,b,d⟩ := PlC.bks_in hx
  have := h.p2
  simp only [List.length_map]
  exact rY_le _ _ _ _ _ _ _ _ _ a b (by omega) (by have := h.m1; omega)
theorem PlC.jobsI_le {c : PlC} (h : c.Ok) (w t : Int) (lo n : Nat) (p r : Int) : (c.jobsI w t lo n p r).length <= n * 2000 := flat_le_PlanL _ _ (fun i => c.jobI_le h w t _ p r) n
theorem PlC.rndI_le {c : PlC} (h : c.Ok) (w t : Int) (lo n k : Nat) : (c.rndI w t lo n k).length <= k * (n * 2000) := flat_le_PlanL _ _ (fun i => c.jobsI_le h w t lo n _ _) k
theorem PlC.groupI_le {c : PlC} (h : c.Ok) (w t : Int) (lo n : Nat) (hn : n <= 60) : (c.groupI w t lo n).length <= 1680120 := by
 have h1 := c.rndI_le h w t lo n (2 * (c.m - 1))
 have h2 : 2 * (c.m - 1) <= 14 := by have := h.m2; omega
 have h3 : 2 * (c.m - 1) * (n * 2000) <= 14 * 120000 := Nat.mul_le_mul h2 (by omega)
 rw [PlC.groupI,List.length_append,List.length_append,rangeI_length,rangeI_length]
 omega
theorem PlC.grpsI_le {c : PlC} (h : c.Ok) (w t : Int) (k : Nat) (hk : k <= cnt c.nb c.wi) : (c.grpsI w t k).length <= k * 1680120 := by
 induction k with
 | zero => simp [PlC.grpsI]
 | succ k ih =>
  have hg : c.grps[k]? = some (c.grps[k]'(by rw [c.grps_length]; omega)) := List.getElem?_eq_getElem _
  rw [c.grpsI_succ w t k _ hg,List.length_append]
  have hin := PlC.grps_in hg
  have hnb := PlC.nb_le h
  have h1 := c.groupI_le h w t (c.grps[k]'(by rw [c.grps_length]; omega)).1.toNat ((c.grps[k]'(by rw [c.grps_length]; omega)).2 - (c.grps[k]'(by rw [c.grps_length]; omega)).1).toNat (by omega)
  have h2 := ih (by omega)
  unfold PlC.groupG
  omega
theorem PlC.itemsI_le {c : PlC} (h : c.Ok) (w t : Int) : (c.itemsI w t).length <= 200000000 := by
 have h1 := c.grpsI_le h w t _ (Nat.le_refl _)
 have h2 : cnt c.nb c.wi <= 60 := Nat.le_trans (cnt_le _ _) (PlC.nb_le h)
 have h3 := h.i2
 rw [PlC.itemsI,List.length_append,List.length_append,rangeI_length]
 simp only [List.length_cons,List.length_nil]
 omega
theorem PlC.itemsI_pos (c : PlC) (w t : Int) : 1 <= (c.itemsI w t).length := by simp only [PlC.itemsI,List.length_append,List.length_cons,List.length_nil]; omega
end Go.Proofs.YtkmaeipoaoikpaaGreat
