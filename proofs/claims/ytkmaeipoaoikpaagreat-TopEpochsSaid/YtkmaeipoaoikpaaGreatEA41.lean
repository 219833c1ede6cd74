/-
  Lemmas and contracts (41): World, Works, Mep, Mei.
-/
import Derived.WalkKit
import Derived.WalkSpells
import Derived.WalkLawsBesides
import Derived.Lib.Hide
import Derived.Deep.QuietTactic
import Derived.BigQuiet
import Derived.IntWalk
import Derived.Deep.RegionHeld3
import Derived.Maps.AppendAt
import Derived.ProofKit
import Derived.OpenShut
import Derived.Deep.Slices
import Derived.Deep.Fields
import Derived.Test.YtkmaeipoaoikpaaGreatProg
import Derived.Laws.OwnMore
import Derived.Deep.Draws
import Derived.Laws.Rows
import Derived.Laws.EntriesVeiled
import Derived.RangeFuncNested
import Derived.RangeFuncBox
import Derived.RangeFuncLeaves
import Derived.Shelf.Abstract
import Derived.OwnWalkIn
import Derived.TacticsInMore
import Derived.LoopNIn
import Derived.LoopIn
import Derived.StillTail
import Derived.OrdersIn
import Derived.RangeFuncCalls
import Derived.OrdersHeld
import Derived.Laws.Bits64
import Derived.Deep.DeepMust
import Derived.Deep.DeepCutAuto
import Derived.BigRegion
import Derived.Laws.BitsAllLaws
import Derived.Test.YtkmaeipoaoikpaaGreatShelf
import Derived.SizedLaws
import Derived.Deep.OwnRows
import Derived.Laws.CopyOwn
import Derived.RangeFuncFrom
import Derived.OwnWalk
import Derived.WalkMore
import Derived.Maps.Own
import Derived.Maps.Views
import Derived.Maps.Keyed
import Derived.Maps.OwnOps
import Derived.Maps.Ext
import Derived.Carry
import Derived.Lib.SliceRun
import Derived.ScopeJumps
import Derived.Test.YtkmaeipoaoikpaaGreatEA01
import Derived.Test.YtkmaeipoaoikpaaGreatEA02
import Derived.Test.YtkmaeipoaoikpaaGreatEA03
import Derived.Test.YtkmaeipoaoikpaaGreatEA04
import Derived.Test.YtkmaeipoaoikpaaGreatEA05
import Derived.Test.YtkmaeipoaoikpaaGreatEA06
import Derived.Test.YtkmaeipoaoikpaaGreatEA07
import Derived.Test.YtkmaeipoaoikpaaGreatEA08
import Derived.Test.YtkmaeipoaoikpaaGreatEA09
import Derived.Test.YtkmaeipoaoikpaaGreatEA10
import Derived.Test.YtkmaeipoaoikpaaGreatEA11
import Derived.Test.YtkmaeipoaoikpaaGreatEA12
import Derived.Test.YtkmaeipoaoikpaaGreatEA13
import Derived.Test.YtkmaeipoaoikpaaGreatEA14
import Derived.Test.YtkmaeipoaoikpaaGreatEA15
import Derived.Test.YtkmaeipoaoikpaaGreatEA16
import Derived.Test.YtkmaeipoaoikpaaGreatEA17
import Derived.Test.YtkmaeipoaoikpaaGreatEA18
import Derived.Test.YtkmaeipoaoikpaaGreatEA19
import Derived.Test.YtkmaeipoaoikpaaGreatEA20
import Derived.Test.YtkmaeipoaoikpaaGreatEA21
import Derived.Test.YtkmaeipoaoikpaaGreatEA22
import Derived.Test.YtkmaeipoaoikpaaGreatEA23
import Derived.Test.YtkmaeipoaoikpaaGreatEA24
import Derived.Test.YtkmaeipoaoikpaaGreatEA25
import Derived.Test.YtkmaeipoaoikpaaGreatEA26
import Derived.Test.YtkmaeipoaoikpaaGreatEA27
import Derived.Test.YtkmaeipoaoikpaaGreatEA28
import Derived.Test.YtkmaeipoaoikpaaGreatEA29
import Derived.Test.YtkmaeipoaoikpaaGreatEA30
import Derived.Test.YtkmaeipoaoikpaaGreatEA31
import Derived.Test.YtkmaeipoaoikpaaGreatEA32
import Derived.Test.YtkmaeipoaoikpaaGreatEA33
import Derived.Test.YtkmaeipoaoikpaaGreatEA34
import Derived.Test.YtkmaeipoaoikpaaGreatEA35
import Derived.Test.YtkmaeipoaoikpaaGreatEA36
import Derived.Test.YtkmaeipoaoikpaaGreatEA37
import Derived.Test.YtkmaeipoaoikpaaGreatEA38
import Derived.Test.YtkmaeipoaoikpaaGreatEA39
import Derived.Test.YtkmaeipoaoikpaaGreatEA40
namespace Go.Proofs.YtkmaeipoaoikpaaGreat
set_option linter.unusedVariables false
set_option linter.unusedSimpArgs false
set_option maxRecDepth 100000
section
open Go.RowKit
def SNewRet (I : InC) (w : World) (e : Ending) (w' : World) : Prop := ∃ xb, e = .returned (.tuple #[.pointer (some ⟨xb, 0, none⟩), .int .i64 0]) ∧ WorldAt w.heap.size w' xb I (startL I I.c.wk.toNat) (startK I.c.wk.toNat) 0 ∧ Below w.heap.size w w'
set_option maxHeartbeats 8000000 in
theorem schedNew_any (I : InC) (w : World) (hI : InAt w I) (hO : I.Ok) :
    Calls Tryz.prog 12 #[inV I.A I.n I.cap I.c I.S I.m I.cS I.AP I.P I.cP I.AD I.D I.cD] w (SNewRet I w) := by
  have HN := Lib.hid hO.nums
  have HO := Lib.hid hO
  have m60 := hO.m60
  have hK := hO.mc (x := 0) (by have := hO.nums.wk; omega)
  have hn16 : I.n ≤ 16 := hK.n16
  have hP60 := hO.P60
  have hD4 := hO.D4
  have HCI := Lib.hid (fun W (i : InAt W I) => confInput_any I.A I.n I.cap I.l I.c I.S I.m I.cS (exsOf I.N I.M I.es) I.AP I.P I.cP I.AD I.D I.cD W i.hl i.rl i.cap (by omega) (by rw [exsOf_length]; exact i.el) (by rw [exV_of]; exact i.re) (by omega) (by omega) (by omega))
  have HI := Lib.hid hI
  clear hI hO hK
  go_enter Tryz.func12, Tryz.ntmps12
  go_wp2_with fail
  obtain ⟨w1, hw1⟩ : ∃ w1, w.alloc (.cells (inC I.A I.n I.cap I.c I.S I.m I.cS I.AP I.P I.cP I.AD I.D I.cD) 29) = w1 := ⟨_, rfl⟩
  obtain ⟨gin, hgin⟩ : ∃ g, w.heap.size = g := ⟨_, rfl⟩
  have hb1 : Below w.heap.size w w1 := by rw [← hw1]; exact (Below.refl _ _).alloc (Nat.le_refl _) _
  have hi1 : Blk w1 gin 29 (inC I.A I.n I.cap I.c I.S I.m I.cS I.AP I.P I.cP I.AD I.D I.cD) := by rw [← hw1]; exact Blk.new' _ _ hgin
  have HW1 := Lib.hid hw1
  have HGI := Lib.hid hgin
  have HB1 := Lib.hid hb1
  have HI1 := Lib.hid hi1
  clear hw1 hgin hb1 hi1
  rw [HW1.out, HGI.out]
  ((with_reducible refine (HCI.out w1 (HI.out.below HB1.out)).mono ?_); rintro e w2 ⟨cd, rfl, hcd, hb2⟩)
  obtain rfl : cd = 0 := hcd.2 HO.out.ok
  have HB2 := Lib.hid (HB1.out.trans (hb2.mono HB1.out.size))
  have HI2 := Lib.hid (HI1.out.kept hb2)
  have c4 : w2.cell? ⟨gin, 4, none⟩ = some (.int .i64 I.c.wk) := HI2.out.cell 4
  have cl := HI2.out.lt
  clear hcd hb2 HCI
  go_wp2_with fail
  obtain ⟨w3, hw3⟩ : ∃ w3, w2.alloc (.cells #[.slice none 0 0, .slice none 0 0, .int .i64 0] 125) = w3 := ⟨_, rfl⟩
  obtain ⟨xb, hxb⟩ : ∃ g, w2.heap.size = g := ⟨_, rfl⟩
  have hb3 : Below w2.heap.size w2 w3 := by rw [← hw3]; exact (Below.refl _ _).alloc (Nat.le_refl _) _
  have hx3 : Blk w3 xb 125 (worldC none 0 0 none 0 0 0) := by rw [← hw3]; exact Blk.new' _ _ hxb
  have HXW : Hid (w.heap.size ≤ xb) := Lib.hid (by rw [← hxb]; exact HB2.out.size)
  have HGX : Hid (gin < w2.heap.size ∧ xb = w2.heap.size) := Lib.hid ⟨HI2.out.lt, hxb.symm⟩
  rw [hw3, hxb]
  have HB3 := Lib.hid (HB2.out.trans (hb3.mono HB2.out.size))
  have HI3 := Lib.hid (HI2.out.kept hb3)
  have HX3 := Lib.hid hx3
  clear hw3 hxb hb3 hx3 c4 cl
  go_loopw [19] (fun v wr => ∃ (k : Nat) (own : Nat → Nat) (mbs lbs : List Nat) (AW : Option Addr) (cW : Nat) (AL : Option Addr) (cL : Nat), (k : Int) ≤ I.c.wk ∧ v = .int .i64 k ∧ WorldIn own wr xb I mbs lbs (startL I k) (startK k) AW cW AL cL 0 ∧ mbs.length = k ∧ lbs.length = k ∧ (∀ j, own j ≠ 0 → w.heap.size ≤ j) ∧ Blk wr gin 29 (inC I.A I.n I.cap I.c I.S I.m I.cS I.AP I.P I.cP I.AD I.D I.cD) ∧ Below w.heap.size w wr) (fun v _ => I.c.wk.toNat - (intOf v).toNat)
  case atStart =>
    refine ⟨0, fun j => if j = xb then 1 else 0, [], [], none, 0, none, 0, by have := HN.out.wk; omega, rfl, ⟨HX3.out, if_pos rfl, World.ownsRow_nil _ _ _ _, World.ownsRow_nil _ _ _ _, fun g hg => by simp [blkOf, Value.ownBlock] at hg, fun g hg => by simp [blkOf, Value.ownBlock] at hg, ⟨rfl, rfl, fun i b s h => by simp at h, fun i b s h => by simp at h⟩⟩, rfl, rfl, fun j hj => ?_, HI3.out, HB3.out⟩
    by_cases e : j = xb
    · rw [e]; exact HXW.out
    · simp [e] at hj
  case round =>
    obtain ⟨k, own, mbs, lbs, AW, cW, AL, cL, hk, rfl, hW, hml, hll, hown, hg, hb⟩ := hrel
    have HG := Lib.hid hg
    have HWR := Lib.hid hW
    have HML := Lib.hid hml
    have HLL := Lib.hid hll
    have HOWN := Lib.hid hown
    have HBR := Lib.hid hb
    clear hg hW hml hll hown hb
    by_cases hlt : (k : Int) < I.c.wk
    · have hk64 : k < 64 := by have := HN.out.wk; omega
      have c0 : wr.cell? ⟨gin, 0, none⟩ = some (.slice I.A I.n I.cap) := HG.out.cell 0
      have c1 : wr.cell? ⟨gin, 1, none⟩ = some (.int .i64 I.c.sh) := HG.out.cell 1
      have c2 : wr.cell? ⟨gin, 2, none⟩ = some (.int .i64 I.c.ra) := HG.out.cell 2
      have c3 : wr.cell? ⟨gin, 3, none⟩ = some (.int .i64 I.c.mo) := HG.out.cell 3
      have c4 : wr.cell? ⟨gin, 4, none⟩ = some (.int .i64 I.c.wk) := HG.out.cell 4
      have c5 : wr.cell? ⟨gin, 5, none⟩ = some (.int .i64 I.c.ba) := HG.out.cell 5
      have c6 : wr.cell? ⟨gin, 6, none⟩ = some (.int .i64 I.c.mi) := HG.out.cell 6
      have c7 : wr.cell? ⟨gin, 7, none⟩ = some (.int .i64 I.c.st) := HG.out.cell 7
      have c8 : wr.cell? ⟨gin, 8, none⟩ = some (.int .i64 I.c.bu) := HG.out.cell 8
      have c9 : wr.cell? ⟨gin, 9, none⟩ = some (.int .i64 I.c.ch) := HG.out.cell 9
      have c10 : wr.cell? ⟨gin, 10, none⟩ = some (.int .i64 I.c.wi) := HG.out.cell 10
      have c11 : wr.cell? ⟨gin, 11, none⟩ = some (.int .i64 I.c.ca) := HG.out.cell 11
      have c12 : wr.cell? ⟨gin, 12, none⟩ = some (.slice I.S I.m I.cS) := HG.out.cell 12
      have c13 : wr.cell? ⟨gin, 13, none⟩ = some (.slice I.AP I.P I.cP) := HG.out.cell 13
      have c14 : wr.cell? ⟨gin, 14, none⟩ = some (.slice I.AD I.D I.cD) := HG.out.cell 14
      have cl := HG.out.lt
      go_wp2_with fail
      ((with_reducible refine (machNew_any I k wr (HI.out.below HBR.out) HO.out hlt).mono ?_); rintro e w4 ⟨mb, rfl, hm, hb4⟩)
      have hW4 := HWR.out.below (own' := lab own wr.heap.size (2 * k + 2)) hb4 (lab_old _ _ _)
      have HW4 := Lib.hid hW4
      have HOWN1 := Lib.hid (lab_pos (k := 2 * k + 2) HOWN.out HBR.out.size)
      have HP4 := Lib.hid (hW4.parts.addM HML.out (hm.mono (T := fun j => lab own wr.heap.size (2 * k + 2) j = 2 * k + 2) (fun j hj h => lab_new _ _ _ h)))
      have HG4 := Lib.hid (HG.out.kept hb4)
      have HB4 := Lib.hid (HBR.out.trans (hb4.mono HBR.out.size))
      have HB4r := Lib.hid hb4
      clear hm hb4 hW4 HG
      have x0 := HW4.out.blk.cell 0
      have xl := HW4.out.blk.lt
      go_wp2_with (at_builtin; go_must (refine wpList_pushL slWk rfl _ _ rfl 0 (.slice AW mbs.length cW) mbs.length (mbs.map ifV) rfl HW4.out.wrow #[ifV mb] w4.heap.size rfl rfl rfl (by intro u hu; simp at hu; subst hu; rfl) (by unfold maxLen; have := HML.out; omega) (by have := HML.out; omega) (Nat.zero_le _) ?_); go_must (intro A' c' wa hown' hb' hgr' hat'; (have hK := HW4.out.blk.other HW4.out.wrow hgr' (by decide)); (have v0 := hK.cell 0); (have f0 := hK.frozen 0); (have lk := hK.lt); (have HK := Lib.hid hK); (have HO2 := Lib.hid hown'); (have HGR := Lib.hid hgr'); (have HAT := Lib.hid hat'); clear hK hown' hb' hgr' hat' x0 xl))
      have hW5 := HW4.out.addW HP4.out HGR.out HO2.out HAT.out
      have hg2 := gr_set (p := ⟨xb, 0, none⟩) (World.grownBy.refl wa (some xb)) (.inl rfl) (.slice A' (mbs.length + 1) c')
      have hG5 : Blk (wa.setCell ⟨xb, 0, none⟩ (.slice A' (mbs.length + 1) c')) gin 29 (inC I.A I.n I.cap I.c I.S I.m I.cS I.AP I.P I.cP I.AD I.D I.cD) := (HG4.out.other HW4.out.wrow HGR.out (by decide)).grown hg2 (by
        intro e
        injection e with e
        have h1 := HXW.out
        have h2 := HGX.out
        omega)
      have hB5 : Below w.heap.size w (wa.setCell ⟨xb, 0, none⟩ (.slice A' (mbs.length + 1) c')) := below_gr (HB4.out.grown HGR.out HB4.out.size (fun g hg => HOWN1.out g (by rw [HW4.out.ow g ((own_blkOf _ _ _).symm.trans hg)]; decide))) (Nat.le_trans HB4.out.size HGR.out.size) hg2 HXW.out
      have hz5 : w4.heap.size ≤ (wa.setCell ⟨xb, 0, none⟩ (.slice A' (mbs.length + 1) c')).heap.size := Nat.le_trans HGR.out.size hg2.size
      generalize hw5 : wa.setCell ⟨xb, 0, none⟩ (.slice A' (mbs.length + 1) c') = w5 at hW5 hG5 hB5 hz5 ⊢
      have HW5 := Lib.hid hW5
      have HG5 := Lib.hid hG5
      have HB5 := Lib.hid hB5
      have HZ5 := Lib.hid hz5
      clear hW5 hG5 hB5 hz5 hw5 hg2 v0 f0 lk HK HO2 HGR HAT HW4 HP4 HG4 HB4
      have hca : (I.c.ca.toNat : Int) = I.c.ca := by have := HN.out.ca; omega
      have HLK : Hid (∀ W, Calls Tryz.prog 47 #[.int .i64 I.c.ca] W fun e w' => e = .returned (.pointer (some ⟨W.heap.size, 0, none⟩)) ∧ Blk w' W.heap.size 243 (lnkC none 0 0 I.c.ca.toNat 0 0 0) ∧ Below W.heap.size W w') := Lib.hid (fun W => by
        have := linkNew_any I.c.ca.toNat W (by have := HN.out.ca; omega) (by have := HN.out.ca; omega)
        rw [hca] at this
        exact this)
      have HCA := Lib.hid hca
      clear hca
      have hX5 : Blk w5 xb 125 (worldC A' (mbs.length + 1) c' AL lbs.length cL 0) := by
        have := HW5.out.blk
        rwa [List.length_append, List.length_singleton] at this
      have HX5 := Lib.hid hX5
      clear hX5
      refine wp_region_early (fun W => Blk W xb 125 (worldC A' (mbs.length + 1) c' AL lbs.length cL 0) ∧ Blk W gin 29 (inC I.A I.n I.cap I.c I.S I.m I.cS I.AP I.P I.cP I.AD I.D I.cD)) [0, 1, 2, 3, 4, 5, 6, 7] [8, 9, 10] [11, 12, 13] (by kernel_rfl) (by kernel_rfl) (⟨HX5.out.drew, HG5.out.drew⟩) ?_
      simp only [List.filterMap_cons, List.filterMap_nil, List.getElem?_cons_succ, List.getElem?_cons_zero]
      refine early_step (.pointer (some ⟨xb, 0, none⟩)) rfl (fun W hW => ?_) ?_
      · obtain ⟨hx, hy⟩ := hW
        have x1 := hx.cell 1
        have xl := hx.lt
        have y11 := hy.cell 11
        have yl := hy.lt
        go_simp
      go_simp
      refine early_step (.pointer (some ⟨xb, 0, none⟩)) rfl (fun W hW => ?_) ?_
      · obtain ⟨hx, hy⟩ := hW
        have x1 := hx.cell 1
        have xl := hx.lt
        have y11 := hy.cell 11
        have yl := hy.lt
        go_simp
      go_simp
      refine early_step (.pointer (some ⟨xb, 0, none⟩)) rfl (fun W hW => ?_) ?_
      · obtain ⟨hx, hy⟩ := hW
        have x1 := hx.cell 1
        have xl := hx.lt
        have y11 := hy.cell 11
        have yl := hy.lt
        go_simp
      go_simp
      refine early_step (.pointer (some ⟨xb, 1, none⟩)) rfl (fun W hW => ?_) ?_
      · obtain ⟨hx, hy⟩ := hW
        have x1 := hx.cell 1
        have xl := hx.lt
        have y11 := hy.cell 11
        have yl := hy.lt
        go_simp
      go_simp
      refine early_step (.slice AL lbs.length cL) rfl (fun W hW => ?_) ?_
      · obtain ⟨hx, hy⟩ := hW
        have x1 := hx.cell 1
        have xl := hx.lt
        have y11 := hy.cell 11
        have yl := hy.lt
        go_simp
      go_simp
      refine early_step (.pointer (some ⟨gin, 0, none⟩)) rfl (fun W hW => ?_) ?_
      · obtain ⟨hx, hy⟩ := hW
        have x1 := hx.cell 1
        have xl := hx.lt
        have y11 := hy.cell 11
        have yl := hy.lt
        go_simp
      go_simp
      refine early_step (.pointer (some ⟨gin, 11, none⟩)) rfl (fun W hW => ?_) ?_
      · obtain ⟨hx, hy⟩ := hW
        have x1 := hx.cell 1
        have xl := hx.lt
        have y11 := hy.cell 11
        have yl := hy.lt
        go_simp
      go_simp
      refine early_step (.int .i64 I.c.ca) rfl (fun W hW => ?_) ?_
      · obtain ⟨hx, hy⟩ := hW
        have x1 := hx.cell 1
        have xl := hx.lt
        have y11 := hy.cell 11
        have yl := hy.lt
        go_simp
      go_simp
      change RestW _ _ _ _ _ (_ :: _ :: _ :: []) _ _
      unfold RestW
      go_wp2_with fail
      ((with_reducible refine (HLK.out _).mono ?_); rintro e w6 ⟨rfl, hl6, hb6⟩)
      have hb6' : Below w5.heap.size w5 w6 := ((Kept.start w5).call hb6).2.2
      have hl6' : Blk w6 w5.heap.size 243 (lnkC none 0 0 I.c.ca.toNat 0 0 0) := hl6
      have hW6 := HW5.out.below (own' := lab (lab (lab own wr.heap.size (2 * k + 2)) w4.heap.size 1) w5.heap.size (2 * k + 3)) hb6' (lab_old _ _ _)
      have HP6 := Lib.hid (hW6.parts.addL (l := ⟨0, 0, []⟩) HLL.out (link_start hl6' (by have := HN.out.ca; omega) (by have := HN.out.ca; omega) (lab_new _ _ _ (Nat.le_refl _))))
      have HW6 := Lib.hid hW6
      have HG6 := Lib.hid (HG5.out.kept hb6')
      have HX6 := Lib.hid (HX5.out.kept hb6')
      have HB6 := Lib.hid (HB5.out.trans (hb6'.mono HB5.out.size))
      have HOW6 := Lib.hid (lab_pos (k := 2 * k + 3) (lab_pos (k := 1) HOWN1.out (Nat.le_trans HBR.out.size HB4r.out.size)) HB5.out.size)
      clear hl6 hb6 hb6' hl6' hW6 HLK
      go_wp2_with fail
      refine ⟨⟨HX6.out, HG6.out⟩, ?_⟩
      unfold RestW
      change wpList _ _ _ (_ :: []) _ w6
      go_wp2_with fail
      refine ⟨⟨HX6.out.alloc _, HG6.out.alloc _⟩, ?_⟩
      unfold RestW
      change wpList _ _ _ (_ :: []) _ (w6.alloc (.cells #[ptV w5.heap.size] 126))
      go_wp2_with (at_builtin; go_must (refine wpList_pushL slLn rfl _ _ rfl 0 (.slice AL lbs.length cL) lbs.length (lbs.map ptV) rfl HW6.out.lrow #[ptV w5.heap.size] w6.heap.size rfl rfl rfl (by intro u hu; simp at hu; subst hu; rfl) (by unfold maxLen; have := HLL.out; omega) (by have := HLL.out; omega) (Nat.zero_le _) ?_); go_must (intro A2 c2 wb hown' hb' hgr' hat'))
      have HX7 := Lib.hid (HX6.out.other HW6.out.lrow hgr' (by decide))
      have HG7 := Lib.hid (HG6.out.other HW6.out.lrow hgr' (by decide))
      have HO7 := Lib.hid hown'
      have HGR := Lib.hid hgr'
      have HAT := Lib.hid hat'
      clear hown' hb' hgr' hat'
      refine ⟨⟨HX7.out, HG7.out⟩, ?_⟩
      unfold RestW
      change wpList _ _ _ (_ :: _ :: _ :: []) _ _
      have v1 := HX7.out.cell 1
      have f1 := HX7.out.frozen 1
      have l1 := HX7.out.lt
      go_wp2_with fail
      refine NoPanic.normal ?_
      have hW8 := HW6.out.addK HP6.out HGR.out HO7.out HAT.out
      have hg2 := gr_set (p := ⟨xb, 1, none⟩) (World.grownBy.refl wb (some xb)) (.inl rfl) (.slice A2 (lbs.length + 1) c2)
      have hG8 := HG7.out.grown hg2 (by
        intro e
        injection e with e
        have h1 := HXW.out
        have h2 := HGX.out
        omega)
      have hB8 := below_gr (HB6.out.grown HGR.out HB6.out.size (fun g hg => HOW6.out g (by rw [HW6.out.ol g ((own_blkOf _ _ _).symm.trans hg)]; decide))) (Nat.le_trans HB6.out.size HGR.out.size) hg2 HXW.out
      have hO8 := lab_pos (k := 1) HOW6.out HB6.out.size
      generalize hw8 : wb.setCell ⟨xb, 1, none⟩ (.slice A2 (lbs.length + 1) c2) = w8 at hW8 hG8 hB8 ⊢
      have HW8 := Lib.hid hW8
      have HG8 := Lib.hid hG8
      have HB8 := Lib.hid hB8
      have HO8 := Lib.hid hO8
      clear hW8 hG8 hB8 hO8 hw8 hg2 v1 f1 l1 HX7 HG7 HO7 HGR HAT
      obtain ⟨k2, hk2⟩ : ∃ k2, k + 1 = k2 := ⟨_, rfl⟩
      have hwk : IntKind.i64.wrap ((k : Int) + 1) = (k2 : Int) := by rw [show (k : Int) + 1 = (k2 : Int) by omega]; exact IntWalk.i64_in _ (by omega)
      have HK2 := Lib.hid hk2
      clear hk2
      go_wp2_with fail
      go_roundw
      case rel =>
        refine ⟨k2, _, mbs ++ [mb], lbs ++ [w5.heap.size], A', c', A2, c2, by have := HK2.out; omega, rfl, ?_, by simp [HML.out, HK2.out], by simp [HLL.out, HK2.out], HO8.out, HG8.out, HB8.out⟩
        rw [← HK2.out, startL_succ, startK_succ]
        exact HW8.out
      case measure => simp [intOf]; have := HK2.out; omega
    · have hkw : k = I.c.wk.toNat := by have := HN.out.wk; omega
      have hlt' : ¬ ((k : Int) < I.c.wk) := hlt
      go_wp2_with fail
      go_ret2
      refine ⟨xb, rfl, ⟨own, mbs, lbs, AW, cW, AL, cL, ?_, by rw [HML.out, hkw], by rw [HLL.out, hkw], HOWN.out⟩, HBR.out⟩
      have h := HWR.out
      rw [hkw] at h
      exact h
end
section
open Go.RowKit
set_option maxHeartbeats 4000000 in
theorem works_any (w : World) : Calls Tryz.prog 8 #[] w fun e w' => e = .returned (.bool true) ∧ Below w.heap.size w w' := by
  go_enter Tryz.func8, Tryz.ntmps8
  go_wp2_with fail
  have HSM := Lib.hid (small_any w)
  ((with_reducible refine HSM.out.mono ?_); rintro e w1 ⟨A, cap, S, cS, es, AP, cP, AD, cD, rfl, hel, hI, hb1⟩)
  have hO := smI_ok A cap S cS es AP cP AD cD hel
  have hN := schedNew_any _ w1 hI hO
  have hN' : Calls Tryz.prog 12 #[inV A 2 cap smCfg S 2 cS AP 2 cP AD 2 cD] w1 (SNewRet (smI A cap S cS es AP cP AD cD) w1) := hN
  have hst := smW_start A cap S cS es AP cP AD cD
  have hstep := smW_step A cap S cS es AP cP AD cD
  have hpick := smW_pick A cap S cS es AP cP AD cD
  have hwk : (smI A cap S cS es AP cP AD cD).c.wk = 2 := rfl
  have hNP : ((smI A cap S cS es AP cP AD cD).mc 1).NP = 2 := rfl
  generalize hI' : smI A cap S cS es AP cP AD cD = I at hI hO hN' hst hstep hpick hwk hNP
  have HN := Lib.hid hN'
  have HO := Lib.hid hO
  have HST := Lib.hid hst
  have HSTEP := Lib.hid hstep
  have HPICK := Lib.hid hpick
  have HWK := Lib.hid hwk
  have HNP := Lib.hid hNP
  have HB1 := Lib.hid hb1
  clear HSM hI hN hN' hO hst hstep hpick hwk hNP hb1 hel hI'
  go_wp2_with fail
  ((with_reducible refine HN.out.mono ?_); rintro e w2 ⟨xb, rfl, ⟨own, mbs, lbs, AW, cW, AL, cL, hW, hm, hl, hown⟩, hb2⟩)
  have hm2 : mbs.length = 2 := by rw [hm, HWK.out]; rfl
  have hl2 : lbs.length = 2 := by rw [hl, HWK.out]; rfl
  have hW' : WorldIn own w2 xb I mbs lbs (smW 0).mss (smW 0).lss AW cW AL cL (smW 0).cnt := by rw [← HST.out]; rw [HWK.out] at hW; exact hW
  have hF : Calls Tryz.prog 19 #[.pointer (some ⟨xb, 0, none⟩), .int .i64 100] w2 fun e w' => e = .returned (.tuple #[.int .i64 16, .bool true]) ∧ ∃ o3, RunIn own w2 o3 w' xb I mbs lbs (smW 16) AW cW AL cL := schedFinish_any smW 16 100 2 hW' hm2 (by decide) (by decide) (by decide) (by decide) smW_open smW_done (fun p own W hp hWp => by
    have hx : p % 2 < 2 := Nat.mod_lt _ (by decide)
    have := pick_step hWp HO.out 2 (p % 2) hm2 hl2 hx (by decide) (by rw [HWK.out]; omega) (HPICK.out p hp)
    rw [HSTEP.out p hp] at this
    exact this)
  have HF := Lib.hid hF
  have HM2 := Lib.hid hm2
  have HL2 := Lib.hid hl2
  have HOWN := Lib.hid hown
  have HB2 := Lib.hid hb2
  clear hW hW' hF hm hl hm2 hl2 hown hb2 HN
  go_wp2_with fail
  ((with_reducible refine HF.out.mono ?_); rintro e w3 ⟨rfl, own3, hR3⟩)
  have hT := schedTraj_any hR3.wld HO.out 2 1 ⟨[-4, -2], [16, 8], [0, 0], [([4, 2], [0, 0]), ([-4, -2], [16, 8])], [], 0, 8, []⟩ HM2.out HL2.out (by decide) (by decide) (by rw [HWK.out]; decide) rfl (by
    rw [HNP.out]
    intro i hi
    match i, hi with
    | 0, _ => exact ⟨rfl, rfl⟩
    | 1, _ => exact ⟨rfl, rfl⟩
    | i + 2, hi => exact absurd hi (by show ¬ i + 2 < 2; omega))
  rw [HNP.out] at hT
  have hT' : Calls Tryz.prog 32 #[.pointer (some ⟨xb, 0, none⟩), .int .i64 1] w3 (TrajRet w3 2 [([4, 2], [0, 0]), ([-4, -2], [16, 8])]) := hT
  have HT := Lib.hid hT'
  have HR3 := Lib.hid hR3
  clear hT hT' hR3 HF
  go_wp2_with fail
  ((with_reducible refine HT.out.mono ?_); rintro e w4 ⟨AT, cT, l, hll, rfl, ho, hos, hb4⟩)
  have hR4 := HR3.out.below hb4
  have HD := Lib.hid (schedDone_any hR4.wld 2 HM2.out (by decide))
  have hll2 : l.length = 2 := hll
  have ho2 : w4.ownsRow w3.heap.size 92 2 (.slice AT 2 cT) 2 (stv 2 2 l) := ho
  have HLL := Lib.hid hll2
  have HTO := Lib.hid ho2
  have HTS := Lib.hid hos
  have HR4 := Lib.hid hR4
  clear hll hll2 ho ho2 hos hR4 hb4 HT
  obtain ⟨⟨P0, c0, M0, d0⟩, ⟨P1, c1, M1, d1⟩, rfl⟩ : ∃ a b, l = [a, b] := by
    match l, HLL.out with
    | [a, b], _ => exact ⟨a, b, rfl⟩
  go_wp2_with fail
  ((with_reducible refine HD.out.mono ?_); rintro e w5 ⟨rfl, hb5⟩)
  rw [smW_done]
  obtain ⟨bT, oT, rfl, lT, q0, q1⟩ := stv_rd (k := 1) ((Rd.of_own HTO.out).below hb5) rfl (by decide)
  dsimp only at q0 q1
  have hp := (Rd.of_own (HTS.out 1 _ rfl).1).below hb5
  obtain ⟨bP, oP, e', lP, hc⟩ := hp.2 (by decide)
  dsimp only at e'
  subst e'
  have p0 : w5.cell? ⟨bP, oP, none⟩ = some (.int .i64 (-4)) := hc 0 _ rfl
  have p1 : w5.cell? ⟨bP, oP + 1, none⟩ = some (.int .i64 (-2)) := hc 1 _ rfl
  rw [Nat.one_mul] at q0 q1
  clear hp hc
  have HB5 := Lib.hid hb5
  clear hb5
  go_wp2_with fail
  go_ret
  refine ⟨rfl, ?_⟩
  have h25 := (HR4.out.but.call HB5.out).below HB2.out.size HOWN.out
  exact HB1.out.trans ((HB2.out.trans h25).mono HB1.out.size)
end
section
open Go.RowKit
theorem closed_mid {ops : Array Oper} (ts : List Nat) : ∀ (listed : Array Bool), midB ops ts listed = true → ClosedL .any ops listed → ClosedL .any ops (listAll listed ts) := by
  induction ts with
  | nil => intro listed _ h; exact h
  | cons t ts ih =>
    intro listed hB h
    simp only [midB, Bool.and_eq_true, decide_eq_true_eq] at hB
    exact ih _ hB.2 (h.set (by rw [hB.1]; simp))
end
section
open Go.RowKit
variable {P : Program} {ops : Array Oper} {md : Region.Mode} {S : World → Prop} {Q : Exit → Act → World → Prop} {a0 : Act}
theorem puts_none {vs : Nat → Value} {j : Nat} {v : Value} (h : dstN ops j = none) : ∀ js, puts ops a0 (updV vs j v) js = puts ops a0 vs js
  | [] => rfl
  | k :: js => by
    rw [puts, puts, puts_none h js]
    by_cases hk : k = j
    · subst hk; rw [h]; rfl
    · rw [updV, if_neg hk]
theorem puts_updF {vs : Nat → Value} {j : Nat} {v : Value} {js : List Nat} (hj : j ∈ js) (hn : js.Nodup) (hnd : (js.filterMap (dstN ops)).Nodup) : (puts ops a0 vs js).put (dstN ops j) v = puts ops a0 (updV vs j v) js := by
  cases hd : dstN ops j with
  | none => rw [puts_none hd]; rfl
  | some d =>
    rw [← hd]
    induction js with
    | nil => cases hj
    | cons k js ih =>
      rw [List.nodup_cons] at hn
      by_cases hkj : k = j
      · subst hkj
        rw [puts, put_put, puts, puts_same hn.1, updV, if_pos rfl]
      · have hjs : j ∈ js := by
          rcases List.mem_cons.1 hj with h | h
          · exact absurd h.symm hkj
          · exact h
        have hm : d ∈ js.filterMap (dstN ops) := List.mem_filterMap.2 ⟨j, hjs, hd⟩
        have hnd' : (js.filterMap (dstN ops)).Nodup := by
          rw [List.filterMap_cons] at hnd
          split at hnd
          · exact hnd
          · exact (List.nodup_cons.1 hnd).2
        have hne : dstN ops k ≠ dstN ops j := fun e => by
          rw [List.filterMap_cons, e, hd] at hnd
          exact (List.nodup_cons.1 hnd).1 hm
        rw [puts, put_comm _ hne, ih hjs hn.2 hnd', puts, updV, if_neg hkj]
theorem inv_anyF {M T : List Nat} {lt : List Oper} {Inv : (Nat → Bool) → (Nat → Value) → World → Prop} (hIS : ∀ L vs w, Inv L vs w → S w) (hn : M.Nodup) (hnd : (M.filterMap (dstN ops)).Nodup) (hM : ∀ j ∈ M, j < ops.size)
    (h1 : ∀ j ∈ M, ∀ o, ops[j]? = some o → ∀ L vs w, Inv L vs w → L j = false → (∀ k, Region.waitsFor md ops j k = true → L k = true) → InvW P ops Q Inv L vs j (dstN ops j) o (puts ops a0 vs M) w)
    (h2 : ∀ L vs w, Inv L vs w → (∀ k ∈ M, L k = true) → wpList P ops Q lt (puts ops a0 vs M) w) (hT : T.map (ops[·]?) = lt.map some) :
    ∀ (n : Nat) (listed : Array Bool) (vs : Nat → Value) (w : World), listed.size = ops.size → postsB md ops M T n listed = true → Inv (fun k => listed.getD k false) vs w → AnyT P md ops Q S T (n + T.length) listed (puts ops a0 vs M) w := by
  intro n
  induction n with
  | zero =>
    intro listed vs w hsz hB hI
    simp only [postsB, Bool.and_eq_true, List.all_eq_true] at hB
    rw [Nat.zero_add]
    exact free_any T lt listed _ w (fun t h => h) hT hB.2 (h2 _ vs w hI (fun k hk => hB.1 k hk))
  | succ n ih =>
    intro listed vs w hsz hB hI
    simp only [postsB, Bool.and_eq_true, List.all_eq_true, Bool.not_eq_true'] at hB
    rw [show n + 1 + T.length = (n + T.length) + 1 by omega]
    refine ⟨fun h => (by rw [h] at hB; cases hB.1), fun i hi => ?_⟩
    obtain ⟨hiM, hchk⟩ := hB.2 i hi
    have hiM : i ∈ M := by simpa using hiM
    obtain ⟨hun, oj, hoj, hall⟩ := mem_ready.1 hi
    have hw := h1 i hiM oj hoj _ vs w hI (by
      have hlt := hM i hiM
      rw [← hsz] at hlt
      rw [Array.getD_eq_getD_getElem?, Array.getElem?_eq_getElem hlt] at hun ⊢
      simpa using hun) (fun k hwait => by
      obtain ⟨oj', hoj', e, he, hb, hon⟩ := Region.waitsFor_spec hwait
      have : oj' = oj := Option.some.inj (hoj'.symm.trans hoj)
      subst this
      rw [← hon]
      exact hall e he hb)
    have hw' : wpOp P ops (fun e a' w' => match e with | .normal => ∃ v, a' = (puts ops a0 vs M).put (dstN ops i) v ∧ Inv (fun k => if k = i then true else listed.getD k false) (updV vs i v) w' | e => Q e a' w') i (wpList P ops (fun e a' w' => match e with | .normal => ∃ v, a' = (puts ops a0 vs M).put (dstN ops i) v ∧ Inv (fun k => if k = i then true else listed.getD k false) (updV vs i v) w' | e => Q e a' w') []) (puts ops a0 vs M) w := by unfold wpOp; simp only [hoj]; exact hw
    refine wpOp_mono (fun a' w' h' => ?_) (wpOp_monoQ (Q' := Q) (fun e a w he h => ?_) hw')
    · obtain ⟨v, rfl, hI'⟩ := h'
      refine ⟨.inr (hIS _ _ _ hI'), ?_⟩
      rw [puts_updF hiM hn hnd]
      refine ih _ _ w' (by simpa using hsz) hchk ?_
      have e : (fun k => (listed.setIfInBounds i true).getD k false) = (fun k => if k = i then true else listed.getD k false) := by
        funext k
        by_cases hk : k = i
        · subst hk
          have hlt := hM k hiM
          rw [if_pos rfl]
          simp [Array.getD, hsz, hlt]
        · rw [if_neg hk]
          exact getD_set_ne false (Ne.symm hk)
      rw [e]
      exact hI'
    · cases e <;> first | exact absurd rfl he | exact h
end
section
open Go.RowKit
def meiB (ops : Array Oper) (M0 E M T : List Nat) : Bool :=
  Region.noSelect ops && midB ops M0 (Array.replicate ops.size false) && earlyB .any ops T ops.size E (listAll (Array.replicate ops.size false) M0) && postsB .any ops M T M.length (listAll (listAll (Array.replicate ops.size false) M0) E) &&
    decide (M0.length + (E.length + (M.length + T.length)) = ops.size) && M0.all (fun e => decide (e < ops.size)) && E.all (fun e => decide (e < ops.size)) && M.all (fun e => decide (e < ops.size)) && T.all (fun e => decide (e < ops.size)) && decide M.Nodup && decide ((M.filterMap (dstN ops)).Nodup) && M.all (fun j => !(listAll (listAll (Array.replicate ops.size false) M0) E).getD j false)
theorem wp_region_mei {P : Program} {id : Nat} {Q : Exit → Act → World → Prop} {a : Act} {w : World} {l : List Oper} (S : World → Prop) (Inv : (Nat → Bool) → (Nat → Value) → World → Prop) (M0 E M T : List Nat) (hm : P.follows .mixedOrders = true) (hB : meiB l.toArray M0 E M T = true) (hS : S w.drew) (hIS : ∀ L vs w, Inv L vs w → S w) (hI0 : ∀ L vs w, S w → (∀ k ∈ M, L k = false) → Inv L vs w)
    (h : RestW P l.toArray (NoPanic Q) S (fun a' w' => S w' ∧ EarlyW P l.toArray S (InvAt P l Inv M T Q) (E.filterMap (l[·]?)) a') (M0.filterMap (l[·]?)) a w.drew) : (Code.region id l.toArray true).wp P Q a w := by
  simp only [meiB, Bool.and_eq_true, decide_eq_true_eq] at hB
  obtain ⟨⟨⟨⟨⟨⟨⟨⟨⟨⟨⟨hsel, hM0⟩, hE⟩, hP⟩, hlen⟩, hM0s⟩, hEs⟩, hMs⟩, hTs⟩, hn⟩, hnd⟩, hfresh⟩ := hB
  have hmf : ∀ L : List Nat, L.all (fun e => decide (e < l.toArray.size)) = true → L.map (l.toArray[·]?) = (L.filterMap (l[·]?)).map some := fun L hL => map_filterMap L (fun i hi => by simpa using List.all_eq_true.1 hL i hi)
  refine wp_region_noPanic (wp_region_any hm (AnyT.any (S := S) (F := T) _ _ _ _ ?_))
  have hla : ∀ (E : List Nat) (b : Array Bool), (listAll b E).size = b.size := by
    intro E
    induction E with
    | nil => intro b; rfl
    | cons e E ih => intro b; show (listAll (b.setIfInBounds e true) E).size = _; rw [ih]; simp
  have h2 := rest_any (P := P) (md := .any) (Q := NoPanic Q) (S := S) (F := T) (g := E.length + (M.length + T.length)) M0 (M0.filterMap (l[·]?)) (Array.replicate l.toArray.size false) a w.drew (hmf M0 hM0s)
    (fun a' w' h' => early_any (P := P) (md := .any) (Q := Q) (F := T) (N := l.toArray.size) (fuel := M.length + T.length) hsel h'.1 E (E.filterMap (l[·]?)) _ a' (closed_mid M0 _ hM0 (fun j oj _ hl => by rw [getD_replicate_false] at hl; cases hl)) (hmf E hEs) hE
      (fun a'' h'' => by
        obtain ⟨vs, hvs⟩ := puts_start (ops := l.toArray) (a0 := a'') M
        have h3 := inv_anyF (a0 := a'') (S := S) (Q := NoPanic Q) (md := .any) (P := P) (T := T) (Inv := Inv) hIS hn hnd (fun j hj => by simpa using List.all_eq_true.1 hMs j hj) (fun j hj o ho L vs w => h''.each j hj o (by simpa using ho) L vs w) h''.last (hmf T hTs) M.length _ vs w' (by rw [hla, hla]; simp) hP (hI0 _ _ _ h'.1 (fun k hk => by simpa using List.all_eq_true.1 hfresh k hk))
        rw [hvs] at h3
        exact h3) h'.2)
    true rfl (fun _ => midB_spec M0 _ hM0) h
  rw [hlen] at h2
  exact h2
def meiStatB (ops : Array Oper) (M0 E M T : List Nat) : Bool :=
  Region.noSelect ops && midB ops M0 (Array.replicate ops.size false) && earlyB .any ops T ops.size E (listAll (Array.replicate ops.size false) M0) && statB .any ops (M0 ++ E) M T &&
    decide (M0.length + (E.length + (M.length + T.length)) = ops.size) && M0.all (fun e => decide (e < ops.size)) && E.all (fun e => decide (e < ops.size)) && M.all (fun e => decide (e < ops.size)) && T.all (fun e => decide (e < ops.size)) && decide M.Nodup && decide ((M.filterMap (dstN ops)).Nodup) && M.all (fun j => !(listAll (listAll (Array.replicate ops.size false) M0) E).getD j false)
theorem meiB_stat {ops : Array Oper} {M0 E M T : List Nat} (h : meiStatB ops M0 E M T = true) : meiB ops M0 E M T = true := by
  simp only [meiStatB, Bool.and_eq_true] at h
  obtain ⟨⟨⟨⟨⟨⟨⟨⟨⟨⟨⟨hsel, hM0⟩, hE⟩, hP⟩, hlen⟩, hM0s⟩, hEs⟩, hMs⟩, hTs⟩, hn⟩, hnd⟩, hfresh⟩ := h
  have hMs' : ∀ m ∈ M, m < ops.size := fun m hm => by simpa using List.all_eq_true.1 hMs m hm
  have hEs' : ∀ e ∈ M0 ++ E, e < ops.size := fun e he => by
    rcases List.mem_append.1 he with h | h
    · simpa using List.all_eq_true.1 hM0s e h
    · simpa using List.all_eq_true.1 hEs e h
  have hfr' : ∀ j ∈ M, (listAll (listAll (Array.replicate ops.size false) M0) E).getD j false = false := fun j hj => by simpa using List.all_eq_true.1 hfresh j hj
  have h1 : ∀ e ∈ M0 ++ E, (listAll (listAll (Array.replicate ops.size false) M0) E).getD e false = true := fun e he => by
    rw [listAll_getD, listAll_getD, listAll_size]
    have hlt := hEs' e he
    rcases List.mem_append.1 he with h | h
    · exact .inr (.inl ⟨by simpa using hlt, h⟩)
    · exact .inl ⟨by simpa using hlt, h⟩
  have hfr : ∀ m ∈ M, m ∉ M0 ++ E := fun m hm he => by
    have := h1 m he
    rw [hfr' m hm] at this
    cases this
  have hp := postsB_stat hP hMs' hEs' hfr M.length (listAll (listAll (Array.replicate ops.size false) M0) E) (by rw [listAll_size, listAll_size]; simp) h1 (fun i hi => by
    rw [listAll_getD, listAll_getD] at hi
    rcases hi with h | h | h
    · exact .inl (List.mem_append.2 (.inr h.2))
    · exact .inl (List.mem_append.2 (.inl h.2))
    · rw [getD_replicate_false] at h; cases h) (fun j hj hlj => by rw [hfr' j hj] at hlj; cases hlj) (by
    rw [List.filter_eq_self.2]
    intro m hm
    rw [hfr' m hm]; rfl)
  simp only [meiB, Bool.and_eq_true]
  exact ⟨⟨⟨⟨⟨⟨⟨⟨⟨⟨⟨hsel, hM0⟩, hE⟩, hp⟩, hlen⟩, hM0s⟩, hEs⟩, hMs⟩, hTs⟩, hn⟩, hnd⟩, hfresh⟩
end
end Go.Proofs.YtkmaeipoaoikpaaGreat
