/-
  Lemmas and contracts (32): Few21, Few22, Few, Ghost, Two, SgdStart.
-/
import Derived.WalkKit
import Derived.WalkSpells
import Derived.WalkLawsBesides
import Derived.Lib.Hide
import Derived.Deep.QuietTactic
import Derived.BigQuiet
import Derived.IntWalk
import Derived.Deep.RegionHeld3
import Derived.Maps.AppendAt
import Derived.ProofKit
import Derived.OpenShut
import Derived.Deep.Slices
import Derived.Deep.Fields
import Derived.Test.YtkmaeipoaoikpaaGreatProg
import Derived.Laws.OwnMore
import Derived.Deep.Draws
import Derived.Laws.Rows
import Derived.Laws.EntriesVeiled
import Derived.RangeFuncNested
import Derived.RangeFuncBox
import Derived.RangeFuncLeaves
import Derived.Shelf.Abstract
import Derived.OwnWalkIn
import Derived.TacticsInMore
import Derived.LoopNIn
import Derived.LoopIn
import Derived.StillTail
import Derived.OrdersIn
import Derived.RangeFuncCalls
import Derived.OrdersHeld
import Derived.Laws.Bits64
import Derived.Deep.DeepMust
import Derived.Deep.DeepCutAuto
import Derived.BigRegion
import Derived.Laws.BitsAllLaws
import Derived.Test.YtkmaeipoaoikpaaGreatShelf
import Derived.SizedLaws
import Derived.Deep.OwnRows
import Derived.Laws.CopyOwn
import Derived.RangeFuncFrom
import Derived.OwnWalk
import Derived.WalkMore
import Derived.Maps.Own
import Derived.Maps.Views
import Derived.Maps.Keyed
import Derived.Maps.OwnOps
import Derived.Maps.Ext
import Derived.Carry
import Derived.Test.YtkmaeipoaoikpaaGreatEA01
import Derived.Test.YtkmaeipoaoikpaaGreatEA02
import Derived.Test.YtkmaeipoaoikpaaGreatEA03
import Derived.Test.YtkmaeipoaoikpaaGreatEA04
import Derived.Test.YtkmaeipoaoikpaaGreatEA05
import Derived.Test.YtkmaeipoaoikpaaGreatEA06
import Derived.Test.YtkmaeipoaoikpaaGreatEA07
import Derived.Test.YtkmaeipoaoikpaaGreatEA08
import Derived.Test.YtkmaeipoaoikpaaGreatEA09
import Derived.Test.YtkmaeipoaoikpaaGreatEA10
import Derived.Test.YtkmaeipoaoikpaaGreatEA11
import Derived.Test.YtkmaeipoaoikpaaGreatEA12
import Derived.Test.YtkmaeipoaoikpaaGreatEA13
import Derived.Test.YtkmaeipoaoikpaaGreatEA14
import Derived.Test.YtkmaeipoaoikpaaGreatEA15
import Derived.Test.YtkmaeipoaoikpaaGreatEA16
import Derived.Test.YtkmaeipoaoikpaaGreatEA17
import Derived.Test.YtkmaeipoaoikpaaGreatEA18
import Derived.Test.YtkmaeipoaoikpaaGreatEA19
import Derived.Test.YtkmaeipoaoikpaaGreatEA20
import Derived.Test.YtkmaeipoaoikpaaGreatEA21
import Derived.Test.YtkmaeipoaoikpaaGreatEA22
import Derived.Test.YtkmaeipoaoikpaaGreatEA23
import Derived.Test.YtkmaeipoaoikpaaGreatEA24
import Derived.Test.YtkmaeipoaoikpaaGreatEA25
import Derived.Test.YtkmaeipoaoikpaaGreatEA26
import Derived.Test.YtkmaeipoaoikpaaGreatEA27
import Derived.Test.YtkmaeipoaoikpaaGreatEA28
import Derived.Test.YtkmaeipoaoikpaaGreatEA29
import Derived.Test.YtkmaeipoaoikpaaGreatEA30
import Derived.Test.YtkmaeipoaoikpaaGreatEA31
namespace Go.Proofs.YtkmaeipoaoikpaaGreat
set_option linter.unusedVariables false
set_option linter.unusedSimpArgs false
set_option maxRecDepth 100000
section
open Go.RowKit
variable (A : Option Addr) (n cap : Nat) (l : List Int) (c : Cfg) (S : Option Addr) (m cS : Nat) (es : List ExS) (AP : Option Addr) (P cP : Nat) (AD : Option Addr) (D cD : Nat) (w : World)
set_option maxHeartbeats 4000000 in
theorem plan21_any : Calls Tryz.prog 70 #[inV A n cap c S m cS AP P cP AD D cD] w fun e w' => e = .returned (rplV A n cap c P) ∧ Below w.heap.size w w' := by
  go_enter Tryz.func70, Tryz.ntmps70
  go_wp2_with fail
  (try simp only [Exit.inBlock, Exit.then])
  refine bodyPost_ret (results_cell_row rfl _ _ (w.heap.size + 1) _ _ (0, 0) _ rfl (Blk.new' _ _ (by simp)) Tryz.underlying172 rfl (by kernel_rfl)) rfl ?_
  exact ⟨rfl, ((Below.refl _ _).alloc (Nat.le_refl _) _).alloc (by simp) _⟩
set_option maxHeartbeats 4000000 in
theorem few21_any (hcap : n ≤ cap) (hln : l.length = n) (hr : Rd w 1 A n (iv l)) (hl : es.length = m) (h : Rd w 2 S m (exV es)) :
    Calls Tryz.prog 30 #[inV A n cap c S m cS AP P cP AD D cD] w (Few14Ret n m P D l c w) := by
  have HG : Hid (∀ W, w.alloc (.cells (inC A n cap c S m cS AP P cP AD D cD) 29) = W → Below w.heap.size w W ∧ Blk W w.heap.size 29 (inC A n cap c S m cS AP P cP AD D cD)) := Lib.hid (by
    rintro W rfl
    exact ⟨(Below.refl _ _).alloc (Nat.le_refl _) _, Blk.new _ _ _⟩)
  have HF := Lib.hid (fun W (r1 : Rd W 1 A n (iv l)) (r : Rd W 2 S m (exV es)) => few14_any A n cap l c S m cS es AP P cP AD D cD W hln r1 hl r)
  have HIN := Lib.hid (fun W (r1 : Rd W 1 A n (iv l)) (r : Rd W 2 S m (exV es)) (f : Few14 n m P D l c) => refInput_any A n cap l c S m cS es AP P cP AD D cD W hln r1 hcap (by have := f.n40; omega) hl r (by have := f.m60; omega) (by have := f.P600; omega) (by have := f.D2000; omega) (fun e => by have := f.st e; omega))
  have HPL := Lib.hid (fun W => plan21_any A n cap c S m cS AP P cP AD D cD W)
  have HPF := Lib.hid (fun W (r1 : Rd W 1 A n (iv l)) => refFew_any A n cap l c P W hln r1)
  have HR := Lib.hid h
  have HQ := Lib.hid hr
  clear h hl hln hr hcap
  go_enter Tryz.func30, Tryz.ntmps30
  go_wp2_with fail
  obtain ⟨w0, hw0⟩ : ∃ w0, w.alloc (.cells (inC A n cap c S m cS AP P cP AD D cD) 29) = w0 := ⟨_, rfl⟩
  obtain ⟨hB, hI⟩ := HG.out _ hw0
  rw [hw0]
  clear hw0 HG
  have HB := Lib.hid hB
  have HI := Lib.hid hI
  ((with_reducible refine (HF.out _ (HQ.out.below hB) (HR.out.below hB)).mono ?_); rintro e w1 ⟨b, rfl, hbt, hb1⟩)
  have HB1 := Lib.hid (HB.out.trans (hb1.mono HB.out.size))
  have HI1 := Lib.hid (HI.out.kept hb1)
  have HBT := Lib.hid hbt
  clear hB hI hbt hb1 HB HI
  cases b
  · go_wp2_with fail
    go_ret
    exact ⟨false, rfl, fun e => by simp at e, HB1.out⟩
  · have hf : Few14 n m P D l c := HBT.out (by trivial)
    have HFT := Lib.hid hf
    clear hf HBT
    have k := HI1.out
    have c0 : w1.cell? ⟨w.heap.size, 0, none⟩ = some (.slice A n cap) := k.cell 0
    have c1 : w1.cell? ⟨w.heap.size, 1, none⟩ = some (.int .i64 c.sh) := k.cell 1
    have c2 : w1.cell? ⟨w.heap.size, 2, none⟩ = some (.int .i64 c.ra) := k.cell 2
    have c3 : w1.cell? ⟨w.heap.size, 3, none⟩ = some (.int .i64 c.mo) := k.cell 3
    have c4 : w1.cell? ⟨w.heap.size, 4, none⟩ = some (.int .i64 c.wk) := k.cell 4
    have c5 : w1.cell? ⟨w.heap.size, 5, none⟩ = some (.int .i64 c.ba) := k.cell 5
    have c6 : w1.cell? ⟨w.heap.size, 6, none⟩ = some (.int .i64 c.mi) := k.cell 6
    have c7 : w1.cell? ⟨w.heap.size, 7, none⟩ = some (.int .i64 c.st) := k.cell 7
    have c8 : w1.cell? ⟨w.heap.size, 8, none⟩ = some (.int .i64 c.bu) := k.cell 8
    have c9 : w1.cell? ⟨w.heap.size, 9, none⟩ = some (.int .i64 c.ch) := k.cell 9
    have c10 : w1.cell? ⟨w.heap.size, 10, none⟩ = some (.int .i64 c.wi) := k.cell 10
    have c11 : w1.cell? ⟨w.heap.size, 11, none⟩ = some (.int .i64 c.ca) := k.cell 11
    have c12 : w1.cell? ⟨w.heap.size, 12, none⟩ = some (.slice S m cS) := k.cell 12
    have c13 : w1.cell? ⟨w.heap.size, 13, none⟩ = some (.slice AP P cP) := k.cell 13
    have c14 : w1.cell? ⟨w.heap.size, 14, none⟩ = some (.slice AD D cD) := k.cell 14
    have lc := k.lt
    clear k
    go_wp2_with fail
    clear c0 c1 c2 c3 c4 c5 c6 c7 c8 c9 c10 c11 c12 c13 c14 lc
    ((with_reducible refine (HIN.out w1 (HQ.out.below HB1.out) (HR.out.below HB1.out) HFT.out).mono ?_); rintro e w2 ⟨cd, rfl, hcd, hb2⟩)
    have HB2 := Lib.hid (HB1.out.trans (hb2.mono HB1.out.size))
    have HI2 := Lib.hid (HI1.out.kept hb2)
    clear hcd hb2
    by_cases h0 : cd = 0
    · subst h0
      have k := HI2.out
      have c0 : w2.cell? ⟨w.heap.size, 0, none⟩ = some (.slice A n cap) := k.cell 0
      have c1 : w2.cell? ⟨w.heap.size, 1, none⟩ = some (.int .i64 c.sh) := k.cell 1
      have c2 : w2.cell? ⟨w.heap.size, 2, none⟩ = some (.int .i64 c.ra) := k.cell 2
      have c3 : w2.cell? ⟨w.heap.size, 3, none⟩ = some (.int .i64 c.mo) := k.cell 3
      have c4 : w2.cell? ⟨w.heap.size, 4, none⟩ = some (.int .i64 c.wk) := k.cell 4
      have c5 : w2.cell? ⟨w.heap.size, 5, none⟩ = some (.int .i64 c.ba) := k.cell 5
      have c6 : w2.cell? ⟨w.heap.size, 6, none⟩ = some (.int .i64 c.mi) := k.cell 6
      have c7 : w2.cell? ⟨w.heap.size, 7, none⟩ = some (.int .i64 c.st) := k.cell 7
      have c8 : w2.cell? ⟨w.heap.size, 8, none⟩ = some (.int .i64 c.bu) := k.cell 8
      have c9 : w2.cell? ⟨w.heap.size, 9, none⟩ = some (.int .i64 c.ch) := k.cell 9
      have c10 : w2.cell? ⟨w.heap.size, 10, none⟩ = some (.int .i64 c.wi) := k.cell 10
      have c11 : w2.cell? ⟨w.heap.size, 11, none⟩ = some (.int .i64 c.ca) := k.cell 11
      have c12 : w2.cell? ⟨w.heap.size, 12, none⟩ = some (.slice S m cS) := k.cell 12
      have c13 : w2.cell? ⟨w.heap.size, 13, none⟩ = some (.slice AP P cP) := k.cell 13
      have c14 : w2.cell? ⟨w.heap.size, 14, none⟩ = some (.slice AD D cD) := k.cell 14
      have lc := k.lt
      clear k
      go_wp2_with fail
      clear c0 c1 c2 c3 c4 c5 c6 c7 c8 c9 c10 c11 c12 c13 c14 lc
      ((with_reducible refine (HPL.out w2).mono ?_); rintro e w3 ⟨rfl, hb3⟩)
      have HB3 := Lib.hid (HB2.out.trans (hb3.mono HB2.out.size))
      have HI3 := Lib.hid (HI2.out.kept hb3)
      clear hb3
      go_wp2_with fail
      ((with_reducible refine (HPF.out w3 (HQ.out.below HB3.out)).mono ?_); rintro e w4 ⟨rfl, hb4⟩)
      have HB4 := Lib.hid (HB3.out.trans (hb4.mono HB3.out.size))
      have k := HI3.out.kept hb4
      have c7 : w4.cell? ⟨w.heap.size, 7, none⟩ = some (.int .i64 c.st) := k.cell 7
      have c12 : w4.cell? ⟨w.heap.size, 12, none⟩ = some (.slice S m cS) := k.cell 12
      have lc := k.lt
      obtain ⟨q, hq⟩ : ∃ q, fewPB n l c P = q := ⟨_, rfl⟩
      rw [hq]
      clear hb4 k hq
      have fin : ∀ (b : Bool) (W : World), Below w.heap.size w W → Few14Ret n m P D l c w (.returned (.bool b)) W := fun b W hb => ⟨b, rfl, fun _ => HFT.out, hb⟩
      have FIN := Lib.hid fin
      clear fin
      cases q
      · go_wp2_with fail
        go_ret
        exact FIN.out _ _ HB4.out
      · by_cases f1 : c.st ≤ 6
        · have g1 : decide (c.st ≤ 6) = true := decide_eq_true f1
          by_cases f2 : m ≤ 40
          · have g2 : decide ((m : Int) ≤ 40) = true := decide_eq_true (by omega)
            clear f1 f2
            go_wp2_with fail
            go_ret
            exact FIN.out _ _ HB4.out
          · have g2 : decide ((m : Int) ≤ 40) = false := decide_eq_false (by omega)
            clear f1 f2
            go_wp2_with fail
            go_ret
            exact FIN.out _ _ HB4.out
        · have g1 : decide (c.st ≤ 6) = false := decide_eq_false f1
          clear f1
          go_wp2_with fail
          go_ret
          exact FIN.out _ _ HB4.out
    · have e5 : (cd == 0) = false := by simp [h0]
      go_wp2_with fail
      go_ret
      exact ⟨_, rfl, fun _ => HFT.out, HB2.out⟩
end
section
open Go.RowKit
variable (A : Option Addr) (n cap : Nat) (l : List Int) (c : Cfg) (S : Option Addr) (m cS : Nat) (es : List ExS) (AP : Option Addr) (P cP : Nat) (AD : Option Addr) (D cD : Nat) (w : World)
set_option maxHeartbeats 4000000 in
theorem few22_any (hcap : n ≤ cap) (hln : l.length = n) (hr : Rd w 1 A n (iv l)) (hl : es.length = m) (h : Rd w 2 S m (exV es)) :
    Calls Tryz.prog 7 #[inV A n cap c S m cS AP P cP AD D cD] w (Few14Ret n m P D l c w) := by
  have HG : Hid (∀ W, w.alloc (.cells (inC A n cap c S m cS AP P cP AD D cD) 29) = W → Below w.heap.size w W ∧ Blk W w.heap.size 29 (inC A n cap c S m cS AP P cP AD D cD)) := Lib.hid (by
    rintro W rfl
    exact ⟨(Below.refl _ _).alloc (Nat.le_refl _) _, Blk.new _ _ _⟩)
  have HF := Lib.hid (fun W (r1 : Rd W 1 A n (iv l)) (r : Rd W 2 S m (exV es)) => few21_any A n cap l c S m cS es AP P cP AD D cD W hcap hln r1 hl r)
  have HIN := Lib.hid (fun W (r1 : Rd W 1 A n (iv l)) (r : Rd W 2 S m (exV es)) (f : Few14 n m P D l c) => refInput_any A n cap l c S m cS es AP P cP AD D cD W hln r1 hcap (by have := f.n40; omega) hl r (by have := f.m60; omega) (by have := f.P600; omega) (by have := f.D2000; omega) (fun e => by have := f.st e; omega))
  have HR := Lib.hid h
  have HQ := Lib.hid hr
  clear h hl hln hr hcap
  go_enter Tryz.func7, Tryz.ntmps7
  go_wp2_with fail
  obtain ⟨w0, hw0⟩ : ∃ w0, w.alloc (.cells (inC A n cap c S m cS AP P cP AD D cD) 29) = w0 := ⟨_, rfl⟩
  obtain ⟨hB, hI⟩ := HG.out _ hw0
  rw [hw0]
  clear hw0 HG
  have HB := Lib.hid hB
  have HI := Lib.hid hI
  ((with_reducible refine (HF.out _ (HQ.out.below hB) (HR.out.below hB)).mono ?_); rintro e w1 ⟨b, rfl, hbt, hb1⟩)
  have HB1 := Lib.hid (HB.out.trans (hb1.mono HB.out.size))
  have HI1 := Lib.hid (HI.out.kept hb1)
  have HBT := Lib.hid hbt
  clear hB hI hbt hb1 HB HI
  cases b
  · go_wp2_with fail
    go_ret
    exact ⟨false, rfl, fun e => by simp at e, HB1.out⟩
  · have hf : Few14 n m P D l c := HBT.out (by trivial)
    have HFT := Lib.hid hf
    clear hf HBT
    have k := HI1.out
    have c0 : w1.cell? ⟨w.heap.size, 0, none⟩ = some (.slice A n cap) := k.cell 0
    have c1 : w1.cell? ⟨w.heap.size, 1, none⟩ = some (.int .i64 c.sh) := k.cell 1
    have c2 : w1.cell? ⟨w.heap.size, 2, none⟩ = some (.int .i64 c.ra) := k.cell 2
    have c3 : w1.cell? ⟨w.heap.size, 3, none⟩ = some (.int .i64 c.mo) := k.cell 3
    have c4 : w1.cell? ⟨w.heap.size, 4, none⟩ = some (.int .i64 c.wk) := k.cell 4
    have c5 : w1.cell? ⟨w.heap.size, 5, none⟩ = some (.int .i64 c.ba) := k.cell 5
    have c6 : w1.cell? ⟨w.heap.size, 6, none⟩ = some (.int .i64 c.mi) := k.cell 6
    have c7 : w1.cell? ⟨w.heap.size, 7, none⟩ = some (.int .i64 c.st) := k.cell 7
    have c8 : w1.cell? ⟨w.heap.size, 8, none⟩ = some (.int .i64 c.bu) := k.cell 8
    have c9 : w1.cell? ⟨w.heap.size, 9, none⟩ = some (.int .i64 c.ch) := k.cell 9
    have c10 : w1.cell? ⟨w.heap.size, 10, none⟩ = some (.int .i64 c.wi) := k.cell 10
    have c11 : w1.cell? ⟨w.heap.size, 11, none⟩ = some (.int .i64 c.ca) := k.cell 11
    have c12 : w1.cell? ⟨w.heap.size, 12, none⟩ = some (.slice S m cS) := k.cell 12
    have c13 : w1.cell? ⟨w.heap.size, 13, none⟩ = some (.slice AP P cP) := k.cell 13
    have c14 : w1.cell? ⟨w.heap.size, 14, none⟩ = some (.slice AD D cD) := k.cell 14
    have lc := k.lt
    clear k
    go_wp2_with fail
    clear c0 c1 c2 c3 c4 c5 c6 c7 c8 c9 c10 c11 c12 c13 c14 lc
    ((with_reducible refine (HIN.out w1 (HQ.out.below HB1.out) (HR.out.below HB1.out) HFT.out).mono ?_); rintro e w2 ⟨cd, rfl, hcd, hb2⟩)
    have HB2 := Lib.hid (HB1.out.trans (hb2.mono HB1.out.size))
    have HI2 := Lib.hid (HI1.out.kept hb2)
    have HCD := Lib.hid hcd
    clear hcd hb2
    by_cases h0 : cd = 0
    · subst h0
      have k := HI2.out
      have c4 : w2.cell? ⟨w.heap.size, 4, none⟩ = some (.int .i64 c.wk) := k.cell 4
      have c7 : w2.cell? ⟨w.heap.size, 7, none⟩ = some (.int .i64 c.st) := k.cell 7
      have c13 : w2.cell? ⟨w.heap.size, 13, none⟩ = some (.slice AP P cP) := k.cell 13
      have lc := k.lt
      have fin : ∀ (b : Bool) (W : World), Below w.heap.size w W → Few14Ret n m P D l c w (.returned (.bool b)) W := fun b W hb => ⟨b, rfl, fun _ => HFT.out, hb⟩
      have FIN := Lib.hid fin
      clear fin k
      by_cases f0 : c.wk ≤ 6
      · have g0 : decide (c.wk ≤ 6) = true := decide_eq_true (by omega)
        clear f0
        by_cases f1 : c.st ≤ 5
        · have g1 : decide (c.st ≤ 5) = true := decide_eq_true (by omega)
          clear f1
          by_cases f2 : P ≤ 40
          · have g2 : decide ((P : Int) ≤ 40) = true := decide_eq_true (by omega)
            clear f2
            go_wp2_with fail
            go_ret
            exact FIN.out _ _ HB2.out
          · have g2 : decide ((P : Int) ≤ 40) = false := decide_eq_false (by omega)
            clear f2
            go_wp2_with fail
            go_ret
            exact FIN.out _ _ HB2.out
        · have g1 : decide (c.st ≤ 5) = false := decide_eq_false (by omega)
          clear f1
          go_wp2_with fail
          go_ret
          exact FIN.out _ _ HB2.out
      · have g0 : decide (c.wk ≤ 6) = false := decide_eq_false (by omega)
        clear f0
        go_wp2_with fail
        go_ret
        exact FIN.out _ _ HB2.out
    · have e5 : (cd == 0) = false := by simp [h0]
      go_wp2_with fail
      go_ret
      exact ⟨_, rfl, fun _ => HFT.out, HB2.out⟩
end
section
open Go.RowKit
variable (A : Option Addr) (n cap : Nat) (l : List Int) (c : Cfg) (S : Option Addr) (m cS : Nat) (es : List ExS) (AP : Option Addr) (P cP : Nat) (AD : Option Addr) (D cD : Nat) (w : World)
structure FewAll (n m P D : Nat) (l : List Int) (c : Cfg) (es : List ExS) : Prop where
  few : Few14 n m P D l c
  ok : okIn l c es m P D = true
def FewRet (n m P D : Nat) (l : List Int) (c : Cfg) (es : List ExS) (w : World) (e : Ending) (w' : World) : Prop := ∃ b : Bool, e = .returned (.bool b) ∧ (b = true → FewAll n m P D l c es) ∧ Below w.heap.size w w'
set_option maxHeartbeats 4000000 in
theorem fewTop_any (AO : Option Addr) (no cO : Nat) (hcap : n ≤ cap) (hln : l.length = n) (hr : Rd w 1 A n (iv l)) (hl : es.length = m) (h : Rd w 2 S m (exV es)) :
    Calls Tryz.prog 17 #[inV A n cap c S m cS AP P cP AD D cD, .slice AO no cO] w (FewRet n m P D l c es w) := by
  have HG : Hid (∀ W, w.alloc (.cells (inC A n cap c S m cS AP P cP AD D cD) 29) = W → Below w.heap.size w W ∧ Blk W w.heap.size 29 (inC A n cap c S m cS AP P cP AD D cD)) := Lib.hid (by
    rintro W rfl
    exact ⟨(Below.refl _ _).alloc (Nat.le_refl _) _, Blk.new _ _ _⟩)
  have HF := Lib.hid (fun W (r1 : Rd W 1 A n (iv l)) (r : Rd W 2 S m (exV es)) => few22_any A n cap l c S m cS es AP P cP AD D cD W hcap hln r1 hl r)
  have HIN := Lib.hid (fun W (r1 : Rd W 1 A n (iv l)) (r : Rd W 2 S m (exV es)) (f : Few14 n m P D l c) => refInput_any A n cap l c S m cS es AP P cP AD D cD W hln r1 hcap (by have := f.n40; omega) hl r (by have := f.m60; omega) (by have := f.P600; omega) (by have := f.D2000; omega) (fun e => by have := f.st e; omega))
  have HR := Lib.hid h
  have HQ := Lib.hid hr
  clear h hl hln hr hcap
  go_enter Tryz.func17, Tryz.ntmps17
  go_wp2_with fail
  obtain ⟨w0, hw0⟩ : ∃ w0, w.alloc (.cells (inC A n cap c S m cS AP P cP AD D cD) 29) = w0 := ⟨_, rfl⟩
  obtain ⟨hB, hI⟩ := HG.out _ hw0
  rw [hw0]
  clear hw0 HG
  have HB := Lib.hid hB
  have HI := Lib.hid hI
  ((with_reducible refine (HF.out _ (HQ.out.below hB) (HR.out.below hB)).mono ?_); rintro e w1 ⟨b, rfl, hbt, hb1⟩)
  have HB1 := Lib.hid (HB.out.trans (hb1.mono HB.out.size))
  have HI1 := Lib.hid (HI.out.kept hb1)
  have HBT := Lib.hid hbt
  clear hB hI hbt hb1 HB HI
  cases b
  · go_wp2_with fail
    go_ret
    exact ⟨false, rfl, fun e => by simp at e, HB1.out⟩
  · have hf : Few14 n m P D l c := HBT.out (by trivial)
    have HFT := Lib.hid hf
    clear hf HBT
    have k := HI1.out
    have c0 : w1.cell? ⟨w.heap.size, 0, none⟩ = some (.slice A n cap) := k.cell 0
    have c1 : w1.cell? ⟨w.heap.size, 1, none⟩ = some (.int .i64 c.sh) := k.cell 1
    have c2 : w1.cell? ⟨w.heap.size, 2, none⟩ = some (.int .i64 c.ra) := k.cell 2
    have c3 : w1.cell? ⟨w.heap.size, 3, none⟩ = some (.int .i64 c.mo) := k.cell 3
    have c4 : w1.cell? ⟨w.heap.size, 4, none⟩ = some (.int .i64 c.wk) := k.cell 4
    have c5 : w1.cell? ⟨w.heap.size, 5, none⟩ = some (.int .i64 c.ba) := k.cell 5
    have c6 : w1.cell? ⟨w.heap.size, 6, none⟩ = some (.int .i64 c.mi) := k.cell 6
    have c7 : w1.cell? ⟨w.heap.size, 7, none⟩ = some (.int .i64 c.st) := k.cell 7
    have c8 : w1.cell? ⟨w.heap.size, 8, none⟩ = some (.int .i64 c.bu) := k.cell 8
    have c9 : w1.cell? ⟨w.heap.size, 9, none⟩ = some (.int .i64 c.ch) := k.cell 9
    have c10 : w1.cell? ⟨w.heap.size, 10, none⟩ = some (.int .i64 c.wi) := k.cell 10
    have c11 : w1.cell? ⟨w.heap.size, 11, none⟩ = some (.int .i64 c.ca) := k.cell 11
    have c12 : w1.cell? ⟨w.heap.size, 12, none⟩ = some (.slice S m cS) := k.cell 12
    have c13 : w1.cell? ⟨w.heap.size, 13, none⟩ = some (.slice AP P cP) := k.cell 13
    have c14 : w1.cell? ⟨w.heap.size, 14, none⟩ = some (.slice AD D cD) := k.cell 14
    have lc := k.lt
    clear k
    go_wp2_with fail
    clear c0 c1 c2 c3 c4 c5 c6 c7 c8 c9 c10 c11 c12 c13 c14 lc
    ((with_reducible refine (HIN.out w1 (HQ.out.below HB1.out) (HR.out.below HB1.out) HFT.out).mono ?_); rintro e w2 ⟨cd, rfl, hcd, hb2⟩)
    have HB2 := Lib.hid (HB1.out.trans (hb2.mono HB1.out.size))
    have HI2 := Lib.hid (HI1.out.kept hb2)
    have HCD := Lib.hid hcd
    clear hcd hb2
    by_cases h0 : cd = 0
    · subst h0
      have HOK := Lib.hid (HCD.out.1 rfl)
      clear HCD
      by_cases f0 : no ≤ 300
      · have g0 : decide ((no : Int) ≤ 300) = true := decide_eq_true (by omega)
        clear f0
        go_wp2_with fail
        go_ret
        exact ⟨_, rfl, fun _ => ⟨HFT.out, HOK.out⟩, HB2.out⟩
      · have g0 : decide ((no : Int) ≤ 300) = false := decide_eq_false (by omega)
        clear f0
        go_wp2_with fail
        go_ret
        exact ⟨_, rfl, fun e => by simp at e, HB2.out⟩
    · have e5 : (cd == 0) = false := by simp [h0]
      clear HCD
      go_wp2_with fail
      go_ret
      exact ⟨_, rfl, fun e => by simp at e, HB2.out⟩
end
section
open Go.RowKit
theorem wpList_one {P : Program} {ops : Array Oper} {Q1 Q2 : Exit → Act → World → Prop} {o : Oper} {a : Act} {w : World} (h : ∀ e a w, Q1 e a w → Q2 e a w) (hw : wpList P ops Q1 [o] a w) : wpList P ops Q2 [o] a w := by
  unfold wpList at *
  split
  · rename_i hwa
    rw [if_pos hwa] at hw
    rcases hw with hh | ⟨h1, a', w0, hq⟩
    · exact .inl (Oper.wp_mono (fun a w hk => h .normal a w hk) (oper_monoQ (fun e a w _ hq => h e a w hq) hh))
    · exact .inr ⟨h1, a', w0, h _ _ _ hq⟩
  · rename_i hwa
    rw [if_neg hwa] at hw
    exact h .normal _ _ hw
def PostG (P : Program) (ops : Array Oper) (Q : Exit → Act → World → Prop) (S : World → Prop) (V : (Nat → Prop) → Nat → Value → World → Prop) (F : Nat → Prop) (j : Nat) (d : Option Tmp) (o : Oper) (a : Act) (w : World) : Prop :=
  wpList P ops (fun e a' w' => match e with | .normal => ∃ v, a' = a.put d v ∧ S w' ∧ Below w.heap.size w w' ∧ ∃ F', (∀ i, i < w.heap.size → (F' i ↔ F i)) ∧ V F' j v w' | e => Q e a' w') [o] a w
structure GhostAt (P : Program) (l : List Oper) (S : World → Prop) (V : (Nat → Prop) → Nat → Value → World → Prop) (B : Nat) (F0 : Nat → Prop) (M T : List Nat) (Q : Exit → Act → World → Prop) (a0 : Act) : Prop where
  each : ∀ j ∈ M, ∀ o, l[j]? = some o → ∀ vs F w, S w → (∀ k ∈ M, Region.waitsFor .any l.toArray j k = true → V F k (vs k) w) → PostG P l.toArray (NoPanic Q) S V F j (dstN l.toArray j) o (puts l.toArray a0 vs M) w
  last : ∀ vs F w, S w → (∀ i, i < B → (F i ↔ F0 i)) → (∀ k ∈ M, V F k (vs k) w) → wpList P l.toArray (NoPanic Q) (T.filterMap (l[·]?)) (puts l.toArray a0 vs M) w
theorem earlyW_mono {P : Program} {ops : Array Oper} {S : World → Prop} {n n' : Act → Prop} (h : ∀ a, n a → n' a) : ∀ (l : List Oper) (a : Act), EarlyW P ops S n l a → EarlyW P ops S n' l a
  | [], a, hn => h a hn
  | o :: r, a, ⟨v, h1, h2⟩ => ⟨v, h1, earlyW_mono h r _ h2⟩
theorem wp_region_ghost {P : Program} {id : Nat} {Q : Exit → Act → World → Prop} {a : Act} {w : World} {l : List Oper} (S : World → Prop) (V : (Nat → Prop) → Nat → Value → World → Prop) (B : Nat) (F0 : Nat → Prop) (E M T : List Nat) (hm : P.follows .mixedOrders = true) (hB : postsAllB l.toArray E M T = true) (hS : S w.drew) (hSB : ∀ w, S w → B ≤ w.heap.size)
    (hst : ∀ F F' j v w w', V F j v w → Below w.heap.size w w' → (∀ i, i < w.heap.size → (F' i ↔ F i)) → V F' j v w')
    (h : EarlyW P l.toArray S (GhostAt P l S V B F0 M T Q) (E.filterMap (l[·]?)) a) : (Code.region id l.toArray true).wp P Q a w := by
  refine wp_region_inv S (fun L vs w => S w ∧ ∃ F, (∀ i, i < B → (F i ↔ F0 i)) ∧ ∀ k ∈ M, L k = true → V F k (vs k) w) E M T hm hB hS (fun L vs w h => h.1) (fun L vs w hS hL => ⟨hS, F0, fun _ _ => Iff.rfl, fun k hk e => by rw [hL k hk] at e; cases e⟩) ?_
  refine earlyW_mono (fun a0 hg => ?_) _ _ h
  refine ⟨fun j hj o ho L vs w hI hLj hw => ?_, fun L vs w hI hL => ?_⟩
  · obtain ⟨hSw, F, hF, hV⟩ := hI
    have h1 := hg.each j hj o ho vs F w hSw (fun k hk hwait => hV k hk (hw k hwait))
    unfold PostG at h1
    unfold InvW
    refine wpList_one (fun e a' w' h2 => ?_) h1
    cases e with
    | normal =>
      obtain ⟨v, hv, hS', hb, F', hF', hV'⟩ := h2
      refine ⟨v, hv, hS', F', fun i hi => (hF' i (Nat.lt_of_lt_of_le hi (hSB w hSw))).trans (hF i hi), fun k hk hLk => ?_⟩
      by_cases hkj : k = j
      · subst hkj
        unfold updV
        rw [if_pos rfl]
        exact hV'
      · simp only [if_neg hkj] at hLk
        unfold updV
        rw [if_neg hkj]
        exact hst F F' k (vs k) w w' (hV k hk hLk) hb hF'
    | _ => exact h2
  · obtain ⟨hSw, F, hF, hV⟩ := hI
    exact hg.last vs F w hSw hF (fun k hk => hV k hk (hL k hk))
end
section
open Go.RowKit
def twoB (ops : Array Oper) (E : List Nat) (x y : Nat) (T : List Nat) : Bool :=
  Region.noSelect ops && pureB .any ops E (Array.replicate ops.size false) && decide (Region.ready .any ops (listAll (Array.replicate ops.size false) E) = [x, y]) &&
    seqT .any ops (y :: T) ((listAll (Array.replicate ops.size false) E).setIfInBounds x true) && seqT .any ops (x :: T) ((listAll (Array.replicate ops.size false) E).setIfInBounds y true) && decide (E.length + (T.length + 2) = ops.size) && (x :: y :: T).all (fun t => decide (t < ops.size))
theorem wp_region_two {P : Program} {id : Nat} {Q : Exit → Act → World → Prop} {a : Act} {w : World} {l : List Oper} (E : List Nat) (x y : Nat) (T : List Nat) (hm : P.follows .mixedOrders = true) (hB : twoB l.toArray E x y T = true)
    (h : PureW P l.toArray (fun a' => wpList P l.toArray (NoPanic Q) ((x :: y :: T).filterMap (l[·]?)) a' w.drew ∧ wpList P l.toArray (NoPanic Q) ((y :: x :: T).filterMap (l[·]?)) a' w.drew) E a) : (Code.region id l.toArray true).wp P Q a w := by
  simp only [twoB, Bool.and_eq_true, decide_eq_true_eq] at hB
  obtain ⟨⟨⟨⟨⟨⟨hsel, hpu⟩, hready⟩, hsx⟩, hsy⟩, hlen⟩, hin⟩ := hB
  have hin' : ∀ t ∈ x :: y :: T, t < l.length := fun t ht => by simpa using List.all_eq_true.1 hin t ht
  have hx : x < l.length := hin' x (by simp)
  have hy : y < l.length := hin' y (by simp)
  have hT : ∀ t ∈ T, t < l.length := fun t ht => hin' t (by simp [ht])
  refine wp_region_noPanic (wp_region_any hm ?_)
  have h2 := pure_any (P := P) (md := .any) (Q := Q) (w := w.drew) hsel (fuel := T.length + 2) E _ a hpu (fun a' h' => ?_) h
  · rw [hlen] at h2
    exact h2
  · obtain ⟨hxy, hyx⟩ := h'
    refine ⟨fun h0 => (by rw [hready] at h0; cases h0), fun i hi => ?_⟩
    rw [hready] at hi
    have key : ∀ u v, u < l.length → v < l.length → seqT .any l.toArray (v :: T) ((listAll (Array.replicate l.toArray.size false) E).setIfInBounds u true) = true → wpList P l.toArray (NoPanic Q) ((u :: v :: T).filterMap (l[·]?)) a' w.drew →
        wpOp P l.toArray (NoPanic Q) u (wpAny P .any l.toArray (NoPanic Q) (T.length + 1) ((listAll (Array.replicate l.toArray.size false) E).setIfInBounds u true)) a' w.drew := by
      intro u v hu hv hs hl
      rw [List.filterMap_cons_some (List.getElem?_eq_getElem hu)] at hl
      have hw : wpOp P l.toArray (NoPanic Q) u (wpList P l.toArray (NoPanic Q) ((v :: T).filterMap (l[·]?))) a' w.drew := by
        unfold wpOp
        have : l.toArray[u]? = some l[u] := by simp [hu]
        simp only [this]
        exact hl
      refine wpOp_mono (fun a'' w'' h'' => ?_) hw
      exact seqT_any (P := P) (md := .any) (Q' := NoPanic Q) (v :: T) _ _ a'' w'' (map_filterMap (v :: T) (fun t ht => by
        rcases List.mem_cons.1 ht with rfl | ht
        · exact hv
        · exact hT t ht)) hs h''
    rcases List.mem_cons.1 hi with rfl | hi
    · exact key _ _ hx hy hsx hxy
    · have hiy : i = y := by simpa using hi
      subst hiy
      exact key _ _ hy hx hsy hyx
end
section
open Go.RowKit
def StRet2 (w : World) (n : Nat) (Ps Ms : List Int) (en : Ending) (w' : World) : Prop :=
  ∃ AP cP AM cM, en = .returned (.agg #[.slice AP n cP, .slice AM n cM]) ∧ w'.ownsRow w.heap.size 2 1 (.slice AP n cP) n (iv Ps) ∧ w'.ownsRow w.heap.size 2 1 (.slice AM n cM) n (iv Ms) ∧
    (∀ g h, (Value.slice AP n cP).ownBlock = some g → (Value.slice AM n cM).ownBlock = some h → g ≠ h) ∧ Below w.heap.size w w'
set_option maxHeartbeats 1000000 in
theorem sgdStart_any (A : Option Addr) (n c : Nat) (l : List Int) (w : World) (hl : l.length = n) (h : Rd w 1 A n (iv l)) (hn : n ≤ 1000000) :
    Calls Tryz.prog 41 #[.slice A n c] w (StRet2 w n l (zeros n)) := by
  have HC := Lib.hid (fun W (hb : Below w.heap.size w W) => vecClone_any A n c l W hl (h.below hb) (by omega))
  obtain ⟨i0, hi0, q0, q1, q2⟩ := info_parts slI64.info
  clear hl h
  go_enter Tryz.func41, Tryz.ntmps41
  go_wp2_with fail
  obtain ⟨w0, hw0⟩ : ∃ w0, w.alloc (.cells #[.slice none 0 0, .slice none 0 0] 92) = w0 := ⟨_, rfl⟩
  have k0 : Below w.heap.size w w0 := by rw [← hw0]; exact (Below.refl _ _).alloc (Nat.le_refl _) _
  have S0 : Blk w0 w.heap.size 92 #[.slice none 0 0, .slice none 0 0] := by rw [← hw0]; exact Blk.new _ _ _
  rw [hw0]
  clear hw0
  have kd : Below w.heap.size w w0.drew := k0.drew
  have KD := Lib.hid kd
  have SD := Lib.hid S0.drew
  clear k0 S0 kd
  refine wp_region_two [0, 2, 3] 1 4 [5, 6] (by kernel_rfl) (by kernel_rfl) ?_
  refine ⟨_, _, rfl, .inl ⟨rfl, fun w => rfl⟩, ?_⟩
  refine ⟨_, _, rfl, .inl ⟨rfl, fun w => rfl⟩, ?_⟩
  refine ⟨_, .int .i64 n, rfl, .inl ⟨rfl, fun w => by go_simp⟩, ?_⟩
  simp only [PureW, List.filterMap_cons, List.filterMap_nil, List.getElem?_cons_succ, List.getElem?_cons_zero]
  go_simp
  refine ⟨?_, ?_⟩
  · change wpList _ _ _ (_ :: _ :: _ :: _ :: []) _ _
    go_wp2_with fail
    ((with_reducible refine (HC.out _ KD.out).mono ?_); rintro e w1 ⟨A1, c1, rfl, hown1, hb1⟩)
    have K1 := Lib.hid ((Kept.of KD.out).call hb1).2.2
    have S1 := Lib.hid (SD.out.kept hb1)
    have O1 := Lib.hid hown1
    clear hown1 hb1
    go_wp2_with (at_make; go_must (refine wpList_make_full w1 rfl _ _ _ rfl w1.heap.size 2 i0 (.int .i64 0) 1 slVec.slice hi0 q0 q1 .i64 .i64 _ _ n rfl rfl rfl rfl (by rw [q2]; omega) (by unfold maxLen; omega) (Nat.le_refl _) ?_); intro w2 hown2 hg2; (have K2 := Lib.hid (Below.grown (Below.refl w1.heap.size w1) hg2 (Nat.le_refl _) (by simp))); (have O2 := Lib.hid hown2); (have s0 : w2.cell? ⟨w.heap.size, 0, none⟩ = some (.slice none 0 0) := (S1.out.kept K2.out).cell 0); (have s1 : w2.cell? ⟨w.heap.size, 1, none⟩ = some (.slice none 0 0) := (S1.out.kept K2.out).cell 1); (have f0 := (S1.out.kept K2.out).frozen 0); (have f1 := (S1.out.kept K2.out).frozen 1); (have ls := (S1.out.kept K2.out).lt); clear hown2 hg2)
    refine NoPanic.normal ?_
    go_wp2_with fail
    have S2 := S1.out.kept K2.out
    have hst := store2' S2 (.slice A1 n c1) (.slice (some ⟨w1.heap.size, 0, none⟩) n n)
    have hz := K1.out.size
    have o1 := own_below O1.out K2.out
    have o2 := O2.out
    rw [iv_zeros] at o2
    have kd := KD.out.size
    refine bodyPost_ret (v := .agg #[.slice A1 n c1, .slice (some ⟨w1.heap.size, 0, none⟩) n n]) (by simp [results, Tryz.results41, go_sem, s0, s1, ls]) rfl ⟨_, _, _, _, rfl, own_base (o1.kept hst.1 (.inr (own_blk_ne o1 S2 (by decide)))) kd, own_base (o2.kept hst.1 (.inr (own_blk_ne o2 S2 (by decide)))) hz, fun g h hg hh => ?_, below_gr ((Kept.of K1.out).call K2.out).2.2 (Nat.le_trans hz K2.out.size) hst.1 (Nat.le_refl _)⟩
    have a1 := (O1.out.lt g hg).2
    have a2 := (O2.out.lt h hh).1
    omega
  · change wpList _ _ _ (_ :: _ :: _ :: _ :: []) _ _
    go_wp2_with (at_make; go_must (refine wpList_make_full w0.drew rfl _ _ _ rfl w0.drew.heap.size 2 i0 (.int .i64 0) 1 slVec.slice hi0 q0 q1 .i64 .i64 _ _ n rfl rfl rfl rfl (by rw [q2]; omega) (by unfold maxLen; omega) (Nat.le_refl _) ?_); intro w2 hown2 hg2; (have K2 := Lib.hid (Below.grown (Below.refl w0.drew.heap.size w0.drew) hg2 (Nat.le_refl _) (by simp))); (have O2 := Lib.hid hown2); clear hown2 hg2)
    have KK2 := Lib.hid ((Kept.of KD.out).call K2.out).2.2
    ((with_reducible refine (HC.out _ KK2.out).mono ?_); rintro e w1 ⟨A1, c1, rfl, hown1, hb1⟩)
    have K1 := Lib.hid ((Kept.of KK2.out).call hb1).2.2
    have S1 := Lib.hid ((SD.out.kept K2.out).kept hb1)
    have O1 := Lib.hid hown1
    have O3 := Lib.hid (own_below O2.out hb1)
    have s0 : w1.cell? ⟨w.heap.size, 0, none⟩ = some (.slice none 0 0) := S1.out.cell 0
    have s1 : w1.cell? ⟨w.heap.size, 1, none⟩ = some (.slice none 0 0) := S1.out.cell 1
    have f0 := S1.out.frozen 0
    have f1 := S1.out.frozen 1
    have ls := S1.out.lt
    clear hown1 hb1
    go_wp2_with fail
    refine NoPanic.normal ?_
    go_wp2_with fail
    have hst := store2' S1.out (.slice A1 n c1) (.slice (some ⟨w0.heap.size, 0, none⟩) n n)
    have hz := K1.out.size
    have o1 := O1.out
    have o2 := O3.out
    rw [iv_zeros] at o2
    have kd := KD.out.size
    have kd2 := KK2.out.size
    refine bodyPost_ret (v := .agg #[.slice A1 n c1, .slice (some ⟨w0.heap.size, 0, none⟩) n n]) (by simp [results, Tryz.results41, go_sem, s0, s1, ls]) rfl ⟨_, _, _, _, rfl, own_base (o1.kept hst.1 (.inr (own_blk_ne o1 S1.out (by decide)))) kd2, own_base (o2.kept hst.1 (.inr (own_blk_ne o2 S1.out (by decide)))) kd, fun g h hg hh => ?_, below_gr K1.out hz hst.1 (Nat.le_refl _)⟩
    have a1 := (O1.out.lt g hg).1
    have a2 := (O2.out.lt h hh).2
    omega
end
end Go.Proofs.YtkmaeipoaoikpaaGreat
