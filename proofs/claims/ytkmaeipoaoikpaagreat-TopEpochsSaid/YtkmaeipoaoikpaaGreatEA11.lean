/-
  Lemmas and contracts (11 of 44): Net1, FixpGates.
-/
import Derived.WalkKit
import Derived.WalkSpells
import Derived.WalkLawsBesides
import Derived.Lib.Hide
import Derived.Deep.QuietTactic
import Derived.BigQuiet
import Derived.IntWalk
import Derived.Deep.RegionHeld3
import Derived.Maps.AppendAt
import Derived.ProofKit
import Derived.OpenShut
import Derived.Deep.Slices
import Derived.Deep.Fields
import Derived.Test.YtkmaeipoaoikpaaGreatProg
import Derived.Laws.OwnMore
import Derived.Deep.Draws
import Derived.Laws.Rows
import Derived.Laws.EntriesVeiled
import Derived.RangeFuncNested
import Derived.RangeFuncBox
import Derived.RangeFuncLeaves
import Derived.Shelf.Abstract
import Derived.OwnWalkIn
import Derived.TacticsInMore
import Derived.LoopNIn
import Derived.LoopIn
import Derived.StillTail
import Derived.OrdersIn
import Derived.RangeFuncCalls
import Derived.OrdersHeld
import Derived.Laws.Bits64
import Derived.Deep.DeepMust
import Derived.Deep.DeepCutAuto
import Derived.BigRegion
import Derived.Laws.BitsAllLaws
import Derived.Test.YtkmaeipoaoikpaaGreatShelf
import Derived.SizedLaws
import Derived.Deep.OwnRows
import Derived.Laws.CopyOwn
import Derived.RangeFuncFrom
import Derived.Test.YtkmaeipoaoikpaaGreatEA01
import Derived.Test.YtkmaeipoaoikpaaGreatEA02
import Derived.Test.YtkmaeipoaoikpaaGreatEA03
import Derived.Test.YtkmaeipoaoikpaaGreatEA04
import Derived.Test.YtkmaeipoaoikpaaGreatEA05
import Derived.Test.YtkmaeipoaoikpaaGreatEA06
import Derived.Test.YtkmaeipoaoikpaaGreatEA07
import Derived.Test.YtkmaeipoaoikpaaGreatEA08
import Derived.Test.YtkmaeipoaoikpaaGreatEA09
import Derived.Test.YtkmaeipoaoikpaaGreatEA10
namespace Go.Proofs.YtkmaeipoaoikpaaGreat
set_option linter.unusedVariables false
set_option linter.unusedSimpArgs false
set_option maxRecDepth 100000
section
open Go.RowKit
def NetRet (base bs : Nat) (l : List Int) (n NP : Nat) (P : List Int) (q : Int) (w : World) (e : Ending) (w' : World) : Prop := ∃ nb, e = .returned (.tuple #[.pointer (some ⟨nb, 0, none⟩), .bool true]) ∧ NetAtB w.heap.size base bs w' nb l n NP P q ∧ Below w.heap.size w w'
set_option maxHeartbeats 4000000 in
theorem netNew_any (base bs : Nat) (l : List Int) (n NP : Nat) (P : List Int) (q : Int) (A : Option Addr) (c : Nat) (w : World) (hN : NetP l n NP P q) (hS : ShapeAt w base bs l n) (hP : Rd w 1 A NP (iv P)) :
    Calls Tryz.prog 61 #[.pointer (some ⟨bs, 0, none⟩), .slice A NP c, .int .i64 q] w (NetRet base bs l n NP P q w) := by
  have e1 : decide (q < 0) = false := decide_eq_false (by have := hN.q0; omega)
  have e2 : decide ((62 : Int) < q) = false := decide_eq_false (by have := hN.q62; omega)
  have e3 : ((NP : Int) != (NP : Int)) = false := by simp
  have hcnt : cntS l (n - 1) = (NP : Int) := by rw [hN.cnt_eq _ (by have := hN.n2; omega), hN.cnt]
  obtain ⟨m, hm⟩ : ∃ m, n - 1 = m := ⟨_, rfl⟩
  have hn2 := hN.n2
  have hn16 := hN.n16
  have hNP := hN.np
  have hpl := hN.pl
  have HC1 := Lib.hid (fun W (s : ShapeAt W base bs l n) => by
    have := shapeCount_any base bs n l W s
    rw [hcnt] at this
    exact this)
  have HC2 := Lib.hid (fun W (r : Rd W 1 A NP (iv P)) => vecClone_any A NP c P W hpl r (by omega))
  have HC3 := Lib.hid (fun W (s : ShapeAt W base bs l n) => shapeSizes_any base bs n l W s hN.len (by omega))
  have HC4 := Lib.hid (fun W (s : ShapeAt W base bs l n) => by
    have := shapeLinks_any base bs n l W s
    rw [hm] at this
    exact this)
  have HN := Lib.hid hN
  have HS := Lib.hid hS
  have HP := Lib.hid hP
  have HM := Lib.hid hm
  clear hN hS hP hcnt hm
  go_enter Tryz.func61, Tryz.ntmps61
  go_wp2_with fail
  ((with_reducible refine (HC1.out _ HS.out).mono ?_); rintro e w1 ⟨rfl, rfl⟩)
  go_wp2_with fail
  ((with_reducible refine (HC2.out _ HP.out).mono ?_); rintro e w1 ⟨Ap, cp, rfl, ho1, hb1⟩)
  have HO1 := Lib.hid ho1
  have HB1 := Lib.hid hb1
  clear ho1 hb1
  go_wp2_with fail
  have HB0 := Lib.hid (HB1.out.mono (Nat.le_refl _))
  obtain ⟨w2, hw2⟩ : ∃ w2, w1.alloc (.cells (netC bs Ap NP cp q none 0 0) 268) = w2 := ⟨_, rfl⟩
  obtain ⟨nb, hnb⟩ : ∃ nb, w1.heap.size = nb := ⟨_, rfl⟩
  have hz1 := HB1.out.size
  have hb2 : Below w.heap.size w w2 := by rw [← hw2]; exact HB1.out.alloc hz1 _
  have hk2 : Blk w2 nb 268 (netC bs Ap NP cp q none 0 0) := by rw [← hw2]; exact Blk.new' _ _ hnb
  have ho2 : w2.ownsRow w.heap.size 2 1 (.slice Ap NP cp) NP (iv P) := by rw [← hw2]; exact HO1.out.alloc _
  rw [hw2, hnb]
  have HNB := Lib.hid (show w.heap.size ≤ nb by rw [← hnb]; exact hz1)
  have HB2 := Lib.hid hb2
  have HK2 := Lib.hid hk2
  have HO2 := Lib.hid ho2
  clear hw2 hnb hz1 hb2 hk2 ho2 HB0 HB1 HO1
  ((with_reducible refine (HC3.out _ (HS.out.below HB2.out)).mono ?_); rintro e w3 ⟨A3, c3, rfl, ho3, hb3⟩)
  have HB3 := Lib.hid (HB2.out.trans (hb3.mono HB2.out.size))
  have HK3 := Lib.hid (HK2.out.kept hb3)
  have HO3 := Lib.hid (own_below HO2.out hb3)
  have HA3 := Lib.hid (own_base ho3 (Nat.zero_le _))
  clear ho3 hb3 HB2 HK2 HO2
  go_wp2_with fail
  ((with_reducible refine (HC4.out _ (HS.out.below HB3.out)).mono ?_); rintro e w4 ⟨rfl, rfl⟩)
  go_wp2_with fail
  go_loopw [42] (fun v wr => ∃ (k : Nat) (Al : Option Addr) (cl : Nat) (ls : List StS), k ≤ m ∧ v = .int .i64 k ∧ Blk wr nb 268 (netC bs Ap NP cp q Al k cl) ∧ wr.ownsRow w.heap.size 275 4 (.slice Al k cl) k (lkV l ls) ∧ ls.length = k ∧ LkOk wr l P Ap cp ls w.heap.size ∧ wr.ownsRow w.heap.size 2 1 (.slice Ap NP cp) NP (iv P) ∧ wr.ownsRow 0 3 1 (.slice A3 n c3) n (iv l) ∧ Below w.heap.size w wr) (fun v _ => m - (intOf v).toNat)
  case atStart => exact ⟨0, none, 0, [], by omega, rfl, HK3.out, World.ownsRow_nil _ _ _ _, rfl, LkOk.nil _ _ _ _ _ _, HO3.out, HA3.out, HB3.out⟩
  case round =>
    obtain ⟨k, Al, cl, ls, hk, rfl, hK, hL, hll, hW, hO, hA, hB⟩ := hrel
    by_cases hlt : k < m
    · have HK := Lib.hid hK
      have HL := Lib.hid hL
      have HLL := Lib.hid hll
      have HW := Lib.hid hW
      have HO := Lib.hid hO
      have HA := Lib.hid hA
      have HB := Lib.hid hB
      have hkn : k < n - 1 := by rw [HM.out]; exact hlt
      have hmn := HM.out
      have HLT := Lib.hid hlt
      have hR := HN.out.sz (show k + 1 < n by omega)
      have hC := HN.out.sz (show k < n by omega)
      have hfit := HN.out.fit hkn
      have hob : (ofN l k : Int) + (szN l (k + 1) : Int) * (szN l k : Int) = (obN l k : Int) := by unfold obN; simp
      have HC5 : Hid (∀ W, ShapeAt W base bs l n → Calls Tryz.prog 143 #[.pointer (some ⟨bs, 0, none⟩), .int .i64 k] W fun e w' => e = .returned (.agg #[.int .i64 (ofN l k), .int .i64 (obN l k)]) ∧ Below W.heap.size W w') := Lib.hid (fun W s => by
        have := shapeWeights_any base bs n k l W s hkn
        rw [HN.out.cnt_eq k (by omega), HN.out.getD (show k < n by omega), HN.out.getD (show k + 1 < n by omega), hob] at this
        exact this)
      have HC6 : Hid (∀ W, ShapeAt W base bs l n → Calls Tryz.prog 144 #[.pointer (some ⟨bs, 0, none⟩), .int .i64 k] W fun e w' => e = .returned (.agg #[.int .i64 (obN l k), .int .i64 (ofN l (k + 1))]) ∧ Below W.heap.size W w') := Lib.hid (fun W s => by
        have := shapeBiases_any base bs n k l W s hkn
        rw [HN.out.cnt_eq k (by omega), HN.out.cnt_eq (k + 1) (by omega), HN.out.getD (show k < n by omega), HN.out.getD (show k + 1 < n by omega), hob] at this
        exact this)
      have HWT : Hid (wtL l P k = (P.drop (ofN l k)).take (szN l (k + 1) * szN l k)) := Lib.hid rfl
      have HLE : Hid (∀ s, lkE l k s = [.int .i64 (szN l (k + 1)), .int .i64 (szN l k), .slice s.1 (szN l (k + 1) * szN l k) s.2.1, .slice s.2.2.1 (szN l (k + 1)) s.2.2.2]) := Lib.hid (fun s => rfl)
      have HO2 : Hid (ofN l (k + 1) = obN l k + szN l (k + 1)) := Lib.hid rfl
      have HOB : Hid (obN l k = ofN l k + szN l (k + 1) * szN l k) := Lib.hid rfl
      have HSN := Lib.hid (fun (w' : World) (AV : Option Addr) (cV : Nat) (h : LkOk w' l P Ap cp ls w.heap.size) (hV : w'.ownsRow w.heap.size 2 1 (.slice AV (szN l (k + 1) * szN l k) cV) (szN l (k + 1) * szN l k) (iv (wtL l P k))) => by
        have := h.snoc (AV := AV) (cV := cV) (by rw [HLL.out]; exact hV)
        rw [HLL.out] at this
        exact this)
      have hk1 := hR.1
      have hk0 := hC.1
      generalize szN l (k + 1) = R at *
      generalize szN l k = C at *
      generalize ofN l k = o at *
      generalize obN l k = ob at *
      generalize ofN l (k + 1) = o2 at *
      obtain ⟨M, hMM⟩ : ∃ M, R * C = M := ⟨_, rfl⟩
      rw [hMM] at HWT HLE HOB HSN
      have hM1 : 1 ≤ M := by rw [← hMM]; exact Nat.mul_pos hR.2.1 hC.2.1
      have hrp : RightP (R : Int) (C : Int) M := ⟨⟨by omega, by omega, by omega, by omega⟩, by rw [← hMM]; simp⟩
      clear hK hL hll hW hO hA hB hob
      go_wp2_with fail
      ((with_reducible refine (HC5.out wr (HS.out.below HB.out)).mono ?_); rintro e w5 ⟨rfl, hb5⟩)
      have HB5 := Lib.hid (HB.out.trans (hb5.mono HB.out.size))
      have HK5 := Lib.hid (HK.out.kept hb5)
      have HL5 := Lib.hid (own_below HL.out hb5)
      have HW5 := Lib.hid (HW.out.below hb5)
      have HO5 := Lib.hid (own_below HO.out hb5)
      have HA5 := Lib.hid (own_below HA.out hb5)
      clear hb5 HK HL HW HO HA HB
      go_wp2_with fail
      ((with_reducible refine (HC6.out w5 (HS.out.below HB5.out)).mono ?_); rintro e w6 ⟨rfl, hb6⟩)
      obtain ⟨w7, hw7⟩ : ∃ w7, (w6.alloc (.cells #[.int .i64 o, .int .i64 ob] 218)).alloc (.cells #[.int .i64 ob, .int .i64 o2] 218) = w7 := ⟨_, rfl⟩
      have hb7 : Below w6.heap.size w6 w7 := by rw [← hw7]; exact ((Below.refl _ _).alloc (Nat.le_refl _) _).alloc (by simp) _
      have hp1 : Blk w7 w6.heap.size 218 #[.int .i64 o, .int .i64 ob] := by rw [← hw7]; exact (Blk.new _ _ _).alloc _
      have hp2 : Blk w7 (w6.heap.size + 1) 218 #[.int .i64 ob, .int .i64 o2] := by rw [← hw7]; exact Blk.new' _ _ (by simp)
      have hb57 := hb6.trans (hb7.mono hb6.size)
      have HB7 := Lib.hid (HB5.out.trans (hb57.mono HB5.out.size))
      have HK7 := Lib.hid (HK5.out.kept hb57)
      have HL7 := Lib.hid (own_below HL5.out hb57)
      have HW7 := Lib.hid (HW5.out.below hb57)
      have HO7 := Lib.hid (own_below HO5.out hb57)
      have HA7 := Lib.hid (own_below HA5.out hb57)
      have HP1 := Lib.hid hp1
      have HP2 := Lib.hid hp2
      have HWE := Lib.hid hw7
      clear hw7 hb6 hb7 hp1 hp2 hb57 HK5 HL5 HW5 HO5 HA5 HB5
      go_wp2_with fail
      rw [HWE.out]
      clear HWE
      obtain ⟨gA, oA, rfl, lA, hcA⟩ := (Rd.of_own HA7.out).2 (by omega)
      have a0 : w7.cell? ⟨gA, oA + k, none⟩ = some (.int .i64 C) := hcA k _ (by rw [iv, List.getElem?_map, hC.1]; rfl)
      have a1 : w7.cell? ⟨gA, oA + (k + 1), none⟩ = some (.int .i64 R) := hcA (k + 1) _ (by rw [iv, List.getElem?_map, hR.1]; rfl)
      obtain ⟨k1, hk1'⟩ : ∃ k1, k + 1 = k1 := ⟨_, rfl⟩
      rw [hk1'] at a1
      have i1 : (0 : Int) ≤ (k : Int) := by omega
      have i2 : (k : Int) < (n : Int) := by omega
      have i3 : (0 : Int) ≤ (k1 : Int) := by omega
      have i4 : (k1 : Int) < (n : Int) := by omega
      have hkw : IntKind.i64.wrap ((k : Int) + 1) = (k1 : Int) := by rw [show (k : Int) + 1 = (k1 : Int) by omega]; exact IntWalk.i64_in _ (by omega)
      have HK1 := Lib.hid hk1'
      clear hk1'
      have n1 : w7.cell? ⟨nb, 1, none⟩ = some (.slice Ap NP cp) := HK7.out.cell 1
      have ln := HK7.out.lt
      have p0 := HP1.out.cell 0
      have p1 := HP1.out.cell 1
      have lp := HP1.out.lt
      have hcap : NP ≤ cp := own_cap HO7.out
      obtain ⟨Aw, hAw⟩ : ∃ Aw, pcA_RedMove Ap cp o = Aw := ⟨_, rfl⟩
      have hsl := fun W => run_piece (P := Tryz.prog) (T := 74) (A := Ap) (n := NP) (c := cp) (e := o) (e2 := ob) (k := M) (c1 := cp - o) (P1 := Aw) Tryz.underlying74 (fun W => rfl) (by have := HOB.out; omega) (by have := HOB.out; omega) (by have := HOB.out; omega) rfl hAw W
      have hrd : Rd w7 1 Aw M (iv (wtL l P k)) := by rw [← hAw, HWT.out]; exact pc_rd HO7.out hpl (by have := HOB.out; omega)
      have HRD := Lib.hid hrd
      have HWL : Hid ((wtL l P k).length = M) := Lib.hid (by rw [HWT.out, List.length_take, List.length_drop, hpl]; have := HOB.out; omega)
      have HOF := Lib.hid (fun W (kk : Kept w7 W) => of_right (R : Int) (C : Int) Aw M (cp - o) (wtL l P k) W hrp (by have := HOB.out; omega) HWL.out (HRD.out.below kk.2.2))
      have K7 : Kept w7 w7.drew := Kept.start w7
      have KZ : Kept w7 w7 := Kept.of (Below.refl _ _)
      clear hcA hrd hAw
      go_region_held3 (fun w' => Kept w7 w') (first | exact kk | exact ks | exact K7 | exact K7.alloc _ | exact kk.alloc _) (first
        | (go_at_call 145; (with_reducible refine (HOF.out _ (by first | exact K7 | exact (KZ.alloc _).drew | exact K7.alloc _)).mono ?_); rintro e w8 ⟨AV, cV, rfl, hov, hb8⟩; have kk : Kept w7 w8 := (by first | exact K7.call hb8 | exact ((KZ.alloc _).drew).call hb8 | exact (K7.alloc _).call hb8); have HOV := Lib.hid hov; have HKK := Lib.hid kk; try (have hz := (Blk.new w7 271 #[.int .i64 0, .int .i64 0, .slice none 0 0]).drew.kept hb8; have z0 := hz.cell 0; have z1 := hz.cell 1; have z2 := hz.cell 2; have y0 := hz.frozen 0; have y1 := hz.frozen 1; have y2 := hz.frozen 2; have lz := hz.lt; have ks : Kept w7 (((w8.setCell ⟨w7.heap.size, 0, none⟩ (.int .i64 R)).setCell ⟨w7.heap.size, 1, none⟩ (.int .i64 C)).setCell ⟨w7.heap.size, 2, none⟩ (.slice AV M cV)) := Kept.of (((kk.2.2.setCell (p := ⟨w7.heap.size, 0, none⟩) (Nat.le_refl _) _).setCell (p := ⟨w7.heap.size, 1, none⟩) (Nat.le_refl _) _).setCell (p := ⟨w7.heap.size, 2, none⟩) (Nat.le_refl _) _); have HZ := Lib.hid hz; clear hz); clear hov))
      all_goals first
        | (obtain ⟨w9, hw9⟩ : ∃ w9, w8.alloc (.cells #[.int .i64 R, .int .i64 C, .slice AV M cV] 271) = w9 := ⟨_, rfl⟩
           obtain ⟨mb, hmb⟩ : ∃ mb, w8.heap.size = mb := ⟨_, rfl⟩
           have hk9 : Kept w7 w9 := by rw [← hw9]; exact HKK.out.alloc _
           have hm9 : Blk w9 mb 271 #[.int .i64 R, .int .i64 C, .slice AV M cV] := by rw [← hw9]; exact Blk.new' _ _ hmb
           have hv9 : w9.ownsRow w.heap.size 2 1 (.slice AV M cV) M (iv (wtL l P k)) := by rw [← hw9]; exact own_base (HOV.out.alloc _) (Nat.le_trans HB7.out.size (by first | exact K7.2.1 | exact (K7.alloc _).2.1 | exact ((KZ.alloc _).drew).2.1))
           rw [hw9, hmb]
           clear hw9 hmb)
        | (obtain ⟨hO3, hG3⟩ := set3 HZ.out (.int .i64 R) (.int .i64 C) (.slice AV M cV)
           have hv9 := own_base (HOV.out.kept hO3 (.inr (own_blk_ne HOV.out HZ.out (by decide)))) (Nat.le_trans HB7.out.size (by first | exact K7.2.1 | exact (K7.alloc _).2.1 | exact ((KZ.alloc _).drew).2.1))
           have hm9 := hG3
           have hk9 : Kept w7 _ := ks
           obtain ⟨w9, hw9⟩ : ∃ w9, (((w8.setCell ⟨w7.heap.size, 0, none⟩ (.int .i64 R)).setCell ⟨w7.heap.size, 1, none⟩ (.int .i64 C)).setCell ⟨w7.heap.size, 2, none⟩ (.slice AV M cV)) = w9 := ⟨_, rfl⟩
           obtain ⟨mb, hmb⟩ : ∃ mb, w7.heap.size = mb := ⟨_, rfl⟩
           rw [hw9] at hv9 hm9 hk9 ⊢
           rw [hmb] at hm9 ⊢
           clear hO3 hG3 hw9 hmb ks z0 z1 z2 y0 y1 y2 lz HZ)
      all_goals have HB9 := Lib.hid (HB7.out.trans (hk9.2.2.mono HB7.out.size))
      all_goals have HK9 := Lib.hid (HK7.out.kept hk9.2.2)
      all_goals have HL9 := Lib.hid (own_below HL7.out hk9.2.2)
      all_goals have HW9 := Lib.hid (HW7.out.below hk9.2.2)
      all_goals have HO9 := Lib.hid (own_below HO7.out hk9.2.2)
      all_goals have HA9 := Lib.hid (own_below HA7.out hk9.2.2)
      all_goals have HP9 := Lib.hid (HP2.out.kept hk9.2.2)
      all_goals have HM9 := Lib.hid hm9
      all_goals have HV9 := Lib.hid hv9
      all_goals clear hk9 hm9 hv9 kk a0 a1 n1 ln p0 p1 lp hsl K7 KZ HK7 HL7 HW7 HO7 HA7 HB7 HP1 HP2 HKK HOV HOF HRD
      all_goals (
        have hAb : ∃ Ab, pcA_RedMove Ap cp ob = Ab := ⟨_, rfl⟩
        obtain ⟨Ab, hAb⟩ := hAb
        have hsl2 := fun W => run_piece (P := Tryz.prog) (T := 74) (A := Ap) (n := NP) (c := cp) (e := ob) (e2 := o2) (k := R) (c1 := cp - ob) (P1 := Ab) Tryz.underlying74 (fun W => rfl) (by have := HO2.out; omega) (by have := HO2.out; omega) (by have := HO2.out; omega) rfl hAb W
        have HAB := Lib.hid hAb
        clear hAb
        go_wp2_with fail
        refine wp_region_early (fun W => Blk W nb 268 (netC bs Ap NP cp q Al k cl) ∧ Blk W mb 271 #[.int .i64 R, .int .i64 C, .slice AV M cV] ∧ Blk W (w6.heap.size + 1) 218 #[.int .i64 ob, .int .i64 o2]) [0, 1, 2, 3, 4, 5, 6, 7, 8, 9, 10, 11, 12, 13, 14, 15] [16, 17] [18, 19, 20] (by kernel_rfl) (by kernel_rfl) (⟨HK9.out.drew, HM9.out.drew, HP9.out.drew⟩) ?_
        simp only [List.filterMap_cons, List.filterMap_nil, List.getElem?_cons_succ, List.getElem?_cons_zero]
        refine early_step (.pointer (some ⟨nb, 0, none⟩)) rfl (fun W hW => ?_) ?_
        · obtain ⟨hx, hy, hp⟩ := hW
          have x1 := hx.cell 1
          have x3 := hx.cell 3
          have y0 := hy.cell 0
          have y1 := hy.cell 1
          have y2 := hy.cell 2
          have r0 := hp.cell 0
          have r1 := hp.cell 1
          go_simp
        go_simp
        refine early_step (.pointer (some ⟨nb, 0, none⟩)) rfl (fun W hW => ?_) ?_
        · obtain ⟨hx, hy, hp⟩ := hW
          have x1 := hx.cell 1
          have x3 := hx.cell 3
          have y0 := hy.cell 0
          have y1 := hy.cell 1
          have y2 := hy.cell 2
          have r0 := hp.cell 0
          have r1 := hp.cell 1
          go_simp
        go_simp
        refine early_step (.pointer (some ⟨nb, 0, none⟩)) rfl (fun W hW => ?_) ?_
        · obtain ⟨hx, hy, hp⟩ := hW
          have x1 := hx.cell 1
          have x3 := hx.cell 3
          have y0 := hy.cell 0
          have y1 := hy.cell 1
          have y2 := hy.cell 2
          have r0 := hp.cell 0
          have r1 := hp.cell 1
          go_simp
        go_simp
        refine early_step (.pointer (some ⟨nb, 3, none⟩)) rfl (fun W hW => ?_) ?_
        · obtain ⟨hx, hy, hp⟩ := hW
          have x1 := hx.cell 1
          have x3 := hx.cell 3
          have y0 := hy.cell 0
          have y1 := hy.cell 1
          have y2 := hy.cell 2
          have r0 := hp.cell 0
          have r1 := hp.cell 1
          go_simp
        go_simp
        refine early_step (.slice Al k cl) rfl (fun W hW => ?_) ?_
        · obtain ⟨hx, hy, hp⟩ := hW
          have x1 := hx.cell 1
          have x3 := hx.cell 3
          have y0 := hy.cell 0
          have y1 := hy.cell 1
          have y2 := hy.cell 2
          have r0 := hp.cell 0
          have r1 := hp.cell 1
          go_simp
        go_simp
        refine early_step (.agg #[.int .i64 R, .int .i64 C, .slice AV M cV]) rfl (fun W hW => ?_) ?_
        · obtain ⟨hx, hy, hp⟩ := hW
          have x1 := hx.cell 1
          have x3 := hx.cell 3
          have y0 := hy.cell 0
          have y1 := hy.cell 1
          have y2 := hy.cell 2
          have r0 := hp.cell 0
          have r1 := hp.cell 1
          go_simp
        go_simp
        refine early_step (.pointer (some ⟨nb, 0, none⟩)) rfl (fun W hW => ?_) ?_
        · obtain ⟨hx, hy, hp⟩ := hW
          have x1 := hx.cell 1
          have x3 := hx.cell 3
          have y0 := hy.cell 0
          have y1 := hy.cell 1
          have y2 := hy.cell 2
          have r0 := hp.cell 0
          have r1 := hp.cell 1
          go_simp
        go_simp
        refine early_step (.pointer (some ⟨nb, 0, none⟩)) rfl (fun W hW => ?_) ?_
        · obtain ⟨hx, hy, hp⟩ := hW
          have x1 := hx.cell 1
          have x3 := hx.cell 3
          have y0 := hy.cell 0
          have y1 := hy.cell 1
          have y2 := hy.cell 2
          have r0 := hp.cell 0
          have r1 := hp.cell 1
          go_simp
        go_simp
        refine early_step (.pointer (some ⟨nb, 1, none⟩)) rfl (fun W hW => ?_) ?_
        · obtain ⟨hx, hy, hp⟩ := hW
          have x1 := hx.cell 1
          have x3 := hx.cell 3
          have y0 := hy.cell 0
          have y1 := hy.cell 1
          have y2 := hy.cell 2
          have r0 := hp.cell 0
          have r1 := hp.cell 1
          go_simp
        go_simp
        refine early_step (.slice Ap NP cp) rfl (fun W hW => ?_) ?_
        · obtain ⟨hx, hy, hp⟩ := hW
          have x1 := hx.cell 1
          have x3 := hx.cell 3
          have y0 := hy.cell 0
          have y1 := hy.cell 1
          have y2 := hy.cell 2
          have r0 := hp.cell 0
          have r1 := hp.cell 1
          go_simp
        go_simp
        refine early_step (.pointer (some ⟨w6.heap.size + 1, 0, none⟩)) rfl (fun W hW => ?_) ?_
        · obtain ⟨hx, hy, hp⟩ := hW
          have x1 := hx.cell 1
          have x3 := hx.cell 3
          have y0 := hy.cell 0
          have y1 := hy.cell 1
          have y2 := hy.cell 2
          have r0 := hp.cell 0
          have r1 := hp.cell 1
          go_simp
        go_simp
        refine early_step (.int .i64 ob) rfl (fun W hW => ?_) ?_
        · obtain ⟨hx, hy, hp⟩ := hW
          have x1 := hx.cell 1
          have x3 := hx.cell 3
          have y0 := hy.cell 0
          have y1 := hy.cell 1
          have y2 := hy.cell 2
          have r0 := hp.cell 0
          have r1 := hp.cell 1
          go_simp
        go_simp
        refine early_step (.pointer (some ⟨w6.heap.size + 1, 1, none⟩)) rfl (fun W hW => ?_) ?_
        · obtain ⟨hx, hy, hp⟩ := hW
          have x1 := hx.cell 1
          have x3 := hx.cell 3
          have y0 := hy.cell 0
          have y1 := hy.cell 1
          have y2 := hy.cell 2
          have r0 := hp.cell 0
          have r1 := hp.cell 1
          go_simp
        go_simp
        refine early_step (.int .i64 o2) rfl (fun W hW => ?_) ?_
        · obtain ⟨hx, hy, hp⟩ := hW
          have x1 := hx.cell 1
          have x3 := hx.cell 3
          have y0 := hy.cell 0
          have y1 := hy.cell 1
          have y2 := hy.cell 2
          have r0 := hp.cell 0
          have r1 := hp.cell 1
          go_simp
        go_simp
        refine early_step (.slice Ab R (cp - ob)) rfl (fun W hW => ?_) ?_
        · obtain ⟨hx, hy, hp⟩ := hW
          have x1 := hx.cell 1
          have x3 := hx.cell 3
          have y0 := hy.cell 0
          have y1 := hy.cell 1
          have y2 := hy.cell 2
          have r0 := hp.cell 0
          have r1 := hp.cell 1
          go_simp
        go_simp
        refine early_step (.agg #[.int .i64 R, .int .i64 C, .slice AV M cV, .slice Ab R (cp - ob)]) rfl (fun W hW => ?_) ?_
        · obtain ⟨hx, hy, hp⟩ := hW
          have x1 := hx.cell 1
          have x3 := hx.cell 3
          have y0 := hy.cell 0
          have y1 := hy.cell 1
          have y2 := hy.cell 2
          have r0 := hp.cell 0
          have r1 := hp.cell 1
          go_simp
        go_simp
        change RestW _ _ _ _ _ (_ :: _ :: []) _ _
        unfold RestW
        go_wp2_with fail
        refine ⟨⟨HK9.out.drew.alloc _, HM9.out.drew.alloc _, HP9.out.drew.alloc _⟩, ?_⟩
        unfold RestW
        change wpList _ _ _ (_ :: []) _ (w9.drew.alloc (.cells #[.int .i64 R, .int .i64 C, .slice AV M cV, .slice Ab R (cp - ob)] 275))
        go_wp2_with (at_builtin; go_must (refine wpList_pushL (w := w9.drew) slLink rfl _ _ rfl w.heap.size (.slice Al k cl) k (lkV l ls) rfl (show w9.drew.ownsRow w.heap.size 275 4 (.slice Al k cl) k (lkV l ls) from HL9.out) #[.int .i64 R, .int .i64 C, .slice AV M cV, .slice Ab R (cp - ob)] w9.drew.heap.size rfl rfl rfl (by intro u hu; simp at hu; rcases hu with rfl | rfl | rfl | rfl <;> rfl) (by unfold maxLen; omega) (by omega) HB9.out.size ?_); go_must (intro A' c' wa hown' hb' hgr' hat'))
        have hg10 : w9.grownBy wa (Value.slice Al k cl).ownBlock := gr_below_first ((Below.refl w9.heap.size w9).drew) hgr'
        have HK10 := Lib.hid (HK9.out.other HL9.out hg10 (by decide))
        have HM10 := Lib.hid (HM9.out.other HL9.out hg10 (by decide))
        have HP10 := Lib.hid (HP9.out.other HL9.out hg10 (by decide))
        have HS10 := Lib.hid (Stay.of_own (t := 268) HL9.out hg10)
        have HL10 : Hid (wa.ownsRow w.heap.size 275 4 (.slice A' (k + 1) c') (k + 1) (lkV l (ls ++ [(AV, cV, Ab, cp - ob)]))) := Lib.hid (by rw [lkV_snoc, HLL.out, HLE.out]; exact hown')
        have HB10 := Lib.hid ((HB9.out.drew).trans hb')
        have hz10 := hg10.size
        clear hown' hb' hgr' hat' hg10
        refine ⟨⟨HK10.out, HM10.out, HP10.out⟩, ?_⟩
        unfold RestW
        change wpList _ _ _ (_ :: _ :: _ :: []) _ _
        have v3 : wa.cell? ⟨nb, 3, none⟩ = some (.slice Al k cl) := HK10.out.cell 3
        have f3 := HK10.out.frozen 3
        have l10 := HK10.out.lt
        go_wp2_with fail
        refine NoPanic.normal ?_
        have hg11 := gr_set (p := ⟨nb, 3, none⟩) (World.grownBy.refl wa (some nb)) (.inl rfl) (.slice A' (k + 1) c')
        have HK11 : Hid (Blk (wa.setCell ⟨nb, 3, none⟩ (.slice A' (k + 1) c')) nb 268 (netC bs Ap NP cp q A' (k + 1) c')) := Lib.hid (HK10.out.set_ 3 (.slice A' (k + 1) c'))
        have HS11 := Lib.hid (HS10.out.trans (Stay.of_gr (u := 275) HK10.out hg11))
        have HL11 := Lib.hid (HL10.out.kept hg11 (.inr (own_blk_ne HL10.out HK10.out (by decide))))
        have HB11 := Lib.hid (below_gr HB10.out (Nat.le_trans HB9.out.size hz10) hg11 HNB.out)
        obtain ⟨wb, hwb⟩ : ∃ wb, wa.setCell ⟨nb, 3, none⟩ (.slice A' (k + 1) c') = wb := ⟨_, rfl⟩
        rw [hwb] at hg11 HK11 HS11 HL11 HB11 ⊢
        have hz11 : w9.heap.size ≤ wb.heap.size := Nat.le_trans hz10 hg11.size
        have HZ11 := Lib.hid hz11
        clear hwb hg11 hz11 v3 f3 l10 HK10 HM10 HP10 HS10 HL10 HB10 hsl2
        go_wp2_with fail
        go_roundw
        case rel =>
          refine ⟨k + 1, A', c', ls ++ [(AV, cV, Ab, cp - ob)], HLT.out, by rw [HK1.out], HK11.out, HL11.out, by simp [HLL.out], ?_, HS11.out.own HZ11.out HO9.out (by decide) (by decide), HS11.out.own HZ11.out HA9.out (by decide) (by decide), HB11.out⟩
          rw [← HAB.out]
          exact HSN.out wb AV cV (HW9.out.stay HS11.out HZ11.out (by decide) (by decide)) (HS11.out.own HZ11.out HV9.out (by decide) (by decide))
        case measure => simp [intOf]; have := HLT.out; have := HK1.out; omega)
    · obtain rfl : k = m := by omega
      have HK := Lib.hid hK
      have HL := Lib.hid hL
      have HLL := Lib.hid hll
      have HW := Lib.hid hW
      have HO := Lib.hid hO
      have HB := Lib.hid hB
      clear hK hL hll hW hO hA hB
      go_wp2_with fail
      go_ret2
      have hm := HM.out
      subst hm
      exact ⟨nb, rfl, ⟨Ap, cp, Al, cl, ls, HK.out, HS.out.below HB.out, HO.out, HL.out, HLL.out, HW.out, HNB.out⟩, HB.out⟩
end
section
open Go.RowKit
def gateV (a g : Int) : Int := if 0 < a then g else 0
set_option maxHeartbeats 400000 in
theorem relu_any (a : Int) (w : World) : Calls Tryz.prog 248 #[.int .i64 a] w fun e w' => e = .returned (.int .i64 (gateV a a)) ∧ w = w' := by
  unfold gateV
  go_enter Tryz.func248, Tryz.ntmps248
  by_cases h : 0 < a
  · rw [if_pos h]
    go_wp2
    all_goals (go_ret; exact ⟨ret_int (by omega), rfl⟩)
  · rw [if_neg h]
    go_wp2
    all_goals (go_ret; exact ⟨ret_int (by omega), rfl⟩)
set_option maxHeartbeats 400000 in
theorem gate_any (a g : Int) (w : World) : Calls Tryz.prog 169 #[.int .i64 a, .int .i64 g] w fun e w' => e = .returned (.int .i64 (gateV a g)) ∧ w = w' := by
  unfold gateV
  by_cases h : 0 < a
  · rw [if_pos h]
    go_enter Tryz.func169, Tryz.ntmps169
    go_wp2
    go_ret
    exact ⟨rfl, rfl⟩
  · rw [if_neg h]
    go_enter Tryz.func169, Tryz.ntmps169
    go_wp2
    go_ret
    exact ⟨rfl, rfl⟩
set_option maxHeartbeats 400000 in
theorem sub_any (a g : Int) (w : World) : Calls Tryz.prog 204 #[.int .i64 a, .int .i64 g] w fun e w' => e = .returned (.int .i64 (wrap64 (a - g))) ∧ w = w' := by
  go_enter Tryz.func204, Tryz.ntmps204
  go_wp2
  go_ret
  exact ⟨ret_int (by unfold wrap64; omega), rfl⟩
end
end Go.Proofs.YtkmaeipoaoikpaaGreat
