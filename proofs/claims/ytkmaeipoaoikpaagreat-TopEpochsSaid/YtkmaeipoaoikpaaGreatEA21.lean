/-
  Lemmas and contracts (21 of 44): PlanItems2, PlanNew.
-/
import Derived.WalkKit
import Derived.WalkSpells
import Derived.WalkLawsBesides
import Derived.Lib.Hide
import Derived.Deep.QuietTactic
import Derived.BigQuiet
import Derived.IntWalk
import Derived.Deep.RegionHeld3
import Derived.Maps.AppendAt
import Derived.ProofKit
import Derived.OpenShut
import Derived.Deep.Slices
import Derived.Deep.Fields
import Derived.Test.YtkmaeipoaoikpaaGreatProg
import Derived.Laws.OwnMore
import Derived.Deep.Draws
import Derived.Laws.Rows
import Derived.Laws.EntriesVeiled
import Derived.RangeFuncNested
import Derived.RangeFuncBox
import Derived.RangeFuncLeaves
import Derived.Shelf.Abstract
import Derived.OwnWalkIn
import Derived.TacticsInMore
import Derived.LoopNIn
import Derived.LoopIn
import Derived.StillTail
import Derived.OrdersIn
import Derived.RangeFuncCalls
import Derived.OrdersHeld
import Derived.Laws.Bits64
import Derived.Deep.DeepMust
import Derived.Deep.DeepCutAuto
import Derived.BigRegion
import Derived.Test.YtkmaeipoaoikpaaGreatEA01
import Derived.Test.YtkmaeipoaoikpaaGreatEA02
import Derived.Test.YtkmaeipoaoikpaaGreatEA03
import Derived.Test.YtkmaeipoaoikpaaGreatEA04
import Derived.Test.YtkmaeipoaoikpaaGreatEA05
import Derived.Test.YtkmaeipoaoikpaaGreatEA16
import Derived.Test.YtkmaeipoaoikpaaGreatEA17
import Derived.Test.YtkmaeipoaoikpaaGreatEA18
import Derived.Test.YtkmaeipoaoikpaaGreatEA19
import Derived.Test.YtkmaeipoaoikpaaGreatEA20
namespace Go.Proofs.YtkmaeipoaoikpaaGreat
set_option linter.unusedVariables false
set_option linter.unusedSimpArgs false
set_option maxRecDepth 100000
section
open Go.RowKit
theorem addP_any (kind k t : Int) (base gl : Nat) (L : List RItem) (w : World) (hst : ItSt base gl t L w) (hL : L.length ≤ 1000000000) (hbase : base ≤ w.heap.size) :
    Calls Tryz.prog 184 #[.pointer (some ⟨gl, 0, none⟩), .int .i64 kind, .int .i64 k, .agg #[.bool false, .bool false, .int .i64 0, .int .i64 0, .int .i64 0, .int .i64 0, .int .i64 0, .int .i64 0, .int .i64 0]] w (AddI base gl t (L ++ [plainI kind t k]) w) :=
  addI_any kind k t zeroA base gl L w hst hL hbase
end
section
open Go.RowKit
variable (pc : PlC) (c : Cfg) (A : Option Addr) (n cap : Nat) (Ab : Option Addr) (cb : Nat) (Ag : Option Addr) (cg : Nat) (x t : Int) (w : World)
set_option maxHeartbeats 4000000 in
theorem items20_any (hp : pc.Ok) (hwk : c.wk = pc.m) (hch : c.ch = pc.ch) (hmi : c.mi = pc.mi)
    (hb : Rd w 2 Ab pc.nb (rv pc.bks)) (hg : Rd w 2 Ag (cnt pc.nb pc.wi) (rv pc.grps)) :
    Calls Tryz.prog 110 #[setV A n cap c Ab pc.nb cb Ag (cnt pc.nb pc.wi) cg, .int .i64 x, .int .i64 t] w (OwnRet w 222 12 (pc.itemsI x t).length (itemsV (pc.itemsI x t))) := by
  obtain ⟨base, hbase⟩ : ∃ base, w.heap.size = base := ⟨_, rfl⟩
  have hbb : ∀ b o, Ab = some ⟨b, o, none⟩ → b < base := fun b o e => by rw [← hbase]; exact hb.lt b o e (PlC.nb_pos hp)
  obtain ⟨w0, hw0⟩ : ∃ w0, (w.alloc (.cells (setC A n cap c Ab pc.nb cb Ag (cnt pc.nb pc.wi) cg) 236)).alloc (.cells #[.int .i64 t, .slice none 0 0] 326) = w0 := ⟨_, rfl⟩
  have hB0 : Below w.heap.size w w0 := by rw [← hw0]; exact ((Below.refl _ _).alloc (Nat.le_refl _) _).alloc (by simp) _
  have hS0 : Blk w0 w.heap.size 236 (setC A n cap c Ab pc.nb cb Ag (cnt pc.nb pc.wi) cg) := by rw [← hw0]; exact (Blk.new _ _ _).alloc _
  have hL0 : Blk w0 (w.heap.size + 1) 326 #[.int .i64 t, .slice none 0 0] := by rw [← hw0]; exact Blk.new' _ _ (by simp)
  have HR0 := Lib.hid (hb.below hB0)
  have HGR0 := Lib.hid (hg.below hB0)
  have HGL := Lib.hid (hg.lt)
  have hns : base ≤ w0.heap.size := by rw [← hbase]; exact hB0.size
  have HRo := Lib.hid (fun (lo hi : Nat) (L : List RItem) (W : World) h1 h2 h3 h4 h5 h6 => rounds20_any pc c A n cap Ab cb Ag (cnt pc.nb pc.wi) cg x t lo hi base (base + 1) L W hp hwk hch h1 h2 h3 h4 h5 h6 hbb)
  have HST0 : Hid (ItSt base (base + 1) t [] w0) := Lib.hid ⟨none, 0, by rw [← hbase]; exact hL0, by simpa [itemsV_nil] using World.ownsRow_nil w0 base 222 12, by omega⟩
  obtain ⟨sh, ra, mo, wk, ba, mi, st, bu, ch, wi, ca⟩ := c
  simp only at hwk hch hmi
  subst hwk hch hmi
  have hi2 := hp.i2
  have hnb2 := PlC.nb_le hp
  have HGI := Lib.hid (fun (k : Nat) (a b : Int) (h : pc.grps[k]? = some (a, b)) => PlC.grps_in h)
  have HGS := Lib.hid (fun (k : Nat) (a b : Int) (h : pc.grps[k]? = some (a, b)) => pc.grpsI_succ x t k (a, b) h)
  have HGE := Lib.hid (fun (k : Nat) (h : k ≤ cnt pc.nb pc.wi) => pc.grpsI_le hp x t k h)
  have HRL := Lib.hid (fun (lo k : Nat) (h : k ≤ 60) => pc.groupI_le hp x t lo k h)
  have HIT : Hid (pc.itemsI x t = rangeI 1 t 0 pc.mi ++ pc.grpsI x t (cnt pc.nb pc.wi) ++ [plainI 6 t 0]) := Lib.hid rfl
  have hng : cnt pc.nb pc.wi ≤ 60 := Nat.le_trans (cnt_le _ _) hnb2
  have HGLen := Lib.hid pc.grps_length
  obtain ⟨ng, hngd⟩ : ∃ ng, cnt pc.nb pc.wi = ng := ⟨_, rfl⟩
  obtain ⟨m, hm⟩ : ∃ m, pc.m = m := ⟨_, rfl⟩
  obtain ⟨chv, hchv⟩ : ∃ ch, pc.ch = ch := ⟨_, rfl⟩
  obtain ⟨mi, hmi⟩ : ∃ mi, pc.mi = mi := ⟨_, rfl⟩
  obtain ⟨nb, hnb⟩ : ∃ nb, pc.nb = nb := ⟨_, rfl⟩
  rw [hngd] at hS0 HGR0 HGL HRo HGE HIT hng HGLen hw0
  rw [hnb] at hS0 HR0 HRo hnb2 hw0 HGI
  rw [hm] at hS0 HRo hw0
  rw [hchv] at hS0 HRo hw0
  rw [hmi] at hS0 HRo hi2 HIT hw0
  rw [hngd, hnb, hm, hchv, hmi]
  have HS0 := Lib.hid hS0
  have HB0 := Lib.hid hB0
  have HW0 := Lib.hid hw0
  have c6 : w0.cell? ⟨w.heap.size, 6, none⟩ = some (.int .i64 mi) := hS0.cell 6
  have ls := hS0.lt
  have HBB := Lib.hid hbb
  have HM := Lib.hid hm
  clear hb hg hngd hm hchv hmi hnb hS0 hL0 hB0 hw0 hbb
  go_enter Tryz.func110, Tryz.ntmps110
  go_wp2_with fail
  rw [HW0.out]
  rw [hbase] at HS0
  clear c6 ls HW0
  go_loopw [22] (fun v wr => ∃ i : Nat, i ≤ mi ∧ v = .int .i64 i ∧ ItSt base (base + 1) t (rangeI 1 t 0 i) wr ∧ KI base w0 wr) (fun v _ => mi - (intOf v).toNat)
  case atStart => exact ⟨0, by omega, rfl, by simpa [rangeI] using HST0.out, KI.refl _ _⟩
  case round =>
    obtain ⟨i, hi, rfl, hst, hk⟩ := hrel
    by_cases hlt : i < mi
    · as_aux_lemma =>
        have i1 : (i : Int) < (mi : Int) := by omega
        have HAD := Lib.hid (addP_any 1 i t base (base + 1) _ wr hst (by rw [rangeI_length]; omega) (Nat.le_trans hns hk.2.size))
        have HK := Lib.hid hk
        clear hst hk
        go_wp2_with fail
        ((with_reducible refine HAD.out.mono ?_); rintro e w1 ⟨rfl, hst1, hk1⟩)
        have HST1 := Lib.hid hst1
        have HK1 := Lib.hid (HK.out.trans hk1)
        clear hst1 hk1 HAD
        go_wp2_with fail
        go_roundw
        case rel => exact ⟨i + 1, by omega, by go_num, by rw [rangeI_succ, Nat.zero_add]; exact HST1.out, HK1.out⟩
        case measure => simp [intOf]; omega
    · obtain rfl : i = mi := by omega
      have HST := Lib.hid hst
      have HK := Lib.hid hk
      have HSb := Lib.hid (hk.blk HS0.out (by decide) (by decide))
      have c2 : wr.cell? ⟨base, 13, none⟩ = some (.slice Ag ng cg) := HSb.out.cell 13
      have lsb := HSb.out.lt
      clear hst hk
      go_wp2_with fail
      clear c2 lsb HSb
      obtain ⟨wo, hwo⟩ : ∃ wo : World, wo = wr := ⟨_, rfl⟩
      subst hwo
      go_loopw [33] (fun v wr => ∃ k : Nat, k ≤ ng ∧ v = .int .i64 k ∧ ItSt base (base + 1) t (rangeI 1 t 0 i ++ pc.grpsI x t k) wr ∧ KI base w0 wr) (fun v _ => ng - (intOf v).toNat)
      case atStart => exact ⟨0, by omega, rfl, by simpa [PlC.grpsI] using HST.out, HK.out⟩
      case round =>
        obtain ⟨k, hk1, rfl, hst, hk⟩ := hrel
        by_cases hlt2 : k < ng
        · as_aux_lemma =>
            have HGE1 := HGE.out k (by omega)
            obtain ⟨L1, hL1⟩ : ∃ L1, rangeI 1 t 0 i ++ pc.grpsI x t k = L1 := ⟨_, rfl⟩
            have hL1l : L1.length ≤ 110000000 := by rw [← hL1, List.length_append, rangeI_length]; omega
            have HL1 := Lib.hid hL1
            rw [hL1] at hst
            have HST := Lib.hid hst
            have HK := Lib.hid hk
            have hGR := HGR0.out.base hk.2 (fun b o e => by rw [← hbase]; exact HGL.out b o e (by omega))
            obtain ⟨g, o, a, b, rfl, hg, hab, d0, d1⟩ := rd_at HGLen.out hGR hlt2
            have hin := HGI.out k a b hab
            have HGSk := HGS.out k a b hab
            obtain ⟨lo, rfl⟩ := Int.eq_ofNat_of_zero_le hin.1
            obtain ⟨hi, rfl⟩ := Int.eq_ofNat_of_zero_le (show 0 ≤ b by omega)
            have hlh : lo ≤ hi := by omega
            have HHN : Hid (hi ≤ nb) := Lib.hid (by omega)
            have h60 : hi ≤ 60 := by have := HHN.out; omega
            have HG : Hid (pc.grpsI x t (k + 1) = pc.grpsI x t k ++ (rangeI 2 t lo (hi - lo) ++ pc.rndI x t lo (hi - lo) (2 * (m - 1)) ++ rangeI 5 t lo (hi - lo))) := Lib.hid (by
              rw [HGSk, ← HM.out]
              simp only [PlC.groupG, PlC.groupI, Int.toNat_natCast, show ((hi : Int) - (lo : Int)).toNat = hi - lo by omega])
            have hgl := HRL.out lo (hi - lo) (by omega)
            simp only [PlC.groupI, List.length_append, rangeI_length] at hgl
            rw [HM.out] at hgl
            have HGLL := Lib.hid hgl
            have hz : base ≤ wr.heap.size := Nat.le_trans hns hk.2.size
            have HNB : Hid (∀ W, wr.alloc (.cells #[.int .i64 lo, .int .i64 hi] 218) = W → Below wr.heap.size wr W ∧ Blk W wr.heap.size 218 #[.int .i64 lo, .int .i64 hi]) := Lib.hid (by
              rintro W rfl
              exact ⟨(Below.refl _ _).alloc (Nat.le_refl _) _, Blk.new _ _ _⟩)
            have i1 : (k : Int) < (ng : Int) := by omega
            have i2 : (0 : Int) ≤ (k : Int) := by omega
            have lg : g < wr.heap.size := hg
            clear hst hk hGR hab hin HGSk hL1 hgl
            go_wp2_with fail
            obtain ⟨w1, hw1⟩ : ∃ w1, wr.alloc (.cells #[.int .i64 lo, .int .i64 hi] 218) = w1 := ⟨_, rfl⟩
            obtain ⟨hb1, hr1⟩ := HNB.out _ hw1
            rw [hw1]
            have HST1 := Lib.hid (HST.out.call hb1)
            have HK1 := Lib.hid (HK.out.trans (KI.call hb1 hz))
            have HR1 := Lib.hid hr1
            have hz1 : base ≤ w1.heap.size := Nat.le_trans hz hb1.size
            obtain ⟨gb, hgb⟩ : ∃ gb, wr.heap.size = gb := ⟨_, rfl⟩
            rw [hgb] at HR1 ⊢
            clear hgb hw1 hb1 hr1 HNB d0 d1 lg HST HK
            go_loopw [12] (fun v wr => ∃ j : Nat, lo ≤ j ∧ j ≤ hi ∧ v = .int .i64 j ∧ ItSt base (base + 1) t (L1 ++ rangeI 2 t lo (j - lo)) wr ∧ KI base w1 wr) (fun v _ => hi - (intOf v).toNat)
            case atStart => exact ⟨lo, by omega, hlh, rfl, by rw [Nat.sub_self]; simpa [rangeI] using HST1.out, KI.refl _ _⟩
            case round =>
              obtain ⟨j, hj1, hj2, rfl, hst, hk⟩ := hrel
              have HRj := Lib.hid (hk.blk HR1.out (by decide) (by decide))
              have r1 : wr.cell? ⟨gb, 1, none⟩ = some (.int .i64 hi) := HRj.out.cell 1
              have lgb := HRj.out.lt
              by_cases hjlt : j < hi
              · as_aux_lemma =>
                  have i3 : (j : Int) < (hi : Int) := by omega
                  have HAD := Lib.hid (addP_any 2 j t base (base + 1) _ wr hst (by rw [List.length_append, rangeI_length]; omega) (Nat.le_trans hz1 hk.2.size))
                  have HK := Lib.hid hk
                  clear hst hk HRj
                  go_wp2_with fail
                  ((with_reducible refine HAD.out.mono ?_); rintro e w2 ⟨rfl, hst1, hk1⟩)
                  have HST1 := Lib.hid hst1
                  have HK1 := Lib.hid (HK.out.trans hk1)
                  clear hst1 hk1 HAD
                  go_wp2_with fail
                  go_roundw
                  case rel => exact ⟨j + 1, by omega, by omega, by go_num, by rw [show j + 1 - lo = (j - lo) + 1 by omega, rangeI_succ, show lo + (j - lo) = j by omega, ← List.append_assoc]; exact HST1.out, HK1.out⟩
                  case measure => simp [intOf]; omega
              · obtain rfl : j = hi := by omega
                as_aux_lemma =>
                  have HST := Lib.hid hst
                  have HK := Lib.hid hk
                  have hSb := (HK1.out.trans hk).blk HS0.out (by decide) (by decide)
                  have r0 : wr.cell? ⟨gb, 0, none⟩ = some (.int .i64 lo) := HRj.out.cell 0
                  have s0 : wr.cell? ⟨base, 0, none⟩ = some (.slice A n cap) := hSb.cell 0
                  have s1 : wr.cell? ⟨base, 1, none⟩ = some (.int .i64 sh) := hSb.cell 1
                  have s2 : wr.cell? ⟨base, 2, none⟩ = some (.int .i64 ra) := hSb.cell 2
                  have s3 : wr.cell? ⟨base, 3, none⟩ = some (.int .i64 mo) := hSb.cell 3
                  have s4 : wr.cell? ⟨base, 4, none⟩ = some (.int .i64 m) := hSb.cell 4
                  have s5 : wr.cell? ⟨base, 5, none⟩ = some (.int .i64 ba) := hSb.cell 5
                  have s6 : wr.cell? ⟨base, 6, none⟩ = some (.int .i64 i) := hSb.cell 6
                  have s7 : wr.cell? ⟨base, 7, none⟩ = some (.int .i64 st) := hSb.cell 7
                  have s8 : wr.cell? ⟨base, 8, none⟩ = some (.int .i64 bu) := hSb.cell 8
                  have s9 : wr.cell? ⟨base, 9, none⟩ = some (.int .i64 chv) := hSb.cell 9
                  have s10 : wr.cell? ⟨base, 10, none⟩ = some (.int .i64 wi) := hSb.cell 10
                  have s11 : wr.cell? ⟨base, 11, none⟩ = some (.int .i64 ca) := hSb.cell 11
                  have s12 : wr.cell? ⟨base, 12, none⟩ = some (.slice Ab nb cb) := hSb.cell 12
                  have s13 : wr.cell? ⟨base, 13, none⟩ = some (.slice (some ⟨g, o, none⟩) ng cg) := hSb.cell 13
                  have lsb := hSb.lt
                  have HRW := Lib.hid (HRo.out lo j _ wr hlh HHN.out hst (by rw [List.length_append, rangeI_length]; omega) (Nat.le_trans hz1 hk.2.size) (HR0.out.base (HK1.out.trans hk).2 HBB.out))
                  have HK2 := Lib.hid (HK1.out.trans HK.out)
                  clear hst hk hSb
                  go_wp2_with fail
                  ((with_reducible refine HRW.out.mono ?_); rintro e w2 ⟨rfl, hst2, hk2⟩)
                  clear s0 s1 s2 s3 s4 s5 s6 s7 s8 s9 s10 s11 s12 s13 lsb r0 r1 lgb
                  have HST2 := Lib.hid hst2
                  have HK3 := Lib.hid (HK2.out.trans hk2)
                  have HR2 := Lib.hid (KI.blk hk2 HRj.out (by decide) (by decide))
                  have r0 : w2.cell? ⟨gb, 0, none⟩ = some (.int .i64 lo) := HR2.out.cell 0
                  have lgb := HR2.out.lt
                  have hz2 : base ≤ w2.heap.size := Nat.le_trans hns HK3.out.2.size
                  obtain ⟨L2, hL2⟩ : ∃ L2, L1 ++ rangeI 2 t lo (j - lo) ++ pc.rndI x t lo (j - lo) (2 * (m - 1)) = L2 := ⟨_, rfl⟩
                  have hL2l : L2.length ≤ 120000000 := by rw [← hL2, List.length_append, List.length_append, rangeI_length]; have := HGLL.out; omega
                  rw [hL2] at HST2
                  have HL2 := Lib.hid hL2
                  clear hst2 hk2 hL2 HRW HST HRj
                  go_wp2_with fail
                  clear r0 lgb
                  go_loopw [13] (fun v wr => ∃ q : Nat, lo ≤ q ∧ q ≤ j ∧ v = .int .i64 q ∧ ItSt base (base + 1) t (L2 ++ rangeI 5 t lo (q - lo)) wr ∧ KI base w2 wr) (fun v _ => j - (intOf v).toNat)
                  case atStart => exact ⟨lo, by omega, hlh, rfl, by rw [Nat.sub_self]; simpa [rangeI] using HST2.out, KI.refl _ _⟩
                  case round =>
                    obtain ⟨q, hq1, hq2, rfl, hst, hk⟩ := hrel
                    have HRj := Lib.hid (hk.blk HR2.out (by decide) (by decide))
                    have r1 : wr.cell? ⟨gb, 1, none⟩ = some (.int .i64 j) := HRj.out.cell 1
                    have lgb := HRj.out.lt
                    by_cases hqlt : q < j
                    · as_aux_lemma =>
                        have i3 : (q : Int) < (j : Int) := by omega
                        have HAD := Lib.hid (addP_any 5 q t base (base + 1) _ wr hst (by rw [List.length_append, rangeI_length]; omega) (Nat.le_trans hz2 hk.2.size))
                        have HK := Lib.hid hk
                        clear hst hk HRj
                        go_wp2_with fail
                        ((with_reducible refine HAD.out.mono ?_); rintro e w2 ⟨rfl, hst1, hk1⟩)
                        have HST1 := Lib.hid hst1
                        have HK1 := Lib.hid (HK.out.trans hk1)
                        clear hst1 hk1 HAD
                        go_wp2_with fail
                        go_roundw
                        case rel => exact ⟨q + 1, by omega, by omega, by go_num, by rw [show q + 1 - lo = (q - lo) + 1 by omega, rangeI_succ, show lo + (q - lo) = q by omega, ← List.append_assoc]; exact HST1.out, HK1.out⟩
                        case measure => simp [intOf]; omega
                    · obtain rfl : q = j := by omega
                      have HST := Lib.hid hst
                      have HK := Lib.hid hk
                      clear hst hk HRj
                      go_wp2_with fail
                      go_roundw
                      case rel => exact ⟨k + 1, by omega, by go_num, by rw [HG.out, ← List.append_assoc, ← List.append_assoc, ← List.append_assoc, HL1.out, HL2.out]; exact HST.out, HK3.out.trans HK.out⟩
                      case measure => simp [intOf]; omega
        · obtain rfl : k = ng := by omega
          as_aux_lemma =>
            have HAD := Lib.hid (addP_any 6 0 t base (base + 1) _ wr hst (by have := HGE.out k (Nat.le_refl _); rw [List.length_append, rangeI_length]; omega) (Nat.le_trans hns hk.2.size))
            have HK := Lib.hid hk
            clear hst hk
            go_wp2_with fail
            ((with_reducible refine HAD.out.mono ?_); rintro e w1 ⟨rfl, hst1, hk1⟩)
            obtain ⟨A0, c0, hbl, hown, hbg⟩ := hst1
            rw [← HIT.out] at hbl hown
            have HOW := Lib.hid hown
            have HK1 := Lib.hid (HK.out.trans hk1)
            have e1 : w1.cell? ⟨base + 1, 1, none⟩ = some (.slice A0 (pc.itemsI x t).length c0) := hbl.cell 1
            have ll := hbl.lt
            obtain ⟨nI, hnI⟩ : ∃ nI, (pc.itemsI x t).length = nI := ⟨_, rfl⟩
            rw [hnI] at e1 HOW
            have HNI := Lib.hid hnI
            clear hbl hown hk1 hnI HAD HK
            go_wp2_with fail
            go_ret
            rw [HNI.out]
            exact ⟨A0, c0, rfl, by rw [hbase]; exact HOW.out, HB0.out.trans (by rw [hbase]; exact HK1.out.2)⟩
end
section
open Go.RowKit
def PlC.lensL (pc : PlC) : List Int := (List.range pc.m).map fun (i : Nat) => ((pc.itemsI (i : Int) 0).length : Int)
theorem PlC.lensL_length (pc : PlC) : pc.lensL.length = pc.m := by simp [PlC.lensL]
theorem PlC.lensL_at (pc : PlC) (k : Nat) (h : k < pc.m) : pc.lensL[k]? = some ((pc.itemsI (k : Int) 0).length : Int) := by simp [PlC.lensL, h]
abbrev planC (A : Option Addr) (n cap : Nat) (c : Cfg) (Ab : Option Addr) (nb cb : Nat) (Ag : Option Addr) (ng cg : Nat) (lv : Value) : Array Value := #[.slice A n cap, .int .i64 c.sh, .int .i64 c.ra, .int .i64 c.mo, .int .i64 c.wk, .int .i64 c.ba, .int .i64 c.mi, .int .i64 c.st, .int .i64 c.bu, .int .i64 c.ch, .int .i64 c.wi, .int .i64 c.ca, .slice Ab nb cb, .slice Ag ng cg, lv]
def PlanAt (w : World) (b : Nat) (pc : PlC) (c : Cfg) (A : Option Addr) (n cap : Nat) : Prop := ∃ Ab cb Ag cg Al cl, Blk w b 238 (planC A n cap c Ab pc.nb cb Ag (cnt pc.nb pc.wi) cg (.slice Al pc.m cl)) ∧
  Rd w 2 Ab pc.nb (rv pc.bks) ∧ Rd w 2 Ag (cnt pc.nb pc.wi) (rv pc.grps) ∧ Rd w 1 Al pc.m (iv pc.lensL) ∧ pc.nb ≤ cb
theorem PlanAt.kept {w w' : World} {b : Nat} {pc : PlC} {c : Cfg} {A : Option Addr} {n cap : Nat} (h : PlanAt w b pc c A n cap) (hb : Below w.heap.size w w') : PlanAt w' b pc c A n cap := by
  obtain ⟨Ab, cb, Ag, cg, Al, cl, h1, h2, h3, h4, h5⟩ := h
  exact ⟨Ab, cb, Ag, cg, Al, cl, h1.kept hb, h2.below hb, h3.below hb, h4.below hb, h5⟩
theorem pset14 {w : World} {g : Nat} {t : TypeId} {a0 a1 a2 a3 a4 a5 a6 a7 a8 a9 a10 a11 a12 a13 a14 : Value} (h : Blk w g t #[a0, a1, a2, a3, a4, a5, a6, a7, a8, a9, a10, a11, a12, a13, a14]) (v : Value) :
    w.grownBy (w.setCell ⟨g, 14, none⟩ v) (some g) ∧ Blk (w.setCell ⟨g, 14, none⟩ v) g t #[a0, a1, a2, a3, a4, a5, a6, a7, a8, a9, a10, a11, a12, a13, v] :=
  ⟨gr_set (p := ⟨g, 14, none⟩) (World.grownBy.refl w _) (.inl rfl) v, by simpa using h.set_ 14 v⟩
theorem one_cell (x : Int) : ∀ u ∈ (#[Value.int .i64 x] : Array Value).toList, u.oneCell' = true := by
  intro u hu
  simp at hu
  subst hu
  rfl
end
end Go.Proofs.YtkmaeipoaoikpaaGreat
