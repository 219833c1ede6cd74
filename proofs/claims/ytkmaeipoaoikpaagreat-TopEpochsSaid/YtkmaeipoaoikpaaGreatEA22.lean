/-
  Lemmas and contracts (22 of 44): PlanB, Sgd3, FixpSums1.
-/
import Derived.WalkKit
import Derived.WalkSpells
import Derived.WalkLawsBesides
import Derived.Lib.Hide
import Derived.Deep.QuietTactic
import Derived.BigQuiet
import Derived.IntWalk
import Derived.Deep.RegionHeld3
import Derived.Maps.AppendAt
import Derived.ProofKit
import Derived.OpenShut
import Derived.Deep.Slices
import Derived.Deep.Fields
import Derived.Test.YtkmaeipoaoikpaaGreatProg
import Derived.Laws.OwnMore
import Derived.Deep.Draws
import Derived.Laws.Rows
import Derived.Laws.EntriesVeiled
import Derived.RangeFuncNested
import Derived.RangeFuncBox
import Derived.RangeFuncLeaves
import Derived.Shelf.Abstract
import Derived.OwnWalkIn
import Derived.TacticsInMore
import Derived.LoopNIn
import Derived.LoopIn
import Derived.StillTail
import Derived.OrdersIn
import Derived.RangeFuncCalls
import Derived.OrdersHeld
import Derived.Laws.Bits64
import Derived.Deep.DeepMust
import Derived.Deep.DeepCutAuto
import Derived.BigRegion
import Derived.Laws.BitsAllLaws
import Derived.Test.YtkmaeipoaoikpaaGreatShelf
import Derived.Test.YtkmaeipoaoikpaaGreatEA01
import Derived.Test.YtkmaeipoaoikpaaGreatEA02
import Derived.Test.YtkmaeipoaoikpaaGreatEA03
import Derived.Test.YtkmaeipoaoikpaaGreatEA04
import Derived.Test.YtkmaeipoaoikpaaGreatEA05
import Derived.Test.YtkmaeipoaoikpaaGreatEA07
import Derived.Test.YtkmaeipoaoikpaaGreatEA16
import Derived.Test.YtkmaeipoaoikpaaGreatEA17
import Derived.Test.YtkmaeipoaoikpaaGreatEA18
import Derived.Test.YtkmaeipoaoikpaaGreatEA19
import Derived.Test.YtkmaeipoaoikpaaGreatEA20
import Derived.Test.YtkmaeipoaoikpaaGreatEA21
namespace Go.Proofs.YtkmaeipoaoikpaaGreat
set_option linter.unusedVariables false
set_option linter.unusedSimpArgs false
set_option maxRecDepth 100000
section
open Go.RowKit
def PlanAtB (w : World) (base b : Nat) (pc : PlC) (c : Cfg) (A : Option Addr) (n cap : Nat) : Prop := ∃ Ab cb Ag cg Al cl, base ≤ b ∧ Blk w b 238 (planC A n cap c Ab pc.nb cb Ag (cnt pc.nb pc.wi) cg (.slice Al pc.m cl)) ∧
  w.ownsRow base 218 2 (.slice Ab pc.nb cb) pc.nb (rv pc.bks) ∧ w.ownsRow base 218 2 (.slice Ag (cnt pc.nb pc.wi) cg) (cnt pc.nb pc.wi) (rv pc.grps) ∧ w.ownsRow base 3 1 (.slice Al pc.m cl) pc.m (iv pc.lensL)
theorem PlanAtB.plan {w : World} {base b : Nat} {pc : PlC} {c : Cfg} {A : Option Addr} {n cap : Nat} (h : PlanAtB w base b pc c A n cap) : PlanAt w b pc c A n cap := by
  obtain ⟨Ab, cb, Ag, cg, Al, cl, h0, h1, h2, h3, h4⟩ := h
  refine ⟨Ab, cb, Ag, cg, Al, cl, h1, Rd.of_own h2, Rd.of_own h3, Rd.of_own h4, ?_⟩
  obtain ⟨A', cap', e', h', _⟩ := own_form h2
  injection e' with _ _ e'
  omega
theorem PlanAtB.mid {w w' : World} {base b lo : Nat} {pc : PlC} {c : Cfg} {A : Option Addr} {n cap : Nat} (h : PlanAtB w base b pc c A n cap) (hm : Mid lo w.heap.size w w') (hl : lo ≤ base) : PlanAtB w' base b pc c A n cap := by
  obtain ⟨Ab, cb, Ag, cg, Al, cl, h0, h1, h2, h3, h4⟩ := h
  exact ⟨Ab, cb, Ag, cg, Al, cl, h0, h1.mid hm (by omega), own_mid h2 hm hl, own_mid h3 hm hl, own_mid h4 hm hl⟩
def NewRetB (pc : PlC) (c : Cfg) (A : Option Addr) (n cap : Nat) (w : World) (e : Ending) (w' : World) : Prop := ∃ b, e = .returned (.tuple #[.pointer (some ⟨b, 0, none⟩), .bool true]) ∧ PlanAtB w' w.heap.size b pc c A n cap ∧ Below w.heap.size w w'
end
section
open Go.RowKit
variable (A : Option Addr) (n cap : Nat) (l : List Int) (c : Cfg) (P : Int) (w : World)
set_option maxHeartbeats 4000000 in
theorem planNewB_good (pc : PlC) (hp : pc.Ok) (hl : l.length = n) (h : Rd w 1 A n (iv l)) (hcap : n ≤ cap) (hn : n ≤ 1000) (hok : okCfg l c = true) (hwk : c.wk = pc.m) (hch : c.ch = pc.ch) (hmi : c.mi = pc.mi) (hwi : c.wi = pc.wi) (hbu : c.bu = pc.bu) (hP : P = pc.P) :
    Calls Tryz.prog 42 #[cfgV A n cap c, .int .i64 P] w (NewRetB pc c A n cap w) := by
  have HG : Hid (∀ W, w.alloc (.cells (cfgC A n cap c) 24) = W → Below w.heap.size w W ∧ Blk W w.heap.size 24 (cfgC A n cap c)) := Lib.hid (by
    rintro W rfl
    exact ⟨(Below.refl _ _).alloc (Nat.le_refl _) _, Blk.new _ _ _⟩)
  have HC := Lib.hid (fun W (r : Rd W 1 A n (iv l)) => confCheck_any A n cap l c W hl r hcap hn)
  have HR := Lib.hid h
  have HBk := Lib.hid (fun W => buckets_any pc.P pc.bu W hp.p1 (by have := hp.p2; omega) hp.b1 (by have := hp.b2; omega))
  have HGr := Lib.hid (fun W => groups_any pc.nb pc.wi W (PlC.nb_pos hp) (by have := PlC.nb_le hp; omega) hp.w1 (by have := hp.w2; omega))
  have HIt := Lib.hid (fun Ab cb Ag cg (x : Int) W h1 h2 => items20_any pc c A n cap Ab cb Ag cg x 0 W hp hwk hch hmi h1 h2)
  have HLe := Lib.hid (fun x : Int => PlC.itemsI_le hp x 0)
  have HP2 := Lib.hid hp.p2
  have HP1 := Lib.hid hp.p1
  have hm8 := hp.m2
  have HOK := Lib.hid hok
  have HLA := Lib.hid (fun k (h : k < pc.m) => pc.lensL_at k h)
  have HLL := Lib.hid pc.lensL_length
  obtain ⟨sh, ra, mo, wk, ba, mi, st, bu, ch, wi, ca⟩ := c
  simp only at hwk hch hmi hwi hbu
  subst hwk hch hmi hwi hbu hP
  obtain ⟨m, hm⟩ : ∃ m, pc.m = m := ⟨_, rfl⟩
  obtain ⟨nb, hnb⟩ : ∃ nb, pc.nb = nb := ⟨_, rfl⟩
  obtain ⟨ng, hng⟩ : ∃ ng, cnt pc.nb pc.wi = ng := ⟨_, rfl⟩
  obtain ⟨P, hP⟩ : ∃ P, pc.P = P := ⟨_, rfl⟩
  obtain ⟨bu, hbu⟩ : ∃ P, pc.bu = P := ⟨_, rfl⟩
  obtain ⟨wi, hwi⟩ : ∃ P, pc.wi = P := ⟨_, rfl⟩
  obtain ⟨mi, hmi⟩ : ∃ P, pc.mi = P := ⟨_, rfl⟩
  obtain ⟨ch, hch⟩ : ∃ P, pc.ch = P := ⟨_, rfl⟩
  have eb : bucketsL pc.P pc.bu = pc.bks := rfl
  have eg : blocksL pc.nb pc.wi = pc.grps := rfl
  have en : cnt pc.P pc.bu = pc.nb := rfl
  rw [eb, en] at HBk
  rw [eg] at HGr
  have HPA : Hid (∀ W b Ab cb Ag cg Al cl, w.heap.size ≤ b → Blk W b 238 (planC A n cap ⟨sh, ra, mo, m, ba, mi, st, bu, ch, wi, ca⟩ Ab nb cb Ag ng cg (.slice Al m cl)) → W.ownsRow w.heap.size 218 2 (.slice Ab nb cb) nb (rv pc.bks) → W.ownsRow w.heap.size 218 2 (.slice Ag ng cg) ng (rv pc.grps) → W.ownsRow w.heap.size 3 1 (.slice Al m cl) m (iv pc.lensL) → PlanAtB W w.heap.size b pc ⟨sh, ra, mo, m, ba, mi, st, bu, ch, wi, ca⟩ A n cap) := Lib.hid (by
    intro W b Ab cb Ag cg Al cl h0 h1 h2 h3 h4
    subst hm hnb hng
    exact ⟨Ab, cb, Ag, cg, Al, cl, h0, h1, h2, h3, h4⟩)
  rw [hng] at HGr HIt
  rw [hnb] at HBk HIt HGr
  rw [hm] at HIt HLA HLL hm8 HG HC HOK
  rw [hP, hbu] at HBk
  rw [hP] at HP1 HP2
  rw [hwi] at HIt HG HC HGr HOK
  rw [hbu] at HIt HG HC HOK
  rw [hmi] at HIt HG HC HOK
  rw [hch] at HIt HG HC HOK
  rw [hP, hbu, hwi, hmi, hch, hm]
  have hp1 := HP1.out
  have hp2 := HP2.out
  have z1 : decide ((P : Int) < 1) = false := decide_eq_false (by omega)
  have z2 : decide ((1048576 : Int) < (P : Int)) = false := decide_eq_false (by omega)
  clear hl h eb eg en hok hp hP hbu hwi hmi hch hm hnb hng
  go_enter Tryz.func42, Tryz.ntmps42
  go_wp2_with fail
  obtain ⟨w0, hw0⟩ : ∃ w0, w.alloc (.cells (cfgC A n cap ⟨sh, ra, mo, m, ba, mi, st, bu, ch, wi, ca⟩) 24) = w0 := ⟨_, rfl⟩
  obtain ⟨hB, hK⟩ := HG.out _ hw0
  rw [hw0]
  clear hw0 HG
  obtain ⟨bc, hbc⟩ : ∃ bc, w.heap.size = bc := ⟨_, rfl⟩
  rw [hbc] at hK ⊢
  have HBC := Lib.hid hbc
  ((with_reducible refine (HC.out _ (HR.out.below hB)).mono ?_); rintro e w1 ⟨cd, rfl, hcd, hb1⟩)
  have h0 : cd = 0 := hcd.2 HOK.out
  subst h0
  have k1 := hK.kept hb1
  have HK1 := Lib.hid k1
  have HB1 := Lib.hid (hB.trans (hb1.mono hB.size))
  have c8 : w1.cell? ⟨bc, 8, none⟩ = some (.int .i64 bu) := k1.cell 8
  have lc := k1.lt
  clear hB hK hb1 hcd HC k1 hbc
  go_wp2_with fail
  ((with_reducible refine (HBk.out _).mono ?_); rintro e w2 ⟨Ab, cb, rfl, hown2, hb2⟩)
  have k2 := HK1.out.kept hb2
  have HK2 := Lib.hid k2
  have HB2 := Lib.hid (HB1.out.trans (hb2.mono HB1.out.size))
  have HO2 := Lib.hid (own_base hown2 HB1.out.size)
  have s0 : w2.cell? ⟨bc, 0, none⟩ = some (.slice A n cap) := k2.cell 0
  have s1 : w2.cell? ⟨bc, 1, none⟩ = some (.int .i64 sh) := k2.cell 1
  have s2 : w2.cell? ⟨bc, 2, none⟩ = some (.int .i64 ra) := k2.cell 2
  have s3 : w2.cell? ⟨bc, 3, none⟩ = some (.int .i64 mo) := k2.cell 3
  have s4 : w2.cell? ⟨bc, 4, none⟩ = some (.int .i64 m) := k2.cell 4
  have s5 : w2.cell? ⟨bc, 5, none⟩ = some (.int .i64 ba) := k2.cell 5
  have s6 : w2.cell? ⟨bc, 6, none⟩ = some (.int .i64 mi) := k2.cell 6
  have s7 : w2.cell? ⟨bc, 7, none⟩ = some (.int .i64 st) := k2.cell 7
  have s8 : w2.cell? ⟨bc, 8, none⟩ = some (.int .i64 bu) := k2.cell 8
  have s9 : w2.cell? ⟨bc, 9, none⟩ = some (.int .i64 ch) := k2.cell 9
  have s10 : w2.cell? ⟨bc, 10, none⟩ = some (.int .i64 wi) := k2.cell 10
  have s11 : w2.cell? ⟨bc, 11, none⟩ = some (.int .i64 ca) := k2.cell 11
  have lc2 := k2.lt
  clear hown2 hb2 k2 c8 lc HB1 HK1
  go_wp2_with fail
  refine wp_region_early (Kept w2) [0, 1, 2, 3, 4, 5] [6] [7, 8, 9, 10] (by kernel_rfl) (by kernel_rfl) (Kept.start w2) ?_
  simp only [List.filterMap_cons, List.filterMap_nil, List.getElem?_cons_succ, List.getElem?_cons_zero]
  refine early_step (cfgV A n cap ⟨sh, ra, mo, m, ba, mi, st, bu, ch, wi, ca⟩) rfl (fun W hW => ?_) ?_
  · obtain ⟨hc, -, -⟩ := hW
    go_simp
  go_simp
  refine early_step (.slice Ab nb cb) rfl (fun W hW => ?_) ?_
  · obtain ⟨hc, -, -⟩ := hW
    go_simp
  go_simp
  refine early_step (.slice Ab nb cb) rfl (fun W hW => ?_) ?_
  · obtain ⟨hc, -, -⟩ := hW
    go_simp
  go_simp
  refine early_step (.int .i64 nb) rfl (fun W hW => ?_) ?_
  · obtain ⟨hc, -, -⟩ := hW
    go_simp
  go_simp
  refine early_step (.pointer (some ⟨bc, 10, none⟩)) rfl (fun W hW => ?_) ?_
  · obtain ⟨hc, -, -⟩ := hW
    go_simp
  go_simp
  refine early_step (.int .i64 wi) rfl (fun W hW => ?_) ?_
  · obtain ⟨hc, -, -⟩ := hW
    go_simp
  go_simp
  change RestW _ _ _ _ _ (_ :: []) _ _
  unfold RestW
  go_wp2_with fail
  ((with_reducible refine (HGr.out _).mono ?_); rintro e w3 ⟨Ag, cg, rfl, hown3, hb3⟩)
  have hb3' : Below w2.heap.size w2 w3 := ((Kept.start w2).call hb3).2.2
  have HO3 := Lib.hid (own_base hown3 (show w.heap.size ≤ _ from HB2.out.size))
  have HO2' := Lib.hid (own_below HO2.out hb3')
  have HB3 := Lib.hid (HB2.out.trans (hb3'.mono HB2.out.size))
  have HK3 := Lib.hid (HK2.out.kept hb3')
  have HKe := Lib.hid (Kept.of hb3')
  clear hown3 hb3 hb3' s0 s1 s2 s3 s4 s5 s6 s7 s8 s9 s10 s11 lc2 HO2 HB2 HK2
  go_wp2_with fail
  refine ⟨HKe.out, ?_⟩
  unfold RestW
  change wpList _ _ _ (_ :: _ :: _ :: _ :: []) _ _
  have HPB : Hid (∀ W, w3.alloc (.cells (planC A n cap ⟨sh, ra, mo, m, ba, mi, st, bu, ch, wi, ca⟩ Ab nb cb Ag ng cg (.slice none 0 0)) 238) = W → Below w3.heap.size w3 W ∧ Blk W w3.heap.size 238 (planC A n cap ⟨sh, ra, mo, m, ba, mi, st, bu, ch, wi, ca⟩ Ab nb cb Ag ng cg (.slice none 0 0))) := Lib.hid (by
    rintro W rfl
    exact ⟨(Below.refl _ _).alloc (Nat.le_refl _) _, Blk.new _ _ _⟩)
  go_wp2_with fail
  refine NoPanic.normal ?_
  obtain ⟨w4, hw4⟩ : ∃ w4, w3.alloc (.cells (planC A n cap ⟨sh, ra, mo, m, ba, mi, st, bu, ch, wi, ca⟩ Ab nb cb Ag ng cg (.slice none 0 0)) 238) = w4 := ⟨_, rfl⟩
  obtain ⟨hb4, hp4⟩ := HPB.out _ hw4
  rw [hw4]
  obtain ⟨bp, hbp⟩ : ∃ bp, w3.heap.size = bp := ⟨_, rfl⟩
  have hwbp : w.heap.size ≤ bp := by rw [← hbp]; exact HB3.out.size
  rw [hbp] at hp4 ⊢
  have HP4 := Lib.hid hp4
  have HB4 := Lib.hid (HB3.out.trans (hb4.mono HB3.out.size))
  have HK4 := Lib.hid (HK3.out.kept hb4)
  have HRb4 := Lib.hid (own_below HO2'.out hb4)
  have HRg4 := Lib.hid (own_below HO3.out hb4)
  have c4 : w4.cell? ⟨bc, 4, none⟩ = some (.int .i64 m) := HK4.out.cell 4
  have lc := HK4.out.lt
  have hcb : nb ≤ cb := by
    obtain ⟨A', cap', e', h', _⟩ := own_form HO2'.out
    injection e' with _ _ e'
    omega
  have hlb := hp4.lt
  clear hw4 hp4 hb4 hbp HPB HO2' HO3 HKe HB3 HK3
  as_aux_lemma =>
    go_wp2_with fail
    clear c4 lc hlb
    go_loopw [36] (fun v wr => ∃ k Al cl, k ≤ m ∧ v = .int .i64 k ∧ Blk wr bp 238 (planC A n cap ⟨sh, ra, mo, m, ba, mi, st, bu, ch, wi, ca⟩ Ab nb cb Ag ng cg (.slice Al k cl)) ∧ wr.ownsRow w.heap.size 3 1 (.slice Al k cl) k (iv (pc.lensL.take k)) ∧ Below w.heap.size w wr ∧ wr.ownsRow w.heap.size 218 2 (.slice Ab nb cb) nb (rv pc.bks) ∧ wr.ownsRow w.heap.size 218 2 (.slice Ag ng cg) ng (rv pc.grps)) (fun v _ => m - (intOf v).toNat)
    case atStart => exact ⟨0, none, 0, by omega, rfl, HP4.out, by simpa [iv] using World.ownsRow_nil w4 w.heap.size 3 1, HB4.out, HRb4.out, HRg4.out⟩
    case round =>
      obtain ⟨k, Al, cl, hk, rfl, hbk, hown, hb, hrb, hrg⟩ := hrel
      by_cases hlt : k < m
      · as_aux_lemma =>
          have HBK := Lib.hid hbk
          have HO := Lib.hid hown
          have HB := Lib.hid hb
          have HRB := Lib.hid hrb
          have HRG := Lib.hid hrg
          have HI := Lib.hid (fun W h1 h2 => HIt.out Ab cb Ag cg k W h1 h2)
          have hle := HLe.out k
          have HLK := Lib.hid (HLA.out k hlt)
          obtain ⟨q, hq⟩ : ∃ q, (pc.itemsI (k : Int) 0).length = q := ⟨_, rfl⟩
          rw [hq] at HI hle HLK
          have hz : w.heap.size ≤ wr.heap.size := hb.size
          clear hbk hown hb hrb hrg hq
          have i1 : (k : Int) < (m : Int) := by omega
          go_wp2_with fail
          refine wp_region_early (fun W : World => Blk W bp 238 (planC A n cap ⟨sh, ra, mo, m, ba, mi, st, bu, ch, wi, ca⟩ Ab nb cb Ag ng cg (.slice Al k cl))) [0, 1, 2, 3, 4, 5, 6, 7, 8, 9] [10, 11, 12, 13] [14, 15, 16] (by kernel_rfl) (by kernel_rfl) HBK.out.drew ?_
          simp only [List.filterMap_cons, List.filterMap_nil, List.getElem?_cons_succ, List.getElem?_cons_zero]
          refine early_step (.pointer (some ⟨bp, 0, none⟩)) rfl (fun W hW => ?_) ?_
          · have h14 := hW.cell 14
            have h0 := hW.cell 0
            have h1 := hW.cell 1
            have h2 := hW.cell 2
            have h3 := hW.cell 3
            have h4 := hW.cell 4
            have h5 := hW.cell 5
            have h6 := hW.cell 6
            have h7 := hW.cell 7
            have h8 := hW.cell 8
            have h9 := hW.cell 9
            have h10 := hW.cell 10
            have h11 := hW.cell 11
            have h12 := hW.cell 12
            have h13 := hW.cell 13
            go_simp
          go_simp
          refine early_step (.pointer (some ⟨bp, 0, none⟩)) rfl (fun W hW => ?_) ?_
          · have h14 := hW.cell 14
            have h0 := hW.cell 0
            have h1 := hW.cell 1
            have h2 := hW.cell 2
            have h3 := hW.cell 3
            have h4 := hW.cell 4
            have h5 := hW.cell 5
            have h6 := hW.cell 6
            have h7 := hW.cell 7
            have h8 := hW.cell 8
            have h9 := hW.cell 9
            have h10 := hW.cell 10
            have h11 := hW.cell 11
            have h12 := hW.cell 12
            have h13 := hW.cell 13
            go_simp
          go_simp
          refine early_step (.pointer (some ⟨bp, 0, none⟩)) rfl (fun W hW => ?_) ?_
          · have h14 := hW.cell 14
            have h0 := hW.cell 0
            have h1 := hW.cell 1
            have h2 := hW.cell 2
            have h3 := hW.cell 3
            have h4 := hW.cell 4
            have h5 := hW.cell 5
            have h6 := hW.cell 6
            have h7 := hW.cell 7
            have h8 := hW.cell 8
            have h9 := hW.cell 9
            have h10 := hW.cell 10
            have h11 := hW.cell 11
            have h12 := hW.cell 12
            have h13 := hW.cell 13
            go_simp
          go_simp
          refine early_step (.pointer (some ⟨bp, 14, none⟩)) rfl (fun W hW => ?_) ?_
          · have h14 := hW.cell 14
            have h0 := hW.cell 0
            have h1 := hW.cell 1
            have h2 := hW.cell 2
            have h3 := hW.cell 3
            have h4 := hW.cell 4
            have h5 := hW.cell 5
            have h6 := hW.cell 6
            have h7 := hW.cell 7
            have h8 := hW.cell 8
            have h9 := hW.cell 9
            have h10 := hW.cell 10
            have h11 := hW.cell 11
            have h12 := hW.cell 12
            have h13 := hW.cell 13
            go_simp
          go_simp
          refine early_step (.slice Al k cl) rfl (fun W hW => ?_) ?_
          · have h14 := hW.cell 14
            have h0 := hW.cell 0
            have h1 := hW.cell 1
            have h2 := hW.cell 2
            have h3 := hW.cell 3
            have h4 := hW.cell 4
            have h5 := hW.cell 5
            have h6 := hW.cell 6
            have h7 := hW.cell 7
            have h8 := hW.cell 8
            have h9 := hW.cell 9
            have h10 := hW.cell 10
            have h11 := hW.cell 11
            have h12 := hW.cell 12
            have h13 := hW.cell 13
            go_simp
          go_simp
          refine early_step (.pointer (some ⟨bp, 0, none⟩)) rfl (fun W hW => ?_) ?_
          · have h14 := hW.cell 14
            have h0 := hW.cell 0
            have h1 := hW.cell 1
            have h2 := hW.cell 2
            have h3 := hW.cell 3
            have h4 := hW.cell 4
            have h5 := hW.cell 5
            have h6 := hW.cell 6
            have h7 := hW.cell 7
            have h8 := hW.cell 8
            have h9 := hW.cell 9
            have h10 := hW.cell 10
            have h11 := hW.cell 11
            have h12 := hW.cell 12
            have h13 := hW.cell 13
            go_simp
          go_simp
          refine early_step (.pointer (some ⟨bp, 0, none⟩)) rfl (fun W hW => ?_) ?_
          · have h14 := hW.cell 14
            have h0 := hW.cell 0
            have h1 := hW.cell 1
            have h2 := hW.cell 2
            have h3 := hW.cell 3
            have h4 := hW.cell 4
            have h5 := hW.cell 5
            have h6 := hW.cell 6
            have h7 := hW.cell 7
            have h8 := hW.cell 8
            have h9 := hW.cell 9
            have h10 := hW.cell 10
            have h11 := hW.cell 11
            have h12 := hW.cell 12
            have h13 := hW.cell 13
            go_simp
          go_simp
          refine early_step (.pointer (some ⟨bp, 0, none⟩)) rfl (fun W hW => ?_) ?_
          · have h14 := hW.cell 14
            have h0 := hW.cell 0
            have h1 := hW.cell 1
            have h2 := hW.cell 2
            have h3 := hW.cell 3
            have h4 := hW.cell 4
            have h5 := hW.cell 5
            have h6 := hW.cell 6
            have h7 := hW.cell 7
            have h8 := hW.cell 8
            have h9 := hW.cell 9
            have h10 := hW.cell 10
            have h11 := hW.cell 11
            have h12 := hW.cell 12
            have h13 := hW.cell 13
            go_simp
          go_simp
          refine early_step (setV A n cap ⟨sh, ra, mo, m, ba, mi, st, bu, ch, wi, ca⟩ Ab nb cb Ag ng cg) rfl (fun W hW => ?_) ?_
          · have h14 := hW.cell 14
            have h0 := hW.cell 0
            have h1 := hW.cell 1
            have h2 := hW.cell 2
            have h3 := hW.cell 3
            have h4 := hW.cell 4
            have h5 := hW.cell 5
            have h6 := hW.cell 6
            have h7 := hW.cell 7
            have h8 := hW.cell 8
            have h9 := hW.cell 9
            have h10 := hW.cell 10
            have h11 := hW.cell 11
            have h12 := hW.cell 12
            have h13 := hW.cell 13
            go_simp
          go_simp
          refine early_step (.int .i64 k) rfl (fun W hW => ?_) ?_
          · have h14 := hW.cell 14
            have h0 := hW.cell 0
            have h1 := hW.cell 1
            have h2 := hW.cell 2
            have h3 := hW.cell 3
            have h4 := hW.cell 4
            have h5 := hW.cell 5
            have h6 := hW.cell 6
            have h7 := hW.cell 7
            have h8 := hW.cell 8
            have h9 := hW.cell 9
            have h10 := hW.cell 10
            have h11 := hW.cell 11
            have h12 := hW.cell 12
            have h13 := hW.cell 13
            go_simp
          go_simp
          change RestW _ _ _ _ _ (_ :: _ :: _ :: _ :: []) _ _
          unfold RestW
          go_wp2_with fail
          ((with_reducible refine (HI.out _ (Rd.of_own (own_below HRB.out (Below.refl _ _).drew)) (Rd.of_own (own_below HRG.out (Below.refl _ _).drew))).mono ?_); rintro e w5 ⟨A5, c5, rfl, hown5, hb5⟩)
          have hb5' : Below wr.heap.size wr w5 := ((Kept.start wr).call hb5).2.2
          have HBK5 := Lib.hid (HBK.out.kept hb5')
          have HO5 := Lib.hid (own_below HO.out hb5')
          have HB5 := Lib.hid (HB.out.trans (hb5'.mono hz))
          have HRB5 := Lib.hid (own_below HRB.out hb5')
          have HRG5 := Lib.hid (own_below HRG.out hb5')
          have HB55 := Lib.hid hb5'
          clear hown5 hb5 hb5'
          have hz5 := HB5.out.size
          go_wp2_with fail
          refine ⟨HBK5.out, ?_⟩
          unfold RestW
          go_wp2_with fail
          refine ⟨HBK5.out, ?_⟩
          unfold RestW
          go_wp2_with fail
          refine ⟨HBK5.out.alloc _, ?_⟩
          unfold RestW
          change wpList _ _ _ (_ :: []) _ (w5.alloc (.cells #[.int .i64 q] 3))
          go_wp2_with (at_builtin; go_must (refine wpList_pushL slInt rfl _ _ rfl w.heap.size (.slice Al k cl) k (iv (pc.lensL.take k)) rfl HO5.out #[.int .i64 q] w5.heap.size rfl rfl rfl (one_cell _) (by unfold maxLen; omega) (by omega) hz5 ?_); intro A6 c6 w6 hown6 hb6 hg6 hat6)
          have HBK6 := Lib.hid (HBK5.out.other HO5.out hg6 (by decide))
          have HO6 := Lib.hid hown6
          have HB6 := Lib.hid (HB5.out.trans hb6)
          have HSI := Stay.of_own' (u := 238) HO5.out hg6
          have HRB6 := Lib.hid (HSI.own hg6.size HRB5.out (by decide) (by decide))
          have HRG6 := Lib.hid (HSI.own hg6.size HRG5.out (by decide) (by decide))
          clear hown6 hb6 hg6 hat6 HSI
          refine ⟨HBK6.out, ?_⟩
          unfold RestW
          change wpList _ _ _ (_ :: _ :: _ :: []) _ _
          have v1 : w6.cell? ⟨bp, 14, none⟩ = some (.slice Al k cl) := HBK6.out.cell 14
          have f1 := HBK6.out.frozen 14
          have l6 := HBK6.out.lt
          go_wp2_with fail
          refine NoPanic.normal ?_
          have HST := Lib.hid (pset14 HBK6.out (.slice A6 (k + 1) c6))
          clear v1 f1
          go_wp2_with fail
          go_roundw
          case rel =>
            refine ⟨k + 1, A6, c6, by omega, by go_num, HST.out.2, ?_, below_gr HB6.out HB6.out.size HST.out.1 hwbp, HRB6.out.kept HST.out.1 (.inr (own_blk_ne HRB6.out HBK6.out (by decide))), HRG6.out.kept HST.out.1 (.inr (own_blk_ne HRG6.out HBK6.out (by decide)))⟩
            have hk' : pc.lensL.take (k + 1) = pc.lensL.take k ++ [(q : Int)] := by
              have hlt' : k < pc.lensL.length := by rw [HLL.out]; exact hlt
              rw [take_snoc _ _ hlt']
              have := HLK.out
              rw [List.getElem?_eq_getElem hlt'] at this
              injection this with this
              rw [this]
            rw [hk', show iv (pc.lensL.take k ++ [(q : Int)]) = iv (pc.lensL.take k) ++ [.int .i64 q] by simp [iv]]
            exact HO6.out.kept HST.out.1 (.inr (own_blk_ne HO6.out HBK6.out (by decide)))
          case measure => simp [intOf]; omega
      · obtain rfl : k = m := by omega
        have HPA1 := Lib.hid (HPA.out wr bp Ab cb Ag cg Al cl hwbp hbk hrb hrg (by
          have := hown
          rwa [List.take_of_length_le (by rw [HLL.out]; omega)] at this))
        have HB := Lib.hid hb
        clear hbk hown hb hrb hrg
        go_wp2_with fail
        go_ret2
        exact ⟨bp, rfl, HPA1.out, HB.out⟩
end
section
open Go.RowKit
def StRet (w : World) (N M : Nat) (Ps Ms : List Int) (en : Ending) (w' : World) : Prop :=
  ∃ AP cP AM cM, en = .returned (.agg #[.slice AP N cP, .slice AM M cM]) ∧ w'.ownsRow w.heap.size 2 1 (.slice AP N cP) N (iv Ps) ∧ w'.ownsRow w.heap.size 2 1 (.slice AM M cM) M (iv Ms) ∧
    (∀ g h, (Value.slice AP N cP).ownBlock = some g → (Value.slice AM M cM).ownBlock = some h → g < h) ∧ Below w.heap.size w w'
set_option maxHeartbeats 1000000 in
theorem sgdClone_any (A B : Option Addr) (N M c d : Nat) (Ps Ms : List Int) (w : World) (hPl : Ps.length = N) (hMl : Ms.length = M) (hP : Rd w 1 A N (iv Ps)) (hM : Rd w 1 B M (iv Ms)) (hN : N ≤ 1000000) (hM' : M ≤ 1000000) :
    Calls Tryz.prog 45 #[.agg #[.slice A N c, .slice B M d]] w (StRet w N M Ps Ms) := by
  have HPL := Lib.hid hPl
  have HML := Lib.hid hMl
  have HP := Lib.hid hP
  have HM := Lib.hid hM
  clear hPl hMl hP hM
  go_enter Tryz.func45, Tryz.ntmps45
  go_wp2_with fail
  obtain ⟨w0, hw0⟩ : ∃ w0, (w.alloc (.cells #[.slice A N c, .slice B M d] 92)).alloc (.cells #[.slice none 0 0, .slice none 0 0] 92) = w0 := ⟨_, rfl⟩
  have k0 : Below w.heap.size w w0 := by rw [← hw0]; exact ((Below.refl _ _).alloc (Nat.le_refl _) _).alloc (by simp) _
  have hA0 : Blk w0 w.heap.size 92 #[.slice A N c, .slice B M d] := by rw [← hw0]; exact (Blk.new w _ _).alloc _
  have hR0 : Blk w0 (w.heap.size + 1) 92 #[.slice none 0 0, .slice none 0 0] := by rw [← hw0]; exact Blk.new' _ _ (by simp)
  rw [hw0]
  clear hw0
  have s0 : (w0.drew.cell? ⟨w.heap.size, 0, none⟩ = some (.slice A N c) ∧ w0.drew.cell? ⟨w.heap.size, 1, none⟩ = some (.slice B M d)) ∧ Below w.heap.size w w0.drew := ⟨⟨hA0.cell 0, hA0.cell 1⟩, k0.drew⟩
  have HA0 := Lib.hid hA0
  have HR0 := Lib.hid hR0
  have HC1 := Lib.hid (fun W (hb : Below w.heap.size w W) => vecClone_any A N c Ps W HPL.out (HP.out.below hb) (by omega))
  have HC2 := Lib.hid (fun W (hb : Below w.heap.size w W) => vecClone_any B M d Ms W HML.out (HM.out.below hb) (by omega))
  clear hA0 hR0 k0
  go_region_held3 (fun w' => (w'.cell? ⟨w.heap.size, 0, none⟩ = some (.slice A N c) ∧ w'.cell? ⟨w.heap.size, 1, none⟩ = some (.slice B M d)) ∧ Below w.heap.size w w') (first | exact s0 | exact s1 | exact s2 | exact s3) (first
    | (go_at_call 107; (with_reducible refine (HC1.out w0.drew s0.2).mono ?_); rintro e w1 ⟨A1, c1, rfl, hown1, hb1⟩; have HA1 := Lib.hid (HA0.out.drew.kept hb1); have HR1 := Lib.hid (HR0.out.drew.kept hb1); have s1 : (w1.cell? ⟨w.heap.size, 0, none⟩ = some (.slice A N c) ∧ w1.cell? ⟨w.heap.size, 1, none⟩ = some (.slice B M d)) ∧ Below w.heap.size w w1 := ⟨⟨HA1.out.cell 0, HA1.out.cell 1⟩, ((Kept.of s0.2).call hb1).2.2⟩; have HO1 := Lib.hid hown1; clear hown1 hb1)
    | (go_at_call 107; (with_reducible refine (HC2.out w1 s1.2).mono ?_); rintro e w2 ⟨A2, c2, rfl, hown2, hb2⟩; have HA2 := Lib.hid (HA1.out.kept hb2); have HR2 := Lib.hid (HR1.out.kept hb2); have s2 : (w2.cell? ⟨w.heap.size, 0, none⟩ = some (.slice A N c) ∧ w2.cell? ⟨w.heap.size, 1, none⟩ = some (.slice B M d)) ∧ Below w.heap.size w w2 := ⟨⟨HA2.out.cell 0, HA2.out.cell 1⟩, ((Kept.of s1.2).call hb2).2.2⟩; have HO2 := Lib.hid hown2; have HO12 := Lib.hid (own_below HO1.out hb2); have d0 : w2.cell? ⟨w.heap.size + 1, 0, none⟩ = some (.slice none 0 0) := HR2.out.cell 0; have d1 : w2.cell? ⟨w.heap.size + 1, 1, none⟩ = some (.slice none 0 0) := HR2.out.cell 1; have f0 := HR2.out.frozen 0; have f1 := HR2.out.frozen 1; have s3 : (((w2.setCell ⟨w.heap.size + 1, 0, none⟩ (.slice A1 N c1)).setCell ⟨w.heap.size + 1, 1, none⟩ (.slice A2 M c2)).cell? ⟨w.heap.size, 0, none⟩ = some (.slice A N c) ∧ ((w2.setCell ⟨w.heap.size + 1, 0, none⟩ (.slice A1 N c1)).setCell ⟨w.heap.size + 1, 1, none⟩ (.slice A2 M c2)).cell? ⟨w.heap.size, 1, none⟩ = some (.slice B M d)) ∧ Below w.heap.size w ((w2.setCell ⟨w.heap.size + 1, 0, none⟩ (.slice A1 N c1)).setCell ⟨w.heap.size + 1, 1, none⟩ (.slice A2 M c2)) := ⟨⟨(HA2.out.grown (store2' HR2.out _ _).1 (by simp)).cell 0, (HA2.out.grown (store2' HR2.out _ _).1 (by simp)).cell 1⟩, below_gr s2.2 s2.2.size (store2' HR2.out _ _).1 (by omega)⟩; clear hown2 hb2))
  go_wp2
  have hst := store2' HR2.out (.slice A1 N c1) (.slice A2 M c2)
  refine bodyPost_ret (v := .agg #[.slice A1 N c1, .slice A2 M c2]) (by simp [results, Tryz.results45, go_sem, d0, d1]) rfl ⟨A1, c1, A2, c2, rfl, ?_, ?_, fun g h hg hh => ?_, s3.2⟩
  · exact own_base (HO12.out.kept hst.1 (.inr (own_blk_ne HO12.out HR2.out (by decide)))) s0.2.size
  · exact own_base (HO2.out.kept hst.1 (.inr (own_blk_ne HO2.out HR2.out (by decide)))) s1.2.size
  · have h1 := (HO1.out.lt g hg).2
    have h2 := (HO2.out.lt h hh).1
    omega
end
section
open Go.RowKit
theorem slI64b : Sl Tryz.prog 26 2 (.int .i64 0) 1 8 := ⟨Tryz.underlying26, by kernel_rfl, rfl, by omega⟩
set_option maxHeartbeats 400000 in
theorem clone64_any (A : Option Addr) (n cap : Nat) (l : List Int) (w : World) (hl : l.length = n) (h : Rd w 1 A n (iv l)) (hn : n ≤ 10000000) :
    Calls Tryz.prog 181 #[.slice A n cap] w (OwnRet w 2 1 n (iv l)) := by
  have HR := Lib.hid h
  have HL := Lib.hid hl
  have hq := fun (w : World) (a : Option Addr) (n c : Nat) => Lib.run_eql_slice_nil (P := Tryz.prog) w 26 2 a n c 0 0 Tryz.underlying26
  clear h hl
  cases A with
  | none =>
    have hn0 : n = 0 := by
      rcases Nat.eq_zero_or_pos n with h0 | h0
      · exact h0
      · obtain ⟨b, o, h, _⟩ := HR.out.2 h0; cases h
    subst hn0
    have hl0 : l = [] := List.eq_nil_of_length_eq_zero HL.out
    subst hl0
    go_enter Tryz.func181, Tryz.ntmps181
    go_wp2
    go_ret
    exact ⟨none, 0, rfl, World.ownsRow_nil _ _ _ _, Below.refl _ _⟩
  | some ad =>
    go_enter Tryz.func181, Tryz.ntmps181
    go_wp2_with (at_builtin; go_must (refine wpList_appendAll slI64b rfl _ _ rfl w.heap.size _ 0 [] rfl (World.ownsRow_lit w #[] 0 (Nat.le_refl _) (by unfold maxLen; omega) rfl) (some ad) n cap (iv l) rfl (HR.out.alloc _) (iv_one l) (by unfold maxLen; omega) (by omega) (by simp) ?_); intro A' cap' w1 hown1 hb1)
    go_ret
    exact ⟨A', cap', by simp, by simpa using hown1, ((Below.refl _ _).alloc (Nat.le_refl _) _).trans hb1⟩
end
end Go.Proofs.YtkmaeipoaoikpaaGreat
