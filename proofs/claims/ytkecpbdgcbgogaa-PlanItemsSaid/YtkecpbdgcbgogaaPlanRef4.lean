/-
  The reference's plans: Items, Step, Total.
-/
import Derived.Test.YtkecpbdgcbgogaaPlanRef3
namespace Go.Proofs.Ytkecpbdgcbgogaa
set_option linter.unusedVariables false
set_option linter.unusedSimpArgs false
set_option maxRecDepth 100000
open Go.RowKit

def PlC.rItemsI (pc : PlC) (x t : Int) : List RItem := if 0 ≤ x ∧ x < pc.m then pc.itemsI x t else []
theorem PlC.rItemsI_in (pc : PlC) (x t : Int) (h : 0 ≤ x ∧ x < pc.m) : pc.rItemsI x t = pc.itemsI x t := if_pos h
theorem PlC.rItemsI_out (pc : PlC) (x t : Int) (h : ¬ (0 ≤ x ∧ x < pc.m)) : pc.rItemsI x t = [] := if_neg h
theorem PlC.rItemsI_length (pc : PlC) (x t : Int) : (pc.rItemsI x t).length = pc.lenI x := by
  unfold PlC.rItemsI PlC.lenI
  split
  · exact pc.itemsI_len x t 0
  · rfl

section
variable (pc : PlC) (c : Cfg) (A : Option Addr) (n cap : Nat) (P : Int) (x t : Int) (w : World)

set_option maxHeartbeats 1000000 in
theorem refItems20_out (hf : Fits pc c) (hno : ¬ (0 ≤ x ∧ x < pc.m)) :
    Calls Try.prog 37 #[rplV A n cap c P, .int .i64 x, .int .i64 t] w fun e w' => e = .returned (.slice none 0 0) ∧ Below w.heap.size w w' := by
  have HG : Hid (∀ W, w.alloc (.cells (rplC A n cap c P) 60) = W → Below w.heap.size w W ∧ Blk W w.heap.size 60 (rplC A n cap c P)) := Lib.hid (by
    rintro W rfl
    exact ⟨(Below.refl _ _).alloc (Nat.le_refl _) _, Blk.new _ _ _⟩)
  have hwk := hf.wk
  rw [← hwk] at hno
  clear hf hwk
  by_cases h0 : x < 0
  · have e1 : decide (x < 0) = true := decide_eq_true h0
    clear hno
    go_enter Try.func37, Try.ntmps37
    go_wp2_with fail
    go_ret
    exact ⟨rfl, (HG.out _ rfl).1⟩
  · have e1 : decide (x < 0) = false := decide_eq_false h0
    have e2 : decide (c.wk ≤ x) = true := decide_eq_true (by omega)
    clear hno
    go_enter Try.func37, Try.ntmps37
    go_wp2_with fail
    go_ret
    exact ⟨rfl, (HG.out _ rfl).1⟩

set_option maxHeartbeats 4000000 in
theorem refItems20_in (hp : pc.Ok) (hf : Fits pc c) (hP : P = pc.P) (hx0 : 0 ≤ x) (hx1 : x < pc.m) :
    Calls Try.prog 37 #[rplV A n cap c P, .int .i64 x, .int .i64 t] w (OwnRet w 87 12 (pc.itemsI x t).length (itemsV (pc.itemsI x t))) := by
  have HGrp := Lib.hid (fun lo hi L v W h1 h2 h3 h4 h5 => refGroup20_any pc c A n cap P x t lo hi w.heap.size L v W hp hf hP h1 h2 h3 h4 h5)
  have HBk := Lib.hid (fun W => refBuckets20_any pc c A n cap P W hp hf hP)
  have HGs := Lib.hid (fun W => refGroups_any pc.nb pc.wi W (PlC.nb_pos hp) (by have := PlC.nb_le hp; omega) hp.w1 (by have := hp.w2; omega))
  have eg : blocksL pc.nb pc.wi = pc.grps := rfl
  rw [eg] at HGs
  obtain ⟨hwk, hch, hmi, hwi, hbu, hs0, hs1⟩ := hf
  obtain ⟨sh, ra, mo, wk, ba, mi, st, bu, ch, wi, ca⟩ := c
  simp only at hwk hch hmi hwi hbu hs0 hs1
  subst hwk hmi hwi
  have hi2 := hp.i2
  have hnb2 := PlC.nb_le hp
  have HGI := Lib.hid (fun (k : Nat) (a b : Int) (h : pc.grps[k]? = some (a, b)) => PlC.grps_in h)
  have HGS := Lib.hid (fun (k : Nat) (a b : Int) (h : pc.grps[k]? = some (a, b)) => pc.grpsI_succ x t k (a, b) h)
  have HGE := Lib.hid (fun (k : Nat) (h : k ≤ cnt pc.nb pc.wi) => pc.grpsI_le hp x t k h)
  have HIT : Hid (pc.itemsI x t = rangeI 1 t 0 pc.mi ++ pc.grpsI x t (cnt pc.nb pc.wi) ++ [plainI 6 t 0]) := Lib.hid rfl
  have hng : cnt pc.nb pc.wi ≤ 60 := Nat.le_trans (cnt_le _ _) hnb2
  have HGLen := Lib.hid pc.grps_length
  obtain ⟨ng, hngd⟩ : ∃ ng, cnt pc.nb pc.wi = ng := ⟨_, rfl⟩
  obtain ⟨m, hm⟩ : ∃ m, pc.m = m := ⟨_, rfl⟩
  obtain ⟨mi, hmi⟩ : ∃ mi, pc.mi = mi := ⟨_, rfl⟩
  obtain ⟨nb, hnb⟩ : ∃ nb, pc.nb = nb := ⟨_, rfl⟩
  obtain ⟨wi, hwi⟩ : ∃ wi, pc.wi = wi := ⟨_, rfl⟩
  rw [hngd] at HGs HGE HIT hng HGLen
  rw [hnb] at HGrp HBk HGs hnb2 HGI
  rw [hm] at HGrp HBk hx1
  rw [hmi] at HGrp HBk hi2 HIT
  rw [hwi] at HGrp HBk HGs
  rw [hm, hmi, hwi]
  have HX : Hid (∀ W, w.alloc (.cells (rplC A n cap ⟨sh, ra, mo, m, ba, mi, st, bu, ch, wi, ca⟩ P) 60) = W → Below w.heap.size w W ∧ Blk W w.heap.size 60 (rplC A n cap ⟨sh, ra, mo, m, ba, mi, st, bu, ch, wi, ca⟩ P)) := Lib.hid (by
    rintro W rfl
    exact ⟨(Below.refl _ _).alloc (Nat.le_refl _) _, Blk.new _ _ _⟩)
  have e1 : decide (x < 0) = false := decide_eq_false (by omega)
  have e2 : decide ((m : Int) ≤ x) = false := decide_eq_false (by omega)
  clear hngd hm hmi hnb hwi hx0 hx1 eg hp hP hch hbu hs0 hs1
  go_enter Try.func37, Try.ntmps37
  go_wp2_with fail
  obtain ⟨w0, hw0⟩ : ∃ w0, w.alloc (.cells (rplC A n cap ⟨sh, ra, mo, m, ba, mi, st, bu, ch, wi, ca⟩ P) 60) = w0 := ⟨_, rfl⟩
  obtain ⟨hB0, hS0⟩ := HX.out _ hw0
  rw [hw0]
  clear hw0 HX
  obtain ⟨base, hbase⟩ : ∃ base, w.heap.size = base := ⟨_, rfl⟩
  rw [hbase] at hS0 HGrp ⊢
  have HBase := Lib.hid hbase
  have HB0 := Lib.hid hB0
  have HS0 := Lib.hid hS0
  have hz0 : base ≤ w0.heap.size := by rw [← hbase]; exact hB0.size
  have HST0 : Hid (RSt base [] (.slice none 0 0) w0) := Lib.hid ⟨none, 0, 0, rfl, rfl, by simpa [itemsV_nil] using World.ownsRow_nil w0 base 87 12⟩
  clear hbase hB0 hS0
  go_loopw [7, 8] (fun v u wr => ∃ i : Nat, i ≤ mi ∧ u = .int .i64 i ∧ RSt base (rangeI 1 t 0 i) v wr ∧ KJ base w0 wr) (fun _ u _ => mi - (intOf u).toNat)
  case atStart => exact ⟨0, by omega, rfl, by simpa [rangeI] using HST0.out, KJ.refl _ _⟩
  case round =>
    obtain ⟨i, hi, rfl, hst, hk⟩ := hrel
    have HSb := Lib.hid (hk.blk HS0.out (by decide))
    have s6 : wr.cell? ⟨base, 6, none⟩ = some (.int .i64 mi) := HSb.out.cell 6
    have ls := HSb.out.lt
    obtain ⟨A1, c1, n1, hn1, rfl, hown⟩ := hst
    have HN1 := Lib.hid hn1
    have hn1l : n1 ≤ 20 := by rw [← hn1, rangeI_length]; omega
    have HOW := Lib.hid hown
    have HK := Lib.hid hk
    have hzr : base ≤ wr.heap.size := Nat.le_trans hz0 hk.2.size
    by_cases hlt : i < mi
    · have i1 : (i : Int) < (mi : Int) := by omega
      clear hown hk hn1
      go_wp2_with (at_builtin; go_must (refine wpList_pushL slRItem rfl _ _ rfl base (.slice A1 n1 c1) n1 (itemsV (rangeI 1 t 0 i)) rfl HOW.out #[.int .i64 1, .int .i64 t, .int .i64 i, .bool false, .bool false, .int .i64 0, .int .i64 0, .int .i64 0, .int .i64 0, .int .i64 0, .int .i64 0, .int .i64 0] wr.heap.size rfl rfl rfl (plain_ones 1 t i) (by unfold maxLen; omega) (by omega) hzr ?_); intro A2 c2 w2 hown2 hb2 hg2 _)
      obtain ⟨hst2, hk2⟩ := RSt.pushP 1 t i HN1.out HOW.out hown2 hb2 hg2
      have HST2 := Lib.hid hst2
      have HK2 := Lib.hid (HK.out.trans hk2)
      clear hown2 hb2 hg2 hst2 hk2
      go_wp2_with fail
      go_roundw
      case rel => exact ⟨i + 1, by omega, by go_num, by rw [rangeI_succ, Nat.zero_add]; exact HST2.out, HK2.out⟩
      case measure => simp [intOf]; omega
    · obtain rfl : i = mi := by omega
      have HST1 : Hid (RSt base (rangeI 1 t 0 i) (.slice A1 n1 c1) wr) := Lib.hid ⟨A1, c1, n1, hn1, rfl, hown⟩
      have s0 : wr.cell? ⟨base, 0, none⟩ = some (.slice A n cap) := HSb.out.cell 0
      have s1 : wr.cell? ⟨base, 1, none⟩ = some (.int .i64 sh) := HSb.out.cell 1
      have s2 : wr.cell? ⟨base, 2, none⟩ = some (.int .i64 ra) := HSb.out.cell 2
      have s3 : wr.cell? ⟨base, 3, none⟩ = some (.int .i64 mo) := HSb.out.cell 3
      have s4 : wr.cell? ⟨base, 4, none⟩ = some (.int .i64 m) := HSb.out.cell 4
      have s5 : wr.cell? ⟨base, 5, none⟩ = some (.int .i64 ba) := HSb.out.cell 5
      have s7 : wr.cell? ⟨base, 7, none⟩ = some (.int .i64 st) := HSb.out.cell 7
      have s8 : wr.cell? ⟨base, 8, none⟩ = some (.int .i64 bu) := HSb.out.cell 8
      have s9 : wr.cell? ⟨base, 9, none⟩ = some (.int .i64 ch) := HSb.out.cell 9
      have s10 : wr.cell? ⟨base, 10, none⟩ = some (.int .i64 wi) := HSb.out.cell 10
      have s11 : wr.cell? ⟨base, 11, none⟩ = some (.int .i64 ca) := HSb.out.cell 11
      have s12 : wr.cell? ⟨base, 12, none⟩ = some (.int .i64 P) := HSb.out.cell 12
      clear hown hk hn1
      go_wp2_with fail
      refine wp_region_early (Kept wr) [0, 3, 4, 5] [1, 2, 6] [7] (by kernel_rfl) (by kernel_rfl) (Kept.start wr) ?_
      simp only [List.filterMap_cons, List.filterMap_nil, List.getElem?_cons_succ, List.getElem?_cons_zero]
      refine early_step (rplV A n cap ⟨sh, ra, mo, m, ba, i, st, bu, ch, wi, ca⟩ P) rfl (fun W hW => ?_) ?_
      · obtain ⟨hc, -, -⟩ := hW
        go_simp
      go_simp
      refine early_step (.pointer (some ⟨base, 0, none⟩)) rfl (fun W hW => ?_) ?_
      · obtain ⟨hc, -, -⟩ := hW
        go_simp
      go_simp
      refine early_step (.pointer (some ⟨base, 10, none⟩)) rfl (fun W hW => ?_) ?_
      · obtain ⟨hc, -, -⟩ := hW
        go_simp
      go_simp
      refine early_step (.int .i64 wi) rfl (fun W hW => ?_) ?_
      · obtain ⟨hc, -, -⟩ := hW
        go_simp
      go_simp
      change RestW _ _ _ _ _ (_ :: _ :: _ :: []) _ _
      unfold RestW
      go_wp2_with fail
      ((with_reducible refine (HBk.out _).mono ?_); rintro e w2 ⟨Ab, cb, rfl, hown2, hb2⟩)
      have HB2 := Lib.hid ((Kept.start wr).call hb2).2.2
      clear hown2 hb2 s0 s1 s2 s3 s4 s5 s6 s7 s8 s9 s10 s11 s12 ls
      go_wp2_with fail
      refine ⟨Kept.of HB2.out, ?_⟩
      unfold RestW
      go_wp2_with fail
      refine ⟨Kept.of HB2.out, ?_⟩
      unfold RestW
      go_wp2_with fail
      ((with_reducible refine (HGs.out _).mono ?_); rintro e w3 ⟨Ag, cg, rfl, hown3, hb3⟩)
      have HB3 := Lib.hid (HB2.out.trans (hb3.mono HB2.out.size))
      have HG3 := Lib.hid hown3
      have HST3 := Lib.hid (HST1.out.call HB3.out)
      have HK3 := Lib.hid (HK.out.trans (KJ.call HB3.out hzr))
      have hz3 : base ≤ w3.heap.size := Nat.le_trans hzr HB3.out.size
      clear hown3 hb3
      go_wp2_with fail
      refine ⟨Kept.of HB3.out, ?_⟩
      unfold RestW
      change wpList _ _ _ (_ :: []) _ _
      go_wp2_with fail
      refine NoPanic.normal ?_
      go_wp2_with fail
      obtain ⟨wz, hwz⟩ : ∃ wz : World, wz = wr := ⟨_, rfl⟩
      rw [← hwz] at HB3
      clear hwz HB2 HK HSb HOW
      go_loopw [7, 10] (fun v u wr => ∃ k : Nat, k ≤ ng ∧ u = .int .i64 k ∧ RSt base (rangeI 1 t 0 i ++ pc.grpsI x t k) v wr ∧ KJ base w3 wr) (fun _ u _ => ng - (intOf u).toNat)
      case atStart => exact ⟨0, by omega, rfl, by simpa [PlC.grpsI] using HST3.out, KJ.refl _ _⟩
      case round =>
        obtain ⟨k, hk1, rfl, hst, hk⟩ := hrel
        have HGEk := Lib.hid (HGE.out k (by omega))
        obtain ⟨A4, c4, n4, hn4, rfl, hown⟩ := hst
        have HN4 := Lib.hid hn4
        have hn4l : n4 ≤ 110000000 := by rw [← hn4, List.length_append, rangeI_length]; have := HGEk.out; omega
        have HOW := Lib.hid hown
        have HK := Lib.hid hk
        have hzr4 : base ≤ wr.heap.size := Nat.le_trans hz3 hk.2.size
        by_cases hlt2 : k < ng
        · obtain ⟨g, o, a, b, rfl, hg, hab, d0, d1⟩ := rd_at HGLen.out (Rd.of_own (hk.1.own hk.2.size HG3.out (by decide) (by decide))) hlt2
          have hin := HGI.out k a b hab
          have HGSk := HGS.out k a b hab
          obtain ⟨lo, rfl⟩ := Int.eq_ofNat_of_zero_le hin.1
          obtain ⟨hi, rfl⟩ := Int.eq_ofNat_of_zero_le (show 0 ≤ b by omega)
          have hlh : lo ≤ hi := by omega
          have hhn : hi ≤ nb := by omega
          have HGG : Hid (pc.grpsI x t (k + 1) = pc.grpsI x t k ++ pc.groupI x t lo (hi - lo)) := Lib.hid (by
            rw [HGSk]
            simp only [PlC.groupG, Int.toNat_natCast, show ((hi : Int) - (lo : Int)).toNat = hi - lo by omega])
          have HSb := Lib.hid ((HK3.out.trans hk).blk HS0.out (by decide))
          have HST4 : Hid (RSt base (rangeI 1 t 0 i ++ pc.grpsI x t k) (.slice A4 n4 c4) wr) := Lib.hid ⟨A4, c4, n4, hn4, rfl, hown⟩
          have HC := Lib.hid (fun W h => HGrp.out lo hi _ (.slice A4 n4 c4) W hlh hhn h (by rw [HN4.out]; omega))
          have s0 : wr.cell? ⟨base, 0, none⟩ = some (.slice A n cap) := HSb.out.cell 0
          have s1 : wr.cell? ⟨base, 1, none⟩ = some (.int .i64 sh) := HSb.out.cell 1
          have s2 : wr.cell? ⟨base, 2, none⟩ = some (.int .i64 ra) := HSb.out.cell 2
          have s3 : wr.cell? ⟨base, 3, none⟩ = some (.int .i64 mo) := HSb.out.cell 3
          have s4 : wr.cell? ⟨base, 4, none⟩ = some (.int .i64 m) := HSb.out.cell 4
          have s5 : wr.cell? ⟨base, 5, none⟩ = some (.int .i64 ba) := HSb.out.cell 5
          have s6 : wr.cell? ⟨base, 6, none⟩ = some (.int .i64 i) := HSb.out.cell 6
          have s7 : wr.cell? ⟨base, 7, none⟩ = some (.int .i64 st) := HSb.out.cell 7
          have s8 : wr.cell? ⟨base, 8, none⟩ = some (.int .i64 bu) := HSb.out.cell 8
          have s9 : wr.cell? ⟨base, 9, none⟩ = some (.int .i64 ch) := HSb.out.cell 9
          have s10 : wr.cell? ⟨base, 10, none⟩ = some (.int .i64 wi) := HSb.out.cell 10
          have s11 : wr.cell? ⟨base, 11, none⟩ = some (.int .i64 ca) := HSb.out.cell 11
          have s12 : wr.cell? ⟨base, 12, none⟩ = some (.int .i64 P) := HSb.out.cell 12
          have ls := HSb.out.lt
          have i1 : (0 : Int) ≤ (k : Int) := by omega
          have i2 : (k : Int) < (ng : Int) := by omega
          clear hown hk hn4 hab hin HGSk
          go_wp2_with fail
          refine wp_region_early (Kept wr) [0, 1, 2, 3, 4, 5, 6, 7] [] [8, 9] (by kernel_rfl) (by kernel_rfl) (Kept.start wr) ?_
          simp only [List.filterMap_cons, List.filterMap_nil, List.getElem?_cons_succ, List.getElem?_cons_zero]
          refine early_step (.slice A4 n4 c4) rfl (fun W hW => ?_) ?_
          · obtain ⟨hc, -, -⟩ := hW
            go_simp
          go_simp
          refine early_step (rplV A n cap ⟨sh, ra, mo, m, ba, i, st, bu, ch, wi, ca⟩ P) rfl (fun W hW => ?_) ?_
          · obtain ⟨hc, -, -⟩ := hW
            go_simp
          go_simp
          refine early_step (.int .i64 x) rfl (fun W hW => ?_) ?_
          · obtain ⟨hc, -, -⟩ := hW
            go_simp
          go_simp
          refine early_step (.int .i64 t) rfl (fun W hW => ?_) ?_
          · obtain ⟨hc, -, -⟩ := hW
            go_simp
          go_simp
          refine early_step (.slice (some ⟨g, o, none⟩) ng cg) rfl (fun W hW => ?_) ?_
          · obtain ⟨hc, -, -⟩ := hW
            go_simp
          go_simp
          refine early_step (.int .i64 k) rfl (fun W hW => ?_) ?_
          · obtain ⟨hc, -, -⟩ := hW
            go_simp
          go_simp
          refine early_step (.pointer (some ⟨g, o + k * 2, none⟩)) rfl (fun W hW => ?_) ?_
          · obtain ⟨hc, -, -⟩ := hW
            go_simp
          go_simp
          refine early_step (.agg #[.int .i64 lo, .int .i64 hi]) rfl (fun W hW => ?_) ?_
          · obtain ⟨hc, -, -⟩ := hW
            go_simp
          go_simp
          unfold EarlyW
          unfold RestW
          change wpList _ _ _ (_ :: _ :: []) _ _
          go_wp2_with fail
          ((with_reducible refine (HC.out _ (HST4.out.call (Below.refl _ _).drew) (Nat.le_trans hzr4 (Below.refl wr.heap.size wr).drew.size)).mono ?_); rintro e w5 ⟨v5, rfl, hst5, hk5⟩)
          have HST5 := Lib.hid hst5
          have HK5 := Lib.hid ((HK.out.trans (KJ.call (Below.refl _ _).drew hzr4)).trans hk5)
          clear hst5 hk5 s0 s1 s2 s3 s4 s5 s6 s7 s8 s9 s10 s11 s12 ls d0 d1
          go_wp2_with fail
          refine NoPanic.normal ?_
          go_wp2_with fail
          go_roundw
          case rel => exact ⟨k + 1, by omega, by go_num, by rw [HGG.out, ← List.append_assoc]; exact HST5.out, HK5.out⟩
          case measure => simp [intOf]; omega
        · obtain rfl : k = ng := by omega
          clear hown hk hn4
          have i2 : ¬ (k : Int) < (k : Int) := by omega
          go_wp2_with (at_builtin; go_must (refine wpList_pushL slRItem rfl _ _ rfl base (.slice A4 n4 c4) n4 (itemsV (rangeI 1 t 0 i ++ pc.grpsI x t k)) rfl HOW.out #[.int .i64 6, .int .i64 t, .int .i64 0, .bool false, .bool false, .int .i64 0, .int .i64 0, .int .i64 0, .int .i64 0, .int .i64 0, .int .i64 0, .int .i64 0] wr.heap.size rfl rfl rfl (plain_ones 6 t 0) (by unfold maxLen; omega) (by omega) hzr4 ?_); intro A5 c5 w5 hown5 hb5 hg5 _)
          obtain ⟨hst5, hk5⟩ := RSt.pushP 6 t 0 HN4.out HOW.out hown5 hb5 hg5
          rw [← HIT.out] at hst5
          have HST5 := Lib.hid hst5
          have HB5 := Lib.hid ((HK3.out.trans HK.out).trans hk5).2
          clear hown5 hb5 hg5 hst5 hk5
          go_wp2_with fail
          go_ret
          obtain ⟨A6, c6, n6, hn6, e6, hown6⟩ := HST5.out
          injection e6 with ea en ec
          subst ea en ec
          rw [hn6]
          exact ⟨A5, c5, rfl, by rw [HBase.out]; exact hown6, HB0.out.trans (by rw [HBase.out]; exact HB5.out)⟩

theorem refItems20_any (hp : pc.Ok) (hf : Fits pc c) (hP : P = pc.P) :
    Calls Try.prog 37 #[rplV A n cap c P, .int .i64 x, .int .i64 t] w (OwnRet w 87 12 (pc.rItemsI x t).length (itemsV (pc.rItemsI x t))) := by
  by_cases h : 0 ≤ x ∧ x < pc.m
  · rw [pc.rItemsI_in x t h]
    exact refItems20_in pc c A n cap P x t w hp hf hP h.1 h.2
  · rw [pc.rItemsI_out x t h]
    refine (refItems20_out pc c A n cap P x t w hf h).mono ?_
    rintro e w' ⟨rfl, hb⟩
    exact ⟨none, 0, rfl, World.ownsRow_nil _ _ _ _, hb⟩

set_option maxHeartbeats 1000000 in
theorem refStep20_any (hp : pc.Ok) (hf : Fits pc c) (hP : P = pc.P) :
    Calls Try.prog 35 #[rplV A n cap c P, .int .i64 x, .int .i64 t] w (OwnRet w 87 12 (pc.stepI c.st x t).length (itemsV (pc.stepI c.st x t))) := by
  have HG : Hid (∀ W, w.alloc (.cells (rplC A n cap c P) 60) = W → Below w.heap.size w W ∧ Blk W w.heap.size 60 (rplC A n cap c P)) := Lib.hid (by
    rintro W rfl
    exact ⟨(Below.refl _ _).alloc (Nat.le_refl _) _, Blk.new _ _ _⟩)
  have HNO : Hid (¬ (0 ≤ t ∧ t < c.st) → pc.stepI c.st x t = []) := Lib.hid (fun h => if_neg (fun hh => h ⟨hh.2.2.1, hh.2.2.2⟩))
  have HYES : Hid (0 ≤ t → t < c.st → pc.stepI c.st x t = pc.rItemsI x t) := Lib.hid (fun h1 h2 => by
    by_cases h : 0 ≤ x ∧ x < pc.m
    · rw [pc.rItemsI_in x t h]; exact if_pos ⟨h.1, h.2, h1, h2⟩
    · rw [pc.rItemsI_out x t h]; exact if_neg (fun hh => h ⟨hh.1, hh.2.1⟩))
  have HI := Lib.hid (fun W => refItems20_any pc c A n cap P x t W hp hf hP)
  clear hp hf hP
  by_cases h0 : t < 0
  · have e1 : decide (t < 0) = true := decide_eq_true h0
    rw [HNO.out (by omega)]
    go_enter Try.func35, Try.ntmps35
    go_wp2_with fail
    go_ret
    exact ⟨none, 0, rfl, World.ownsRow_nil _ _ _ _, (HG.out _ rfl).1⟩
  · have e1 : decide (t < 0) = false := decide_eq_false h0
    by_cases h1 : c.st ≤ t
    · have e2 : decide (c.st ≤ t) = true := decide_eq_true h1
      rw [HNO.out (by omega)]
      go_enter Try.func35, Try.ntmps35
      go_wp2_with fail
      go_ret
      exact ⟨none, 0, rfl, World.ownsRow_nil _ _ _ _, (HG.out _ rfl).1⟩
    · have e2 : decide (c.st ≤ t) = false := decide_eq_false h1
      rw [HYES.out (by omega) (by omega)]
      go_enter Try.func35, Try.ntmps35
      go_wp2_with fail
      ((with_reducible refine (HI.out _).mono ?_); rintro e w2 ⟨A2, c2, rfl, hown2, hb2⟩)
      have HO := Lib.hid (OwnRet.lift ⟨A2, c2, rfl, hown2, hb2⟩ (HG.out _ rfl).1)
      clear hown2 hb2
      go_wp2_with fail
      go_ret
      exact HO.out

/-- The items of all workers, counted. -/
def PlC.sumI (pc : PlC) : Nat → Nat
  | 0 => 0
  | k + 1 => pc.sumI k + pc.lenI (k : Int)
theorem PlC.lenI_le {pc : PlC} (hp : pc.Ok) (x : Int) : pc.lenI x ≤ 200000000 := by
  unfold PlC.lenI
  split
  · exact PlC.itemsI_le hp x 0
  · omega
theorem PlC.sumI_le {pc : PlC} (hp : pc.Ok) (k : Nat) : pc.sumI k ≤ k * 200000000 := by
  induction k with
  | zero => simp [PlC.sumI]
  | succ k ih => have := PlC.lenI_le hp (k : Int); simp only [PlC.sumI]; omega

set_option maxHeartbeats 1000000 in
theorem refTotal20_any (hp : pc.Ok) (hf : Fits pc c) (hP : P = pc.P) :
    Calls Try.prog 44 #[rplV A n cap c P] w fun e w' => e = .returned (.int .i64 ((pc.sumI pc.m : Int) * c.st)) ∧ Below w.heap.size w w' := by
  have HI := Lib.hid (fun x W => refItems20_any pc c A n cap P x 0 W hp hf hP)
  have HLn := Lib.hid (fun x => pc.rItemsI_length x 0)
  have HSL := Lib.hid (fun k => PlC.sumI_le hp k)
  have HLL := Lib.hid (fun x => PlC.lenI_le hp x)
  have HSu : Hid (∀ k : Nat, pc.sumI (k + 1) = pc.sumI k + pc.lenI (k : Int)) := Lib.hid (fun k => rfl)
  have hm2 := hp.m2
  obtain ⟨hwk, hch, hmi, hwi, hbu, hs0, hs1⟩ := hf
  obtain ⟨sh, ra, mo, wk, ba, mi, st, bu, ch, wi, ca⟩ := c
  simp only at hwk hch hmi hwi hbu hs0 hs1
  subst hwk
  obtain ⟨m, hm⟩ : ∃ m, pc.m = m := ⟨_, rfl⟩
  rw [hm] at HI hm2
  rw [hm]
  have HX : Hid (∀ W, w.alloc (.cells (rplC A n cap ⟨sh, ra, mo, m, ba, mi, st, bu, ch, wi, ca⟩ P) 60) = W → Below w.heap.size w W ∧ Blk W w.heap.size 60 (rplC A n cap ⟨sh, ra, mo, m, ba, mi, st, bu, ch, wi, ca⟩ P)) := Lib.hid (by
    rintro W rfl
    exact ⟨(Below.refl _ _).alloc (Nat.le_refl _) _, Blk.new _ _ _⟩)
  have HST : Hid (0 ≤ st ∧ st ≤ 12) := Lib.hid ⟨hs0, hs1⟩
  clear hm hp hP hch hmi hwi hbu hs0 hs1
  go_enter Try.func44, Try.ntmps44
  go_wp2_with fail
  obtain ⟨w0, hw0⟩ : ∃ w0, w.alloc (.cells (rplC A n cap ⟨sh, ra, mo, m, ba, mi, st, bu, ch, wi, ca⟩ P) 60) = w0 := ⟨_, rfl⟩
  obtain ⟨hB0, hS0⟩ := HX.out _ hw0
  rw [hw0]
  obtain ⟨base, hbase⟩ : ∃ base, w.heap.size = base := ⟨_, rfl⟩
  rw [hbase] at hS0 ⊢
  have HBase := Lib.hid hbase
  have HB0 := Lib.hid hB0
  have HS0 := Lib.hid hS0
  clear hw0 HX hbase hB0 hS0
  go_loopw [3, 4] (fun s u wr => ∃ k N : Nat, k ≤ m ∧ u = .int .i64 k ∧ s = .int .i64 N ∧ Hid (pc.sumI k = N) ∧ Below w0.heap.size w0 wr) (fun _ u _ => m - (intOf u).toNat)
  case atStart => exact ⟨0, 0, by omega, rfl, rfl, Lib.hid rfl, Below.refl _ _⟩
  case round =>
    obtain ⟨k, N, hk, rfl, rfl, hN, hb⟩ := hrel
    have hS := HS0.out.kept hb
    have s4 : wr.cell? ⟨base, 4, none⟩ = some (.int .i64 m) := hS.cell 4
    have ls := hS.lt
    have hNl : N ≤ 1600000000 := by have := HSL.out k; rw [hN.out] at this; omega
    have HB := Lib.hid hb
    by_cases hlt : k < m
    · have dk : decide ((k : Int) < (m : Int)) = true := decide_eq_true (by omega)
      have s0 : wr.cell? ⟨base, 0, none⟩ = some (.slice A n cap) := hS.cell 0
      have s1 : wr.cell? ⟨base, 1, none⟩ = some (.int .i64 sh) := hS.cell 1
      have s2 : wr.cell? ⟨base, 2, none⟩ = some (.int .i64 ra) := hS.cell 2
      have s3 : wr.cell? ⟨base, 3, none⟩ = some (.int .i64 mo) := hS.cell 3
      have s5 : wr.cell? ⟨base, 5, none⟩ = some (.int .i64 ba) := hS.cell 5
      have s6 : wr.cell? ⟨base, 6, none⟩ = some (.int .i64 mi) := hS.cell 6
      have s7 : wr.cell? ⟨base, 7, none⟩ = some (.int .i64 st) := hS.cell 7
      have s8 : wr.cell? ⟨base, 8, none⟩ = some (.int .i64 bu) := hS.cell 8
      have s9 : wr.cell? ⟨base, 9, none⟩ = some (.int .i64 ch) := hS.cell 9
      have s10 : wr.cell? ⟨base, 10, none⟩ = some (.int .i64 wi) := hS.cell 10
      have s11 : wr.cell? ⟨base, 11, none⟩ = some (.int .i64 ca) := hS.cell 11
      have s12 : wr.cell? ⟨base, 12, none⟩ = some (.int .i64 P) := hS.cell 12
      have HC := HI.out k
      have hln := HLn.out k
      have hll := HLL.out k
      obtain ⟨q, hq⟩ : ∃ q, pc.lenI (k : Int) = q := ⟨_, rfl⟩
      rw [hq] at hll hln
      rw [hln] at HC
      have HCC := Lib.hid HC
      have HSK : Hid (pc.sumI (k + 1) = N + q) := Lib.hid (by rw [HSu.out, hN.out, hq])
      clear hS hb HC hln hq hN
      go_wp2_with fail
      ((with_reducible refine (HCC.out _).mono ?_); rintro e w2 ⟨A2, c2, rfl, hown2, hb2⟩)
      have HB2 := Lib.hid (HB.out.trans (hb2.mono HB.out.size))
      clear hown2 hb2 s0 s1 s2 s3 s4 s5 s6 s7 s8 s9 s10 s11 s12 ls
      go_wp2_with fail
      go_roundw
      case rel => exact ⟨k + 1, N + q, by omega, by go_num, by go_num, HSK, HB2.out⟩
      case measure => simp [intOf]; omega
    · obtain rfl : k = m := by omega
      have dk : decide ((k : Int) < (k : Int)) = false := decide_eq_false (by omega)
      have s7 : wr.cell? ⟨base, 7, none⟩ = some (.int .i64 st) := hS.cell 7
      obtain ⟨R, hR⟩ : ∃ R, (N : Int) * st = R := ⟨_, rfl⟩
      have hst := HST.out
      have hR0 : 0 ≤ R ∧ R ≤ 1600000000 * 12 := by
        rw [← hR]
        exact ⟨Int.mul_nonneg (by omega) hst.1, Int.mul_le_mul (by omega) hst.2 hst.1 (by omega)⟩
      have zr : IntKind.i64.wrap ((N : Int) * st) = R := by rw [hR]; exact wrap_ok _ (by omega) (by omega)
      have HRR : Hid (R = (pc.sumI k : Int) * st) := Lib.hid (by rw [hN.out, hR])
      clear hS hb hst hR hN
      go_wp2_with fail
      go_ret
      exact ⟨ret_int HRR.out, by have := HB0.out.trans (HB.out.mono HB0.out.size); exact this⟩
end

end Go.Proofs.Ytkecpbdgcbgogaa
