/-
  PlanWindows: at most Window buckets are launched and not updated.
-/
import Derived.Test.YtkecpbdgcbgogaaPlanWinL
namespace Go.Proofs.Ytkecpbdgcbgogaa
set_option linter.unusedVariables false
set_option linter.unusedSimpArgs false
set_option maxRecDepth 100000
open Go.RowKit

section
variable (A : Option Addr) (n cap : Nat) (l : List Int) (c : Cfg) (P x : Int) (w : World)

set_option maxHeartbeats 1000000 in
theorem planWindows_far (hl : l.length = n) (h : Rd w 1 A n (iv l)) (hfar : fewPB n l c P = false ∨ rightB l c P = false ∨ c.st = 0 ∨ x < 0 ∨ c.wk ≤ x) :
    Calls Try.prog 7 #[rplV A n cap c P, .int .i64 x] w fun e w' => e = .returned (.bool true) ∧ Below w.heap.size w w' := by
  have HG : Hid (∀ W, w.alloc (.cells (rplC A n cap c P) 60) = W → Below w.heap.size w W ∧ Blk W w.heap.size 60 (rplC A n cap c P)) := Lib.hid (by
    rintro W rfl
    exact ⟨(Below.refl _ _).alloc (Nat.le_refl _) _, Blk.new _ _ _⟩)
  have HFw := Lib.hid (fun W (r : Rd W 1 A n (iv l)) => refFew_any A n cap l c P W hl r)
  have HRi := Lib.hid (fun W (r : Rd W 1 A n (iv l)) (h : fewPB n l c P = true) => refRight_any A n cap l c P W hl r (by have := few_n h; omega))
  have HR := Lib.hid h
  have HF := Lib.hid hfar
  have HAl := Lib.hid alive20_any
  obtain ⟨sh, ra, mo, wk, ba, mi, st, bu, ch, wi, ca⟩ := c
  clear hl h hfar
  go_enter Try.func7, Try.ntmps7
  go_wp2_with fail
  obtain ⟨w0, hw0⟩ : ∃ w0, w.alloc (.cells (rplC A n cap ⟨sh, ra, mo, wk, ba, mi, st, bu, ch, wi, ca⟩ P) 60) = w0 := ⟨_, rfl⟩
  obtain ⟨hB, hK⟩ := HG.out _ hw0
  rw [hw0]
  clear hw0 HG
  have HB := Lib.hid hB
  have HK := Lib.hid hK
  ((with_reducible refine (HFw.out _ (HR.out.below hB)).mono ?_); rintro e w1 ⟨rfl, hb1⟩)
  have k1 := hK.kept hb1
  have HB1 := Lib.hid (HB.out.trans (hb1.mono HB.out.size))
  have s0 : w1.cell? ⟨w.heap.size, 0, none⟩ = some (.slice A n cap) := k1.cell 0
  have s1 : w1.cell? ⟨w.heap.size, 1, none⟩ = some (.int .i64 sh) := k1.cell 1
  have s2 : w1.cell? ⟨w.heap.size, 2, none⟩ = some (.int .i64 ra) := k1.cell 2
  have s3 : w1.cell? ⟨w.heap.size, 3, none⟩ = some (.int .i64 mo) := k1.cell 3
  have s4 : w1.cell? ⟨w.heap.size, 4, none⟩ = some (.int .i64 wk) := k1.cell 4
  have s5 : w1.cell? ⟨w.heap.size, 5, none⟩ = some (.int .i64 ba) := k1.cell 5
  have s6 : w1.cell? ⟨w.heap.size, 6, none⟩ = some (.int .i64 mi) := k1.cell 6
  have s7 : w1.cell? ⟨w.heap.size, 7, none⟩ = some (.int .i64 st) := k1.cell 7
  have s8 : w1.cell? ⟨w.heap.size, 8, none⟩ = some (.int .i64 bu) := k1.cell 8
  have s9 : w1.cell? ⟨w.heap.size, 9, none⟩ = some (.int .i64 ch) := k1.cell 9
  have s10 : w1.cell? ⟨w.heap.size, 10, none⟩ = some (.int .i64 wi) := k1.cell 10
  have s11 : w1.cell? ⟨w.heap.size, 11, none⟩ = some (.int .i64 ca) := k1.cell 11
  have s12 : w1.cell? ⟨w.heap.size, 12, none⟩ = some (.int .i64 P) := k1.cell 12
  have ls := k1.lt
  have HR1 := Lib.hid ((HR.out.below hB).below hb1)
  have HK1 := Lib.hid k1
  clear hB hK hb1 k1
  obtain ⟨q, hq⟩ : ∃ q, fewPB n l ⟨sh, ra, mo, wk, ba, mi, st, bu, ch, wi, ca⟩ P = q := ⟨_, rfl⟩
  rw [hq]
  have HQ := Lib.hid hq
  clear hq
  cases q
  · go_wp2_with fail
    ((with_reducible refine (HAl.out _).mono ?_); rintro e wz ⟨rfl, hbz⟩)
    have HBz := Lib.hid (HB1.out.trans (hbz.mono HB1.out.size))
    clear hbz
    go_wp2_with fail
    go_ret
    exact ⟨rfl, HBz.out⟩
  · go_wp2_with fail
    ((with_reducible refine (HRi.out _ HR1.out HQ.out).mono ?_); rintro e w2 ⟨rfl, hb2⟩)
    have HB2 := Lib.hid (HB1.out.trans (hb2.mono HB1.out.size))
    clear s0 s1 s2 s3 s4 s5 s6 s7 s8 s9 s10 s11 s12 ls
    have k2 := HK1.out.kept hb2
    have s0 : w2.cell? ⟨w.heap.size, 0, none⟩ = some (.slice A n cap) := k2.cell 0
    have s1 : w2.cell? ⟨w.heap.size, 1, none⟩ = some (.int .i64 sh) := k2.cell 1
    have s2 : w2.cell? ⟨w.heap.size, 2, none⟩ = some (.int .i64 ra) := k2.cell 2
    have s3 : w2.cell? ⟨w.heap.size, 3, none⟩ = some (.int .i64 mo) := k2.cell 3
    have s4 : w2.cell? ⟨w.heap.size, 4, none⟩ = some (.int .i64 wk) := k2.cell 4
    have s5 : w2.cell? ⟨w.heap.size, 5, none⟩ = some (.int .i64 ba) := k2.cell 5
    have s6 : w2.cell? ⟨w.heap.size, 6, none⟩ = some (.int .i64 mi) := k2.cell 6
    have s7 : w2.cell? ⟨w.heap.size, 7, none⟩ = some (.int .i64 st) := k2.cell 7
    have s8 : w2.cell? ⟨w.heap.size, 8, none⟩ = some (.int .i64 bu) := k2.cell 8
    have s9 : w2.cell? ⟨w.heap.size, 9, none⟩ = some (.int .i64 ch) := k2.cell 9
    have s10 : w2.cell? ⟨w.heap.size, 10, none⟩ = some (.int .i64 wi) := k2.cell 10
    have s11 : w2.cell? ⟨w.heap.size, 11, none⟩ = some (.int .i64 ca) := k2.cell 11
    have s12 : w2.cell? ⟨w.heap.size, 12, none⟩ = some (.int .i64 P) := k2.cell 12
    have ls := k2.lt
    clear hb2 k2
    obtain ⟨q2, hq2⟩ : ∃ q, rightB l ⟨sh, ra, mo, wk, ba, mi, st, bu, ch, wi, ca⟩ P = q := ⟨_, rfl⟩
    rw [hq2]
    have HQ2 := Lib.hid hq2
    clear hq2
    cases q2
    · go_wp2_with fail
      ((with_reducible refine (HAl.out _).mono ?_); rintro e wz ⟨rfl, hbz⟩)
      have HBz := Lib.hid (HB2.out.trans (hbz.mono HB2.out.size))
      clear hbz
      go_wp2_with fail
      go_ret
      exact ⟨rfl, HBz.out⟩
    · by_cases hx1 : st = 0
      · have f0 : (st == 0) = true := by simp [hx1]
        go_wp2_with fail
        ((with_reducible refine (HAl.out _).mono ?_); rintro e wz ⟨rfl, hbz⟩)
        have HBz := Lib.hid (HB2.out.trans (hbz.mono HB2.out.size))
        clear hbz
        go_wp2_with fail
        go_ret
        exact ⟨rfl, HBz.out⟩
      · have f0 : (st == 0) = false := by simp [hx1]
        by_cases hx2 : x < 0
        · have f1 : decide (x < 0) = true := decide_eq_true hx2
          go_wp2_with fail
          ((with_reducible refine (HAl.out _).mono ?_); rintro e wz ⟨rfl, hbz⟩)
          have HBz := Lib.hid (HB2.out.trans (hbz.mono HB2.out.size))
          clear hbz
          go_wp2_with fail
          go_ret
          exact ⟨rfl, HBz.out⟩
        · have f1 : decide (x < 0) = false := decide_eq_false hx2
          by_cases hx3 : wk ≤ x
          · have f2 : decide (wk ≤ x) = true := decide_eq_true hx3
            go_wp2_with fail
            ((with_reducible refine (HAl.out _).mono ?_); rintro e wz ⟨rfl, hbz⟩)
            have HBz := Lib.hid (HB2.out.trans (hbz.mono HB2.out.size))
            clear hbz
            go_wp2_with fail
            go_ret
            exact ⟨rfl, HBz.out⟩
          · have f2 : decide (wk ≤ x) = false := decide_eq_false hx3
            exact absurd HF.out (by simp only [HQ.out, HQ2.out]; simp; omega)

set_option maxHeartbeats 4000000 in
theorem planWindows_near (hl : l.length = n) (h : Rd w 1 A n (iv l)) (hcap : n ≤ cap) (hfw : fewPB n l c P = true) (hri : rightB l c P = true) (hst0 : c.st ≠ 0) (hx0 : 0 ≤ x) (hx1 : x < c.wk) :
    Calls Try.prog 7 #[rplV A n cap c P, .int .i64 x] w fun e w' => e = .returned (.bool true) ∧ Below w.heap.size w w' := by
  obtain ⟨hn, hok, hp, hf, hP⟩ := near_of hfw hri
  have HG : Hid (∀ W, w.alloc (.cells (rplC A n cap c P) 60) = W → Below w.heap.size w W ∧ Blk W w.heap.size 60 (rplC A n cap c P)) := Lib.hid (by
    rintro W rfl
    exact ⟨(Below.refl _ _).alloc (Nat.le_refl _) _, Blk.new _ _ _⟩)
  have CF := fun W (r : Rd W 1 A n (iv l)) => refFew_any A n cap l c P W hl r
  have CR := fun W (r : Rd W 1 A n (iv l)) => refRight_any A n cap l c P W hl r (by omega)
  rw [hfw] at CF
  rw [hri] at CR
  obtain ⟨pc, hpc⟩ : ∃ pc, pcOf c P.toNat = pc := ⟨_, rfl⟩
  rw [hpc] at hp hf hP
  have HFw := Lib.hid CF
  have HRi := Lib.hid CR
  have HNew := Lib.hid (fun W (r : Rd W 1 A n (iv l)) => planNew_good A n cap l c P W pc hp hl r hcap (by omega) hok hf.wk hf.ch hf.mi hf.wi hf.bu hP)
  have HR := Lib.hid h
  have HAl := Lib.hid alive20_any
  have hxm : x < pc.m := by rw [← hf.wk]; exact hx1
  have CS := fun b W (h : PlanAt W b pc c A n cap) => planStep_any pc c A n cap b x 0 W hp hf h
  have hsi : pc.stepI c.st x 0 = pc.itemsI x 0 := if_pos ⟨hx0, hxm, by omega, by have := hf.s0; omega⟩
  rw [hsi] at CS
  have CI := fun W => refItems20_any pc c A n cap P x 0 W hp hf hP
  rw [pc.rItemsI_in x 0 ⟨hx0, hxm⟩] at CI
  have hle := PlC.itemsI_le hp x 0
  have hrun := pc.runs_items hp x 0
  obtain ⟨L, hL⟩ : ∃ L, pc.itemsI x 0 = L := ⟨_, rfl⟩
  obtain ⟨nL, hnL⟩ : ∃ nL, L.length = nL := ⟨_, rfl⟩
  rw [hL, hnL] at hle CS CI
  rw [hL] at hrun
  have HS := Lib.hid CS
  have HIt := Lib.hid CI
  have HBk := Lib.hid (fun W => refBuckets20_any pc c A n cap P W hp hf hP)
  have hnb2 := PlC.nb_le hp
  obtain ⟨nb, hnb⟩ : ∃ nb, pc.nb = nb := ⟨_, rfl⟩
  rw [hnb] at HBk hnb2 hrun
  have hwin : c.wi = (pc.wi : Int) := hf.wi
  rw [← hwin] at hrun
  have hw2 : c.wi ≤ 1048576 := by rw [hwin]; have := hp.w2; omega
  have HRun := Lib.hid hrun
  have HNL := Lib.hid hnL
  obtain ⟨sh, ra, mo, wk, ba, mi, st, bu, ch, wi, ca⟩ := c
  have e0 : (st == 0) = false := by simpa using hst0
  have e1 : decide (x < 0) = false := decide_eq_false (by omega)
  have e2 : decide (wk ≤ x) = false := decide_eq_false (by simpa using hx1)
  simp only at hw2 HRun
  clear hl h hfw hri hn hok hp hf hP hpc CF CR hcap hnb hst0 hx0 hx1 hxm CS CI hsi hrun hL hnL hwin
  go_enter Try.func7, Try.ntmps7
  go_wp2_with fail
  obtain ⟨w0, hw0⟩ : ∃ w0, w.alloc (.cells (rplC A n cap ⟨sh, ra, mo, wk, ba, mi, st, bu, ch, wi, ca⟩ P) 60) = w0 := ⟨_, rfl⟩
  obtain ⟨hB, hK⟩ := HG.out _ hw0
  rw [hw0]
  clear hw0 HG
  have HB := Lib.hid hB
  have HK := Lib.hid hK
  ((with_reducible refine (HFw.out _ (HR.out.below hB)).mono ?_); rintro e w1 ⟨rfl, hb1⟩)
  have HK1 := Lib.hid (hK.kept hb1)
  have HB1 := Lib.hid (HB.out.trans (hb1.mono HB.out.size))
  have HR1 := Lib.hid ((HR.out.below hB).below hb1)
  have s0 : w1.cell? ⟨w.heap.size, 0, none⟩ = some (.slice A n cap) := HK1.out.cell 0
  have s1 : w1.cell? ⟨w.heap.size, 1, none⟩ = some (.int .i64 sh) := HK1.out.cell 1
  have s2 : w1.cell? ⟨w.heap.size, 2, none⟩ = some (.int .i64 ra) := HK1.out.cell 2
  have s3 : w1.cell? ⟨w.heap.size, 3, none⟩ = some (.int .i64 mo) := HK1.out.cell 3
  have s4 : w1.cell? ⟨w.heap.size, 4, none⟩ = some (.int .i64 wk) := HK1.out.cell 4
  have s5 : w1.cell? ⟨w.heap.size, 5, none⟩ = some (.int .i64 ba) := HK1.out.cell 5
  have s6 : w1.cell? ⟨w.heap.size, 6, none⟩ = some (.int .i64 mi) := HK1.out.cell 6
  have s7 : w1.cell? ⟨w.heap.size, 7, none⟩ = some (.int .i64 st) := HK1.out.cell 7
  have s8 : w1.cell? ⟨w.heap.size, 8, none⟩ = some (.int .i64 bu) := HK1.out.cell 8
  have s9 : w1.cell? ⟨w.heap.size, 9, none⟩ = some (.int .i64 ch) := HK1.out.cell 9
  have s10 : w1.cell? ⟨w.heap.size, 10, none⟩ = some (.int .i64 wi) := HK1.out.cell 10
  have s11 : w1.cell? ⟨w.heap.size, 11, none⟩ = some (.int .i64 ca) := HK1.out.cell 11
  have s12 : w1.cell? ⟨w.heap.size, 12, none⟩ = some (.int .i64 P) := HK1.out.cell 12
  have ls := HK1.out.lt
  clear hB hK hb1 HB HK
  go_wp2_with fail
  ((with_reducible refine (HRi.out _ HR1.out).mono ?_); rintro e w2 ⟨rfl, hb2⟩)
  clear s0 s1 s2 s3 s4 s5 s6 s7 s8 s9 s10 s11 s12 ls
  have HK2 := Lib.hid (HK1.out.kept hb2)
  have HB2 := Lib.hid (HB1.out.trans (hb2.mono HB1.out.size))
  have HR2 := Lib.hid (HR1.out.below hb2)
  have s0 : w2.cell? ⟨w.heap.size, 0, none⟩ = some (.slice A n cap) := HK2.out.cell 0
  have s1 : w2.cell? ⟨w.heap.size, 1, none⟩ = some (.int .i64 sh) := HK2.out.cell 1
  have s2 : w2.cell? ⟨w.heap.size, 2, none⟩ = some (.int .i64 ra) := HK2.out.cell 2
  have s3 : w2.cell? ⟨w.heap.size, 3, none⟩ = some (.int .i64 mo) := HK2.out.cell 3
  have s4 : w2.cell? ⟨w.heap.size, 4, none⟩ = some (.int .i64 wk) := HK2.out.cell 4
  have s5 : w2.cell? ⟨w.heap.size, 5, none⟩ = some (.int .i64 ba) := HK2.out.cell 5
  have s6 : w2.cell? ⟨w.heap.size, 6, none⟩ = some (.int .i64 mi) := HK2.out.cell 6
  have s7 : w2.cell? ⟨w.heap.size, 7, none⟩ = some (.int .i64 st) := HK2.out.cell 7
  have s8 : w2.cell? ⟨w.heap.size, 8, none⟩ = some (.int .i64 bu) := HK2.out.cell 8
  have s9 : w2.cell? ⟨w.heap.size, 9, none⟩ = some (.int .i64 ch) := HK2.out.cell 9
  have s10 : w2.cell? ⟨w.heap.size, 10, none⟩ = some (.int .i64 wi) := HK2.out.cell 10
  have s11 : w2.cell? ⟨w.heap.size, 11, none⟩ = some (.int .i64 ca) := HK2.out.cell 11
  have s12 : w2.cell? ⟨w.heap.size, 12, none⟩ = some (.int .i64 P) := HK2.out.cell 12
  have ls := HK2.out.lt
  clear hb2 HK1 HB1 HR1
  go_wp2_with fail
  ((with_reducible refine (HNew.out _ HR2.out).mono ?_); rintro e w3 ⟨b, rfl, hpl, hb3⟩)
  clear s0 s1 s2 s3 s4 s5 s6 s7 s8 s9 s10 s11 s12 ls
  have HK3 := Lib.hid (HK2.out.kept hb3)
  have HB3 := Lib.hid (HB2.out.trans (hb3.mono HB2.out.size))
  have HR3 := Lib.hid (HR2.out.below hb3)
  have HPL := Lib.hid hpl
  have s0 : w3.cell? ⟨w.heap.size, 0, none⟩ = some (.slice A n cap) := HK3.out.cell 0
  have s1 : w3.cell? ⟨w.heap.size, 1, none⟩ = some (.int .i64 sh) := HK3.out.cell 1
  have s2 : w3.cell? ⟨w.heap.size, 2, none⟩ = some (.int .i64 ra) := HK3.out.cell 2
  have s3 : w3.cell? ⟨w.heap.size, 3, none⟩ = some (.int .i64 mo) := HK3.out.cell 3
  have s4 : w3.cell? ⟨w.heap.size, 4, none⟩ = some (.int .i64 wk) := HK3.out.cell 4
  have s5 : w3.cell? ⟨w.heap.size, 5, none⟩ = some (.int .i64 ba) := HK3.out.cell 5
  have s6 : w3.cell? ⟨w.heap.size, 6, none⟩ = some (.int .i64 mi) := HK3.out.cell 6
  have s7 : w3.cell? ⟨w.heap.size, 7, none⟩ = some (.int .i64 st) := HK3.out.cell 7
  have s8 : w3.cell? ⟨w.heap.size, 8, none⟩ = some (.int .i64 bu) := HK3.out.cell 8
  have s9 : w3.cell? ⟨w.heap.size, 9, none⟩ = some (.int .i64 ch) := HK3.out.cell 9
  have s10 : w3.cell? ⟨w.heap.size, 10, none⟩ = some (.int .i64 wi) := HK3.out.cell 10
  have s11 : w3.cell? ⟨w.heap.size, 11, none⟩ = some (.int .i64 ca) := HK3.out.cell 11
  have s12 : w3.cell? ⟨w.heap.size, 12, none⟩ = some (.int .i64 P) := HK3.out.cell 12
  have ls := HK3.out.lt
  clear hb3 hpl HK2 HB2 HR2
  go_wp2_with fail
  ((with_reducible refine (HS.out b _ HPL.out).mono ?_); rintro e w4 ⟨A4, c4, rfl, hown4, hb4⟩)
  have HR4 := Lib.hid (Rd.of_own hown4)
  have HK4 := Lib.hid (HK3.out.kept hb4)
  have HB4 := Lib.hid (HB3.out.trans (hb4.mono HB3.out.size))
  clear hown4 hb4 HK3 HB3 HPL HR3
  obtain ⟨pb, hpb⟩ : ∃ pb, w.heap.size = pb := ⟨_, rfl⟩
  rw [hpb] at HK4 ⊢
  have HPB := Lib.hid hpb
  clear hpb e0 e1 e2
  go_wp2_with fail
  go_loopw [8, 9, 52] (fun s1 s2 u wr => ∃ (k : Nat) (a b : Int), k ≤ nL ∧ u = .int .i64 k ∧ s1 = .int .i64 a ∧ s2 = .int .i64 b ∧ (-200000000 ≤ b ∧ b ≤ k ∧ -200000000 ≤ a ∧ a ≤ k ∧ 0 ≤ a ∧ 0 ≤ b) ∧ Hid (stepW wi (L.drop k) a b = some ((nb : Int), (nb : Int))) ∧ Below w4.heap.size w4 wr) (fun _ _ u _ => nL - (intOf u).toNat)
  case atStart => exact ⟨0, 0, 0, by omega, rfl, rfl, rfl, by omega, Lib.hid (by simpa using HRun.out), Below.refl _ _⟩
  case round =>
    obtain ⟨k, a, b, hk, rfl, rfl, rfl, hab0, hrn, hb⟩ := hrel
    by_cases hlt : k < nL
    · obtain ⟨g, o, k1, k2, k3, sd, ad, s, bk, p, r, i, xx, yy, rfl, hg, hy, d0, d1, d2, d3, d4, d5, d6, d7, d8, d9, d10, d11⟩ := item12 HNL.out (HR4.out.below hb) hlt
      have hdr : L.drop k = ((k1, k2, k3), ((sd, ad), (s, bk, p, r, i), (xx, yy))) :: L.drop (k + 1) := by
        obtain ⟨h1, h2⟩ := List.getElem?_eq_some_iff.1 hy
        rw [List.drop_eq_getElem_cons h1, h2]
      have hsc := hrn.out
      rw [hdr] at hsc
      obtain ⟨hc2, hc5, hco⟩ := stepW_cons hsc
      simp only at hc2 hc5 hco
      have k4 := HK4.out.kept hb
      have s10 : wr.cell? ⟨pb, 10, none⟩ = some (.int .i64 wi) := k4.cell 10
      have ls := k4.lt
      have HB2 : Hid (Below w4.heap.size w4 (wr.alloc (.cells #[.int .i64 k1, .int .i64 k2, .int .i64 k3, .bool sd, .bool ad, .int .i64 s, .int .i64 bk, .int .i64 p, .int .i64 r, .int .i64 i, .int .i64 xx, .int .i64 yy] 78))) := Lib.hid (hb.alloc hb.size _)
      have i1 : (0 : Int) ≤ (k : Int) := by omega
      have i2 : (k : Int) < (nL : Int) := by omega
      clear hb hy hdr hsc hrn k4
      by_cases hk2 : k1 = 2
      · subst hk2
        obtain ⟨hN, hck, hnx⟩ := hc2 rfl
        subst hN
        have HNX := Lib.hid hnx
        replace hck := chkW_spec hck
        have g0 : (k3 != k3) = false := by simp
        have g1 : decide (k3 + 1 - b < 0) = false := decide_eq_false (by omega)
        have g2 : decide (wi < k3 + 1 - b) = false := decide_eq_false (by omega)
        clear hc2 hc5 hco hnx
        by_cases hab : k3 + 1 = b
        · have g3 : ((k3 + 1) == b) = true := by simp only [beq_iff_eq]; exact hab
          have g4 : ((2 : Int) == 3) = false := by decide
          have g5 : ((2 : Int) == 4) = false := by decide
          clear hab hck
          go_wp2_with fail
          go_roundw
          case rel => exact ⟨k + 1, k3 + 1, b, by omega, by go_num, rfl, rfl, by omega, HNX, HB2.out⟩
          case measure => simp [intOf]; omega
        · have g3 : ((k3 + 1) == b) = false := by simp only [beq_eq_false_iff_ne]; exact hab
          clear hab hck
          go_wp2_with fail
          go_roundw
          case rel => exact ⟨k + 1, k3 + 1, b, by omega, by go_num, rfl, rfl, by omega, HNX, HB2.out⟩
          case measure => simp [intOf]; omega
      · by_cases hk5 : k1 = 5
        · subst hk5
          obtain ⟨hN, hck, hnx⟩ := hc5 rfl
          subst hN
          have HNX := Lib.hid hnx
          replace hck := chkW_spec hck
          have g0 : (k3 != k3) = false := by simp
          have g1 : decide (a - (k3 + 1) < 0) = false := decide_eq_false (by omega)
          have g2 : decide (wi < a - (k3 + 1)) = false := decide_eq_false (by omega)
          clear hc2 hc5 hco hnx hk2
          by_cases hab : a = k3 + 1
          · have g3 : (a == (k3 + 1)) = true := by simp only [beq_iff_eq]; exact hab
            have g4 : ((5 : Int) == 3) = false := by decide
            have g5 : ((5 : Int) == 4) = false := by decide
            clear hab hck
            go_wp2_with fail
            go_roundw
            case rel => exact ⟨k + 1, a, k3 + 1, by omega, by go_num, rfl, rfl, by omega, HNX, HB2.out⟩
            case measure => simp [intOf]; omega
          · have g3 : (a == (k3 + 1)) = false := by simp only [beq_eq_false_iff_ne]; exact hab
            clear hab hck
            go_wp2_with fail
            go_roundw
            case rel => exact ⟨k + 1, a, k3 + 1, by omega, by go_num, rfl, rfl, by omega, HNX, HB2.out⟩
            case measure => simp [intOf]; omega
        · obtain ⟨hck, hnx⟩ := hco hk2 hk5
          have HNX := Lib.hid hnx
          replace hck := chkW_spec hck
          have f2 : (k1 == 2) = false := by simpa using hk2
          have f5 : (k1 == 5) = false := by simpa using hk5
          have g1 : decide (a - b < 0) = false := decide_eq_false (by omega)
          have g2 : decide (wi < a - b) = false := decide_eq_false (by omega)
          clear hc2 hc5 hco hnx hk2 hk5
          by_cases hab : a = b
          · have g3 : (a == b) = true := by simp only [beq_iff_eq]; exact hab
            have g4 : (k1 == 3) = false := by have := (hck.2.2 hab).1; simpa using this
            have g5 : (k1 == 4) = false := by have := (hck.2.2 hab).2; simpa using this
            clear hab hck
            go_wp2_with fail
            go_roundw
            case rel => exact ⟨k + 1, a, b, by omega, by go_num, rfl, rfl, by omega, HNX, HB2.out⟩
            case measure => simp [intOf]; omega
          · have g3 : (a == b) = false := by simp only [beq_eq_false_iff_ne]; exact hab
            clear hab hck
            go_wp2_with fail
            go_roundw
            case rel => exact ⟨k + 1, a, b, by omega, by go_num, rfl, rfl, by omega, HNX, HB2.out⟩
            case measure => simp [intOf]; omega
    · obtain rfl : k = nL := by omega
      have he := hrn.out
      rw [List.drop_eq_nil_of_le (by rw [HNL.out]; exact Nat.le_refl _)] at he
      injection he with he
      injection he with ea eb
      subst ea eb
      have k4 := HK4.out.kept hb
      have s0 : wr.cell? ⟨pb, 0, none⟩ = some (.slice A n cap) := k4.cell 0
      have s1 : wr.cell? ⟨pb, 1, none⟩ = some (.int .i64 sh) := k4.cell 1
      have s2 : wr.cell? ⟨pb, 2, none⟩ = some (.int .i64 ra) := k4.cell 2
      have s3 : wr.cell? ⟨pb, 3, none⟩ = some (.int .i64 mo) := k4.cell 3
      have s4 : wr.cell? ⟨pb, 4, none⟩ = some (.int .i64 wk) := k4.cell 4
      have s5 : wr.cell? ⟨pb, 5, none⟩ = some (.int .i64 ba) := k4.cell 5
      have s6 : wr.cell? ⟨pb, 6, none⟩ = some (.int .i64 mi) := k4.cell 6
      have s7 : wr.cell? ⟨pb, 7, none⟩ = some (.int .i64 st) := k4.cell 7
      have s8 : wr.cell? ⟨pb, 8, none⟩ = some (.int .i64 bu) := k4.cell 8
      have s9 : wr.cell? ⟨pb, 9, none⟩ = some (.int .i64 ch) := k4.cell 9
      have s10 : wr.cell? ⟨pb, 10, none⟩ = some (.int .i64 wi) := k4.cell 10
      have s11 : wr.cell? ⟨pb, 11, none⟩ = some (.int .i64 ca) := k4.cell 11
      have s12 : wr.cell? ⟨pb, 12, none⟩ = some (.int .i64 P) := k4.cell 12
      have ls := k4.lt
      have HK5 := Lib.hid k4
      have HB5 := Lib.hid (HB4.out.trans (hb.mono HB4.out.size))
      clear hb hrn k4
      go_wp2_with fail
      ((with_reducible refine (HBk.out _).mono ?_); rintro e w6 ⟨A6, c6, rfl, hown6, hb6⟩)
      have HK6 := Lib.hid (HK5.out.kept hb6)
      have HB6 := Lib.hid (HB5.out.trans (hb6.mono HB5.out.size))
      clear hown6 hb6
      go_wp2_with fail
      ((with_reducible refine (HAl.out _).mono ?_); rintro e w7 ⟨rfl, hb7⟩)
      have HB7 := Lib.hid (HB6.out.trans (hb7.mono HB6.out.size))
      have HK7 := Lib.hid (HK6.out.kept hb7)
      have s0 : w7.cell? ⟨pb, 0, none⟩ = some (.slice A n cap) := HK7.out.cell 0
      have s1 : w7.cell? ⟨pb, 1, none⟩ = some (.int .i64 sh) := HK7.out.cell 1
      have s2 : w7.cell? ⟨pb, 2, none⟩ = some (.int .i64 ra) := HK7.out.cell 2
      have s3 : w7.cell? ⟨pb, 3, none⟩ = some (.int .i64 mo) := HK7.out.cell 3
      have s4 : w7.cell? ⟨pb, 4, none⟩ = some (.int .i64 wk) := HK7.out.cell 4
      have s5 : w7.cell? ⟨pb, 5, none⟩ = some (.int .i64 ba) := HK7.out.cell 5
      have s6 : w7.cell? ⟨pb, 6, none⟩ = some (.int .i64 mi) := HK7.out.cell 6
      have s7 : w7.cell? ⟨pb, 7, none⟩ = some (.int .i64 st) := HK7.out.cell 7
      have s8 : w7.cell? ⟨pb, 8, none⟩ = some (.int .i64 bu) := HK7.out.cell 8
      have s9 : w7.cell? ⟨pb, 9, none⟩ = some (.int .i64 ch) := HK7.out.cell 9
      have s10 : w7.cell? ⟨pb, 10, none⟩ = some (.int .i64 wi) := HK7.out.cell 10
      have s11 : w7.cell? ⟨pb, 11, none⟩ = some (.int .i64 ca) := HK7.out.cell 11
      have s12 : w7.cell? ⟨pb, 12, none⟩ = some (.int .i64 P) := HK7.out.cell 12
      have ls := HK7.out.lt
      clear hb7
      go_wp2_with fail
      ((with_reducible refine (HIt.out _).mono ?_); rintro e w8 ⟨A8, c8, rfl, hown8, hb8⟩)
      have HB8 := Lib.hid (HB7.out.trans (hb8.mono HB7.out.size))
      clear hown8 hb8
      go_wp2_with fail
      go_ret
      exact ⟨rfl, HB8.out⟩

theorem planWindows_row (hl : l.length = n) (h : Rd w 1 A n (iv l)) (hcap : n ≤ cap) (hxb : -9223372036854775808 ≤ x ∧ x ≤ 9223372036854775807) :
    Calls Try.prog 7 #[rplV A n cap c P, .int .i64 x] w fun e w' => e = .returned (.bool true) ∧ Below w.heap.size w w' := by
  cases hf : fewPB n l c P
  · exact planWindows_far A n cap l c P x w hl h (.inl hf)
  · cases hr : rightB l c P
    · exact planWindows_far A n cap l c P x w hl h (.inr (.inl hr))
    · by_cases h0 : c.st = 0
      · exact planWindows_far A n cap l c P x w hl h (.inr (.inr (.inl h0)))
      · by_cases h1 : x < 0
        · exact planWindows_far A n cap l c P x w hl h (.inr (.inr (.inr (.inl h1))))
        · by_cases h2 : c.wk ≤ x
          · exact planWindows_far A n cap l c P x w hl h (.inr (.inr (.inr (.inr h2))))
          · exact planWindows_near A n cap l c P x w hl h hcap hf hr h0 (by omega) (by omega)
end

end Go.Proofs.Ytkecpbdgcbgogaa
