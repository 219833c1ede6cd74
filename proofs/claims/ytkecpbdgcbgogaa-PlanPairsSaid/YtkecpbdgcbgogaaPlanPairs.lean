/-
  PlanPairs: what a worker sends in a step is, in order, what the next one receives.
-/
import Derived.Test.YtkecpbdgcbgogaaPlanPairL
namespace Go.Proofs.Ytkecpbdgcbgogaa
set_option linter.unusedVariables false
set_option linter.unusedSimpArgs false
set_option maxRecDepth 100000
open Go.RowKit

section
variable (A : Option Addr) (n cap : Nat) (l : List Int) (c : Cfg) (P x t : Int) (w : World)

set_option maxHeartbeats 1000000 in
theorem planPairs_far (hl : l.length = n) (h : Rd w 1 A n (iv l)) (hfar : fewPB n l c P = false ∨ rightB l c P = false ∨ x < 0 ∨ c.wk ≤ x) :
    Calls Try.prog 11 #[rplV A n cap c P, .int .i64 x, .int .i64 t] w fun e w' => e = .returned (.bool true) ∧ Below w.heap.size w w' := by
  have HG : Hid (∀ W, w.alloc (.cells (rplC A n cap c P) 60) = W → Below w.heap.size w W ∧ Blk W w.heap.size 60 (rplC A n cap c P)) := Lib.hid (by
    rintro W rfl
    exact ⟨(Below.refl _ _).alloc (Nat.le_refl _) _, Blk.new _ _ _⟩)
  have HFw := Lib.hid (fun W (r : Rd W 1 A n (iv l)) => refFew_any A n cap l c P W hl r)
  have HRi := Lib.hid (fun W (r : Rd W 1 A n (iv l)) (h : fewPB n l c P = true) => refRight_any A n cap l c P W hl r (by have := few_n h; omega))
  have HR := Lib.hid h
  have HF := Lib.hid hfar
  have HAl := Lib.hid alive20_any
  obtain ⟨sh, ra, mo, wk, ba, mi, st, bu, ch, wi, ca⟩ := c
  clear hl h hfar
  go_enter Try.func11, Try.ntmps11
  go_wp2_with fail
  obtain ⟨w0, hw0⟩ : ∃ w0, w.alloc (.cells (rplC A n cap ⟨sh, ra, mo, wk, ba, mi, st, bu, ch, wi, ca⟩ P) 60) = w0 := ⟨_, rfl⟩
  obtain ⟨hB, hK⟩ := HG.out _ hw0
  rw [hw0]
  clear hw0 HG
  have HB := Lib.hid hB
  have HK := Lib.hid hK
  ((with_reducible refine (HFw.out _ (HR.out.below hB)).mono ?_); rintro e w1 ⟨rfl, hb1⟩)
  have k1 := hK.kept hb1
  have HB1 := Lib.hid (HB.out.trans (hb1.mono HB.out.size))
  have s0 : w1.cell? ⟨w.heap.size, 0, none⟩ = some (.slice A n cap) := k1.cell 0
  have s1 : w1.cell? ⟨w.heap.size, 1, none⟩ = some (.int .i64 sh) := k1.cell 1
  have s2 : w1.cell? ⟨w.heap.size, 2, none⟩ = some (.int .i64 ra) := k1.cell 2
  have s3 : w1.cell? ⟨w.heap.size, 3, none⟩ = some (.int .i64 mo) := k1.cell 3
  have s4 : w1.cell? ⟨w.heap.size, 4, none⟩ = some (.int .i64 wk) := k1.cell 4
  have s5 : w1.cell? ⟨w.heap.size, 5, none⟩ = some (.int .i64 ba) := k1.cell 5
  have s6 : w1.cell? ⟨w.heap.size, 6, none⟩ = some (.int .i64 mi) := k1.cell 6
  have s7 : w1.cell? ⟨w.heap.size, 7, none⟩ = some (.int .i64 st) := k1.cell 7
  have s8 : w1.cell? ⟨w.heap.size, 8, none⟩ = some (.int .i64 bu) := k1.cell 8
  have s9 : w1.cell? ⟨w.heap.size, 9, none⟩ = some (.int .i64 ch) := k1.cell 9
  have s10 : w1.cell? ⟨w.heap.size, 10, none⟩ = some (.int .i64 wi) := k1.cell 10
  have s11 : w1.cell? ⟨w.heap.size, 11, none⟩ = some (.int .i64 ca) := k1.cell 11
  have s12 : w1.cell? ⟨w.heap.size, 12, none⟩ = some (.int .i64 P) := k1.cell 12
  have ls := k1.lt
  have HR1 := Lib.hid ((HR.out.below hB).below hb1)
  have HK1 := Lib.hid k1
  clear hB hK hb1 k1
  obtain ⟨q, hq⟩ : ∃ q, fewPB n l ⟨sh, ra, mo, wk, ba, mi, st, bu, ch, wi, ca⟩ P = q := ⟨_, rfl⟩
  rw [hq]
  have HQ := Lib.hid hq
  clear hq
  cases q
  · go_wp2_with fail
    ((with_reducible refine (HAl.out _).mono ?_); rintro e wz ⟨rfl, hbz⟩)
    have HBz := Lib.hid (HB1.out.trans (hbz.mono HB1.out.size))
    clear hbz
    go_wp2_with fail
    go_ret
    exact ⟨rfl, HBz.out⟩
  · go_wp2_with fail
    ((with_reducible refine (HRi.out _ HR1.out HQ.out).mono ?_); rintro e w2 ⟨rfl, hb2⟩)
    have HB2 := Lib.hid (HB1.out.trans (hb2.mono HB1.out.size))
    clear s0 s1 s2 s3 s4 s5 s6 s7 s8 s9 s10 s11 s12 ls
    have k2 := HK1.out.kept hb2
    have s0 : w2.cell? ⟨w.heap.size, 0, none⟩ = some (.slice A n cap) := k2.cell 0
    have s1 : w2.cell? ⟨w.heap.size, 1, none⟩ = some (.int .i64 sh) := k2.cell 1
    have s2 : w2.cell? ⟨w.heap.size, 2, none⟩ = some (.int .i64 ra) := k2.cell 2
    have s3 : w2.cell? ⟨w.heap.size, 3, none⟩ = some (.int .i64 mo) := k2.cell 3
    have s4 : w2.cell? ⟨w.heap.size, 4, none⟩ = some (.int .i64 wk) := k2.cell 4
    have s5 : w2.cell? ⟨w.heap.size, 5, none⟩ = some (.int .i64 ba) := k2.cell 5
    have s6 : w2.cell? ⟨w.heap.size, 6, none⟩ = some (.int .i64 mi) := k2.cell 6
    have s7 : w2.cell? ⟨w.heap.size, 7, none⟩ = some (.int .i64 st) := k2.cell 7
    have s8 : w2.cell? ⟨w.heap.size, 8, none⟩ = some (.int .i64 bu) := k2.cell 8
    have s9 : w2.cell? ⟨w.heap.size, 9, none⟩ = some (.int .i64 ch) := k2.cell 9
    have s10 : w2.cell? ⟨w.heap.size, 10, none⟩ = some (.int .i64 wi) := k2.cell 10
    have s11 : w2.cell? ⟨w.heap.size, 11, none⟩ = some (.int .i64 ca) := k2.cell 11
    have s12 : w2.cell? ⟨w.heap.size, 12, none⟩ = some (.int .i64 P) := k2.cell 12
    have ls := k2.lt
    clear hb2 k2
    obtain ⟨q2, hq2⟩ : ∃ q, rightB l ⟨sh, ra, mo, wk, ba, mi, st, bu, ch, wi, ca⟩ P = q := ⟨_, rfl⟩
    rw [hq2]
    have HQ2 := Lib.hid hq2
    clear hq2
    cases q2
    · go_wp2_with fail
      ((with_reducible refine (HAl.out _).mono ?_); rintro e wz ⟨rfl, hbz⟩)
      have HBz := Lib.hid (HB2.out.trans (hbz.mono HB2.out.size))
      clear hbz
      go_wp2_with fail
      go_ret
      exact ⟨rfl, HBz.out⟩
    · by_cases hx2 : x < 0
      · have f0 : decide (x < 0) = true := decide_eq_true hx2
        go_wp2_with fail
        ((with_reducible refine (HAl.out _).mono ?_); rintro e wz ⟨rfl, hbz⟩)
        have HBz := Lib.hid (HB2.out.trans (hbz.mono HB2.out.size))
        clear hbz
        go_wp2_with fail
        go_ret
        exact ⟨rfl, HBz.out⟩
      · have f0 : decide (x < 0) = false := decide_eq_false hx2
        by_cases hx3 : wk ≤ x
        · have f1 : decide (wk ≤ x) = true := decide_eq_true hx3
          go_wp2_with fail
          ((with_reducible refine (HAl.out _).mono ?_); rintro e wz ⟨rfl, hbz⟩)
          have HBz := Lib.hid (HB2.out.trans (hbz.mono HB2.out.size))
          clear hbz
          go_wp2_with fail
          go_ret
          exact ⟨rfl, HBz.out⟩
        · have f1 : decide (wk ≤ x) = false := decide_eq_false hx3
          exact absurd HF.out (by simp only [HQ.out, HQ2.out]; simp; omega)

set_option maxHeartbeats 4000000 in
theorem planPairs_near (hl : l.length = n) (h : Rd w 1 A n (iv l)) (hcap : n ≤ cap) (hfw : fewPB n l c P = true) (hri : rightB l c P = true) (hx0 : 0 ≤ x) (hx1 : x < c.wk) :
    Calls Try.prog 11 #[rplV A n cap c P, .int .i64 x, .int .i64 t] w fun e w' => e = .returned (.bool true) ∧ Below w.heap.size w w' := by
  obtain ⟨hn, hok, hp, hf, hP⟩ := near_of hfw hri
  have HG : Hid (∀ W, w.alloc (.cells (rplC A n cap c P) 60) = W → Below w.heap.size w W ∧ Blk W w.heap.size 60 (rplC A n cap c P)) := Lib.hid (by
    rintro W rfl
    exact ⟨(Below.refl _ _).alloc (Nat.le_refl _) _, Blk.new _ _ _⟩)
  have CF := fun W (r : Rd W 1 A n (iv l)) => refFew_any A n cap l c P W hl r
  have CR := fun W (r : Rd W 1 A n (iv l)) => refRight_any A n cap l c P W hl r (by omega)
  rw [hfw] at CF
  rw [hri] at CR
  obtain ⟨pc, hpc⟩ : ∃ pc, pcOf c P.toNat = pc := ⟨_, rfl⟩
  rw [hpc] at hp hf hP
  have HFw := Lib.hid CF
  have HRi := Lib.hid CR
  have HNew := Lib.hid (fun W (r : Rd W 1 A n (iv l)) => planNew_good A n cap l c P W pc hp hl r hcap (by omega) hok hf.wk hf.ch hf.mi hf.wi hf.bu hP)
  have HR := Lib.hid h
  have HAl := Lib.hid alive20_any
  have hxm : x < pc.m := by rw [← hf.wk]; exact hx1
  have hm8 : c.wk ≤ 8 := by rw [hf.wk]; have := hp.m2; omega
  obtain ⟨x2, hx2⟩ : ∃ x2, (x + 1) % c.wk = x2 := ⟨_, rfl⟩
  have hx2r : x2 = (x + 1) % pc.m := by rw [← hx2, hf.wk]
  have CS := fun b W (h : PlanAt W b pc c A n cap) => planStep_any pc c A n cap b x t W hp hf h
  have CS2 := fun b W (h : PlanAt W b pc c A n cap) => planStep_any pc c A n cap b x2 t W hp hf h
  have hpair := pc.step_pairs hp c.st x t hx0 hxm
  rw [← hx2r] at hpair
  have hle := fun y => (show (pc.stepI c.st y t).length ≤ 200000000 by
    unfold PlC.stepI
    split
    · exact PlC.itemsI_le hp y t
    · simp)
  obtain ⟨L, hL⟩ : ∃ L, pc.stepI c.st x t = L := ⟨_, rfl⟩
  obtain ⟨L2, hL2⟩ : ∃ L2, pc.stepI c.st x2 t = L2 := ⟨_, rfl⟩
  obtain ⟨nL, hnL⟩ : ∃ nL, L.length = nL := ⟨_, rfl⟩
  obtain ⟨nL2, hnL2⟩ : ∃ nL, L2.length = nL := ⟨_, rfl⟩
  have hle1 := hle x
  have hle2 := hle x2
  rw [hL, hnL] at hle1 CS
  rw [hL2, hnL2] at hle2 CS2
  rw [hL, hL2] at hpair
  have HS := Lib.hid CS
  have HS2 := Lib.hid CS2
  have HPair := Lib.hid hpair
  have HNL := Lib.hid hnL
  have HNL2 := Lib.hid hnL2
  have HIn := Lib.hid (fun W => planItem_nil x 0 W)
  have HTn := Lib.hid planTotal_nil
  have HLn := Lib.hid (fun W => planLen_nil x W)
  have HSn := Lib.hid (fun W => planStep_nil x t W)
  have HBn := Lib.hid planBuckets_nil
  obtain ⟨sh, ra, mo, wk, ba, mi, st, bu, ch, wi, ca⟩ := c
  have e1 : decide (x < 0) = false := decide_eq_false (by omega)
  have e2 : decide (wk ≤ x) = false := decide_eq_false (by simpa using hx1)
  simp only at hm8 hx2 hx1
  have hxt : (x + 1).tmod wk = x2 := by rw [← hx2]; exact Int.tmod_eq_emod_of_nonneg (by omega)
  have hwk0 : wk ≠ 0 := by omega
  clear hl h hfw hri hn hok hp hf hP hpc CF CR hcap hxm CS CS2 hpair hL hL2 hnL hnL2 hle hx2r hx2
  go_enter Try.func11, Try.ntmps11
  go_wp2_with fail
  obtain ⟨w0, hw0⟩ : ∃ w0, w.alloc (.cells (rplC A n cap ⟨sh, ra, mo, wk, ba, mi, st, bu, ch, wi, ca⟩ P) 60) = w0 := ⟨_, rfl⟩
  obtain ⟨hB, hK⟩ := HG.out _ hw0
  rw [hw0]
  clear hw0 HG
  have HB := Lib.hid hB
  have HK := Lib.hid hK
  ((with_reducible refine (HFw.out _ (HR.out.below hB)).mono ?_); rintro e w1 ⟨rfl, hb1⟩)
  have HK1 := Lib.hid (hK.kept hb1)
  have HB1 := Lib.hid (HB.out.trans (hb1.mono HB.out.size))
  have HR1 := Lib.hid ((HR.out.below hB).below hb1)
  have s0 : w1.cell? ⟨w.heap.size, 0, none⟩ = some (.slice A n cap) := HK1.out.cell 0
  have s1 : w1.cell? ⟨w.heap.size, 1, none⟩ = some (.int .i64 sh) := HK1.out.cell 1
  have s2 : w1.cell? ⟨w.heap.size, 2, none⟩ = some (.int .i64 ra) := HK1.out.cell 2
  have s3 : w1.cell? ⟨w.heap.size, 3, none⟩ = some (.int .i64 mo) := HK1.out.cell 3
  have s4 : w1.cell? ⟨w.heap.size, 4, none⟩ = some (.int .i64 wk) := HK1.out.cell 4
  have s5 : w1.cell? ⟨w.heap.size, 5, none⟩ = some (.int .i64 ba) := HK1.out.cell 5
  have s6 : w1.cell? ⟨w.heap.size, 6, none⟩ = some (.int .i64 mi) := HK1.out.cell 6
  have s7 : w1.cell? ⟨w.heap.size, 7, none⟩ = some (.int .i64 st) := HK1.out.cell 7
  have s8 : w1.cell? ⟨w.heap.size, 8, none⟩ = some (.int .i64 bu) := HK1.out.cell 8
  have s9 : w1.cell? ⟨w.heap.size, 9, none⟩ = some (.int .i64 ch) := HK1.out.cell 9
  have s10 : w1.cell? ⟨w.heap.size, 10, none⟩ = some (.int .i64 wi) := HK1.out.cell 10
  have s11 : w1.cell? ⟨w.heap.size, 11, none⟩ = some (.int .i64 ca) := HK1.out.cell 11
  have s12 : w1.cell? ⟨w.heap.size, 12, none⟩ = some (.int .i64 P) := HK1.out.cell 12
  have ls := HK1.out.lt
  clear hB hK hb1 HB HK
  go_wp2_with fail
  ((with_reducible refine (HRi.out _ HR1.out).mono ?_); rintro e w2 ⟨rfl, hb2⟩)
  clear s0 s1 s2 s3 s4 s5 s6 s7 s8 s9 s10 s11 s12 ls
  have HK2 := Lib.hid (HK1.out.kept hb2)
  have HB2 := Lib.hid (HB1.out.trans (hb2.mono HB1.out.size))
  have HR2 := Lib.hid (HR1.out.below hb2)
  have s0 : w2.cell? ⟨w.heap.size, 0, none⟩ = some (.slice A n cap) := HK2.out.cell 0
  have s1 : w2.cell? ⟨w.heap.size, 1, none⟩ = some (.int .i64 sh) := HK2.out.cell 1
  have s2 : w2.cell? ⟨w.heap.size, 2, none⟩ = some (.int .i64 ra) := HK2.out.cell 2
  have s3 : w2.cell? ⟨w.heap.size, 3, none⟩ = some (.int .i64 mo) := HK2.out.cell 3
  have s4 : w2.cell? ⟨w.heap.size, 4, none⟩ = some (.int .i64 wk) := HK2.out.cell 4
  have s5 : w2.cell? ⟨w.heap.size, 5, none⟩ = some (.int .i64 ba) := HK2.out.cell 5
  have s6 : w2.cell? ⟨w.heap.size, 6, none⟩ = some (.int .i64 mi) := HK2.out.cell 6
  have s7 : w2.cell? ⟨w.heap.size, 7, none⟩ = some (.int .i64 st) := HK2.out.cell 7
  have s8 : w2.cell? ⟨w.heap.size, 8, none⟩ = some (.int .i64 bu) := HK2.out.cell 8
  have s9 : w2.cell? ⟨w.heap.size, 9, none⟩ = some (.int .i64 ch) := HK2.out.cell 9
  have s10 : w2.cell? ⟨w.heap.size, 10, none⟩ = some (.int .i64 wi) := HK2.out.cell 10
  have s11 : w2.cell? ⟨w.heap.size, 11, none⟩ = some (.int .i64 ca) := HK2.out.cell 11
  have s12 : w2.cell? ⟨w.heap.size, 12, none⟩ = some (.int .i64 P) := HK2.out.cell 12
  have ls := HK2.out.lt
  clear hb2 HK1 HB1 HR1
  go_wp2_with fail
  ((with_reducible refine (HNew.out _ HR2.out).mono ?_); rintro e w3 ⟨b, rfl, hpl, hb3⟩)
  clear s0 s1 s2 s3 s4 s5 s6 s7 s8 s9 s10 s11 s12 ls
  have HK3 := Lib.hid (HK2.out.kept hb3)
  have HB3 := Lib.hid (HB2.out.trans (hb3.mono HB2.out.size))
  have HR3 := Lib.hid (HR2.out.below hb3)
  have HPL := Lib.hid hpl
  have s0 : w3.cell? ⟨w.heap.size, 0, none⟩ = some (.slice A n cap) := HK3.out.cell 0
  have s1 : w3.cell? ⟨w.heap.size, 1, none⟩ = some (.int .i64 sh) := HK3.out.cell 1
  have s2 : w3.cell? ⟨w.heap.size, 2, none⟩ = some (.int .i64 ra) := HK3.out.cell 2
  have s3 : w3.cell? ⟨w.heap.size, 3, none⟩ = some (.int .i64 mo) := HK3.out.cell 3
  have s4 : w3.cell? ⟨w.heap.size, 4, none⟩ = some (.int .i64 wk) := HK3.out.cell 4
  have s5 : w3.cell? ⟨w.heap.size, 5, none⟩ = some (.int .i64 ba) := HK3.out.cell 5
  have s6 : w3.cell? ⟨w.heap.size, 6, none⟩ = some (.int .i64 mi) := HK3.out.cell 6
  have s7 : w3.cell? ⟨w.heap.size, 7, none⟩ = some (.int .i64 st) := HK3.out.cell 7
  have s8 : w3.cell? ⟨w.heap.size, 8, none⟩ = some (.int .i64 bu) := HK3.out.cell 8
  have s9 : w3.cell? ⟨w.heap.size, 9, none⟩ = some (.int .i64 ch) := HK3.out.cell 9
  have s10 : w3.cell? ⟨w.heap.size, 10, none⟩ = some (.int .i64 wi) := HK3.out.cell 10
  have s11 : w3.cell? ⟨w.heap.size, 11, none⟩ = some (.int .i64 ca) := HK3.out.cell 11
  have s12 : w3.cell? ⟨w.heap.size, 12, none⟩ = some (.int .i64 P) := HK3.out.cell 12
  have ls := HK3.out.lt
  clear hb3 hpl HK2 HB2 HR2
  go_wp2_with fail
  ((with_reducible refine (HS.out b _ HPL.out).mono ?_); rintro e w4 ⟨A4, c4, rfl, hown4, hb4⟩)
  have HR4 := Lib.hid (Rd.of_own hown4)
  have HK4 := Lib.hid (HK3.out.kept hb4)
  have HB4 := Lib.hid (HB3.out.trans (hb4.mono HB3.out.size))
  have HP4 := Lib.hid (HPL.out.kept hb4)
  clear hown4 hb4 HK3 HB3 HPL HR3
  obtain ⟨pb, hpb⟩ : ∃ pb, w.heap.size = pb := ⟨_, rfl⟩
  rw [hpb] at HK4 ⊢
  have HPB := Lib.hid hpb
  clear hpb e1 e2
  go_wp2_with fail
  go_loopw [9, 52] (fun v u wr => ∃ k : Nat, k ≤ nL ∧ u = .int .i64 k ∧ RSt w4.heap.size ((L.take k).filterMap sentF) v wr ∧ Below w4.heap.size w4 wr) (fun _ u _ => nL - (intOf u).toNat)
  case atStart => exact ⟨0, by omega, rfl, ⟨none, 0, 0, rfl, rfl, by simpa [itemsV_nil] using World.ownsRow_nil w4 w4.heap.size 87 12⟩, Below.refl _ _⟩
  case round =>
    obtain ⟨k, hk, rfl, hst, hb⟩ := hrel
    obtain ⟨A5, c5, n5, hn5, rfl, hown⟩ := hst
    have HN5 := Lib.hid hn5
    have hn5l : n5 ≤ 200000000 := by
      rw [← hn5]
      exact Nat.le_trans (List.length_filterMap_le _ _) (by rw [List.length_take]; omega)
    have HOW := Lib.hid hown
    have HB := Lib.hid hb
    have hsz := hb.size
    by_cases hlt : k < nL
    · obtain ⟨g, o, k1, k2, k3, sd, ad, s, bk, p, r, i, xx, yy, rfl, hg, hy, d0, d1, d2, d3, d4, d5, d6, d7, d8, d9, d10, d11⟩ := item12 HNL.out (HR4.out.below hb) hlt
      have hTK : L.take (k + 1) = L.take k ++ [((k1, k2, k3), ((sd, ad), (s, bk, p, r, i), (xx, yy)))] := by
        obtain ⟨h1, h2⟩ := List.getElem?_eq_some_iff.1 hy
        rw [List.take_succ_eq_append_getElem h1, h2]
      have HTK : Hid ((L.take (k + 1)).filterMap sentF = (L.take k).filterMap sentF ++ [((k1, k2, k3), ((sd, ad), (s, bk, p, r, i), (xx, yy)))].filterMap sentF) := Lib.hid (by rw [hTK, List.filterMap_append])
      have HNB : Hid (∀ W, wr.alloc (.cells #[.int .i64 k1, .int .i64 k2, .int .i64 k3, .bool sd, .bool ad, .int .i64 s, .int .i64 bk, .int .i64 p, .int .i64 r, .int .i64 i, .int .i64 xx, .int .i64 yy] 78) = W → Below wr.heap.size wr W ∧ Blk W wr.heap.size 78 #[.int .i64 k1, .int .i64 k2, .int .i64 k3, .bool sd, .bool ad, .int .i64 s, .int .i64 bk, .int .i64 p, .int .i64 r, .int .i64 i, .int .i64 xx, .int .i64 yy]) := Lib.hid (by
        rintro W rfl
        exact ⟨(Below.refl _ _).alloc (Nat.le_refl _) _, Blk.new _ _ _⟩)
      have i1 : (0 : Int) ≤ (k : Int) := by omega
      have i2 : (k : Int) < (nL : Int) := by omega
      clear hn5 hown hb hy hTK
      by_cases hk3 : k1 = 3
      · subst hk3
        have HTE : Hid ((L.take (k + 1)).filterMap sentF = (L.take k).filterMap sentF ++ [((0, k2, 0), ((sd, ad), (s, bk, p, r, i), (xx, yy)))]) := Lib.hid (by rw [HTK.out]; rfl)
        have hfld : ∀ W : World, Sem.run Try.prog (Instr.field 87 (Value.agg #[.int .i64 3, .int .i64 k2, .int .i64 k3, .bool sd, .bool ad, .int .i64 s, .int .i64 bk, .int .i64 p, .int .i64 r, .int .i64 i, .int .i64 xx, .int .i64 yy]) 3) W = .ok (.agg #[.bool sd, .bool ad, .int .i64 s, .int .i64 bk, .int .i64 p, .int .i64 r, .int .i64 i, .int .i64 xx, .int .i64 yy]) W := fun W => by rfl
        have hba0 := fun W => back20_any 3 k2 k3 sd ad s bk p r i xx yy W
        dsimp only [itV] at hba0
        have HBA := Lib.hid hba0
        clear hba0
        go_wp2_with fail
        obtain ⟨w1, hw1⟩ : ∃ w1, wr.alloc (.cells #[.int .i64 3, .int .i64 k2, .int .i64 k3, .bool sd, .bool ad, .int .i64 s, .int .i64 bk, .int .i64 p, .int .i64 r, .int .i64 i, .int .i64 xx, .int .i64 yy] 78) = w1 := ⟨_, rfl⟩
        obtain ⟨hb1, hi1⟩ := HNB.out _ hw1
        rw [hw1]
        have HOW1 := Lib.hid (own_below HOW.out hb1)
        have HB1 := Lib.hid (HB.out.trans (hb1.mono HB.out.size))
        have HI1 := Lib.hid hi1
        have q1 : w1.cell? ⟨wr.heap.size, 1, none⟩ = some (.int .i64 k2) := hi1.cell 1
        have hiB := hi1.lt
        clear hw1 hb1 hi1 HNB d0 d1 d2 d3 d4 d5 d6 d7 d8 d9 d10 d11 hg
        refine wp_region_early (fun W => Blk W wr.heap.size 78 #[.int .i64 3, .int .i64 k2, .int .i64 k3, .bool sd, .bool ad, .int .i64 s, .int .i64 bk, .int .i64 p, .int .i64 r, .int .i64 i, .int .i64 xx, .int .i64 yy]) [0, 1, 2, 3] [4, 5, 6, 7] [8, 9] (by kernel_rfl) (by kernel_rfl) HI1.out.drew ?_
        simp only [List.filterMap_cons, List.filterMap_nil, List.getElem?_cons_succ, List.getElem?_cons_zero]
        refine early_step (.slice A5 n5 c5) rfl (fun W hW => ?_) ?_
        · have h0 := hW.cell 0
          have h1 := hW.cell 1
          have h2 := hW.cell 2
          have h3 := hW.cell 3
          have h4 := hW.cell 4
          have h5 := hW.cell 5
          have h6 := hW.cell 6
          have h7 := hW.cell 7
          have h8 := hW.cell 8
          have h9 := hW.cell 9
          have h10 := hW.cell 10
          have h11 := hW.cell 11
          go_simp
        go_simp
        refine early_step (.pointer (some ⟨wr.heap.size, 1, none⟩)) rfl (fun W hW => ?_) ?_
        · have h0 := hW.cell 0
          have h1 := hW.cell 1
          have h2 := hW.cell 2
          have h3 := hW.cell 3
          have h4 := hW.cell 4
          have h5 := hW.cell 5
          have h6 := hW.cell 6
          have h7 := hW.cell 7
          have h8 := hW.cell 8
          have h9 := hW.cell 9
          have h10 := hW.cell 10
          have h11 := hW.cell 11
          go_simp
        go_simp
        refine early_step (.int .i64 k2) rfl (fun W hW => ?_) ?_
        · have h0 := hW.cell 0
          have h1 := hW.cell 1
          have h2 := hW.cell 2
          have h3 := hW.cell 3
          have h4 := hW.cell 4
          have h5 := hW.cell 5
          have h6 := hW.cell 6
          have h7 := hW.cell 7
          have h8 := hW.cell 8
          have h9 := hW.cell 9
          have h10 := hW.cell 10
          have h11 := hW.cell 11
          go_simp
        go_simp
        refine early_step (.agg #[.int .i64 3, .int .i64 k2, .int .i64 k3, .bool sd, .bool ad, .int .i64 s, .int .i64 bk, .int .i64 p, .int .i64 r, .int .i64 i, .int .i64 xx, .int .i64 yy]) rfl (fun W hW => ?_) ?_
        · have h0 := hW.cell 0
          have h1 := hW.cell 1
          have h2 := hW.cell 2
          have h3 := hW.cell 3
          have h4 := hW.cell 4
          have h5 := hW.cell 5
          have h6 := hW.cell 6
          have h7 := hW.cell 7
          have h8 := hW.cell 8
          have h9 := hW.cell 9
          have h10 := hW.cell 10
          have h11 := hW.cell 11
          go_simp
        go_simp
        change RestW _ _ _ _ _ (_ :: _ :: _ :: _ :: []) _ _
        unfold RestW
        go_wp2_with fail
        ((with_reducible refine (HBA.out _).mono ?_); rintro e w2 ⟨rfl, hb2⟩)
        have hb2' : Below w1.heap.size w1 w2 := ((Kept.start w1).call hb2).2.2
        have HS1 : Hid (Blk w2 wr.heap.size 78 #[.int .i64 3, .int .i64 k2, .int .i64 k3, .bool sd, .bool ad, .int .i64 s, .int .i64 bk, .int .i64 p, .int .i64 r, .int .i64 i, .int .i64 xx, .int .i64 yy]) := Lib.hid (HI1.out.kept hb2')
        have HOW2 := Lib.hid (own_below HOW1.out hb2')
        have HB2 := Lib.hid (HB1.out.trans (hb2'.mono HB1.out.size))
        have hz2 : w4.heap.size ≤ w2.heap.size := HB2.out.size
        clear hb2 hb2' q1 hiB
        go_wp2_with fail
        refine ⟨HS1.out, ?_⟩
        unfold RestW
        go_wp2_with fail
        refine ⟨HS1.out, ?_⟩
        unfold RestW
        go_wp2_with fail
        refine ⟨HS1.out, ?_⟩
        unfold RestW
        go_wp2_with fail
        refine ⟨HS1.out.alloc _, ?_⟩
        unfold RestW
        change wpList _ _ _ (_ :: _ :: []) _ (w2.alloc (.cells #[.int .i64 0, .int .i64 k2, .int .i64 0, .bool sd, .bool ad, .int .i64 s, .int .i64 bk, .int .i64 p, .int .i64 r, .int .i64 i, .int .i64 xx, .int .i64 yy] 87))
        go_wp2_with (at_builtin; go_must (refine wpList_pushL slRItem rfl _ _ rfl w4.heap.size (.slice A5 n5 c5) n5 (itemsV ((L.take k).filterMap sentF)) rfl HOW2.out #[.int .i64 0, .int .i64 k2, .int .i64 0, .bool sd, .bool ad, .int .i64 s, .int .i64 bk, .int .i64 p, .int .i64 r, .int .i64 i, .int .i64 xx, .int .i64 yy] w2.heap.size rfl rfl rfl (itemV_cells ((0, k2, 0), ((sd, ad), (s, bk, p, r, i), (xx, yy)))) (by unfold maxLen; omega) (by omega) hz2 ?_); intro A6 c6 w6 hown6 hb6 hg6 _)
        have HST : Hid (RSt w4.heap.size ((L.take k).filterMap sentF ++ [((0, k2, 0), ((sd, ad), (s, bk, p, r, i), (xx, yy)))]) (.slice A6 (n5 + 1) c6) w6) := Lib.hid (RSt.push ((0, k2, 0), ((sd, ad), (s, bk, p, r, i), (xx, yy))) HN5.out HOW2.out hown6 hb6 hg6).1
        have HB6 := Lib.hid (HB2.out.trans hb6)
        clear hown6 hb6 hg6
        refine NoPanic.normal ?_
        go_wp2_with fail
        go_roundw
        case rel => exact ⟨k + 1, by omega, by go_num, by rw [HTE.out]; exact HST.out, HB6.out⟩
        case measure => simp [intOf]; omega
      · have f3 : (k1 == 3) = false := by simpa using hk3
        have HTE : Hid ((L.take (k + 1)).filterMap sentF = (L.take k).filterMap sentF) := Lib.hid (by
          rw [HTK.out, List.filterMap_cons_none (by unfold sentF; rw [if_neg hk3]), List.filterMap_nil, List.append_nil])
        have HST : Hid (∀ W, Below wr.heap.size wr W → RSt w4.heap.size ((L.take k).filterMap sentF) (.slice A5 n5 c5) W ∧ Below w4.heap.size w4 W) := Lib.hid (fun W hb => ⟨⟨A5, c5, n5, HN5.out, rfl, own_below HOW.out hb⟩, HB.out.trans (hb.mono HB.out.size)⟩)
        have HAL : Hid (Below wr.heap.size wr (wr.alloc (.cells #[.int .i64 k1, .int .i64 k2, .int .i64 k3, .bool sd, .bool ad, .int .i64 s, .int .i64 bk, .int .i64 p, .int .i64 r, .int .i64 i, .int .i64 xx, .int .i64 yy] 78))) := Lib.hid (HNB.out _ rfl).1
        clear HNB hk3
        go_wp2_with fail
        go_roundw
        case rel => exact ⟨k + 1, by omega, by go_num, by rw [HTE.out]; exact (HST.out _ HAL.out).1, (HST.out _ HAL.out).2⟩
        case measure => simp [intOf]; omega
    · obtain rfl : k = nL := by omega
      have hfull : L.take k = L := List.take_of_length_le (by rw [HNL.out]; exact Nat.le_refl _)
      rw [hfull] at HOW HN5
      have HK5 := Lib.hid (HK4.out.kept hb)
      have HB5 := Lib.hid (HB4.out.trans (hb.mono HB4.out.size))
      have HP5 := Lib.hid (HP4.out.kept hb)
      have s4 : wr.cell? ⟨pb, 4, none⟩ = some (.int .i64 wk) := HK5.out.cell 4
      have ls := HK5.out.lt
      clear hn5 hown hb hfull
      go_wp2_with fail
      ((with_reducible refine (HS2.out b _ HP5.out).mono ?_); rintro e w6 ⟨A6, c6, rfl, hown6, hb6⟩)
      have HR6 := Lib.hid (Rd.of_own hown6)
      have HK6 := Lib.hid (HK5.out.kept hb6)
      have HB6 := Lib.hid (HB5.out.trans (hb6.mono HB5.out.size))
      have HOW6 := Lib.hid (own_below HOW.out hb6)
      clear hown6 hb6 s4 ls
      go_wp2_with fail
      go_loopw [10, 79] (fun v u wr => ∃ k : Nat, k ≤ nL2 ∧ u = .int .i64 k ∧ RSt w6.heap.size ((L2.take k).filterMap recvF) v wr ∧ Below w6.heap.size w6 wr) (fun _ u _ => nL2 - (intOf u).toNat)
      case atStart => exact ⟨0, by omega, rfl, ⟨none, 0, 0, rfl, rfl, by simpa [itemsV_nil] using World.ownsRow_nil w6 w6.heap.size 87 12⟩, Below.refl _ _⟩
      case round =>
        obtain ⟨j, hj, rfl, hst, hb⟩ := hrel
        obtain ⟨A7, c7, n7, hn7, rfl, hown⟩ := hst
        have HN7 := Lib.hid hn7
        have hn7l : n7 ≤ 200000000 := by
          rw [← hn7]
          exact Nat.le_trans (List.length_filterMap_le _ _) (by rw [List.length_take]; omega)
        have HOW7 := Lib.hid hown
        have HB7 := Lib.hid hb
        have hsz7 := hb.size
        by_cases hlt : j < nL2
        · obtain ⟨g, o, k1, k2, k3, sd, ad, s, bk, p, r, i, xx, yy, rfl, hg, hy, d0, d1, d2, d3, d4, d5, d6, d7, d8, d9, d10, d11⟩ := item12 HNL2.out (HR6.out.below hb) hlt
          have hTK : L2.take (j + 1) = L2.take j ++ [((k1, k2, k3), ((sd, ad), (s, bk, p, r, i), (xx, yy)))] := by
            obtain ⟨h1, h2⟩ := List.getElem?_eq_some_iff.1 hy
            rw [List.take_succ_eq_append_getElem h1, h2]
          have HTK : Hid ((L2.take (j + 1)).filterMap recvF = (L2.take j).filterMap recvF ++ [((k1, k2, k3), ((sd, ad), (s, bk, p, r, i), (xx, yy)))].filterMap recvF) := Lib.hid (by rw [hTK, List.filterMap_append])
          have HNB : Hid (∀ W, wr.alloc (.cells #[.int .i64 k1, .int .i64 k2, .int .i64 k3, .bool sd, .bool ad, .int .i64 s, .int .i64 bk, .int .i64 p, .int .i64 r, .int .i64 i, .int .i64 xx, .int .i64 yy] 78) = W → Below wr.heap.size wr W ∧ Blk W wr.heap.size 78 #[.int .i64 k1, .int .i64 k2, .int .i64 k3, .bool sd, .bool ad, .int .i64 s, .int .i64 bk, .int .i64 p, .int .i64 r, .int .i64 i, .int .i64 xx, .int .i64 yy]) := Lib.hid (by
            rintro W rfl
            exact ⟨(Below.refl _ _).alloc (Nat.le_refl _) _, Blk.new _ _ _⟩)
          have i1 : (0 : Int) ≤ (j : Int) := by omega
          have i2 : (j : Int) < (nL2 : Int) := by omega
          clear hn7 hown hb hy hTK
          by_cases hk4 : k1 = 4
          · subst hk4
            have HTE : Hid ((L2.take (j + 1)).filterMap recvF = (L2.take j).filterMap recvF ++ [((0, k2, k3), ((true, false), (s, bk, p, r, i), (xx, yy)))]) := Lib.hid (by rw [HTK.out]; rfl)
            have hba0 := fun W => back20_any 4 k2 k3 sd ad s bk p r i xx yy W
            dsimp only [itV] at hba0
            have HBA := Lib.hid hba0
            clear hba0
            go_wp2_with fail
            ((with_reducible refine (HBA.out _).mono ?_); rintro e w8 ⟨rfl, hb8⟩)
            obtain ⟨hba, -⟩ := HNB.out _ rfl
            have hb8' : Below wr.heap.size wr w8 := hba.trans (hb8.mono hba.size)
            have HOW8 := Lib.hid (own_below HOW7.out hb8')
            have HB8 := Lib.hid (HB7.out.trans (hb8'.mono hsz7))
            have hz8 : w6.heap.size ≤ w8.heap.size := HB8.out.size
            clear hb8 hb8' hba HNB d0 d1 d2 d3 d4 d5 d6 d7 d8 d9 d10 d11 hg
            have HAL : Hid (∀ W, w8.alloc (.cells #[.int .i64 0, .int .i64 k2, .int .i64 k3, .bool true, .bool false, .int .i64 s, .int .i64 bk, .int .i64 p, .int .i64 r, .int .i64 i, .int .i64 xx, .int .i64 yy] 87) = W → Below w8.heap.size w8 W) := Lib.hid (by
              rintro W rfl
              exact (Below.refl _ _).alloc (Nat.le_refl _) _)
            have HOW9 := Lib.hid (own_below HOW8.out (HAL.out _ rfl))
            have hz9 : w6.heap.size ≤ (w8.alloc (.cells #[.int .i64 0, .int .i64 k2, .int .i64 k3, .bool true, .bool false, .int .i64 s, .int .i64 bk, .int .i64 p, .int .i64 r, .int .i64 i, .int .i64 xx, .int .i64 yy] 87)).heap.size := Nat.le_trans hz8 (HAL.out _ rfl).size
            go_wp2_with (at_builtin; go_must (refine wpList_pushL slRItem rfl _ _ rfl w6.heap.size (.slice A7 n7 c7) n7 (itemsV ((L2.take j).filterMap recvF)) rfl HOW9.out #[.int .i64 0, .int .i64 k2, .int .i64 k3, .bool true, .bool false, .int .i64 s, .int .i64 bk, .int .i64 p, .int .i64 r, .int .i64 i, .int .i64 xx, .int .i64 yy] _ rfl (by simp) rfl (itemV_cells ((0, k2, k3), ((true, false), (s, bk, p, r, i), (xx, yy)))) (by unfold maxLen; omega) (by omega) hz9 ?_); intro A9 c9 w9 hown9 hb9 hg9 _)
            have HST : Hid (RSt w6.heap.size ((L2.take j).filterMap recvF ++ [((0, k2, k3), ((true, false), (s, bk, p, r, i), (xx, yy)))]) (.slice A9 (n7 + 1) c9) w9) := Lib.hid (RSt.push ((0, k2, k3), ((true, false), (s, bk, p, r, i), (xx, yy))) HN7.out HOW9.out hown9 hb9 hg9).1
            have HB9 := Lib.hid ((HB8.out.trans ((HAL.out _ rfl).mono hz8)).trans hb9)
            clear hown9 hb9 hg9 HAL
            go_wp2_with fail
            go_roundw
            case rel => exact ⟨j + 1, by omega, by go_num, by rw [HTE.out]; exact HST.out, HB9.out⟩
            case measure => simp [intOf]; omega
          · have f4 : (k1 == 4) = false := by simpa using hk4
            have HTE : Hid ((L2.take (j + 1)).filterMap recvF = (L2.take j).filterMap recvF) := Lib.hid (by
              rw [HTK.out, List.filterMap_cons_none (by unfold recvF; rw [if_neg hk4]), List.filterMap_nil, List.append_nil])
            have HST : Hid (∀ W, Below wr.heap.size wr W → RSt w6.heap.size ((L2.take j).filterMap recvF) (.slice A7 n7 c7) W ∧ Below w6.heap.size w6 W) := Lib.hid (fun W hb => ⟨⟨A7, c7, n7, HN7.out, rfl, own_below HOW7.out hb⟩, HB7.out.trans (hb.mono HB7.out.size)⟩)
            have HAL : Hid (Below wr.heap.size wr (wr.alloc (.cells #[.int .i64 k1, .int .i64 k2, .int .i64 k3, .bool sd, .bool ad, .int .i64 s, .int .i64 bk, .int .i64 p, .int .i64 r, .int .i64 i, .int .i64 xx, .int .i64 yy] 78))) := Lib.hid (HNB.out _ rfl).1
            clear HNB hk4
            go_wp2_with fail
            go_roundw
            case rel => exact ⟨j + 1, by omega, by go_num, by rw [HTE.out]; exact (HST.out _ HAL.out).1, (HST.out _ HAL.out).2⟩
            case measure => simp [intOf]; omega
        · obtain rfl : j = nL2 := by omega
          have hfull : L2.take j = L2 := List.take_of_length_le (by rw [HNL2.out]; exact Nat.le_refl _)
          rw [hfull, ← HPair.out] at HOW7 HN7
          have HR7 := Lib.hid (Rd.of_own HOW7.out)
          have HR5 := Lib.hid ((Rd.of_own HOW6.out).below hb)
          have hnn : n7 = n5 := by rw [← HN7.out, ← HN5.out]
          subst hnn
          have HSame := Lib.hid (fun A' B' c' d' W r r' => same20_any A' B' n7 c' d' (L.filterMap sentF) W HN7.out r r' (by omega))
          have HK8 := Lib.hid (HK6.out.kept hb)
          have HB8 := Lib.hid (HB6.out.trans (hb.mono HB6.out.size))
          clear hn7 hown hb hfull
          go_wp2_with fail
          ((with_reducible refine (HIn.out _).mono ?_); rintro e w8 ⟨rfl, hb8⟩)
          have HB9 := Lib.hid (HB8.out.trans (hb8.mono HB8.out.size))
          have HR8 := Lib.hid (HR7.out.below hb8)
          have HR9 := Lib.hid (HR5.out.below hb8)
          clear hb8
          unfold zeroItemV
          have HAL : Hid (∀ W, w8.alloc (.cells #[.int .i64 0, .int .i64 0, .int .i64 0, .bool false, .bool false, .int .i64 0, .int .i64 0, .int .i64 0, .int .i64 0, .int .i64 0, .int .i64 0, .int .i64 0] 78) = W → Below w8.heap.size w8 W) := Lib.hid (by
            rintro W rfl
            exact (Below.refl _ _).alloc (Nat.le_refl _) _)
          go_wp2_with fail
          obtain ⟨w9, hw9⟩ : ∃ w9, w8.alloc (.cells #[.int .i64 0, .int .i64 0, .int .i64 0, .bool false, .bool false, .int .i64 0, .int .i64 0, .int .i64 0, .int .i64 0, .int .i64 0, .int .i64 0, .int .i64 0] 78) = w9 := ⟨_, rfl⟩
          have hb9 := HAL.out _ hw9
          rw [hw9]
          clear hw9 HAL
          ((with_reducible refine (HAl.out _).mono ?_); rintro e w10 ⟨rfl, hb10⟩)
          have hb910 := hb9.trans (hb10.mono hb9.size)
          have HB10 := Lib.hid (HB9.out.trans (hb910.mono HB9.out.size))
          have HR10 := Lib.hid (HR8.out.below hb910)
          have HR11 := Lib.hid (HR9.out.below hb910)
          clear hb9 hb10 hb910
          go_wp2_with fail
          ((with_reducible refine (HSame.out _ _ _ _ _ HR11.out HR10.out).mono ?_); rintro e w11 ⟨rfl, hb11⟩)
          have HB11 := Lib.hid (HB10.out.trans (hb11.mono HB10.out.size))
          clear hb11
          go_wp2_with fail
          ((with_reducible refine (HTn.out _).mono ?_); rintro e w12 ⟨rfl, rfl⟩)
          go_wp2_with fail
          ((with_reducible refine (HLn.out _).mono ?_); rintro e w12 ⟨rfl, rfl⟩)
          go_wp2_with fail
          ((with_reducible refine (HSn.out _).mono ?_); rintro e w12 ⟨rfl, rfl⟩)
          go_wp2_with fail
          ((with_reducible refine (HBn.out _).mono ?_); rintro e w12 ⟨rfl, rfl⟩)
          go_wp2_with fail
          go_ret
          exact ⟨rfl, HB11.out⟩

theorem planPairs_row (hl : l.length = n) (h : Rd w 1 A n (iv l)) (hcap : n ≤ cap) (hxb : -9223372036854775808 ≤ x ∧ x ≤ 9223372036854775807) (htb : -9223372036854775808 ≤ t ∧ t ≤ 9223372036854775807) :
    Calls Try.prog 11 #[rplV A n cap c P, .int .i64 x, .int .i64 t] w fun e w' => e = .returned (.bool true) ∧ Below w.heap.size w w' := by
  cases hf : fewPB n l c P
  · exact planPairs_far A n cap l c P x t w hl h (.inl hf)
  · cases hr : rightB l c P
    · exact planPairs_far A n cap l c P x t w hl h (.inr (.inl hr))
    · by_cases h1 : x < 0
      · exact planPairs_far A n cap l c P x t w hl h (.inr (.inr (.inl h1)))
      · by_cases h2 : c.wk ≤ x
        · exact planPairs_far A n cap l c P x t w hl h (.inr (.inr (.inr h2)))
        · exact planPairs_near A n cap l c P x t w hl h hcap hf hr (by omega) (by omega)
end

end Go.Proofs.Ytkecpbdgcbgogaa
