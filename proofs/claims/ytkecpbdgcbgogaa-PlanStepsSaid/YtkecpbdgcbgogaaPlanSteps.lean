/-
  PlanSteps: Step gives the items of the reference, as many as Len says.
-/
import Derived.Test.YtkecpbdgcbgogaaPlanNear
namespace Go.Proofs.Ytkecpbdgcbgogaa
set_option linter.unusedVariables false
set_option linter.unusedSimpArgs false
set_option maxRecDepth 100000
open Go.RowKit

section
variable (A : Option Addr) (n cap : Nat) (l : List Int) (c : Cfg) (P x t : Int) (w : World)

set_option maxHeartbeats 1000000 in
theorem planSteps_far (hl : l.length = n) (h : Rd w 1 A n (iv l)) (hfar : fewPB n l c P = false ∨ rightB l c P = false) :
    Calls Try.prog 6 #[rplV A n cap c P, .int .i64 x, .int .i64 t] w fun e w' => e = .returned (.bool true) ∧ Below w.heap.size w w' := by
  have HG : Hid (∀ W, w.alloc (.cells (rplC A n cap c P) 60) = W → Below w.heap.size w W ∧ Blk W w.heap.size 60 (rplC A n cap c P)) := Lib.hid (by
    rintro W rfl
    exact ⟨(Below.refl _ _).alloc (Nat.le_refl _) _, Blk.new _ _ _⟩)
  have HFw := Lib.hid (fun W (r : Rd W 1 A n (iv l)) => refFew_any A n cap l c P W hl r)
  have HRi := Lib.hid (fun W (r : Rd W 1 A n (iv l)) (h : fewPB n l c P = true) => refRight_any A n cap l c P W hl r (by have := few_n h; omega))
  have HR := Lib.hid h
  have HF := Lib.hid hfar
  have HAl := Lib.hid alive20_any
  obtain ⟨sh, ra, mo, wk, ba, mi, st, bu, ch, wi, ca⟩ := c
  clear hl h hfar
  go_enter Try.func6, Try.ntmps6
  go_wp2_with fail
  obtain ⟨w0, hw0⟩ : ∃ w0, w.alloc (.cells (rplC A n cap ⟨sh, ra, mo, wk, ba, mi, st, bu, ch, wi, ca⟩ P) 60) = w0 := ⟨_, rfl⟩
  obtain ⟨hB, hK⟩ := HG.out _ hw0
  rw [hw0]
  clear hw0 HG
  have HB := Lib.hid hB
  have HK := Lib.hid hK
  ((with_reducible refine (HFw.out _ (HR.out.below hB)).mono ?_); rintro e w1 ⟨rfl, hb1⟩)
  have k1 := hK.kept hb1
  have HB1 := Lib.hid (HB.out.trans (hb1.mono HB.out.size))
  have s0 : w1.cell? ⟨w.heap.size, 0, none⟩ = some (.slice A n cap) := k1.cell 0
  have s1 : w1.cell? ⟨w.heap.size, 1, none⟩ = some (.int .i64 sh) := k1.cell 1
  have s2 : w1.cell? ⟨w.heap.size, 2, none⟩ = some (.int .i64 ra) := k1.cell 2
  have s3 : w1.cell? ⟨w.heap.size, 3, none⟩ = some (.int .i64 mo) := k1.cell 3
  have s4 : w1.cell? ⟨w.heap.size, 4, none⟩ = some (.int .i64 wk) := k1.cell 4
  have s5 : w1.cell? ⟨w.heap.size, 5, none⟩ = some (.int .i64 ba) := k1.cell 5
  have s6 : w1.cell? ⟨w.heap.size, 6, none⟩ = some (.int .i64 mi) := k1.cell 6
  have s7 : w1.cell? ⟨w.heap.size, 7, none⟩ = some (.int .i64 st) := k1.cell 7
  have s8 : w1.cell? ⟨w.heap.size, 8, none⟩ = some (.int .i64 bu) := k1.cell 8
  have s9 : w1.cell? ⟨w.heap.size, 9, none⟩ = some (.int .i64 ch) := k1.cell 9
  have s10 : w1.cell? ⟨w.heap.size, 10, none⟩ = some (.int .i64 wi) := k1.cell 10
  have s11 : w1.cell? ⟨w.heap.size, 11, none⟩ = some (.int .i64 ca) := k1.cell 11
  have s12 : w1.cell? ⟨w.heap.size, 12, none⟩ = some (.int .i64 P) := k1.cell 12
  have ls := k1.lt
  have HR1 := Lib.hid ((HR.out.below hB).below hb1)
  clear hB hK hb1
  obtain ⟨q, hq⟩ : ∃ q, fewPB n l ⟨sh, ra, mo, wk, ba, mi, st, bu, ch, wi, ca⟩ P = q := ⟨_, rfl⟩
  rw [hq]
  have HQ := Lib.hid hq
  clear hq
  cases q
  · go_wp2_with fail
    ((with_reducible refine (HAl.out _).mono ?_); rintro e w2 ⟨rfl, hb2⟩)
    have HB2 := Lib.hid (HB1.out.trans (hb2.mono HB1.out.size))
    clear hb2
    go_wp2_with fail
    go_ret
    exact ⟨rfl, HB2.out⟩
  · have hrf : rightB l ⟨sh, ra, mo, wk, ba, mi, st, bu, ch, wi, ca⟩ P = false := by
      rcases HF.out with h | h
      · rw [HQ.out] at h; cases h
      · exact h
    have HRF := Lib.hid hrf
    clear hrf
    go_wp2_with fail
    ((with_reducible refine (HRi.out _ HR1.out HQ.out).mono ?_); rintro e w2 ⟨rfl, hb2⟩)
    have HB2 := Lib.hid (HB1.out.trans (hb2.mono HB1.out.size))
    rw [HRF.out]
    clear hb2
    go_wp2_with fail
    ((with_reducible refine (HAl.out _).mono ?_); rintro e w3 ⟨rfl, hb3⟩)
    have HB3 := Lib.hid (HB2.out.trans (hb3.mono HB2.out.size))
    clear hb3
    go_wp2_with fail
    go_ret
    exact ⟨rfl, HB3.out⟩

set_option maxHeartbeats 2000000 in
theorem planSteps_near (hl : l.length = n) (h : Rd w 1 A n (iv l)) (hcap : n ≤ cap) (hfw : fewPB n l c P = true) (hri : rightB l c P = true) :
    Calls Try.prog 6 #[rplV A n cap c P, .int .i64 x, .int .i64 t] w fun e w' => e = .returned (.bool true) ∧ Below w.heap.size w w' := by
  obtain ⟨hn, hok, hp, hf, hP⟩ := near_of hfw hri
  have HG : Hid (∀ W, w.alloc (.cells (rplC A n cap c P) 60) = W → Below w.heap.size w W ∧ Blk W w.heap.size 60 (rplC A n cap c P)) := Lib.hid (by
    rintro W rfl
    exact ⟨(Below.refl _ _).alloc (Nat.le_refl _) _, Blk.new _ _ _⟩)
  have CF := fun W (r : Rd W 1 A n (iv l)) => refFew_any A n cap l c P W hl r
  have CR := fun W (r : Rd W 1 A n (iv l)) => refRight_any A n cap l c P W hl r (by omega)
  rw [hfw] at CF
  rw [hri] at CR
  obtain ⟨pc, hpc⟩ : ∃ pc, pcOf c P.toNat = pc := ⟨_, rfl⟩
  rw [hpc] at hp hf hP
  have HFw := Lib.hid CF
  have HRi := Lib.hid CR
  have HNew := Lib.hid (fun W (r : Rd W 1 A n (iv l)) => planNew_good A n cap l c P W pc hp hl r hcap (by omega) hok hf.wk hf.ch hf.mi hf.wi hf.bu hP)
  have CS := fun b W (h : PlanAt W b pc c A n cap) => planStep_any pc c A n cap b x t W hp hf h
  have CRS := fun W => refStep20_any pc c A n cap P x t W hp hf hP
  have CL := fun b W (h : PlanAt W b pc c A n cap) => planLen_any pc c A n cap b x W h
  have CI := fun W => refItems20_any pc c A n cap P x 0 W hp hf hP
  have hle : (pc.stepI c.st x t).length ≤ 200000000 := by
    unfold PlC.stepI
    split
    · exact PlC.itemsI_le hp x t
    · simp
  have hrl := pc.rItemsI_length x 0
  obtain ⟨L, hL⟩ : ∃ L, pc.stepI c.st x t = L := ⟨_, rfl⟩
  obtain ⟨nL, hnL⟩ : ∃ nL, L.length = nL := ⟨_, rfl⟩
  obtain ⟨q, hq⟩ : ∃ q, pc.lenI x = q := ⟨_, rfl⟩
  rw [hL, hnL] at hle CS CRS
  rw [hq] at hrl CL
  rw [hrl] at CI
  have HS := Lib.hid CS
  have HRS := Lib.hid CRS
  have HLn := Lib.hid CL
  have HIt := Lib.hid CI
  have HAll := Lib.hid (fun A' c' W r => all20_any A' nL c' L W hnL r (by omega))
  have HSame := Lib.hid (fun A' B' c' d' W r r' => same20_any A' B' nL c' d' L W hnL r r' (by omega))
  have HR := Lib.hid h
  have HAl := Lib.hid alive20_any
  obtain ⟨sh, ra, mo, wk, ba, mi, st, bu, ch, wi, ca⟩ := c
  clear hl h hfw hri hn hok hp hf hP hpc CF CR CS CRS CL CI hle hrl hL hnL hq hcap
  go_enter Try.func6, Try.ntmps6
  go_wp2_with fail
  obtain ⟨w0, hw0⟩ : ∃ w0, w.alloc (.cells (rplC A n cap ⟨sh, ra, mo, wk, ba, mi, st, bu, ch, wi, ca⟩ P) 60) = w0 := ⟨_, rfl⟩
  obtain ⟨hB, hK⟩ := HG.out _ hw0
  rw [hw0]
  clear hw0 HG
  have HB := Lib.hid hB
  have HK := Lib.hid hK
  ((with_reducible refine (HFw.out _ (HR.out.below hB)).mono ?_); rintro e w1 ⟨rfl, hb1⟩)
  have HK1 := Lib.hid (hK.kept hb1)
  have HB1 := Lib.hid (HB.out.trans (hb1.mono HB.out.size))
  have HR1 := Lib.hid ((HR.out.below hB).below hb1)
  have s0 : w1.cell? ⟨w.heap.size, 0, none⟩ = some (.slice A n cap) := HK1.out.cell 0
  have s1 : w1.cell? ⟨w.heap.size, 1, none⟩ = some (.int .i64 sh) := HK1.out.cell 1
  have s2 : w1.cell? ⟨w.heap.size, 2, none⟩ = some (.int .i64 ra) := HK1.out.cell 2
  have s3 : w1.cell? ⟨w.heap.size, 3, none⟩ = some (.int .i64 mo) := HK1.out.cell 3
  have s4 : w1.cell? ⟨w.heap.size, 4, none⟩ = some (.int .i64 wk) := HK1.out.cell 4
  have s5 : w1.cell? ⟨w.heap.size, 5, none⟩ = some (.int .i64 ba) := HK1.out.cell 5
  have s6 : w1.cell? ⟨w.heap.size, 6, none⟩ = some (.int .i64 mi) := HK1.out.cell 6
  have s7 : w1.cell? ⟨w.heap.size, 7, none⟩ = some (.int .i64 st) := HK1.out.cell 7
  have s8 : w1.cell? ⟨w.heap.size, 8, none⟩ = some (.int .i64 bu) := HK1.out.cell 8
  have s9 : w1.cell? ⟨w.heap.size, 9, none⟩ = some (.int .i64 ch) := HK1.out.cell 9
  have s10 : w1.cell? ⟨w.heap.size, 10, none⟩ = some (.int .i64 wi) := HK1.out.cell 10
  have s11 : w1.cell? ⟨w.heap.size, 11, none⟩ = some (.int .i64 ca) := HK1.out.cell 11
  have s12 : w1.cell? ⟨w.heap.size, 12, none⟩ = some (.int .i64 P) := HK1.out.cell 12
  have ls := HK1.out.lt
  clear hB hK hb1 HB HK
  go_wp2_with fail
  ((with_reducible refine (HRi.out _ HR1.out).mono ?_); rintro e w2 ⟨rfl, hb2⟩)
  have HK2 := Lib.hid (HK1.out.kept hb2)
  have HB2 := Lib.hid (HB1.out.trans (hb2.mono HB1.out.size))
  have HR2 := Lib.hid (HR1.out.below hb2)
  have s0 : w2.cell? ⟨w.heap.size, 0, none⟩ = some (.slice A n cap) := HK2.out.cell 0
  have s1 : w2.cell? ⟨w.heap.size, 1, none⟩ = some (.int .i64 sh) := HK2.out.cell 1
  have s2 : w2.cell? ⟨w.heap.size, 2, none⟩ = some (.int .i64 ra) := HK2.out.cell 2
  have s3 : w2.cell? ⟨w.heap.size, 3, none⟩ = some (.int .i64 mo) := HK2.out.cell 3
  have s4 : w2.cell? ⟨w.heap.size, 4, none⟩ = some (.int .i64 wk) := HK2.out.cell 4
  have s5 : w2.cell? ⟨w.heap.size, 5, none⟩ = some (.int .i64 ba) := HK2.out.cell 5
  have s6 : w2.cell? ⟨w.heap.size, 6, none⟩ = some (.int .i64 mi) := HK2.out.cell 6
  have s7 : w2.cell? ⟨w.heap.size, 7, none⟩ = some (.int .i64 st) := HK2.out.cell 7
  have s8 : w2.cell? ⟨w.heap.size, 8, none⟩ = some (.int .i64 bu) := HK2.out.cell 8
  have s9 : w2.cell? ⟨w.heap.size, 9, none⟩ = some (.int .i64 ch) := HK2.out.cell 9
  have s10 : w2.cell? ⟨w.heap.size, 10, none⟩ = some (.int .i64 wi) := HK2.out.cell 10
  have s11 : w2.cell? ⟨w.heap.size, 11, none⟩ = some (.int .i64 ca) := HK2.out.cell 11
  have s12 : w2.cell? ⟨w.heap.size, 12, none⟩ = some (.int .i64 P) := HK2.out.cell 12
  have ls := HK2.out.lt
  clear hb2 HK1 HB1 HR1
  go_wp2_with fail
  ((with_reducible refine (HNew.out _ HR2.out).mono ?_); rintro e w3 ⟨b, rfl, hpl, hb3⟩)
  have HK3 := Lib.hid (HK2.out.kept hb3)
  have HB3 := Lib.hid (HB2.out.trans (hb3.mono HB2.out.size))
  have HPL := Lib.hid hpl
  have s0 : w3.cell? ⟨w.heap.size, 0, none⟩ = some (.slice A n cap) := HK3.out.cell 0
  have s1 : w3.cell? ⟨w.heap.size, 1, none⟩ = some (.int .i64 sh) := HK3.out.cell 1
  have s2 : w3.cell? ⟨w.heap.size, 2, none⟩ = some (.int .i64 ra) := HK3.out.cell 2
  have s3 : w3.cell? ⟨w.heap.size, 3, none⟩ = some (.int .i64 mo) := HK3.out.cell 3
  have s4 : w3.cell? ⟨w.heap.size, 4, none⟩ = some (.int .i64 wk) := HK3.out.cell 4
  have s5 : w3.cell? ⟨w.heap.size, 5, none⟩ = some (.int .i64 ba) := HK3.out.cell 5
  have s6 : w3.cell? ⟨w.heap.size, 6, none⟩ = some (.int .i64 mi) := HK3.out.cell 6
  have s7 : w3.cell? ⟨w.heap.size, 7, none⟩ = some (.int .i64 st) := HK3.out.cell 7
  have s8 : w3.cell? ⟨w.heap.size, 8, none⟩ = some (.int .i64 bu) := HK3.out.cell 8
  have s9 : w3.cell? ⟨w.heap.size, 9, none⟩ = some (.int .i64 ch) := HK3.out.cell 9
  have s10 : w3.cell? ⟨w.heap.size, 10, none⟩ = some (.int .i64 wi) := HK3.out.cell 10
  have s11 : w3.cell? ⟨w.heap.size, 11, none⟩ = some (.int .i64 ca) := HK3.out.cell 11
  have s12 : w3.cell? ⟨w.heap.size, 12, none⟩ = some (.int .i64 P) := HK3.out.cell 12
  have ls := HK3.out.lt
  clear hb3 hpl HK2 HB2 HR2
  go_wp2_with fail
  go_region_held3 (fun w' => Kept w3 w') (first | exact kk | exact kk.alloc _ | exact Kept.start w3) (first
    | (go_at_call 30; (with_reducible refine (HAl.out _).mono ?_); rintro e w4 ⟨rfl, hb4⟩; have kk := (Kept.start w3).call hb4; clear hb4)
    | (go_at_call 34; (with_reducible refine (HS.out b _ (HPL.out.kept kk.2.2)).mono ?_); rintro e w5 ⟨A5, c5, rfl, hown, hb5⟩; replace kk := kk.call hb5; have HRa := Lib.hid (Rd.of_own hown); clear hown hb5)
    | (go_at_call 33; (with_reducible refine (HAll.out _ _ _ HRa.out).mono ?_); rintro e w6 ⟨A6, c6, rfl, hown, hb6⟩; replace kk := kk.call hb6; have HRb := Lib.hid (Rd.of_own hown); clear hown hb6)
    | (go_at_call 35; (with_reducible refine (HRS.out _).mono ?_); rintro e w7 ⟨A7, c7, rfl, hown, hb7⟩; replace kk := kk.call hb7; replace HRb := Lib.hid (HRb.out.below hb7); have HRc := Lib.hid (Rd.of_own hown); clear hown hb7)
    | (go_at_call 32; (with_reducible refine (HSame.out _ _ _ _ _ HRb.out HRc.out).mono ?_); rintro e w8 ⟨rfl, hb8⟩; replace kk := kk.call hb8; clear hb8)
    | (go_at_call 36; (with_reducible refine (HLn.out b _ (HPL.out.kept kk.2.2)).mono ?_); rintro e w9 ⟨rfl, rfl⟩)
    | (go_at_call 37; (with_reducible refine (HIt.out _).mono ?_); rintro e w10 ⟨A10, c10, rfl, hown, hb10⟩; replace kk := kk.call hb10; clear hown hb10))
  all_goals go_wp2_with fail
  all_goals go_ret
  all_goals exact ⟨rfl, ((Kept.of HB3.out).call kk.2.2).2.2⟩

theorem planSteps_any (hl : l.length = n) (h : Rd w 1 A n (iv l)) (hcap : n ≤ cap) :
    Calls Try.prog 6 #[rplV A n cap c P, .int .i64 x, .int .i64 t] w fun e w' => e = .returned (.bool true) ∧ Below w.heap.size w w' := by
  cases hf : fewPB n l c P
  · exact planSteps_far A n cap l c P x t w hl h (.inl hf)
  · cases hr : rightB l c P
    · exact planSteps_far A n cap l c P x t w hl h (.inr hr)
    · exact planSteps_near A n cap l c P x t w hl h hcap hf hr

theorem planSteps_row (hl : l.length = n) (h : Rd w 1 A n (iv l)) (hcap : n ≤ cap) (hx : -9223372036854775808 ≤ x ∧ x ≤ 9223372036854775807) (ht : -9223372036854775808 ≤ t ∧ t ≤ 9223372036854775807) :
    Calls Try.prog 6 #[rplV A n cap c P, .int .i64 x, .int .i64 t] w fun e w' => e = .returned (.bool true) ∧ Below w.heap.size w w' :=
  planSteps_any A n cap l c P x t w hl h hcap
end

end Go.Proofs.Ytkecpbdgcbgogaa
