/-
  PlanItems: all items of a worker are those of all steps.
-/
import Derived.Test.YtkecpbdgcbgogaaPlanNear
import Derived.Test.YtkecpbdgcbgogaaMep
namespace Go.Proofs.Ytkecpbdgcbgogaa
set_option linter.unusedVariables false
set_option linter.unusedSimpArgs false
set_option maxRecDepth 100000
open Go.RowKit

section
variable (A : Option Addr) (n cap : Nat) (l : List Int) (c : Cfg) (P x i : Int) (w : World)

set_option maxHeartbeats 1000000 in
theorem planItems_far (hl : l.length = n) (h : Rd w 1 A n (iv l)) (hfar : fewPB n l c P = false ∨ rightB l c P = false) :
    Calls Try.prog 8 #[rplV A n cap c P, .int .i64 x, .int .i64 i] w fun e w' => e = .returned (.bool true) ∧ Below w.heap.size w w' := by
  have HG : Hid (∀ W, w.alloc (.cells (rplC A n cap c P) 60) = W → Below w.heap.size w W ∧ Blk W w.heap.size 60 (rplC A n cap c P)) := Lib.hid (by
    rintro W rfl
    exact ⟨(Below.refl _ _).alloc (Nat.le_refl _) _, Blk.new _ _ _⟩)
  have HFw := Lib.hid (fun W (r : Rd W 1 A n (iv l)) => refFew_any A n cap l c P W hl r)
  have HRi := Lib.hid (fun W (r : Rd W 1 A n (iv l)) (h : fewPB n l c P = true) => refRight_any A n cap l c P W hl r (by have := few_n h; omega))
  have HR := Lib.hid h
  have HF := Lib.hid hfar
  have HAl := Lib.hid alive20_any
  obtain ⟨sh, ra, mo, wk, ba, mi, st, bu, ch, wi, ca⟩ := c
  clear hl h hfar
  go_enter Try.func8, Try.ntmps8
  go_wp2_with fail
  obtain ⟨w0, hw0⟩ : ∃ w0, w.alloc (.cells (rplC A n cap ⟨sh, ra, mo, wk, ba, mi, st, bu, ch, wi, ca⟩ P) 60) = w0 := ⟨_, rfl⟩
  obtain ⟨hB, hK⟩ := HG.out _ hw0
  rw [hw0]
  clear hw0 HG
  have HB := Lib.hid hB
  have HK := Lib.hid hK
  ((with_reducible refine (HFw.out _ (HR.out.below hB)).mono ?_); rintro e w1 ⟨rfl, hb1⟩)
  have k1 := hK.kept hb1
  have HB1 := Lib.hid (HB.out.trans (hb1.mono HB.out.size))
  have s0 : w1.cell? ⟨w.heap.size, 0, none⟩ = some (.slice A n cap) := k1.cell 0
  have s1 : w1.cell? ⟨w.heap.size, 1, none⟩ = some (.int .i64 sh) := k1.cell 1
  have s2 : w1.cell? ⟨w.heap.size, 2, none⟩ = some (.int .i64 ra) := k1.cell 2
  have s3 : w1.cell? ⟨w.heap.size, 3, none⟩ = some (.int .i64 mo) := k1.cell 3
  have s4 : w1.cell? ⟨w.heap.size, 4, none⟩ = some (.int .i64 wk) := k1.cell 4
  have s5 : w1.cell? ⟨w.heap.size, 5, none⟩ = some (.int .i64 ba) := k1.cell 5
  have s6 : w1.cell? ⟨w.heap.size, 6, none⟩ = some (.int .i64 mi) := k1.cell 6
  have s7 : w1.cell? ⟨w.heap.size, 7, none⟩ = some (.int .i64 st) := k1.cell 7
  have s8 : w1.cell? ⟨w.heap.size, 8, none⟩ = some (.int .i64 bu) := k1.cell 8
  have s9 : w1.cell? ⟨w.heap.size, 9, none⟩ = some (.int .i64 ch) := k1.cell 9
  have s10 : w1.cell? ⟨w.heap.size, 10, none⟩ = some (.int .i64 wi) := k1.cell 10
  have s11 : w1.cell? ⟨w.heap.size, 11, none⟩ = some (.int .i64 ca) := k1.cell 11
  have s12 : w1.cell? ⟨w.heap.size, 12, none⟩ = some (.int .i64 P) := k1.cell 12
  have ls := k1.lt
  have HR1 := Lib.hid ((HR.out.below hB).below hb1)
  have HK1 := Lib.hid k1
  clear hB hK hb1 k1
  obtain ⟨q, hq⟩ : ∃ q, fewPB n l ⟨sh, ra, mo, wk, ba, mi, st, bu, ch, wi, ca⟩ P = q := ⟨_, rfl⟩
  rw [hq]
  have HQ := Lib.hid hq
  clear hq
  cases q
  · go_wp2_with fail
    ((with_reducible refine (HAl.out _).mono ?_); rintro e wz ⟨rfl, hbz⟩)
    have HBz := Lib.hid (HB1.out.trans (hbz.mono HB1.out.size))
    clear hbz
    go_wp2_with fail
    go_ret
    exact ⟨rfl, HBz.out⟩
  · go_wp2_with fail
    ((with_reducible refine (HRi.out _ HR1.out HQ.out).mono ?_); rintro e w2 ⟨rfl, hb2⟩)
    have HB2 := Lib.hid (HB1.out.trans (hb2.mono HB1.out.size))
    clear s0 s1 s2 s3 s4 s5 s6 s7 s8 s9 s10 s11 s12 ls
    have k2 := HK1.out.kept hb2
    have s0 : w2.cell? ⟨w.heap.size, 0, none⟩ = some (.slice A n cap) := k2.cell 0
    have s1 : w2.cell? ⟨w.heap.size, 1, none⟩ = some (.int .i64 sh) := k2.cell 1
    have s2 : w2.cell? ⟨w.heap.size, 2, none⟩ = some (.int .i64 ra) := k2.cell 2
    have s3 : w2.cell? ⟨w.heap.size, 3, none⟩ = some (.int .i64 mo) := k2.cell 3
    have s4 : w2.cell? ⟨w.heap.size, 4, none⟩ = some (.int .i64 wk) := k2.cell 4
    have s5 : w2.cell? ⟨w.heap.size, 5, none⟩ = some (.int .i64 ba) := k2.cell 5
    have s6 : w2.cell? ⟨w.heap.size, 6, none⟩ = some (.int .i64 mi) := k2.cell 6
    have s7 : w2.cell? ⟨w.heap.size, 7, none⟩ = some (.int .i64 st) := k2.cell 7
    have s8 : w2.cell? ⟨w.heap.size, 8, none⟩ = some (.int .i64 bu) := k2.cell 8
    have s9 : w2.cell? ⟨w.heap.size, 9, none⟩ = some (.int .i64 ch) := k2.cell 9
    have s10 : w2.cell? ⟨w.heap.size, 10, none⟩ = some (.int .i64 wi) := k2.cell 10
    have s11 : w2.cell? ⟨w.heap.size, 11, none⟩ = some (.int .i64 ca) := k2.cell 11
    have s12 : w2.cell? ⟨w.heap.size, 12, none⟩ = some (.int .i64 P) := k2.cell 12
    have ls := k2.lt
    clear hb2 k2
    obtain ⟨q2, hq2⟩ : ∃ q, rightB l ⟨sh, ra, mo, wk, ba, mi, st, bu, ch, wi, ca⟩ P = q := ⟨_, rfl⟩
    rw [hq2]
    have HQ2 := Lib.hid hq2
    clear hq2
    cases q2
    · go_wp2_with fail
      ((with_reducible refine (HAl.out _).mono ?_); rintro e wz ⟨rfl, hbz⟩)
      have HBz := Lib.hid (HB2.out.trans (hbz.mono HB2.out.size))
      clear hbz
      go_wp2_with fail
      go_ret
      exact ⟨rfl, HBz.out⟩
    · exact absurd HF.out (by simp [HQ.out, HQ2.out])


set_option maxHeartbeats 2000000 in
theorem planItems_neg (hl : l.length = n) (h : Rd w 1 A n (iv l)) (hcap : n ≤ cap) (hfw : fewPB n l c P = true) (hri : rightB l c P = true) (hi63 : i ≤ 9223372036854775807) (hno : i < 0) :
    Calls Try.prog 8 #[rplV A n cap c P, .int .i64 x, .int .i64 i] w fun e w' => e = .returned (.bool true) ∧ Below w.heap.size w w' := by
  obtain ⟨hn, hok, hp, hf, hP⟩ := near_of hfw hri
  have HG : Hid (∀ W, w.alloc (.cells (rplC A n cap c P) 60) = W → Below w.heap.size w W ∧ Blk W w.heap.size 60 (rplC A n cap c P)) := Lib.hid (by
    rintro W rfl
    exact ⟨(Below.refl _ _).alloc (Nat.le_refl _) _, Blk.new _ _ _⟩)
  have CF := fun W (r : Rd W 1 A n (iv l)) => refFew_any A n cap l c P W hl r
  have CR := fun W (r : Rd W 1 A n (iv l)) => refRight_any A n cap l c P W hl r (by omega)
  rw [hfw] at CF
  rw [hri] at CR
  obtain ⟨pc, hpc⟩ : ∃ pc, pcOf c P.toNat = pc := ⟨_, rfl⟩
  rw [hpc] at hp hf hP
  have HFw := Lib.hid CF
  have HRi := Lib.hid CR
  have HNew := Lib.hid (fun W (r : Rd W 1 A n (iv l)) => planNew_good A n cap l c P W pc hp hl r hcap (by omega) hok hf.wk hf.ch hf.mi hf.wi hf.bu hP)
  have HR := Lib.hid h
  have HAl := Lib.hid alive20_any
  have HItem := Lib.hid (fun b W (h : PlanAt W b pc c A n cap) => planItem_none pc c A n cap b x i W hi63 (by rintro ⟨a1, a2, a3, a4⟩; omega) h)
  have CI := fun W => refItems20_any pc c A n cap P x 0 W hp hf hP
  rw [pc.rItemsI_length x 0] at CI
  obtain ⟨q, hq⟩ : ∃ q, pc.lenI x = q := ⟨_, rfl⟩
  rw [hq] at CI
  have HIt := Lib.hid CI
  have HBZ := Lib.hid (fun W => back20_any 0 0 0 false false 0 0 0 0 0 0 0 W)

  obtain ⟨sh, ra, mo, wk, ba, mi, st, bu, ch, wi, ca⟩ := c
  have e1 : decide (i < 0) = true := decide_eq_true hno
  clear hl h hfw hri hn hok hp hf hP hpc CF CR hcap CI hq hno 
  go_enter Try.func8, Try.ntmps8
  go_wp2_with fail
  obtain ⟨w0, hw0⟩ : ∃ w0, w.alloc (.cells (rplC A n cap ⟨sh, ra, mo, wk, ba, mi, st, bu, ch, wi, ca⟩ P) 60) = w0 := ⟨_, rfl⟩
  obtain ⟨hB, hK⟩ := HG.out _ hw0
  rw [hw0]
  clear hw0 HG
  have HB := Lib.hid hB
  have HK := Lib.hid hK
  ((with_reducible refine (HFw.out _ (HR.out.below hB)).mono ?_); rintro e w1 ⟨rfl, hb1⟩)
  have HK1 := Lib.hid (hK.kept hb1)
  have HB1 := Lib.hid (HB.out.trans (hb1.mono HB.out.size))
  have HR1 := Lib.hid ((HR.out.below hB).below hb1)
  have s0 : w1.cell? ⟨w.heap.size, 0, none⟩ = some (.slice A n cap) := HK1.out.cell 0
  have s1 : w1.cell? ⟨w.heap.size, 1, none⟩ = some (.int .i64 sh) := HK1.out.cell 1
  have s2 : w1.cell? ⟨w.heap.size, 2, none⟩ = some (.int .i64 ra) := HK1.out.cell 2
  have s3 : w1.cell? ⟨w.heap.size, 3, none⟩ = some (.int .i64 mo) := HK1.out.cell 3
  have s4 : w1.cell? ⟨w.heap.size, 4, none⟩ = some (.int .i64 wk) := HK1.out.cell 4
  have s5 : w1.cell? ⟨w.heap.size, 5, none⟩ = some (.int .i64 ba) := HK1.out.cell 5
  have s6 : w1.cell? ⟨w.heap.size, 6, none⟩ = some (.int .i64 mi) := HK1.out.cell 6
  have s7 : w1.cell? ⟨w.heap.size, 7, none⟩ = some (.int .i64 st) := HK1.out.cell 7
  have s8 : w1.cell? ⟨w.heap.size, 8, none⟩ = some (.int .i64 bu) := HK1.out.cell 8
  have s9 : w1.cell? ⟨w.heap.size, 9, none⟩ = some (.int .i64 ch) := HK1.out.cell 9
  have s10 : w1.cell? ⟨w.heap.size, 10, none⟩ = some (.int .i64 wi) := HK1.out.cell 10
  have s11 : w1.cell? ⟨w.heap.size, 11, none⟩ = some (.int .i64 ca) := HK1.out.cell 11
  have s12 : w1.cell? ⟨w.heap.size, 12, none⟩ = some (.int .i64 P) := HK1.out.cell 12
  have ls := HK1.out.lt
  clear hB hK hb1 HB HK
  go_wp2_with fail
  ((with_reducible refine (HRi.out _ HR1.out).mono ?_); rintro e w2 ⟨rfl, hb2⟩)
  clear s0 s1 s2 s3 s4 s5 s6 s7 s8 s9 s10 s11 s12 ls
  have HK2 := Lib.hid (HK1.out.kept hb2)
  have HB2 := Lib.hid (HB1.out.trans (hb2.mono HB1.out.size))
  have HR2 := Lib.hid (HR1.out.below hb2)
  have s0 : w2.cell? ⟨w.heap.size, 0, none⟩ = some (.slice A n cap) := HK2.out.cell 0
  have s1 : w2.cell? ⟨w.heap.size, 1, none⟩ = some (.int .i64 sh) := HK2.out.cell 1
  have s2 : w2.cell? ⟨w.heap.size, 2, none⟩ = some (.int .i64 ra) := HK2.out.cell 2
  have s3 : w2.cell? ⟨w.heap.size, 3, none⟩ = some (.int .i64 mo) := HK2.out.cell 3
  have s4 : w2.cell? ⟨w.heap.size, 4, none⟩ = some (.int .i64 wk) := HK2.out.cell 4
  have s5 : w2.cell? ⟨w.heap.size, 5, none⟩ = some (.int .i64 ba) := HK2.out.cell 5
  have s6 : w2.cell? ⟨w.heap.size, 6, none⟩ = some (.int .i64 mi) := HK2.out.cell 6
  have s7 : w2.cell? ⟨w.heap.size, 7, none⟩ = some (.int .i64 st) := HK2.out.cell 7
  have s8 : w2.cell? ⟨w.heap.size, 8, none⟩ = some (.int .i64 bu) := HK2.out.cell 8
  have s9 : w2.cell? ⟨w.heap.size, 9, none⟩ = some (.int .i64 ch) := HK2.out.cell 9
  have s10 : w2.cell? ⟨w.heap.size, 10, none⟩ = some (.int .i64 wi) := HK2.out.cell 10
  have s11 : w2.cell? ⟨w.heap.size, 11, none⟩ = some (.int .i64 ca) := HK2.out.cell 11
  have s12 : w2.cell? ⟨w.heap.size, 12, none⟩ = some (.int .i64 P) := HK2.out.cell 12
  have ls := HK2.out.lt
  clear hb2 HK1 HB1 HR1
  go_wp2_with fail
  ((with_reducible refine (HNew.out _ HR2.out).mono ?_); rintro e w3 ⟨b, rfl, hpl, hb3⟩)
  clear s0 s1 s2 s3 s4 s5 s6 s7 s8 s9 s10 s11 s12 ls
  have HK3 := Lib.hid (HK2.out.kept hb3)
  have HB3 := Lib.hid (HB2.out.trans (hb3.mono HB2.out.size))
  have HR3 := Lib.hid (HR2.out.below hb3)
  have HPL := Lib.hid hpl
  have s0 : w3.cell? ⟨w.heap.size, 0, none⟩ = some (.slice A n cap) := HK3.out.cell 0
  have s1 : w3.cell? ⟨w.heap.size, 1, none⟩ = some (.int .i64 sh) := HK3.out.cell 1
  have s2 : w3.cell? ⟨w.heap.size, 2, none⟩ = some (.int .i64 ra) := HK3.out.cell 2
  have s3 : w3.cell? ⟨w.heap.size, 3, none⟩ = some (.int .i64 mo) := HK3.out.cell 3
  have s4 : w3.cell? ⟨w.heap.size, 4, none⟩ = some (.int .i64 wk) := HK3.out.cell 4
  have s5 : w3.cell? ⟨w.heap.size, 5, none⟩ = some (.int .i64 ba) := HK3.out.cell 5
  have s6 : w3.cell? ⟨w.heap.size, 6, none⟩ = some (.int .i64 mi) := HK3.out.cell 6
  have s7 : w3.cell? ⟨w.heap.size, 7, none⟩ = some (.int .i64 st) := HK3.out.cell 7
  have s8 : w3.cell? ⟨w.heap.size, 8, none⟩ = some (.int .i64 bu) := HK3.out.cell 8
  have s9 : w3.cell? ⟨w.heap.size, 9, none⟩ = some (.int .i64 ch) := HK3.out.cell 9
  have s10 : w3.cell? ⟨w.heap.size, 10, none⟩ = some (.int .i64 wi) := HK3.out.cell 10
  have s11 : w3.cell? ⟨w.heap.size, 11, none⟩ = some (.int .i64 ca) := HK3.out.cell 11
  have s12 : w3.cell? ⟨w.heap.size, 12, none⟩ = some (.int .i64 P) := HK3.out.cell 12
  have ls := HK3.out.lt
  clear hb3 hpl HK2 HB2 HR2
  unfold zeroItemV at HItem
  go_wp2_with fail
  ((with_reducible refine (HItem.out b _ HPL.out).mono ?_); rintro e w4 ⟨rfl, hb4⟩)
  have HK4 := Lib.hid (HK3.out.kept hb4)
  have HB4 := Lib.hid (HB3.out.trans (hb4.mono HB3.out.size))
  clear hb4 HK3 HB3 HPL HR3
  obtain ⟨pb, hpb⟩ : ∃ pb, w.heap.size = pb := ⟨_, rfl⟩
  rw [hpb] at HK4 ⊢
  have HPB := Lib.hid hpb
  clear hpb
  have HAL : Hid (∀ W, w4.alloc (.cells #[.int .i64 0, .int .i64 0, .int .i64 0, .bool false, .bool false, .int .i64 0, .int .i64 0, .int .i64 0, .int .i64 0, .int .i64 0, .int .i64 0, .int .i64 0] 78) = W → Below w4.heap.size w4 W ∧ Blk W w4.heap.size 78 #[.int .i64 0, .int .i64 0, .int .i64 0, .bool false, .bool false, .int .i64 0, .int .i64 0, .int .i64 0, .int .i64 0, .int .i64 0, .int .i64 0, .int .i64 0]) := Lib.hid (by
    rintro W rfl
    exact ⟨(Below.refl _ _).alloc (Nat.le_refl _) _, Blk.new _ _ _⟩)
  have s0 : w4.cell? ⟨pb, 0, none⟩ = some (.slice A n cap) := HK4.out.cell 0
  have s1 : w4.cell? ⟨pb, 1, none⟩ = some (.int .i64 sh) := HK4.out.cell 1
  have s2 : w4.cell? ⟨pb, 2, none⟩ = some (.int .i64 ra) := HK4.out.cell 2
  have s3 : w4.cell? ⟨pb, 3, none⟩ = some (.int .i64 mo) := HK4.out.cell 3
  have s4 : w4.cell? ⟨pb, 4, none⟩ = some (.int .i64 wk) := HK4.out.cell 4
  have s5 : w4.cell? ⟨pb, 5, none⟩ = some (.int .i64 ba) := HK4.out.cell 5
  have s6 : w4.cell? ⟨pb, 6, none⟩ = some (.int .i64 mi) := HK4.out.cell 6
  have s7 : w4.cell? ⟨pb, 7, none⟩ = some (.int .i64 st) := HK4.out.cell 7
  have s8 : w4.cell? ⟨pb, 8, none⟩ = some (.int .i64 bu) := HK4.out.cell 8
  have s9 : w4.cell? ⟨pb, 9, none⟩ = some (.int .i64 ch) := HK4.out.cell 9
  have s10 : w4.cell? ⟨pb, 10, none⟩ = some (.int .i64 wi) := HK4.out.cell 10
  have s11 : w4.cell? ⟨pb, 11, none⟩ = some (.int .i64 ca) := HK4.out.cell 11
  have s12 : w4.cell? ⟨pb, 12, none⟩ = some (.int .i64 P) := HK4.out.cell 12
  have ls := HK4.out.lt
  go_wp2_with fail
  obtain ⟨w5, hw5⟩ : ∃ w5, w4.alloc (.cells #[.int .i64 0, .int .i64 0, .int .i64 0, .bool false, .bool false, .int .i64 0, .int .i64 0, .int .i64 0, .int .i64 0, .int .i64 0, .int .i64 0, .int .i64 0] 78) = w5 := ⟨_, rfl⟩
  obtain ⟨hb5, hi5⟩ := HAL.out _ hw5
  rw [hw5]
  have HK5 := Lib.hid (HK4.out.kept hb5)
  have HB5 := Lib.hid (HB4.out.trans (hb5.mono HB4.out.size))
  obtain ⟨ib, hib⟩ : ∃ ib, w4.heap.size = ib := ⟨_, rfl⟩
  rw [hib] at hi5 ⊢
  have HI5 := Lib.hid hi5
  clear hw5 hb5 hi5 HAL hib
  ((with_reducible refine (HIt.out _).mono ?_); rintro e w6 ⟨A6, c6, rfl, hown6, hb6⟩)
  have HK6 := Lib.hid (HK5.out.kept hb6)
  have HB6 := Lib.hid (HB5.out.trans (hb6.mono HB5.out.size))
  have HI6 := Lib.hid (HI5.out.kept hb6)
  have s0 : w6.cell? ⟨pb, 0, none⟩ = some (.slice A n cap) := HK6.out.cell 0
  have s1 : w6.cell? ⟨pb, 1, none⟩ = some (.int .i64 sh) := HK6.out.cell 1
  have s2 : w6.cell? ⟨pb, 2, none⟩ = some (.int .i64 ra) := HK6.out.cell 2
  have s3 : w6.cell? ⟨pb, 3, none⟩ = some (.int .i64 mo) := HK6.out.cell 3
  have s4 : w6.cell? ⟨pb, 4, none⟩ = some (.int .i64 wk) := HK6.out.cell 4
  have s5 : w6.cell? ⟨pb, 5, none⟩ = some (.int .i64 ba) := HK6.out.cell 5
  have s6 : w6.cell? ⟨pb, 6, none⟩ = some (.int .i64 mi) := HK6.out.cell 6
  have s7 : w6.cell? ⟨pb, 7, none⟩ = some (.int .i64 st) := HK6.out.cell 7
  have s8 : w6.cell? ⟨pb, 8, none⟩ = some (.int .i64 bu) := HK6.out.cell 8
  have s9 : w6.cell? ⟨pb, 9, none⟩ = some (.int .i64 ch) := HK6.out.cell 9
  have s10 : w6.cell? ⟨pb, 10, none⟩ = some (.int .i64 wi) := HK6.out.cell 10
  have s11 : w6.cell? ⟨pb, 11, none⟩ = some (.int .i64 ca) := HK6.out.cell 11
  have s12 : w6.cell? ⟨pb, 12, none⟩ = some (.int .i64 P) := HK6.out.cell 12
  have ls := HK6.out.lt
  clear hown6 hb6
  go_wp2_with fail
  go_quiet (fail)
  obtain ⟨w7, hw7⟩ : ∃ w7, w6.drewN nq = w7 := ⟨_, rfl⟩
  have hb7 : Below w6.heap.size w6 w7 := by rw [← hw7]; exact below_drewN (Below.refl _ _) _
  have HB7 := Lib.hid (HB6.out.trans (hb7.mono HB6.out.size))
  have HI7 := Lib.hid (HI6.out.kept hb7)
  rw [hw7]
  clear hw7 hb7
  go_wp2_with fail
  ((with_reducible refine (HAl.out _).mono ?_); rintro e w8 ⟨rfl, hb8⟩)
  have HB8 := Lib.hid (HB7.out.trans (hb8.mono HB7.out.size))
  have hi8 := HI7.out.kept hb8
  have z0 : w8.cell? ⟨ib, 0, none⟩ = some (.int .i64 0) := hi8.cell 0
  have z1 : w8.cell? ⟨ib, 1, none⟩ = some (.int .i64 0) := hi8.cell 1
  have z2 : w8.cell? ⟨ib, 2, none⟩ = some (.int .i64 0) := hi8.cell 2
  have z3 : w8.cell? ⟨ib, 3, none⟩ = some (.bool false) := hi8.cell 3
  have z4 : w8.cell? ⟨ib, 4, none⟩ = some (.bool false) := hi8.cell 4
  have z5 : w8.cell? ⟨ib, 5, none⟩ = some (.int .i64 0) := hi8.cell 5
  have z6 : w8.cell? ⟨ib, 6, none⟩ = some (.int .i64 0) := hi8.cell 6
  have z7 : w8.cell? ⟨ib, 7, none⟩ = some (.int .i64 0) := hi8.cell 7
  have z8 : w8.cell? ⟨ib, 8, none⟩ = some (.int .i64 0) := hi8.cell 8
  have z9 : w8.cell? ⟨ib, 9, none⟩ = some (.int .i64 0) := hi8.cell 9
  have z10 : w8.cell? ⟨ib, 10, none⟩ = some (.int .i64 0) := hi8.cell 10
  have z11 : w8.cell? ⟨ib, 11, none⟩ = some (.int .i64 0) := hi8.cell 11
  have lz := hi8.lt
  clear hb8 hi8
  go_wp2_with fail
  ((with_reducible refine (HBZ.out _).mono ?_); rintro e w9 ⟨rfl, hb9⟩)
  have HB9 := Lib.hid (HB8.out.trans (hb9.mono HB8.out.size))
  clear hb9
  go_wp2_with fail
  go_ret
  exact ⟨rfl, HB9.out⟩

set_option maxHeartbeats 2000000 in
theorem planItems_zero (hl : l.length = n) (h : Rd w 1 A n (iv l)) (hcap : n ≤ cap) (hfw : fewPB n l c P = true) (hri : rightB l c P = true) (hi63 : i ≤ 9223372036854775807) (hi0 : 0 ≤ i) (hno : (pcOf c P.toNat).lenI x = 0) :
    Calls Try.prog 8 #[rplV A n cap c P, .int .i64 x, .int .i64 i] w fun e w' => e = .returned (.bool true) ∧ Below w.heap.size w w' := by
  obtain ⟨hn, hok, hp, hf, hP⟩ := near_of hfw hri
  have HG : Hid (∀ W, w.alloc (.cells (rplC A n cap c P) 60) = W → Below w.heap.size w W ∧ Blk W w.heap.size 60 (rplC A n cap c P)) := Lib.hid (by
    rintro W rfl
    exact ⟨(Below.refl _ _).alloc (Nat.le_refl _) _, Blk.new _ _ _⟩)
  have CF := fun W (r : Rd W 1 A n (iv l)) => refFew_any A n cap l c P W hl r
  have CR := fun W (r : Rd W 1 A n (iv l)) => refRight_any A n cap l c P W hl r (by omega)
  rw [hfw] at CF
  rw [hri] at CR
  obtain ⟨pc, hpc⟩ : ∃ pc, pcOf c P.toNat = pc := ⟨_, rfl⟩
  rw [hpc] at hp hf hP
  have HFw := Lib.hid CF
  have HRi := Lib.hid CR
  have HNew := Lib.hid (fun W (r : Rd W 1 A n (iv l)) => planNew_good A n cap l c P W pc hp hl r hcap (by omega) hok hf.wk hf.ch hf.mi hf.wi hf.bu hP)
  have HR := Lib.hid h
  have HAl := Lib.hid alive20_any
  rw [hpc] at hno
  have HItem := Lib.hid (fun b W (h : PlanAt W b pc c A n cap) => planItem_none pc c A n cap b x i W hi63 (by rintro ⟨a1, a2, a3, a4⟩; exact ((pc.lenI_pos x).1 ⟨a1, a2⟩) hno) h)
  have CI := fun W => refItems20_any pc c A n cap P x 0 W hp hf hP
  rw [pc.rItemsI_length x 0] at CI
  obtain ⟨q, hq⟩ : ∃ q, pc.lenI x = q := ⟨_, rfl⟩
  rw [hq] at CI hno
  have HIt := Lib.hid CI
  have HBZ := Lib.hid (fun W => back20_any 0 0 0 false false 0 0 0 0 0 0 0 W)

  obtain ⟨sh, ra, mo, wk, ba, mi, st, bu, ch, wi, ca⟩ := c
  have e1 : decide (i < 0) = false := decide_eq_false (by omega)
  have e0 : ((q : Int) == 0) = true := by rw [hno]; rfl
  subst hno
  clear hl h hfw hri hn hok hp hf hP hpc CF CR hcap CI hq 
  go_enter Try.func8, Try.ntmps8
  go_wp2_with fail
  obtain ⟨w0, hw0⟩ : ∃ w0, w.alloc (.cells (rplC A n cap ⟨sh, ra, mo, wk, ba, mi, st, bu, ch, wi, ca⟩ P) 60) = w0 := ⟨_, rfl⟩
  obtain ⟨hB, hK⟩ := HG.out _ hw0
  rw [hw0]
  clear hw0 HG
  have HB := Lib.hid hB
  have HK := Lib.hid hK
  ((with_reducible refine (HFw.out _ (HR.out.below hB)).mono ?_); rintro e w1 ⟨rfl, hb1⟩)
  have HK1 := Lib.hid (hK.kept hb1)
  have HB1 := Lib.hid (HB.out.trans (hb1.mono HB.out.size))
  have HR1 := Lib.hid ((HR.out.below hB).below hb1)
  have s0 : w1.cell? ⟨w.heap.size, 0, none⟩ = some (.slice A n cap) := HK1.out.cell 0
  have s1 : w1.cell? ⟨w.heap.size, 1, none⟩ = some (.int .i64 sh) := HK1.out.cell 1
  have s2 : w1.cell? ⟨w.heap.size, 2, none⟩ = some (.int .i64 ra) := HK1.out.cell 2
  have s3 : w1.cell? ⟨w.heap.size, 3, none⟩ = some (.int .i64 mo) := HK1.out.cell 3
  have s4 : w1.cell? ⟨w.heap.size, 4, none⟩ = some (.int .i64 wk) := HK1.out.cell 4
  have s5 : w1.cell? ⟨w.heap.size, 5, none⟩ = some (.int .i64 ba) := HK1.out.cell 5
  have s6 : w1.cell? ⟨w.heap.size, 6, none⟩ = some (.int .i64 mi) := HK1.out.cell 6
  have s7 : w1.cell? ⟨w.heap.size, 7, none⟩ = some (.int .i64 st) := HK1.out.cell 7
  have s8 : w1.cell? ⟨w.heap.size, 8, none⟩ = some (.int .i64 bu) := HK1.out.cell 8
  have s9 : w1.cell? ⟨w.heap.size, 9, none⟩ = some (.int .i64 ch) := HK1.out.cell 9
  have s10 : w1.cell? ⟨w.heap.size, 10, none⟩ = some (.int .i64 wi) := HK1.out.cell 10
  have s11 : w1.cell? ⟨w.heap.size, 11, none⟩ = some (.int .i64 ca) := HK1.out.cell 11
  have s12 : w1.cell? ⟨w.heap.size, 12, none⟩ = some (.int .i64 P) := HK1.out.cell 12
  have ls := HK1.out.lt
  clear hB hK hb1 HB HK
  go_wp2_with fail
  ((with_reducible refine (HRi.out _ HR1.out).mono ?_); rintro e w2 ⟨rfl, hb2⟩)
  clear s0 s1 s2 s3 s4 s5 s6 s7 s8 s9 s10 s11 s12 ls
  have HK2 := Lib.hid (HK1.out.kept hb2)
  have HB2 := Lib.hid (HB1.out.trans (hb2.mono HB1.out.size))
  have HR2 := Lib.hid (HR1.out.below hb2)
  have s0 : w2.cell? ⟨w.heap.size, 0, none⟩ = some (.slice A n cap) := HK2.out.cell 0
  have s1 : w2.cell? ⟨w.heap.size, 1, none⟩ = some (.int .i64 sh) := HK2.out.cell 1
  have s2 : w2.cell? ⟨w.heap.size, 2, none⟩ = some (.int .i64 ra) := HK2.out.cell 2
  have s3 : w2.cell? ⟨w.heap.size, 3, none⟩ = some (.int .i64 mo) := HK2.out.cell 3
  have s4 : w2.cell? ⟨w.heap.size, 4, none⟩ = some (.int .i64 wk) := HK2.out.cell 4
  have s5 : w2.cell? ⟨w.heap.size, 5, none⟩ = some (.int .i64 ba) := HK2.out.cell 5
  have s6 : w2.cell? ⟨w.heap.size, 6, none⟩ = some (.int .i64 mi) := HK2.out.cell 6
  have s7 : w2.cell? ⟨w.heap.size, 7, none⟩ = some (.int .i64 st) := HK2.out.cell 7
  have s8 : w2.cell? ⟨w.heap.size, 8, none⟩ = some (.int .i64 bu) := HK2.out.cell 8
  have s9 : w2.cell? ⟨w.heap.size, 9, none⟩ = some (.int .i64 ch) := HK2.out.cell 9
  have s10 : w2.cell? ⟨w.heap.size, 10, none⟩ = some (.int .i64 wi) := HK2.out.cell 10
  have s11 : w2.cell? ⟨w.heap.size, 11, none⟩ = some (.int .i64 ca) := HK2.out.cell 11
  have s12 : w2.cell? ⟨w.heap.size, 12, none⟩ = some (.int .i64 P) := HK2.out.cell 12
  have ls := HK2.out.lt
  clear hb2 HK1 HB1 HR1
  go_wp2_with fail
  ((with_reducible refine (HNew.out _ HR2.out).mono ?_); rintro e w3 ⟨b, rfl, hpl, hb3⟩)
  clear s0 s1 s2 s3 s4 s5 s6 s7 s8 s9 s10 s11 s12 ls
  have HK3 := Lib.hid (HK2.out.kept hb3)
  have HB3 := Lib.hid (HB2.out.trans (hb3.mono HB2.out.size))
  have HR3 := Lib.hid (HR2.out.below hb3)
  have HPL := Lib.hid hpl
  have s0 : w3.cell? ⟨w.heap.size, 0, none⟩ = some (.slice A n cap) := HK3.out.cell 0
  have s1 : w3.cell? ⟨w.heap.size, 1, none⟩ = some (.int .i64 sh) := HK3.out.cell 1
  have s2 : w3.cell? ⟨w.heap.size, 2, none⟩ = some (.int .i64 ra) := HK3.out.cell 2
  have s3 : w3.cell? ⟨w.heap.size, 3, none⟩ = some (.int .i64 mo) := HK3.out.cell 3
  have s4 : w3.cell? ⟨w.heap.size, 4, none⟩ = some (.int .i64 wk) := HK3.out.cell 4
  have s5 : w3.cell? ⟨w.heap.size, 5, none⟩ = some (.int .i64 ba) := HK3.out.cell 5
  have s6 : w3.cell? ⟨w.heap.size, 6, none⟩ = some (.int .i64 mi) := HK3.out.cell 6
  have s7 : w3.cell? ⟨w.heap.size, 7, none⟩ = some (.int .i64 st) := HK3.out.cell 7
  have s8 : w3.cell? ⟨w.heap.size, 8, none⟩ = some (.int .i64 bu) := HK3.out.cell 8
  have s9 : w3.cell? ⟨w.heap.size, 9, none⟩ = some (.int .i64 ch) := HK3.out.cell 9
  have s10 : w3.cell? ⟨w.heap.size, 10, none⟩ = some (.int .i64 wi) := HK3.out.cell 10
  have s11 : w3.cell? ⟨w.heap.size, 11, none⟩ = some (.int .i64 ca) := HK3.out.cell 11
  have s12 : w3.cell? ⟨w.heap.size, 12, none⟩ = some (.int .i64 P) := HK3.out.cell 12
  have ls := HK3.out.lt
  clear hb3 hpl HK2 HB2 HR2
  unfold zeroItemV at HItem
  go_wp2_with fail
  ((with_reducible refine (HItem.out b _ HPL.out).mono ?_); rintro e w4 ⟨rfl, hb4⟩)
  have HK4 := Lib.hid (HK3.out.kept hb4)
  have HB4 := Lib.hid (HB3.out.trans (hb4.mono HB3.out.size))
  clear hb4 HK3 HB3 HPL HR3
  obtain ⟨pb, hpb⟩ : ∃ pb, w.heap.size = pb := ⟨_, rfl⟩
  rw [hpb] at HK4 ⊢
  have HPB := Lib.hid hpb
  clear hpb
  have HAL : Hid (∀ W, w4.alloc (.cells #[.int .i64 0, .int .i64 0, .int .i64 0, .bool false, .bool false, .int .i64 0, .int .i64 0, .int .i64 0, .int .i64 0, .int .i64 0, .int .i64 0, .int .i64 0] 78) = W → Below w4.heap.size w4 W ∧ Blk W w4.heap.size 78 #[.int .i64 0, .int .i64 0, .int .i64 0, .bool false, .bool false, .int .i64 0, .int .i64 0, .int .i64 0, .int .i64 0, .int .i64 0, .int .i64 0, .int .i64 0]) := Lib.hid (by
    rintro W rfl
    exact ⟨(Below.refl _ _).alloc (Nat.le_refl _) _, Blk.new _ _ _⟩)
  have s0 : w4.cell? ⟨pb, 0, none⟩ = some (.slice A n cap) := HK4.out.cell 0
  have s1 : w4.cell? ⟨pb, 1, none⟩ = some (.int .i64 sh) := HK4.out.cell 1
  have s2 : w4.cell? ⟨pb, 2, none⟩ = some (.int .i64 ra) := HK4.out.cell 2
  have s3 : w4.cell? ⟨pb, 3, none⟩ = some (.int .i64 mo) := HK4.out.cell 3
  have s4 : w4.cell? ⟨pb, 4, none⟩ = some (.int .i64 wk) := HK4.out.cell 4
  have s5 : w4.cell? ⟨pb, 5, none⟩ = some (.int .i64 ba) := HK4.out.cell 5
  have s6 : w4.cell? ⟨pb, 6, none⟩ = some (.int .i64 mi) := HK4.out.cell 6
  have s7 : w4.cell? ⟨pb, 7, none⟩ = some (.int .i64 st) := HK4.out.cell 7
  have s8 : w4.cell? ⟨pb, 8, none⟩ = some (.int .i64 bu) := HK4.out.cell 8
  have s9 : w4.cell? ⟨pb, 9, none⟩ = some (.int .i64 ch) := HK4.out.cell 9
  have s10 : w4.cell? ⟨pb, 10, none⟩ = some (.int .i64 wi) := HK4.out.cell 10
  have s11 : w4.cell? ⟨pb, 11, none⟩ = some (.int .i64 ca) := HK4.out.cell 11
  have s12 : w4.cell? ⟨pb, 12, none⟩ = some (.int .i64 P) := HK4.out.cell 12
  have ls := HK4.out.lt
  go_wp2_with fail
  obtain ⟨w5, hw5⟩ : ∃ w5, w4.alloc (.cells #[.int .i64 0, .int .i64 0, .int .i64 0, .bool false, .bool false, .int .i64 0, .int .i64 0, .int .i64 0, .int .i64 0, .int .i64 0, .int .i64 0, .int .i64 0] 78) = w5 := ⟨_, rfl⟩
  obtain ⟨hb5, hi5⟩ := HAL.out _ hw5
  rw [hw5]
  have HK5 := Lib.hid (HK4.out.kept hb5)
  have HB5 := Lib.hid (HB4.out.trans (hb5.mono HB4.out.size))
  obtain ⟨ib, hib⟩ : ∃ ib, w4.heap.size = ib := ⟨_, rfl⟩
  rw [hib] at hi5 ⊢
  have HI5 := Lib.hid hi5
  clear hw5 hb5 hi5 HAL hib
  ((with_reducible refine (HIt.out _).mono ?_); rintro e w6 ⟨A6, c6, rfl, hown6, hb6⟩)
  have HK6 := Lib.hid (HK5.out.kept hb6)
  have HB6 := Lib.hid (HB5.out.trans (hb6.mono HB5.out.size))
  have HI6 := Lib.hid (HI5.out.kept hb6)
  have s0 : w6.cell? ⟨pb, 0, none⟩ = some (.slice A n cap) := HK6.out.cell 0
  have s1 : w6.cell? ⟨pb, 1, none⟩ = some (.int .i64 sh) := HK6.out.cell 1
  have s2 : w6.cell? ⟨pb, 2, none⟩ = some (.int .i64 ra) := HK6.out.cell 2
  have s3 : w6.cell? ⟨pb, 3, none⟩ = some (.int .i64 mo) := HK6.out.cell 3
  have s4 : w6.cell? ⟨pb, 4, none⟩ = some (.int .i64 wk) := HK6.out.cell 4
  have s5 : w6.cell? ⟨pb, 5, none⟩ = some (.int .i64 ba) := HK6.out.cell 5
  have s6 : w6.cell? ⟨pb, 6, none⟩ = some (.int .i64 mi) := HK6.out.cell 6
  have s7 : w6.cell? ⟨pb, 7, none⟩ = some (.int .i64 st) := HK6.out.cell 7
  have s8 : w6.cell? ⟨pb, 8, none⟩ = some (.int .i64 bu) := HK6.out.cell 8
  have s9 : w6.cell? ⟨pb, 9, none⟩ = some (.int .i64 ch) := HK6.out.cell 9
  have s10 : w6.cell? ⟨pb, 10, none⟩ = some (.int .i64 wi) := HK6.out.cell 10
  have s11 : w6.cell? ⟨pb, 11, none⟩ = some (.int .i64 ca) := HK6.out.cell 11
  have s12 : w6.cell? ⟨pb, 12, none⟩ = some (.int .i64 P) := HK6.out.cell 12
  have ls := HK6.out.lt
  clear hown6 hb6
  go_wp2_with fail
  go_quiet (fail)
  obtain ⟨w7, hw7⟩ : ∃ w7, w6.drewN nq = w7 := ⟨_, rfl⟩
  have hb7 : Below w6.heap.size w6 w7 := by rw [← hw7]; exact below_drewN (Below.refl _ _) _
  have HB7 := Lib.hid (HB6.out.trans (hb7.mono HB6.out.size))
  have HI7 := Lib.hid (HI6.out.kept hb7)
  rw [hw7]
  clear hw7 hb7
  go_wp2_with fail
  ((with_reducible refine (HAl.out _).mono ?_); rintro e w8 ⟨rfl, hb8⟩)
  have HB8 := Lib.hid (HB7.out.trans (hb8.mono HB7.out.size))
  have hi8 := HI7.out.kept hb8
  have z0 : w8.cell? ⟨ib, 0, none⟩ = some (.int .i64 0) := hi8.cell 0
  have z1 : w8.cell? ⟨ib, 1, none⟩ = some (.int .i64 0) := hi8.cell 1
  have z2 : w8.cell? ⟨ib, 2, none⟩ = some (.int .i64 0) := hi8.cell 2
  have z3 : w8.cell? ⟨ib, 3, none⟩ = some (.bool false) := hi8.cell 3
  have z4 : w8.cell? ⟨ib, 4, none⟩ = some (.bool false) := hi8.cell 4
  have z5 : w8.cell? ⟨ib, 5, none⟩ = some (.int .i64 0) := hi8.cell 5
  have z6 : w8.cell? ⟨ib, 6, none⟩ = some (.int .i64 0) := hi8.cell 6
  have z7 : w8.cell? ⟨ib, 7, none⟩ = some (.int .i64 0) := hi8.cell 7
  have z8 : w8.cell? ⟨ib, 8, none⟩ = some (.int .i64 0) := hi8.cell 8
  have z9 : w8.cell? ⟨ib, 9, none⟩ = some (.int .i64 0) := hi8.cell 9
  have z10 : w8.cell? ⟨ib, 10, none⟩ = some (.int .i64 0) := hi8.cell 10
  have z11 : w8.cell? ⟨ib, 11, none⟩ = some (.int .i64 0) := hi8.cell 11
  have lz := hi8.lt
  clear hb8 hi8
  go_wp2_with fail
  ((with_reducible refine (HBZ.out _).mono ?_); rintro e w9 ⟨rfl, hb9⟩)
  have HB9 := Lib.hid (HB8.out.trans (hb9.mono HB8.out.size))
  clear hb9
  go_wp2_with fail
  go_ret
  exact ⟨rfl, HB9.out⟩

set_option maxHeartbeats 2000000 in
theorem planItems_late (hl : l.length = n) (h : Rd w 1 A n (iv l)) (hcap : n ≤ cap) (hfw : fewPB n l c P = true) (hri : rightB l c P = true) (hi63 : i ≤ 9223372036854775807) (hi0 : 0 ≤ i) (hz : (pcOf c P.toNat).lenI x ≠ 0) (hno : c.st ≤ i / ((pcOf c P.toNat).lenI x : Int)) :
    Calls Try.prog 8 #[rplV A n cap c P, .int .i64 x, .int .i64 i] w fun e w' => e = .returned (.bool true) ∧ Below w.heap.size w w' := by
  obtain ⟨hn, hok, hp, hf, hP⟩ := near_of hfw hri
  have HG : Hid (∀ W, w.alloc (.cells (rplC A n cap c P) 60) = W → Below w.heap.size w W ∧ Blk W w.heap.size 60 (rplC A n cap c P)) := Lib.hid (by
    rintro W rfl
    exact ⟨(Below.refl _ _).alloc (Nat.le_refl _) _, Blk.new _ _ _⟩)
  have CF := fun W (r : Rd W 1 A n (iv l)) => refFew_any A n cap l c P W hl r
  have CR := fun W (r : Rd W 1 A n (iv l)) => refRight_any A n cap l c P W hl r (by omega)
  rw [hfw] at CF
  rw [hri] at CR
  obtain ⟨pc, hpc⟩ : ∃ pc, pcOf c P.toNat = pc := ⟨_, rfl⟩
  rw [hpc] at hp hf hP
  have HFw := Lib.hid CF
  have HRi := Lib.hid CR
  have HNew := Lib.hid (fun W (r : Rd W 1 A n (iv l)) => planNew_good A n cap l c P W pc hp hl r hcap (by omega) hok hf.wk hf.ch hf.mi hf.wi hf.bu hP)
  have HR := Lib.hid h
  have HAl := Lib.hid alive20_any
  rw [hpc] at hno
  have HItem := Lib.hid (fun b W (h : PlanAt W b pc c A n cap) => planItem_none pc c A n cap b x i W hi63 (by rintro ⟨a1, a2, a3, a4⟩; omega) h)
  have CI := fun W => refItems20_any pc c A n cap P x 0 W hp hf hP
  rw [pc.rItemsI_length x 0] at CI
  obtain ⟨q, hq⟩ : ∃ q, pc.lenI x = q := ⟨_, rfl⟩
  rw [hq] at CI hno
  have HIt := Lib.hid CI
  have HBZ := Lib.hid (fun W => back20_any 0 0 0 false false 0 0 0 0 0 0 0 W)
  have hz' : q ≠ 0 := by rw [← hq, ← hpc]; exact hz
  obtain ⟨k, rfl⟩ := Int.eq_ofNat_of_zero_le hi0
  obtain ⟨d, hd⟩ : ∃ d, k / q = d := ⟨_, rfl⟩
  have hdle : d ≤ k := by rw [← hd]; exact Nat.div_le_self _ _
  have hqi : (k : Int) / (q : Int) = (d : Int) := by rw [← hd]; rfl
  have zq : IntKind.i64.wrap ((k : Int) / (q : Int)) = (d : Int) := by rw [hqi]; exact IntWalk.i64_in _ (by omega)
  rw [hqi] at hno
  have zn : ¬ q = 0 := hz'
  obtain ⟨sh, ra, mo, wk, ba, mi, st, bu, ch, wi, ca⟩ := c
  have e1 : decide ((k : Int) < 0) = false := decide_eq_false (by omega)
  have e0 : ((q : Int) == 0) = false := by simp; omega
  have e2 : decide (st ≤ (d : Int)) = true := decide_eq_true hno
  clear hl h hfw hri hn hok hp hf hP hpc CF CR hcap CI hq hno hz hqi hd hi0
  go_enter Try.func8, Try.ntmps8
  go_wp2_with fail
  obtain ⟨w0, hw0⟩ : ∃ w0, w.alloc (.cells (rplC A n cap ⟨sh, ra, mo, wk, ba, mi, st, bu, ch, wi, ca⟩ P) 60) = w0 := ⟨_, rfl⟩
  obtain ⟨hB, hK⟩ := HG.out _ hw0
  rw [hw0]
  clear hw0 HG
  have HB := Lib.hid hB
  have HK := Lib.hid hK
  ((with_reducible refine (HFw.out _ (HR.out.below hB)).mono ?_); rintro e w1 ⟨rfl, hb1⟩)
  have HK1 := Lib.hid (hK.kept hb1)
  have HB1 := Lib.hid (HB.out.trans (hb1.mono HB.out.size))
  have HR1 := Lib.hid ((HR.out.below hB).below hb1)
  have s0 : w1.cell? ⟨w.heap.size, 0, none⟩ = some (.slice A n cap) := HK1.out.cell 0
  have s1 : w1.cell? ⟨w.heap.size, 1, none⟩ = some (.int .i64 sh) := HK1.out.cell 1
  have s2 : w1.cell? ⟨w.heap.size, 2, none⟩ = some (.int .i64 ra) := HK1.out.cell 2
  have s3 : w1.cell? ⟨w.heap.size, 3, none⟩ = some (.int .i64 mo) := HK1.out.cell 3
  have s4 : w1.cell? ⟨w.heap.size, 4, none⟩ = some (.int .i64 wk) := HK1.out.cell 4
  have s5 : w1.cell? ⟨w.heap.size, 5, none⟩ = some (.int .i64 ba) := HK1.out.cell 5
  have s6 : w1.cell? ⟨w.heap.size, 6, none⟩ = some (.int .i64 mi) := HK1.out.cell 6
  have s7 : w1.cell? ⟨w.heap.size, 7, none⟩ = some (.int .i64 st) := HK1.out.cell 7
  have s8 : w1.cell? ⟨w.heap.size, 8, none⟩ = some (.int .i64 bu) := HK1.out.cell 8
  have s9 : w1.cell? ⟨w.heap.size, 9, none⟩ = some (.int .i64 ch) := HK1.out.cell 9
  have s10 : w1.cell? ⟨w.heap.size, 10, none⟩ = some (.int .i64 wi) := HK1.out.cell 10
  have s11 : w1.cell? ⟨w.heap.size, 11, none⟩ = some (.int .i64 ca) := HK1.out.cell 11
  have s12 : w1.cell? ⟨w.heap.size, 12, none⟩ = some (.int .i64 P) := HK1.out.cell 12
  have ls := HK1.out.lt
  clear hB hK hb1 HB HK
  go_wp2_with fail
  ((with_reducible refine (HRi.out _ HR1.out).mono ?_); rintro e w2 ⟨rfl, hb2⟩)
  clear s0 s1 s2 s3 s4 s5 s6 s7 s8 s9 s10 s11 s12 ls
  have HK2 := Lib.hid (HK1.out.kept hb2)
  have HB2 := Lib.hid (HB1.out.trans (hb2.mono HB1.out.size))
  have HR2 := Lib.hid (HR1.out.below hb2)
  have s0 : w2.cell? ⟨w.heap.size, 0, none⟩ = some (.slice A n cap) := HK2.out.cell 0
  have s1 : w2.cell? ⟨w.heap.size, 1, none⟩ = some (.int .i64 sh) := HK2.out.cell 1
  have s2 : w2.cell? ⟨w.heap.size, 2, none⟩ = some (.int .i64 ra) := HK2.out.cell 2
  have s3 : w2.cell? ⟨w.heap.size, 3, none⟩ = some (.int .i64 mo) := HK2.out.cell 3
  have s4 : w2.cell? ⟨w.heap.size, 4, none⟩ = some (.int .i64 wk) := HK2.out.cell 4
  have s5 : w2.cell? ⟨w.heap.size, 5, none⟩ = some (.int .i64 ba) := HK2.out.cell 5
  have s6 : w2.cell? ⟨w.heap.size, 6, none⟩ = some (.int .i64 mi) := HK2.out.cell 6
  have s7 : w2.cell? ⟨w.heap.size, 7, none⟩ = some (.int .i64 st) := HK2.out.cell 7
  have s8 : w2.cell? ⟨w.heap.size, 8, none⟩ = some (.int .i64 bu) := HK2.out.cell 8
  have s9 : w2.cell? ⟨w.heap.size, 9, none⟩ = some (.int .i64 ch) := HK2.out.cell 9
  have s10 : w2.cell? ⟨w.heap.size, 10, none⟩ = some (.int .i64 wi) := HK2.out.cell 10
  have s11 : w2.cell? ⟨w.heap.size, 11, none⟩ = some (.int .i64 ca) := HK2.out.cell 11
  have s12 : w2.cell? ⟨w.heap.size, 12, none⟩ = some (.int .i64 P) := HK2.out.cell 12
  have ls := HK2.out.lt
  clear hb2 HK1 HB1 HR1
  go_wp2_with fail
  ((with_reducible refine (HNew.out _ HR2.out).mono ?_); rintro e w3 ⟨b, rfl, hpl, hb3⟩)
  clear s0 s1 s2 s3 s4 s5 s6 s7 s8 s9 s10 s11 s12 ls
  have HK3 := Lib.hid (HK2.out.kept hb3)
  have HB3 := Lib.hid (HB2.out.trans (hb3.mono HB2.out.size))
  have HR3 := Lib.hid (HR2.out.below hb3)
  have HPL := Lib.hid hpl
  have s0 : w3.cell? ⟨w.heap.size, 0, none⟩ = some (.slice A n cap) := HK3.out.cell 0
  have s1 : w3.cell? ⟨w.heap.size, 1, none⟩ = some (.int .i64 sh) := HK3.out.cell 1
  have s2 : w3.cell? ⟨w.heap.size, 2, none⟩ = some (.int .i64 ra) := HK3.out.cell 2
  have s3 : w3.cell? ⟨w.heap.size, 3, none⟩ = some (.int .i64 mo) := HK3.out.cell 3
  have s4 : w3.cell? ⟨w.heap.size, 4, none⟩ = some (.int .i64 wk) := HK3.out.cell 4
  have s5 : w3.cell? ⟨w.heap.size, 5, none⟩ = some (.int .i64 ba) := HK3.out.cell 5
  have s6 : w3.cell? ⟨w.heap.size, 6, none⟩ = some (.int .i64 mi) := HK3.out.cell 6
  have s7 : w3.cell? ⟨w.heap.size, 7, none⟩ = some (.int .i64 st) := HK3.out.cell 7
  have s8 : w3.cell? ⟨w.heap.size, 8, none⟩ = some (.int .i64 bu) := HK3.out.cell 8
  have s9 : w3.cell? ⟨w.heap.size, 9, none⟩ = some (.int .i64 ch) := HK3.out.cell 9
  have s10 : w3.cell? ⟨w.heap.size, 10, none⟩ = some (.int .i64 wi) := HK3.out.cell 10
  have s11 : w3.cell? ⟨w.heap.size, 11, none⟩ = some (.int .i64 ca) := HK3.out.cell 11
  have s12 : w3.cell? ⟨w.heap.size, 12, none⟩ = some (.int .i64 P) := HK3.out.cell 12
  have ls := HK3.out.lt
  clear hb3 hpl HK2 HB2 HR2
  unfold zeroItemV at HItem
  go_wp2_with fail
  ((with_reducible refine (HItem.out b _ HPL.out).mono ?_); rintro e w4 ⟨rfl, hb4⟩)
  have HK4 := Lib.hid (HK3.out.kept hb4)
  have HB4 := Lib.hid (HB3.out.trans (hb4.mono HB3.out.size))
  clear hb4 HK3 HB3 HPL HR3
  obtain ⟨pb, hpb⟩ : ∃ pb, w.heap.size = pb := ⟨_, rfl⟩
  rw [hpb] at HK4 ⊢
  have HPB := Lib.hid hpb
  clear hpb
  have HAL : Hid (∀ W, w4.alloc (.cells #[.int .i64 0, .int .i64 0, .int .i64 0, .bool false, .bool false, .int .i64 0, .int .i64 0, .int .i64 0, .int .i64 0, .int .i64 0, .int .i64 0, .int .i64 0] 78) = W → Below w4.heap.size w4 W ∧ Blk W w4.heap.size 78 #[.int .i64 0, .int .i64 0, .int .i64 0, .bool false, .bool false, .int .i64 0, .int .i64 0, .int .i64 0, .int .i64 0, .int .i64 0, .int .i64 0, .int .i64 0]) := Lib.hid (by
    rintro W rfl
    exact ⟨(Below.refl _ _).alloc (Nat.le_refl _) _, Blk.new _ _ _⟩)
  have s0 : w4.cell? ⟨pb, 0, none⟩ = some (.slice A n cap) := HK4.out.cell 0
  have s1 : w4.cell? ⟨pb, 1, none⟩ = some (.int .i64 sh) := HK4.out.cell 1
  have s2 : w4.cell? ⟨pb, 2, none⟩ = some (.int .i64 ra) := HK4.out.cell 2
  have s3 : w4.cell? ⟨pb, 3, none⟩ = some (.int .i64 mo) := HK4.out.cell 3
  have s4 : w4.cell? ⟨pb, 4, none⟩ = some (.int .i64 wk) := HK4.out.cell 4
  have s5 : w4.cell? ⟨pb, 5, none⟩ = some (.int .i64 ba) := HK4.out.cell 5
  have s6 : w4.cell? ⟨pb, 6, none⟩ = some (.int .i64 mi) := HK4.out.cell 6
  have s7 : w4.cell? ⟨pb, 7, none⟩ = some (.int .i64 st) := HK4.out.cell 7
  have s8 : w4.cell? ⟨pb, 8, none⟩ = some (.int .i64 bu) := HK4.out.cell 8
  have s9 : w4.cell? ⟨pb, 9, none⟩ = some (.int .i64 ch) := HK4.out.cell 9
  have s10 : w4.cell? ⟨pb, 10, none⟩ = some (.int .i64 wi) := HK4.out.cell 10
  have s11 : w4.cell? ⟨pb, 11, none⟩ = some (.int .i64 ca) := HK4.out.cell 11
  have s12 : w4.cell? ⟨pb, 12, none⟩ = some (.int .i64 P) := HK4.out.cell 12
  have ls := HK4.out.lt
  go_wp2_with fail
  obtain ⟨w5, hw5⟩ : ∃ w5, w4.alloc (.cells #[.int .i64 0, .int .i64 0, .int .i64 0, .bool false, .bool false, .int .i64 0, .int .i64 0, .int .i64 0, .int .i64 0, .int .i64 0, .int .i64 0, .int .i64 0] 78) = w5 := ⟨_, rfl⟩
  obtain ⟨hb5, hi5⟩ := HAL.out _ hw5
  rw [hw5]
  have HK5 := Lib.hid (HK4.out.kept hb5)
  have HB5 := Lib.hid (HB4.out.trans (hb5.mono HB4.out.size))
  obtain ⟨ib, hib⟩ : ∃ ib, w4.heap.size = ib := ⟨_, rfl⟩
  rw [hib] at hi5 ⊢
  have HI5 := Lib.hid hi5
  clear hw5 hb5 hi5 HAL hib
  ((with_reducible refine (HIt.out _).mono ?_); rintro e w6 ⟨A6, c6, rfl, hown6, hb6⟩)
  have HK6 := Lib.hid (HK5.out.kept hb6)
  have HB6 := Lib.hid (HB5.out.trans (hb6.mono HB5.out.size))
  have HI6 := Lib.hid (HI5.out.kept hb6)
  have s0 : w6.cell? ⟨pb, 0, none⟩ = some (.slice A n cap) := HK6.out.cell 0
  have s1 : w6.cell? ⟨pb, 1, none⟩ = some (.int .i64 sh) := HK6.out.cell 1
  have s2 : w6.cell? ⟨pb, 2, none⟩ = some (.int .i64 ra) := HK6.out.cell 2
  have s3 : w6.cell? ⟨pb, 3, none⟩ = some (.int .i64 mo) := HK6.out.cell 3
  have s4 : w6.cell? ⟨pb, 4, none⟩ = some (.int .i64 wk) := HK6.out.cell 4
  have s5 : w6.cell? ⟨pb, 5, none⟩ = some (.int .i64 ba) := HK6.out.cell 5
  have s6 : w6.cell? ⟨pb, 6, none⟩ = some (.int .i64 mi) := HK6.out.cell 6
  have s7 : w6.cell? ⟨pb, 7, none⟩ = some (.int .i64 st) := HK6.out.cell 7
  have s8 : w6.cell? ⟨pb, 8, none⟩ = some (.int .i64 bu) := HK6.out.cell 8
  have s9 : w6.cell? ⟨pb, 9, none⟩ = some (.int .i64 ch) := HK6.out.cell 9
  have s10 : w6.cell? ⟨pb, 10, none⟩ = some (.int .i64 wi) := HK6.out.cell 10
  have s11 : w6.cell? ⟨pb, 11, none⟩ = some (.int .i64 ca) := HK6.out.cell 11
  have s12 : w6.cell? ⟨pb, 12, none⟩ = some (.int .i64 P) := HK6.out.cell 12
  have ls := HK6.out.lt
  clear hown6 hb6
  go_wp2_with fail
  go_quiet (fail)
  obtain ⟨w7, hw7⟩ : ∃ w7, w6.drewN nq = w7 := ⟨_, rfl⟩
  have hb7 : Below w6.heap.size w6 w7 := by rw [← hw7]; exact below_drewN (Below.refl _ _) _
  have HB7 := Lib.hid (HB6.out.trans (hb7.mono HB6.out.size))
  have HI7 := Lib.hid (HI6.out.kept hb7)
  rw [hw7]
  clear hw7 hb7
  go_wp2_with fail
  ((with_reducible refine (HAl.out _).mono ?_); rintro e w8 ⟨rfl, hb8⟩)
  have HB8 := Lib.hid (HB7.out.trans (hb8.mono HB7.out.size))
  have hi8 := HI7.out.kept hb8
  have z0 : w8.cell? ⟨ib, 0, none⟩ = some (.int .i64 0) := hi8.cell 0
  have z1 : w8.cell? ⟨ib, 1, none⟩ = some (.int .i64 0) := hi8.cell 1
  have z2 : w8.cell? ⟨ib, 2, none⟩ = some (.int .i64 0) := hi8.cell 2
  have z3 : w8.cell? ⟨ib, 3, none⟩ = some (.bool false) := hi8.cell 3
  have z4 : w8.cell? ⟨ib, 4, none⟩ = some (.bool false) := hi8.cell 4
  have z5 : w8.cell? ⟨ib, 5, none⟩ = some (.int .i64 0) := hi8.cell 5
  have z6 : w8.cell? ⟨ib, 6, none⟩ = some (.int .i64 0) := hi8.cell 6
  have z7 : w8.cell? ⟨ib, 7, none⟩ = some (.int .i64 0) := hi8.cell 7
  have z8 : w8.cell? ⟨ib, 8, none⟩ = some (.int .i64 0) := hi8.cell 8
  have z9 : w8.cell? ⟨ib, 9, none⟩ = some (.int .i64 0) := hi8.cell 9
  have z10 : w8.cell? ⟨ib, 10, none⟩ = some (.int .i64 0) := hi8.cell 10
  have z11 : w8.cell? ⟨ib, 11, none⟩ = some (.int .i64 0) := hi8.cell 11
  have lz := hi8.lt
  clear hb8 hi8
  go_wp2_with fail
  ((with_reducible refine (HBZ.out _).mono ?_); rintro e w9 ⟨rfl, hb9⟩)
  have HB9 := Lib.hid (HB8.out.trans (hb9.mono HB8.out.size))
  clear hb9
  go_wp2_with fail
  go_ret
  exact ⟨rfl, HB9.out⟩

set_option maxHeartbeats 4000000 in
theorem planItems_some (k : Nat) (hl : l.length = n) (h : Rd w 1 A n (iv l)) (hcap : n ≤ cap) (hfw : fewPB n l c P = true) (hri : rightB l c P = true) (hi63 : k ≤ 9223372036854775807) (hz : (pcOf c P.toNat).lenI x ≠ 0) (hlt : (k : Int) / ((pcOf c P.toNat).lenI x : Int) < c.st) :
    Calls Try.prog 8 #[rplV A n cap c P, .int .i64 x, .int .i64 k] w fun e w' => e = .returned (.bool true) ∧ Below w.heap.size w w' := by
  obtain ⟨hn, hok, hp, hf, hP⟩ := near_of hfw hri
  have HG : Hid (∀ W, w.alloc (.cells (rplC A n cap c P) 60) = W → Below w.heap.size w W ∧ Blk W w.heap.size 60 (rplC A n cap c P)) := Lib.hid (by
    rintro W rfl
    exact ⟨(Below.refl _ _).alloc (Nat.le_refl _) _, Blk.new _ _ _⟩)
  have CF := fun W (r : Rd W 1 A n (iv l)) => refFew_any A n cap l c P W hl r
  have CR := fun W (r : Rd W 1 A n (iv l)) => refRight_any A n cap l c P W hl r (by omega)
  rw [hfw] at CF
  rw [hri] at CR
  obtain ⟨pc, hpc⟩ : ∃ pc, pcOf c P.toNat = pc := ⟨_, rfl⟩
  rw [hpc] at hp hf hP
  have HFw := Lib.hid CF
  have HRi := Lib.hid CR
  have HNew := Lib.hid (fun W (r : Rd W 1 A n (iv l)) => planNew_good A n cap l c P W pc hp hl r hcap (by omega) hok hf.wk hf.ch hf.mi hf.wi hf.bu hP)
  have HR := Lib.hid h
  have HAl := Lib.hid alive20_any
  rw [hpc] at hz hlt
  obtain ⟨q, hq⟩ : ∃ q, pc.lenI x = q := ⟨_, rfl⟩
  have hxx := (pc.lenI_pos x).2 hz
  rw [hq] at hz hlt
  obtain ⟨d, hd⟩ : ∃ d, k / q = d := ⟨_, rfl⟩
  obtain ⟨r, hr⟩ : ∃ r, k % q = r := ⟨_, rfl⟩
  have hdle : d ≤ k := by rw [← hd]; exact Nat.div_le_self _ _
  have hqi : (k : Int) / (q : Int) = (d : Int) := by rw [← hd]; rfl
  have hri2 : (k : Int).tmod (q : Int) = (r : Int) := by rw [← hr]; rfl
  have zq : IntKind.i64.wrap ((k : Int) / (q : Int)) = (d : Int) := by rw [hqi]; exact IntWalk.i64_in _ (by omega)
  rw [hqi] at hlt
  have zn : ¬ q = 0 := hz
  have hrq : r < q := by rw [← hr]; exact Nat.mod_lt _ (by omega)
  have hlen : (pc.itemsI x d).length = q := by
    rw [← hq, pc.itemsI_len x d 0]
    exact (if_pos hxx).symm
  obtain ⟨y, hy⟩ : ∃ y, (pc.itemsI x d)[r]? = some y := ⟨_, List.getElem?_eq_getElem (by rw [hlen]; exact hrq)⟩
  have CIt := fun b W (h : PlanAt W b pc c A n cap) => planItem_some pc c A n cap b x W hp hf k q d r y hxx.2 hxx.1 hi63 hq hd hr hlt hy h
  have CI := fun W => refItems20_any pc c A n cap P x 0 W hp hf hP
  rw [pc.rItemsI_length x 0, hq] at CI
  have hsi : pc.stepI c.st x d = pc.itemsI x d := if_pos ⟨hxx.1, hxx.2, by omega, hlt⟩
  have CS := fun W => refStep20_any pc c A n cap P x d W hp hf hP
  rw [hsi, hlen] at CS
  obtain ⟨⟨k1, k2, k3⟩, ⟨sd, ad⟩, ⟨s, bk, p, r2, e0⟩, u, v⟩ := y
  simp only [itemV, actV, List.cons_append, List.nil_append] at CIt
  have HItem := Lib.hid CIt
  have HIt := Lib.hid CI
  have HS := Lib.hid CS
  have HY := Lib.hid hy
  have HLEN := Lib.hid hlen
  have HBA := Lib.hid (fun W => back20_any k1 k2 k3 sd ad s bk p r2 e0 u v W)
  obtain ⟨sh, ra, mo, wk, ba, mi, st, bu, ch, wi, ca⟩ := c
  have e1 : decide ((k : Int) < 0) = false := decide_eq_false (by omega)
  have e00 : ((q : Int) == 0) = false := by simp; omega
  have e2 : decide (st ≤ (d : Int)) = false := decide_eq_false (by simpa using hlt)
  clear hl h hfw hri hn hok hp hf hP hpc CF CR hcap CI CIt CS hq hz hlt hqi hd hr hy hlen hsi hxx
  go_enter Try.func8, Try.ntmps8
  go_wp2_with fail
  obtain ⟨w0, hw0⟩ : ∃ w0, w.alloc (.cells (rplC A n cap ⟨sh, ra, mo, wk, ba, mi, st, bu, ch, wi, ca⟩ P) 60) = w0 := ⟨_, rfl⟩
  obtain ⟨hB, hK⟩ := HG.out _ hw0
  rw [hw0]
  clear hw0 HG
  have HB := Lib.hid hB
  have HK := Lib.hid hK
  ((with_reducible refine (HFw.out _ (HR.out.below hB)).mono ?_); rintro e w1 ⟨rfl, hb1⟩)
  have HK1 := Lib.hid (hK.kept hb1)
  have HB1 := Lib.hid (HB.out.trans (hb1.mono HB.out.size))
  have HR1 := Lib.hid ((HR.out.below hB).below hb1)
  have s0 : w1.cell? ⟨w.heap.size, 0, none⟩ = some (.slice A n cap) := HK1.out.cell 0
  have s1 : w1.cell? ⟨w.heap.size, 1, none⟩ = some (.int .i64 sh) := HK1.out.cell 1
  have s2 : w1.cell? ⟨w.heap.size, 2, none⟩ = some (.int .i64 ra) := HK1.out.cell 2
  have s3 : w1.cell? ⟨w.heap.size, 3, none⟩ = some (.int .i64 mo) := HK1.out.cell 3
  have s4 : w1.cell? ⟨w.heap.size, 4, none⟩ = some (.int .i64 wk) := HK1.out.cell 4
  have s5 : w1.cell? ⟨w.heap.size, 5, none⟩ = some (.int .i64 ba) := HK1.out.cell 5
  have s6 : w1.cell? ⟨w.heap.size, 6, none⟩ = some (.int .i64 mi) := HK1.out.cell 6
  have s7 : w1.cell? ⟨w.heap.size, 7, none⟩ = some (.int .i64 st) := HK1.out.cell 7
  have s8 : w1.cell? ⟨w.heap.size, 8, none⟩ = some (.int .i64 bu) := HK1.out.cell 8
  have s9 : w1.cell? ⟨w.heap.size, 9, none⟩ = some (.int .i64 ch) := HK1.out.cell 9
  have s10 : w1.cell? ⟨w.heap.size, 10, none⟩ = some (.int .i64 wi) := HK1.out.cell 10
  have s11 : w1.cell? ⟨w.heap.size, 11, none⟩ = some (.int .i64 ca) := HK1.out.cell 11
  have s12 : w1.cell? ⟨w.heap.size, 12, none⟩ = some (.int .i64 P) := HK1.out.cell 12
  have ls := HK1.out.lt
  clear hB hK hb1 HB HK
  go_wp2_with fail
  ((with_reducible refine (HRi.out _ HR1.out).mono ?_); rintro e w2 ⟨rfl, hb2⟩)
  clear s0 s1 s2 s3 s4 s5 s6 s7 s8 s9 s10 s11 s12 ls
  have HK2 := Lib.hid (HK1.out.kept hb2)
  have HB2 := Lib.hid (HB1.out.trans (hb2.mono HB1.out.size))
  have HR2 := Lib.hid (HR1.out.below hb2)
  have s0 : w2.cell? ⟨w.heap.size, 0, none⟩ = some (.slice A n cap) := HK2.out.cell 0
  have s1 : w2.cell? ⟨w.heap.size, 1, none⟩ = some (.int .i64 sh) := HK2.out.cell 1
  have s2 : w2.cell? ⟨w.heap.size, 2, none⟩ = some (.int .i64 ra) := HK2.out.cell 2
  have s3 : w2.cell? ⟨w.heap.size, 3, none⟩ = some (.int .i64 mo) := HK2.out.cell 3
  have s4 : w2.cell? ⟨w.heap.size, 4, none⟩ = some (.int .i64 wk) := HK2.out.cell 4
  have s5 : w2.cell? ⟨w.heap.size, 5, none⟩ = some (.int .i64 ba) := HK2.out.cell 5
  have s6 : w2.cell? ⟨w.heap.size, 6, none⟩ = some (.int .i64 mi) := HK2.out.cell 6
  have s7 : w2.cell? ⟨w.heap.size, 7, none⟩ = some (.int .i64 st) := HK2.out.cell 7
  have s8 : w2.cell? ⟨w.heap.size, 8, none⟩ = some (.int .i64 bu) := HK2.out.cell 8
  have s9 : w2.cell? ⟨w.heap.size, 9, none⟩ = some (.int .i64 ch) := HK2.out.cell 9
  have s10 : w2.cell? ⟨w.heap.size, 10, none⟩ = some (.int .i64 wi) := HK2.out.cell 10
  have s11 : w2.cell? ⟨w.heap.size, 11, none⟩ = some (.int .i64 ca) := HK2.out.cell 11
  have s12 : w2.cell? ⟨w.heap.size, 12, none⟩ = some (.int .i64 P) := HK2.out.cell 12
  have ls := HK2.out.lt
  clear hb2 HK1 HB1 HR1
  go_wp2_with fail
  ((with_reducible refine (HNew.out _ HR2.out).mono ?_); rintro e w3 ⟨b, rfl, hpl, hb3⟩)
  clear s0 s1 s2 s3 s4 s5 s6 s7 s8 s9 s10 s11 s12 ls
  have HK3 := Lib.hid (HK2.out.kept hb3)
  have HB3 := Lib.hid (HB2.out.trans (hb3.mono HB2.out.size))
  have HR3 := Lib.hid (HR2.out.below hb3)
  have HPL := Lib.hid hpl
  have s0 : w3.cell? ⟨w.heap.size, 0, none⟩ = some (.slice A n cap) := HK3.out.cell 0
  have s1 : w3.cell? ⟨w.heap.size, 1, none⟩ = some (.int .i64 sh) := HK3.out.cell 1
  have s2 : w3.cell? ⟨w.heap.size, 2, none⟩ = some (.int .i64 ra) := HK3.out.cell 2
  have s3 : w3.cell? ⟨w.heap.size, 3, none⟩ = some (.int .i64 mo) := HK3.out.cell 3
  have s4 : w3.cell? ⟨w.heap.size, 4, none⟩ = some (.int .i64 wk) := HK3.out.cell 4
  have s5 : w3.cell? ⟨w.heap.size, 5, none⟩ = some (.int .i64 ba) := HK3.out.cell 5
  have s6 : w3.cell? ⟨w.heap.size, 6, none⟩ = some (.int .i64 mi) := HK3.out.cell 6
  have s7 : w3.cell? ⟨w.heap.size, 7, none⟩ = some (.int .i64 st) := HK3.out.cell 7
  have s8 : w3.cell? ⟨w.heap.size, 8, none⟩ = some (.int .i64 bu) := HK3.out.cell 8
  have s9 : w3.cell? ⟨w.heap.size, 9, none⟩ = some (.int .i64 ch) := HK3.out.cell 9
  have s10 : w3.cell? ⟨w.heap.size, 10, none⟩ = some (.int .i64 wi) := HK3.out.cell 10
  have s11 : w3.cell? ⟨w.heap.size, 11, none⟩ = some (.int .i64 ca) := HK3.out.cell 11
  have s12 : w3.cell? ⟨w.heap.size, 12, none⟩ = some (.int .i64 P) := HK3.out.cell 12
  have ls := HK3.out.lt
  clear hb3 hpl HK2 HB2 HR2
  go_wp2_with fail
  ((with_reducible refine (HItem.out b _ HPL.out).mono ?_); rintro e w4 ⟨rfl, hb4⟩)
  have HK4 := Lib.hid (HK3.out.kept hb4)
  have HB4 := Lib.hid (HB3.out.trans (hb4.mono HB3.out.size))
  clear hb4 HK3 HB3 HPL HR3
  obtain ⟨pb, hpb⟩ : ∃ pb, w.heap.size = pb := ⟨_, rfl⟩
  rw [hpb] at HK4 ⊢
  have HPB := Lib.hid hpb
  clear hpb
  have HAL : Hid (∀ W, w4.alloc (.cells #[.int .i64 k1, .int .i64 k2, .int .i64 k3, .bool sd, .bool ad, .int .i64 s, .int .i64 bk, .int .i64 p, .int .i64 r2, .int .i64 e0, .int .i64 u, .int .i64 v] 78) = W → Below w4.heap.size w4 W ∧ Blk W w4.heap.size 78 #[.int .i64 k1, .int .i64 k2, .int .i64 k3, .bool sd, .bool ad, .int .i64 s, .int .i64 bk, .int .i64 p, .int .i64 r2, .int .i64 e0, .int .i64 u, .int .i64 v]) := Lib.hid (by
    rintro W rfl
    exact ⟨(Below.refl _ _).alloc (Nat.le_refl _) _, Blk.new _ _ _⟩)
  have s0 : w4.cell? ⟨pb, 0, none⟩ = some (.slice A n cap) := HK4.out.cell 0
  have s1 : w4.cell? ⟨pb, 1, none⟩ = some (.int .i64 sh) := HK4.out.cell 1
  have s2 : w4.cell? ⟨pb, 2, none⟩ = some (.int .i64 ra) := HK4.out.cell 2
  have s3 : w4.cell? ⟨pb, 3, none⟩ = some (.int .i64 mo) := HK4.out.cell 3
  have s4 : w4.cell? ⟨pb, 4, none⟩ = some (.int .i64 wk) := HK4.out.cell 4
  have s5 : w4.cell? ⟨pb, 5, none⟩ = some (.int .i64 ba) := HK4.out.cell 5
  have s6 : w4.cell? ⟨pb, 6, none⟩ = some (.int .i64 mi) := HK4.out.cell 6
  have s7 : w4.cell? ⟨pb, 7, none⟩ = some (.int .i64 st) := HK4.out.cell 7
  have s8 : w4.cell? ⟨pb, 8, none⟩ = some (.int .i64 bu) := HK4.out.cell 8
  have s9 : w4.cell? ⟨pb, 9, none⟩ = some (.int .i64 ch) := HK4.out.cell 9
  have s10 : w4.cell? ⟨pb, 10, none⟩ = some (.int .i64 wi) := HK4.out.cell 10
  have s11 : w4.cell? ⟨pb, 11, none⟩ = some (.int .i64 ca) := HK4.out.cell 11
  have s12 : w4.cell? ⟨pb, 12, none⟩ = some (.int .i64 P) := HK4.out.cell 12
  have ls := HK4.out.lt
  go_wp2_with fail
  obtain ⟨w5, hw5⟩ : ∃ w5, w4.alloc (.cells #[.int .i64 k1, .int .i64 k2, .int .i64 k3, .bool sd, .bool ad, .int .i64 s, .int .i64 bk, .int .i64 p, .int .i64 r2, .int .i64 e0, .int .i64 u, .int .i64 v] 78) = w5 := ⟨_, rfl⟩
  obtain ⟨hb5, hi5⟩ := HAL.out _ hw5
  rw [hw5]
  have HK5 := Lib.hid (HK4.out.kept hb5)
  have HB5 := Lib.hid (HB4.out.trans (hb5.mono HB4.out.size))
  obtain ⟨ib, hib⟩ : ∃ ib, w4.heap.size = ib := ⟨_, rfl⟩
  rw [hib] at hi5 ⊢
  have HI5 := Lib.hid hi5
  clear hw5 hb5 hi5 HAL hib
  ((with_reducible refine (HIt.out _).mono ?_); rintro e w6 ⟨A6, c6, rfl, hown6, hb6⟩)
  have HK6 := Lib.hid (HK5.out.kept hb6)
  have HB6 := Lib.hid (HB5.out.trans (hb6.mono HB5.out.size))
  have HI6 := Lib.hid (HI5.out.kept hb6)
  have s0 : w6.cell? ⟨pb, 0, none⟩ = some (.slice A n cap) := HK6.out.cell 0
  have s1 : w6.cell? ⟨pb, 1, none⟩ = some (.int .i64 sh) := HK6.out.cell 1
  have s2 : w6.cell? ⟨pb, 2, none⟩ = some (.int .i64 ra) := HK6.out.cell 2
  have s3 : w6.cell? ⟨pb, 3, none⟩ = some (.int .i64 mo) := HK6.out.cell 3
  have s4 : w6.cell? ⟨pb, 4, none⟩ = some (.int .i64 wk) := HK6.out.cell 4
  have s5 : w6.cell? ⟨pb, 5, none⟩ = some (.int .i64 ba) := HK6.out.cell 5
  have s6 : w6.cell? ⟨pb, 6, none⟩ = some (.int .i64 mi) := HK6.out.cell 6
  have s7 : w6.cell? ⟨pb, 7, none⟩ = some (.int .i64 st) := HK6.out.cell 7
  have s8 : w6.cell? ⟨pb, 8, none⟩ = some (.int .i64 bu) := HK6.out.cell 8
  have s9 : w6.cell? ⟨pb, 9, none⟩ = some (.int .i64 ch) := HK6.out.cell 9
  have s10 : w6.cell? ⟨pb, 10, none⟩ = some (.int .i64 wi) := HK6.out.cell 10
  have s11 : w6.cell? ⟨pb, 11, none⟩ = some (.int .i64 ca) := HK6.out.cell 11
  have s12 : w6.cell? ⟨pb, 12, none⟩ = some (.int .i64 P) := HK6.out.cell 12
  have ls := HK6.out.lt
  clear hown6 hb6
  go_wp2_with fail
  go_quiet (fail)
  obtain ⟨w7, hw7⟩ : ∃ w7, w6.drewN nq = w7 := ⟨_, rfl⟩
  have hb7 : Below w6.heap.size w6 w7 := by rw [← hw7]; exact below_drewN (Below.refl _ _) _
  have HB7 := Lib.hid (HB6.out.trans (hb7.mono HB6.out.size))
  have HI7 := Lib.hid (HI6.out.kept hb7)
  have HK7 := Lib.hid (HK6.out.kept hb7)
  rw [hw7]
  clear hw7 hb7
  have s0 : w7.cell? ⟨pb, 0, none⟩ = some (.slice A n cap) := HK7.out.cell 0
  have s1 : w7.cell? ⟨pb, 1, none⟩ = some (.int .i64 sh) := HK7.out.cell 1
  have s2 : w7.cell? ⟨pb, 2, none⟩ = some (.int .i64 ra) := HK7.out.cell 2
  have s3 : w7.cell? ⟨pb, 3, none⟩ = some (.int .i64 mo) := HK7.out.cell 3
  have s4 : w7.cell? ⟨pb, 4, none⟩ = some (.int .i64 wk) := HK7.out.cell 4
  have s5 : w7.cell? ⟨pb, 5, none⟩ = some (.int .i64 ba) := HK7.out.cell 5
  have s6 : w7.cell? ⟨pb, 6, none⟩ = some (.int .i64 mi) := HK7.out.cell 6
  have s7 : w7.cell? ⟨pb, 7, none⟩ = some (.int .i64 st) := HK7.out.cell 7
  have s8 : w7.cell? ⟨pb, 8, none⟩ = some (.int .i64 bu) := HK7.out.cell 8
  have s9 : w7.cell? ⟨pb, 9, none⟩ = some (.int .i64 ch) := HK7.out.cell 9
  have s10 : w7.cell? ⟨pb, 10, none⟩ = some (.int .i64 wi) := HK7.out.cell 10
  have s11 : w7.cell? ⟨pb, 11, none⟩ = some (.int .i64 ca) := HK7.out.cell 11
  have s12 : w7.cell? ⟨pb, 12, none⟩ = some (.int .i64 P) := HK7.out.cell 12
  have ls := HK7.out.lt
  have z0 : w7.cell? ⟨ib, 0, none⟩ = some (.int .i64 k1) := HI7.out.cell 0
  have z1 : w7.cell? ⟨ib, 1, none⟩ = some (.int .i64 k2) := HI7.out.cell 1
  have z2 : w7.cell? ⟨ib, 2, none⟩ = some (.int .i64 k3) := HI7.out.cell 2
  have z3 : w7.cell? ⟨ib, 3, none⟩ = some (.bool sd) := HI7.out.cell 3
  have z4 : w7.cell? ⟨ib, 4, none⟩ = some (.bool ad) := HI7.out.cell 4
  have z5 : w7.cell? ⟨ib, 5, none⟩ = some (.int .i64 s) := HI7.out.cell 5
  have z6 : w7.cell? ⟨ib, 6, none⟩ = some (.int .i64 bk) := HI7.out.cell 6
  have z7 : w7.cell? ⟨ib, 7, none⟩ = some (.int .i64 p) := HI7.out.cell 7
  have z8 : w7.cell? ⟨ib, 8, none⟩ = some (.int .i64 r2) := HI7.out.cell 8
  have z9 : w7.cell? ⟨ib, 9, none⟩ = some (.int .i64 e0) := HI7.out.cell 9
  have z10 : w7.cell? ⟨ib, 10, none⟩ = some (.int .i64 u) := HI7.out.cell 10
  have z11 : w7.cell? ⟨ib, 11, none⟩ = some (.int .i64 v) := HI7.out.cell 11
  have lz := HI7.out.lt
  have j0 : (0 : Int) ≤ (r : Int) := by omega
  have j1 : (r : Int) < (q : Int) := by omega
  clear HI5 HI6 HK5 HK6 HB5 HB6
  go_wp2_with fail
  refine wp_region_mep (Kept w7) [0, 1, 2, 3, 4] [5, 7, 8, 9, 10, 11, 13, 14, 15] 6 [] [12, 16, 17, 18, 19, 20] (by kernel_rfl) (by kernel_rfl) (Kept.start w7) ?_
  simp only [List.filterMap_cons, List.filterMap_nil, List.getElem?_cons_succ, List.getElem?_cons_zero]
  change RestW _ _ _ _ _ (_ :: _ :: _ :: _ :: _ :: []) _ _
  unfold RestW
  go_wp2_with fail
  ((with_reducible refine (HAl.out _).mono ?_); rintro e w8 ⟨rfl, hb8⟩)
  have HKK := Lib.hid (Kept.of ((Kept.start w7).call hb8).2.2)
  clear hb8
  go_wp2_with fail
  refine ⟨HKK.out, ?_⟩
  unfold RestW
  go_wp2_with fail
  refine ⟨HKK.out, ?_⟩
  unfold RestW
  go_wp2_with fail
  refine ⟨HKK.out, ?_⟩
  unfold RestW
  go_wp2_with fail
  refine ⟨HKK.out, ?_⟩
  unfold RestW
  go_wp2_with fail
  refine ⟨HKK.out, ?_⟩
  unfold RestW
  refine ⟨HKK.out, ?_⟩
  refine early_step (itV k1 k2 k3 sd ad s bk p r2 e0 u v) rfl (fun W hW => ?_) ?_
  · obtain ⟨hc, -, -⟩ := hW
    go_simp
  go_simp
  refine early_step (rplV A n cap ⟨sh, ra, mo, wk, ba, mi, st, bu, ch, wi, ca⟩ P) rfl (fun W hW => ?_) ?_
  · obtain ⟨hc, -, -⟩ := hW
    go_simp
  go_simp
  refine early_step (.int .i64 x) rfl (fun W hW => ?_) ?_
  · obtain ⟨hc, -, -⟩ := hW
    go_simp
  go_simp
  refine early_step (.int .i64 k) rfl (fun W hW => ?_) ?_
  · obtain ⟨hc, -, -⟩ := hW
    go_simp
  go_simp
  refine early_step (.int .i64 q) rfl (fun W hW => ?_) ?_
  · obtain ⟨hc, -, -⟩ := hW
    go_simp
  go_simp
  refine early_step (.int .i64 d) rfl (fun W hW => ?_) ?_
  · obtain ⟨hc, -, -⟩ := hW
    go_simp
  go_simp
  refine early_step (.int .i64 k) rfl (fun W hW => ?_) ?_
  · obtain ⟨hc, -, -⟩ := hW
    go_simp
  go_simp
  refine early_step (.int .i64 q) rfl (fun W hW => ?_) ?_
  · obtain ⟨hc, -, -⟩ := hW
    go_simp
  go_simp
  refine early_step (.int .i64 r) rfl (fun W hW => ?_) ?_
  · obtain ⟨hc, -, -⟩ := hW
    go_simp
  go_simp
  change ParW _ _ _ _ _ _ [] _ _
  clear z0 z1 z2 z3 z4 z5 z6 z7 z8 z9 z10 z11 lz HI7
  unfold ParW
  change RestW _ _ _ _ _ (_ :: _ :: _ :: _ :: _ :: _ :: _ :: []) _ _
  unfold RestW
  go_wp2_with fail
  ((with_reducible refine (HBA.out _).mono ?_); rintro e wB1 ⟨rfl, hbB⟩)
  have HK1 := Lib.hid (HKK.out.call hbB)
  clear hbB
  go_wp2_with fail
  refine ⟨HK1.out, ?_⟩
  unfold RestW
  go_wp2_with fail
  ((with_reducible refine (HS.out _).mono ?_); rintro e wS2 ⟨AS, cS, rfl, hownS, hbS⟩)
  have HK2 := Lib.hid (HK1.out.call hbS)
  obtain ⟨g, o, y, hAS, hg, hyy, hce⟩ := item_cells HLEN.out (Rd.of_own hownS) hrq
  subst hAS
  rw [HY.out] at hyy
  injection hyy with hyy
  subst hyy
  have HCE : Hid (∀ W, Below wS2.heap.size wS2 W → ∀ (j : Nat) (z : Value), j < 12 → (itemV ((k1, k2, k3), ((sd, ad), (s, bk, p, r2, e0), (u, v))))[j]? = some z → W.cell? ⟨g, o + (r * 12 + j), none⟩ = some z) := Lib.hid (fun W hbW j z hj hz => ((bcell hbW).1 g (o + (r * 12 + j)) hg).trans (hce j z hj hz))
  have HW2 := Lib.hid (Below.refl wS2.heap.size wS2)
  clear hownS hbS hce hg
  go_wp2_with fail
  refine ⟨HK2.out, ?_⟩
  unfold RestW
  go_wp2_with fail
  refine ⟨HK2.out, ?_⟩
  unfold RestW
  have y0 : wS2.cell? ⟨g, o + r * 12, none⟩ = some (.int .i64 k1) := by
    have := HCE.out _ HW2.out 0 _ (by omega) rfl
    simpa [Nat.add_assoc] using this
  have y1 : wS2.cell? ⟨g, o + r * 12 + 1, none⟩ = some (.int .i64 k2) := by
    have := HCE.out _ HW2.out 1 _ (by omega) rfl
    simpa [Nat.add_assoc] using this
  have y2 : wS2.cell? ⟨g, o + r * 12 + 2, none⟩ = some (.int .i64 k3) := by
    have := HCE.out _ HW2.out 2 _ (by omega) rfl
    simpa [Nat.add_assoc] using this
  have y3 : wS2.cell? ⟨g, o + r * 12 + 3, none⟩ = some (.bool sd) := by
    have := HCE.out _ HW2.out 3 _ (by omega) rfl
    simpa [Nat.add_assoc] using this
  have y4 : wS2.cell? ⟨g, o + r * 12 + 4, none⟩ = some (.bool ad) := by
    have := HCE.out _ HW2.out 4 _ (by omega) rfl
    simpa [Nat.add_assoc] using this
  have y5 : wS2.cell? ⟨g, o + r * 12 + 5, none⟩ = some (.int .i64 s) := by
    have := HCE.out _ HW2.out 5 _ (by omega) rfl
    simpa [Nat.add_assoc] using this
  have y6 : wS2.cell? ⟨g, o + r * 12 + 6, none⟩ = some (.int .i64 bk) := by
    have := HCE.out _ HW2.out 6 _ (by omega) rfl
    simpa [Nat.add_assoc] using this
  have y7 : wS2.cell? ⟨g, o + r * 12 + 7, none⟩ = some (.int .i64 p) := by
    have := HCE.out _ HW2.out 7 _ (by omega) rfl
    simpa [Nat.add_assoc] using this
  have y8 : wS2.cell? ⟨g, o + r * 12 + 8, none⟩ = some (.int .i64 r2) := by
    have := HCE.out _ HW2.out 8 _ (by omega) rfl
    simpa [Nat.add_assoc] using this
  have y9 : wS2.cell? ⟨g, o + r * 12 + 9, none⟩ = some (.int .i64 e0) := by
    have := HCE.out _ HW2.out 9 _ (by omega) rfl
    simpa [Nat.add_assoc] using this
  have y10 : wS2.cell? ⟨g, o + r * 12 + 10, none⟩ = some (.int .i64 u) := by
    have := HCE.out _ HW2.out 10 _ (by omega) rfl
    simpa [Nat.add_assoc] using this
  have y11 : wS2.cell? ⟨g, o + r * 12 + 11, none⟩ = some (.int .i64 v) := by
    have := HCE.out _ HW2.out 11 _ (by omega) rfl
    simpa [Nat.add_assoc] using this
  go_wp2_with fail
  clear y0 y1 y2 y3 y4 y5 y6 y7 y8 y9 y10 y11
  refine ⟨HK2.out, ?_⟩
  unfold RestW
  go_wp2_with fail
  refine ⟨HK2.out, ?_⟩
  unfold RestW
  go_wp2_with fail
  refine ⟨HK2.out, ?_⟩
  unfold RestW
  go_wp2_with fail
  refine ⟨HK2.out, ?_⟩
  unfold RestW
  refine NoPanic.normal ?_
  go_wp2_with fail
  go_ret
  exact ⟨rfl, (HB7.out.trans (HK2.out.2.2.mono HB7.out.size))⟩

theorem planItems_row (hl : l.length = n) (h : Rd w 1 A n (iv l)) (hcap : n ≤ cap) (hxb : -9223372036854775808 ≤ x ∧ x ≤ 9223372036854775807) (hib : -9223372036854775808 ≤ i ∧ i ≤ 9223372036854775807) :
    Calls Try.prog 8 #[rplV A n cap c P, .int .i64 x, .int .i64 i] w fun e w' => e = .returned (.bool true) ∧ Below w.heap.size w w' := by
  cases hf : fewPB n l c P
  · exact planItems_far A n cap l c P x i w hl h (.inl hf)
  · cases hr : rightB l c P
    · exact planItems_far A n cap l c P x i w hl h (.inr hr)
    · by_cases h0 : i < 0
      · exact planItems_neg A n cap l c P x i w hl h hcap hf hr hib.2 h0
      · by_cases hz : (pcOf c P.toNat).lenI x = 0
        · exact planItems_zero A n cap l c P x i w hl h hcap hf hr hib.2 (by omega) hz
        · by_cases h1 : c.st ≤ i / ((pcOf c P.toNat).lenI x : Int)
          · exact planItems_late A n cap l c P x i w hl h hcap hf hr hib.2 (by omega) hz h1
          · obtain ⟨k, rfl⟩ := Int.eq_ofNat_of_zero_le (show 0 ≤ i by omega)
            exact planItems_some A n cap l c P x w k hl h hcap hf hr (by omega) hz (by omega)
end

end Go.Proofs.Ytkecpbdgcbgogaa
