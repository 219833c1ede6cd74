/-
  PlanTotals: Total is the number of all items, and that of the formula.
-/
import Derived.Test.YtkecpbdgcbgogaaPlanNear
import Derived.Test.YtkecpbdgcbgogaaPlanCount
namespace Go.Proofs.Ytkecpbdgcbgogaa
set_option linter.unusedVariables false
set_option linter.unusedSimpArgs false
set_option maxRecDepth 100000
open Go.RowKit

def PlC.chk (pc : PlC) (k : Nat) : Nat := ((pc.bks.take k).map pc.msgI).sum
theorem PlC.chk_succ (pc : PlC) (k : Nat) (x : Int × Int) (h : pc.bks[k]? = some x) : pc.chk (k + 1) = pc.chk k + pc.msgI x := by
  have hk : k < pc.bks.length := by
    rcases Nat.lt_or_ge k pc.bks.length with h' | h'
    · exact h'
    · rw [List.getElem?_eq_none h'] at h; cases h
  rw [List.getElem?_eq_getElem hk] at h
  injection h with h
  rw [PlC.chk, take_snoc _ _ hk, List.map_append, List.sum_append, h]
  simp [PlC.chk]
theorem PlC.chk_le {pc : PlC} (hp : pc.Ok) (k : Nat) (hk : k ≤ pc.nb) : pc.chk k ≤ k * 8000000 := by
  induction k with
  | zero => simp [PlC.chk]
  | succ k ih =>
    have hx : pc.bks[k]? = some (pc.bks[k]'(by rw [pc.bks_length]; omega)) := List.getElem?_eq_getElem _
    rw [pc.chk_succ k _ hx]
    have h1 := PlC.msgI_le hp hx
    have h2 := ih (by omega)
    omega
theorem PlC.tot_chk (pc : PlC) (k : Nat) : pc.totL k = pc.m * (pc.mi + 2 * pc.nb + 1) + 4 * (pc.m - 1) * pc.chk k := by
  unfold PlC.totL PlC.chk
  congr 1
  induction pc.bks.take k with
  | nil => simp
  | cons x l ih => simp only [List.map_cons, List.sum_cons, ih, Nat.mul_add]

section
variable (A : Option Addr) (n cap : Nat) (l : List Int) (c : Cfg) (P : Int) (w : World)

set_option maxHeartbeats 1000000 in
theorem planTotals_far (hl : l.length = n) (h : Rd w 1 A n (iv l)) (hfar : fewPB n l c P = false ∨ rightB l c P = false) :
    Calls Try.prog 10 #[rplV A n cap c P] w fun e w' => e = .returned (.bool true) ∧ Below w.heap.size w w' := by
  have HG : Hid (∀ W, w.alloc (.cells (rplC A n cap c P) 60) = W → Below w.heap.size w W ∧ Blk W w.heap.size 60 (rplC A n cap c P)) := Lib.hid (by
    rintro W rfl
    exact ⟨(Below.refl _ _).alloc (Nat.le_refl _) _, Blk.new _ _ _⟩)
  have HFw := Lib.hid (fun W (r : Rd W 1 A n (iv l)) => refFew_any A n cap l c P W hl r)
  have HRi := Lib.hid (fun W (r : Rd W 1 A n (iv l)) (h : fewPB n l c P = true) => refRight_any A n cap l c P W hl r (by have := few_n h; omega))
  have HR := Lib.hid h
  have HF := Lib.hid hfar
  have HAl := Lib.hid alive20_any
  obtain ⟨sh, ra, mo, wk, ba, mi, st, bu, ch, wi, ca⟩ := c
  clear hl h hfar
  go_enter Try.func10, Try.ntmps10
  go_wp2_with fail
  obtain ⟨w0, hw0⟩ : ∃ w0, w.alloc (.cells (rplC A n cap ⟨sh, ra, mo, wk, ba, mi, st, bu, ch, wi, ca⟩ P) 60) = w0 := ⟨_, rfl⟩
  obtain ⟨hB, hK⟩ := HG.out _ hw0
  rw [hw0]
  clear hw0 HG
  have HB := Lib.hid hB
  have HK := Lib.hid hK
  ((with_reducible refine (HFw.out _ (HR.out.below hB)).mono ?_); rintro e w1 ⟨rfl, hb1⟩)
  have k1 := hK.kept hb1
  have HB1 := Lib.hid (HB.out.trans (hb1.mono HB.out.size))
  have s0 : w1.cell? ⟨w.heap.size, 0, none⟩ = some (.slice A n cap) := k1.cell 0
  have s1 : w1.cell? ⟨w.heap.size, 1, none⟩ = some (.int .i64 sh) := k1.cell 1
  have s2 : w1.cell? ⟨w.heap.size, 2, none⟩ = some (.int .i64 ra) := k1.cell 2
  have s3 : w1.cell? ⟨w.heap.size, 3, none⟩ = some (.int .i64 mo) := k1.cell 3
  have s4 : w1.cell? ⟨w.heap.size, 4, none⟩ = some (.int .i64 wk) := k1.cell 4
  have s5 : w1.cell? ⟨w.heap.size, 5, none⟩ = some (.int .i64 ba) := k1.cell 5
  have s6 : w1.cell? ⟨w.heap.size, 6, none⟩ = some (.int .i64 mi) := k1.cell 6
  have s7 : w1.cell? ⟨w.heap.size, 7, none⟩ = some (.int .i64 st) := k1.cell 7
  have s8 : w1.cell? ⟨w.heap.size, 8, none⟩ = some (.int .i64 bu) := k1.cell 8
  have s9 : w1.cell? ⟨w.heap.size, 9, none⟩ = some (.int .i64 ch) := k1.cell 9
  have s10 : w1.cell? ⟨w.heap.size, 10, none⟩ = some (.int .i64 wi) := k1.cell 10
  have s11 : w1.cell? ⟨w.heap.size, 11, none⟩ = some (.int .i64 ca) := k1.cell 11
  have s12 : w1.cell? ⟨w.heap.size, 12, none⟩ = some (.int .i64 P) := k1.cell 12
  have ls := k1.lt
  have HR1 := Lib.hid ((HR.out.below hB).below hb1)
  have HK1 := Lib.hid k1
  clear hB hK hb1 k1
  obtain ⟨q, hq⟩ : ∃ q, fewPB n l ⟨sh, ra, mo, wk, ba, mi, st, bu, ch, wi, ca⟩ P = q := ⟨_, rfl⟩
  rw [hq]
  have HQ := Lib.hid hq
  clear hq
  cases q
  · go_wp2_with fail
    ((with_reducible refine (HAl.out _).mono ?_); rintro e wz ⟨rfl, hbz⟩)
    have HBz := Lib.hid (HB1.out.trans (hbz.mono HB1.out.size))
    clear hbz
    go_wp2_with fail
    go_ret
    exact ⟨rfl, HBz.out⟩
  · go_wp2_with fail
    ((with_reducible refine (HRi.out _ HR1.out HQ.out).mono ?_); rintro e w2 ⟨rfl, hb2⟩)
    have HB2 := Lib.hid (HB1.out.trans (hb2.mono HB1.out.size))
    clear s0 s1 s2 s3 s4 s5 s6 s7 s8 s9 s10 s11 s12 ls
    have k2 := HK1.out.kept hb2
    have s0 : w2.cell? ⟨w.heap.size, 0, none⟩ = some (.slice A n cap) := k2.cell 0
    have s1 : w2.cell? ⟨w.heap.size, 1, none⟩ = some (.int .i64 sh) := k2.cell 1
    have s2 : w2.cell? ⟨w.heap.size, 2, none⟩ = some (.int .i64 ra) := k2.cell 2
    have s3 : w2.cell? ⟨w.heap.size, 3, none⟩ = some (.int .i64 mo) := k2.cell 3
    have s4 : w2.cell? ⟨w.heap.size, 4, none⟩ = some (.int .i64 wk) := k2.cell 4
    have s5 : w2.cell? ⟨w.heap.size, 5, none⟩ = some (.int .i64 ba) := k2.cell 5
    have s6 : w2.cell? ⟨w.heap.size, 6, none⟩ = some (.int .i64 mi) := k2.cell 6
    have s7 : w2.cell? ⟨w.heap.size, 7, none⟩ = some (.int .i64 st) := k2.cell 7
    have s8 : w2.cell? ⟨w.heap.size, 8, none⟩ = some (.int .i64 bu) := k2.cell 8
    have s9 : w2.cell? ⟨w.heap.size, 9, none⟩ = some (.int .i64 ch) := k2.cell 9
    have s10 : w2.cell? ⟨w.heap.size, 10, none⟩ = some (.int .i64 wi) := k2.cell 10
    have s11 : w2.cell? ⟨w.heap.size, 11, none⟩ = some (.int .i64 ca) := k2.cell 11
    have s12 : w2.cell? ⟨w.heap.size, 12, none⟩ = some (.int .i64 P) := k2.cell 12
    have ls := k2.lt
    clear hb2 k2
    obtain ⟨q2, hq2⟩ : ∃ q, rightB l ⟨sh, ra, mo, wk, ba, mi, st, bu, ch, wi, ca⟩ P = q := ⟨_, rfl⟩
    rw [hq2]
    have HQ2 := Lib.hid hq2
    clear hq2
    cases q2
    · go_wp2_with fail
      ((with_reducible refine (HAl.out _).mono ?_); rintro e wz ⟨rfl, hbz⟩)
      have HBz := Lib.hid (HB2.out.trans (hbz.mono HB2.out.size))
      clear hbz
      go_wp2_with fail
      go_ret
      exact ⟨rfl, HBz.out⟩
    · exact absurd HF.out (by simp [HQ.out, HQ2.out])

set_option maxHeartbeats 2000000 in
theorem planTotals_near (hl : l.length = n) (h : Rd w 1 A n (iv l)) (hcap : n ≤ cap) (hfw : fewPB n l c P = true) (hri : rightB l c P = true) :
    Calls Try.prog 10 #[rplV A n cap c P] w fun e w' => e = .returned (.bool true) ∧ Below w.heap.size w w' := by
  obtain ⟨hn, hok, hp, hf, hP⟩ := near_of hfw hri
  have HG : Hid (∀ W, w.alloc (.cells (rplC A n cap c P) 60) = W → Below w.heap.size w W ∧ Blk W w.heap.size 60 (rplC A n cap c P)) := Lib.hid (by
    rintro W rfl
    exact ⟨(Below.refl _ _).alloc (Nat.le_refl _) _, Blk.new _ _ _⟩)
  have CF := fun W (r : Rd W 1 A n (iv l)) => refFew_any A n cap l c P W hl r
  have CR := fun W (r : Rd W 1 A n (iv l)) => refRight_any A n cap l c P W hl r (by omega)
  rw [hfw] at CF
  rw [hri] at CR
  obtain ⟨pc, hpc⟩ : ∃ pc, pcOf c P.toNat = pc := ⟨_, rfl⟩
  rw [hpc] at hp hf hP
  have HFw := Lib.hid CF
  have HRi := Lib.hid CR
  have HNew := Lib.hid (fun W (r : Rd W 1 A n (iv l)) => planNew_good A n cap l c P W pc hp hl r hcap (by omega) hok hf.wk hf.ch hf.mi hf.wi hf.bu hP)
  have HR := Lib.hid h
  have HAl := Lib.hid alive20_any
  have HBk := Lib.hid (fun W => refBuckets20_any pc c A n cap P W hp hf hP)
  have HLen := Lib.hid (fun b k W (h : PlanAt W b pc c A n cap) => planLen_any pc c A n cap b k W h)
  have HTot := Lib.hid (fun b W (h : PlanAt W b pc c A n cap) => planTotal_any pc c A n cap b W hp hf h)
  have HRT := Lib.hid (fun W => refTotal20_any pc c A n cap P W hp hf hP)
  have HST : Hid (pc.sumI pc.m = pc.totL pc.nb) := Lib.hid (pc.sum_tot hp)
  have HTC := Lib.hid (pc.tot_chk pc.nb)
  have HTI : Hid (pc.totI c.st = (pc.totL pc.nb : Int) * c.st) := Lib.hid rfl
  have HCS := Lib.hid (fun k x (h : pc.bks[k]? = some x) => pc.chk_succ k x h)
  have HCL := Lib.hid (fun k (h : k ≤ pc.nb) => PlC.chk_le hp k h)
  have HML := Lib.hid (fun k x (h : pc.bks[k]? = some x) => PlC.msgI_le hp h)
  have HMs := Lib.hid (fun k x y (h : pc.bks[k]? = some (x, y)) => PlC.bks_in h)
  have HBL := Lib.hid pc.bks_length
  have HSL := Lib.hid (fun k => PlC.sumI_le hp k)
  have HLL := Lib.hid (fun x => PlC.lenI_le hp x)
  have HSu : Hid (∀ k : Nat, pc.sumI (k + 1) = pc.sumI k + pc.lenI (k : Int)) := Lib.hid (fun k => rfl)
  have hm1 := hp.m1
  have hm2 := hp.m2
  have hi2 := hp.i2
  have hc2 := hp.c2
  have hpp := hp.p2
  have hnb2 := PlC.nb_le hp
  have HMsg : Hid (∀ x y W, 0 ≤ x → x ≤ y → y ≤ 60 → Calls Try.prog 22 #[.agg #[.int .i64 x, .int .i64 y], .int .i64 c.wk, .int .i64 c.ch] W fun e w' => e = .returned (.int .i64 (pc.msgI (x, y) : Nat)) ∧ Below W.heap.size W w') := Lib.hid (fun x y W a1 a2 a3 => by
    rw [hf.wk, hf.ch]
    exact refMessages_any x y pc.m pc.ch W a1 a2 (by omega) (by omega) (by omega))
  have hwk := hf.wk
  have hmi := hf.mi
  have hs0 := hf.s0
  have hs1 := hf.s1
  obtain ⟨sh, ra, mo, wk, ba, mi, st, bu, ch, wi, ca⟩ := c
  simp only at hwk hmi hs0 hs1
  obtain ⟨mm, hm⟩ : ∃ m, pc.m = m := ⟨_, rfl⟩
  obtain ⟨nb, hnb⟩ : ∃ nb, pc.nb = nb := ⟨_, rfl⟩
  obtain ⟨mp, hmp⟩ : ∃ P, pc.mi = P := ⟨_, rfl⟩
  have HPP : Hid (pc.P ≤ 60) := Lib.hid hpp
  have HS12 : Hid (0 ≤ st ∧ st ≤ 12) := Lib.hid ⟨hs0, hs1⟩
  rw [hm] at HST HTC HRT hm1 hm2 hwk
  rw [hnb] at HBk HST HTC HTI HCL HBL hnb2
  rw [hmp] at HTC hi2 hmi
  obtain ⟨M, hM⟩ : ∃ M, mm - 1 = M := ⟨_, rfl⟩
  rw [hM] at HTC
  have hMm : wk - 1 = (M : Int) := by omega
  have zm : IntKind.i64.wrap (wk - 1) = (M : Int) := by rw [hMm]; exact wrap_ok _ (by omega) (by omega)
  obtain ⟨F4, hF⟩ : ∃ F4, 4 * M = F4 := ⟨_, rfl⟩
  rw [hF] at HTC
  have zf : IntKind.i64.wrap ((4 : Int) * (M : Int)) = (F4 : Int) := by rw [wrap_ok _ (by omega) (by omega)]; omega
  have hF28 : F4 ≤ 28 := by omega
  obtain ⟨N2, hN2⟩ : ∃ N2, 2 * nb = N2 := ⟨_, rfl⟩
  rw [hN2] at HTC
  have z2 : IntKind.i64.wrap ((2 : Int) * (nb : Int)) = (N2 : Int) := by rw [wrap_ok _ (by omega) (by omega)]; omega
  have hN22 : N2 ≤ 120 := by omega
  have hmi0 : 0 ≤ mi ∧ mi ≤ 20 := by omega
  obtain ⟨T0, hT⟩ : ∃ T0, mm * (mp + N2 + 1) = T0 := ⟨_, rfl⟩
  rw [hT] at HTC
  have hT8 : T0 ≤ 8 * 141 := by rw [← hT]; exact Nat.mul_le_mul hm2 (by omega)
  have hTi : wk * (mi + (N2 : Int) + 1) = (T0 : Int) := by rw [← hT, hwk, hmi]; push_cast; rfl
  have z4 : IntKind.i64.wrap (wk * (mi + (N2 : Int) + 1)) = (T0 : Int) := by rw [hTi]; exact wrap_ok _ (by omega) (by omega)
  have HWK := Lib.hid hwk
  clear hl h hfw hri hn hok hp hf hP hpc CF CR hcap hm hnb hmi hmp hwk hMm hM hF hN2 hT hTi hpp hs0 hs1
  go_enter Try.func10, Try.ntmps10
  go_wp2_with fail
  obtain ⟨w0, hw0⟩ : ∃ w0, w.alloc (.cells (rplC A n cap ⟨sh, ra, mo, wk, ba, mi, st, bu, ch, wi, ca⟩ P) 60) = w0 := ⟨_, rfl⟩
  obtain ⟨hB, hK⟩ := HG.out _ hw0
  rw [hw0]
  clear hw0 HG
  have HB := Lib.hid hB
  have HK := Lib.hid hK
  ((with_reducible refine (HFw.out _ (HR.out.below hB)).mono ?_); rintro e w1 ⟨rfl, hb1⟩)
  have HK1 := Lib.hid (hK.kept hb1)
  have HB1 := Lib.hid (HB.out.trans (hb1.mono HB.out.size))
  have HR1 := Lib.hid ((HR.out.below hB).below hb1)
  have s0 : w1.cell? ⟨w.heap.size, 0, none⟩ = some (.slice A n cap) := HK1.out.cell 0
  have s1 : w1.cell? ⟨w.heap.size, 1, none⟩ = some (.int .i64 sh) := HK1.out.cell 1
  have s2 : w1.cell? ⟨w.heap.size, 2, none⟩ = some (.int .i64 ra) := HK1.out.cell 2
  have s3 : w1.cell? ⟨w.heap.size, 3, none⟩ = some (.int .i64 mo) := HK1.out.cell 3
  have s4 : w1.cell? ⟨w.heap.size, 4, none⟩ = some (.int .i64 wk) := HK1.out.cell 4
  have s5 : w1.cell? ⟨w.heap.size, 5, none⟩ = some (.int .i64 ba) := HK1.out.cell 5
  have s6 : w1.cell? ⟨w.heap.size, 6, none⟩ = some (.int .i64 mi) := HK1.out.cell 6
  have s7 : w1.cell? ⟨w.heap.size, 7, none⟩ = some (.int .i64 st) := HK1.out.cell 7
  have s8 : w1.cell? ⟨w.heap.size, 8, none⟩ = some (.int .i64 bu) := HK1.out.cell 8
  have s9 : w1.cell? ⟨w.heap.size, 9, none⟩ = some (.int .i64 ch) := HK1.out.cell 9
  have s10 : w1.cell? ⟨w.heap.size, 10, none⟩ = some (.int .i64 wi) := HK1.out.cell 10
  have s11 : w1.cell? ⟨w.heap.size, 11, none⟩ = some (.int .i64 ca) := HK1.out.cell 11
  have s12 : w1.cell? ⟨w.heap.size, 12, none⟩ = some (.int .i64 P) := HK1.out.cell 12
  have ls := HK1.out.lt
  clear hB hK hb1 HB HK
  go_wp2_with fail
  ((with_reducible refine (HRi.out _ HR1.out).mono ?_); rintro e w2 ⟨rfl, hb2⟩)
  clear s0 s1 s2 s3 s4 s5 s6 s7 s8 s9 s10 s11 s12 ls
  have HK2 := Lib.hid (HK1.out.kept hb2)
  have HB2 := Lib.hid (HB1.out.trans (hb2.mono HB1.out.size))
  have HR2 := Lib.hid (HR1.out.below hb2)
  have s0 : w2.cell? ⟨w.heap.size, 0, none⟩ = some (.slice A n cap) := HK2.out.cell 0
  have s1 : w2.cell? ⟨w.heap.size, 1, none⟩ = some (.int .i64 sh) := HK2.out.cell 1
  have s2 : w2.cell? ⟨w.heap.size, 2, none⟩ = some (.int .i64 ra) := HK2.out.cell 2
  have s3 : w2.cell? ⟨w.heap.size, 3, none⟩ = some (.int .i64 mo) := HK2.out.cell 3
  have s4 : w2.cell? ⟨w.heap.size, 4, none⟩ = some (.int .i64 wk) := HK2.out.cell 4
  have s5 : w2.cell? ⟨w.heap.size, 5, none⟩ = some (.int .i64 ba) := HK2.out.cell 5
  have s6 : w2.cell? ⟨w.heap.size, 6, none⟩ = some (.int .i64 mi) := HK2.out.cell 6
  have s7 : w2.cell? ⟨w.heap.size, 7, none⟩ = some (.int .i64 st) := HK2.out.cell 7
  have s8 : w2.cell? ⟨w.heap.size, 8, none⟩ = some (.int .i64 bu) := HK2.out.cell 8
  have s9 : w2.cell? ⟨w.heap.size, 9, none⟩ = some (.int .i64 ch) := HK2.out.cell 9
  have s10 : w2.cell? ⟨w.heap.size, 10, none⟩ = some (.int .i64 wi) := HK2.out.cell 10
  have s11 : w2.cell? ⟨w.heap.size, 11, none⟩ = some (.int .i64 ca) := HK2.out.cell 11
  have s12 : w2.cell? ⟨w.heap.size, 12, none⟩ = some (.int .i64 P) := HK2.out.cell 12
  have ls := HK2.out.lt
  clear hb2 HK1 HB1 HR1
  go_wp2_with fail
  ((with_reducible refine (HNew.out _ HR2.out).mono ?_); rintro e w3 ⟨b, rfl, hpl, hb3⟩)
  clear s0 s1 s2 s3 s4 s5 s6 s7 s8 s9 s10 s11 s12 ls
  have HK3 := Lib.hid (HK2.out.kept hb3)
  have HB3 := Lib.hid (HB2.out.trans (hb3.mono HB2.out.size))
  have HR3 := Lib.hid (HR2.out.below hb3)
  have HPL := Lib.hid hpl
  have s0 : w3.cell? ⟨w.heap.size, 0, none⟩ = some (.slice A n cap) := HK3.out.cell 0
  have s1 : w3.cell? ⟨w.heap.size, 1, none⟩ = some (.int .i64 sh) := HK3.out.cell 1
  have s2 : w3.cell? ⟨w.heap.size, 2, none⟩ = some (.int .i64 ra) := HK3.out.cell 2
  have s3 : w3.cell? ⟨w.heap.size, 3, none⟩ = some (.int .i64 mo) := HK3.out.cell 3
  have s4 : w3.cell? ⟨w.heap.size, 4, none⟩ = some (.int .i64 wk) := HK3.out.cell 4
  have s5 : w3.cell? ⟨w.heap.size, 5, none⟩ = some (.int .i64 ba) := HK3.out.cell 5
  have s6 : w3.cell? ⟨w.heap.size, 6, none⟩ = some (.int .i64 mi) := HK3.out.cell 6
  have s7 : w3.cell? ⟨w.heap.size, 7, none⟩ = some (.int .i64 st) := HK3.out.cell 7
  have s8 : w3.cell? ⟨w.heap.size, 8, none⟩ = some (.int .i64 bu) := HK3.out.cell 8
  have s9 : w3.cell? ⟨w.heap.size, 9, none⟩ = some (.int .i64 ch) := HK3.out.cell 9
  have s10 : w3.cell? ⟨w.heap.size, 10, none⟩ = some (.int .i64 wi) := HK3.out.cell 10
  have s11 : w3.cell? ⟨w.heap.size, 11, none⟩ = some (.int .i64 ca) := HK3.out.cell 11
  have s12 : w3.cell? ⟨w.heap.size, 12, none⟩ = some (.int .i64 P) := HK3.out.cell 12
  have ls := HK3.out.lt
  clear hb3 hpl HK2 HB2 HR2
  go_wp2_with fail
  ((with_reducible refine (HBk.out _).mono ?_); rintro e w4 ⟨A4, c4, rfl, hown4, hb4⟩)
  have HR4 := Lib.hid (Rd.of_own hown4)
  have HK4 := Lib.hid (HK3.out.kept hb4)
  have HB4 := Lib.hid (HB3.out.trans (hb4.mono HB3.out.size))
  have HPL4 := Lib.hid (HPL.out.kept hb4)
  clear hown4 hb4 HK3 HB3 HPL HR3
  obtain ⟨pb, hpb⟩ : ∃ pb, w.heap.size = pb := ⟨_, rfl⟩
  rw [hpb] at HK4 ⊢
  have HPB := Lib.hid hpb
  clear hpb
  go_wp2_with fail
  go_loopw [5, 33] (fun s u wr => ∃ k S : Nat, k ≤ nb ∧ u = .int .i64 k ∧ s = .int .i64 S ∧ Hid (pc.chk k = S) ∧ Below w4.heap.size w4 wr) (fun _ u _ => nb - (intOf u).toNat)
  case atStart => exact ⟨0, 0, by omega, rfl, rfl, Lib.hid (by simp [PlC.chk]), Below.refl _ _⟩
  case round =>
    obtain ⟨k, S, hk, rfl, rfl, hS, hb⟩ := hrel
    have hle := HCL.out k hk
    rw [hS.out] at hle
    have hle2 : S ≤ 480000000 := by omega
    have HB := Lib.hid hb
    by_cases hlt : k < nb
    · obtain ⟨g, o, lo, hi, rfl, hg, hxy, d0, d1⟩ := rd_at HBL.out (HR4.out.below hb) hlt
      have hin := HMs.out k lo hi hxy
      have hml := HML.out k _ hxy
      have HSk := HCS.out k _ hxy
      have HMc := Lib.hid (fun W => HMsg.out lo hi W hin.1 hin.2.1 (by have := HPP.out; have := hin.2.2; omega))
      obtain ⟨q, hq⟩ : ∃ q, pc.msgI (lo, hi) = q := ⟨_, rfl⟩
      rw [hq] at hml HSk HMc
      have HSK : Hid (pc.chk (k + 1) = S + q) := Lib.hid (by rw [HSk, hS.out])
      have HNB : Hid (∀ W, wr.alloc (.cells #[.int .i64 lo, .int .i64 hi] 23) = W → Below wr.heap.size wr W ∧ Blk W wr.heap.size 23 #[.int .i64 lo, .int .i64 hi]) := Lib.hid (by
        rintro W rfl
        exact ⟨(Below.refl _ _).alloc (Nat.le_refl _) _, Blk.new _ _ _⟩)
      have k1 := HK4.out.kept hb
      have s4 : wr.cell? ⟨pb, 4, none⟩ = some (.int .i64 wk) := k1.cell 4
      have s9 : wr.cell? ⟨pb, 9, none⟩ = some (.int .i64 ch) := k1.cell 9
      have ls := k1.lt
      have i1 : (k : Int) < (nb : Int) := by omega
      have i2 : (0 : Int) ≤ (k : Int) := by omega
      clear hq hxy hin HSk hb hle hS k1
      go_wp2_with fail
      ((with_reducible refine (HMc.out _).mono ?_); rintro e w6 ⟨rfl, hb6⟩)
      obtain ⟨hba, -⟩ := HNB.out _ rfl
      have HB6 := Lib.hid (HB.out.trans ((hba.trans (hb6.mono hba.size)).mono HB.out.size))
      clear hb6 hba HNB d0 d1 hg s4 s9 ls
      go_wp2_with fail
      go_roundw
      case rel => exact ⟨k + 1, S + q, by omega, by go_num, by go_num, HSK, HB6.out⟩
      case measure => simp [intOf]; omega
    · obtain rfl : k = nb := by omega
      have k1 := HK4.out.kept hb
      have s4 : wr.cell? ⟨pb, 4, none⟩ = some (.int .i64 wk) := k1.cell 4
      have ls := k1.lt
      have HP5 := Lib.hid (HPL4.out.kept hb)
      have HK5 := Lib.hid k1
      have HB5 := Lib.hid (HB4.out.trans (hb.mono HB4.out.size))
      have htc := HTC.out
      rw [hS.out] at htc
      obtain ⟨D, hD⟩ : ∃ D, F4 * S = D := ⟨_, rfl⟩
      rw [hD] at htc
      have hD2 : D ≤ 28 * 480000000 := by rw [← hD]; exact Nat.mul_le_mul hF28 hle2
      have zd : IntKind.i64.wrap ((F4 : Int) * (S : Int)) = (D : Int) := by rw [← Int.natCast_mul, hD]; exact wrap_ok _ (by omega) (by omega)
      obtain ⟨R, hR⟩ : ∃ R, st * ((T0 : Int) + (D : Int)) = R := ⟨_, rfl⟩
      have hst := HS12.out
      have hR0 : 0 ≤ R ∧ R ≤ 12 * 14000000000 := by
        rw [← hR]
        exact ⟨Int.mul_nonneg hst.1 (by omega), Int.mul_le_mul hst.2 (by omega) (by omega) (by omega)⟩
      have zr : IntKind.i64.wrap (st * ((T0 : Int) + (D : Int))) = R := by rw [hR]; exact wrap_ok _ (by omega) (by omega)
      have HTT : Hid ((pc.totL k : Int) * st = R) := Lib.hid (by rw [htc, ← hR, Int.mul_comm]; push_cast; rfl)
      have HTO := Lib.hid (fun W h => by have := HTot.out b W h; rwa [HTI.out, HTT.out] at this)
      have HRR := Lib.hid (fun W => by have := HRT.out W; rwa [HST.out, HTT.out] at this)
      clear hb k1 hle hS htc hD hR hst
      go_wp2_with fail
      clear s4 ls
      obtain ⟨w5, hw5⟩ : ∃ w5 : World, w5 = wr := ⟨_, rfl⟩
      subst hw5
      have hmw : (mm : Int) = wk := HWK.out.symm
      go_loopw [9, 51] (fun s u wr => ∃ k N : Nat, k ≤ mm ∧ u = .int .i64 k ∧ s = .int .i64 N ∧ Hid (pc.sumI k = N) ∧ Below w5.heap.size w5 wr) (fun _ u _ => mm - (intOf u).toNat)
      case atStart => exact ⟨0, 0, by omega, rfl, rfl, Lib.hid rfl, Below.refl _ _⟩
      case round =>
        obtain ⟨j, N, hj, rfl, rfl, hN, hb⟩ := hrel
        have hNl : N ≤ 1600000000 := by have := HSL.out j; rw [hN.out] at this; omega
        have HB := Lib.hid hb
        by_cases hlt : j < mm
        · have dk : decide ((j : Int) < wk) = true := decide_eq_true (by omega)
          have HC := HLen.out b j wr (HP5.out.kept hb)
          have hll := HLL.out (j : Int)
          obtain ⟨q, hq⟩ : ∃ q, pc.lenI (j : Int) = q := ⟨_, rfl⟩
          rw [hq] at hll HC
          have HCC := Lib.hid HC
          have HSK : Hid (pc.sumI (j + 1) = N + q) := Lib.hid (by rw [HSu.out, hN.out, hq])
          clear hb HC hq hN hmw
          go_wp2_with fail
          ((with_reducible refine HCC.out.mono ?_); rintro e w7 ⟨rfl, rfl⟩)
          go_wp2_with fail
          go_roundw
          case rel => exact ⟨j + 1, N + q, by omega, by go_num, by go_num, HSK, HB.out⟩
          case measure => simp [intOf]; omega
        · obtain rfl : j = mm := by omega
          have dk : decide ((j : Int) < wk) = false := decide_eq_false (by omega)
          have k1 := HK5.out.kept hb
          have s0 : wr.cell? ⟨pb, 0, none⟩ = some (.slice A n cap) := k1.cell 0
          have s1 : wr.cell? ⟨pb, 1, none⟩ = some (.int .i64 sh) := k1.cell 1
          have s2 : wr.cell? ⟨pb, 2, none⟩ = some (.int .i64 ra) := k1.cell 2
          have s3 : wr.cell? ⟨pb, 3, none⟩ = some (.int .i64 mo) := k1.cell 3
          have s4 : wr.cell? ⟨pb, 4, none⟩ = some (.int .i64 wk) := k1.cell 4
          have s5 : wr.cell? ⟨pb, 5, none⟩ = some (.int .i64 ba) := k1.cell 5
          have s6 : wr.cell? ⟨pb, 6, none⟩ = some (.int .i64 mi) := k1.cell 6
          have s7 : wr.cell? ⟨pb, 7, none⟩ = some (.int .i64 st) := k1.cell 7
          have s8 : wr.cell? ⟨pb, 8, none⟩ = some (.int .i64 bu) := k1.cell 8
          have s9 : wr.cell? ⟨pb, 9, none⟩ = some (.int .i64 ch) := k1.cell 9
          have s10 : wr.cell? ⟨pb, 10, none⟩ = some (.int .i64 wi) := k1.cell 10
          have s11 : wr.cell? ⟨pb, 11, none⟩ = some (.int .i64 ca) := k1.cell 11
          have s12 : wr.cell? ⟨pb, 12, none⟩ = some (.int .i64 P) := k1.cell 12
          have ls := k1.lt
          have HP6 := Lib.hid (HP5.out.kept hb)
          have HK6 := Lib.hid k1
          have HB6 := Lib.hid (HB5.out.trans (hb.mono HB5.out.size))
          have zn : IntKind.i64.wrap ((N : Int) * st) = R := by
            have h1 := HTT.out
            rw [← HST.out, hN.out] at h1
            rw [h1]
            exact wrap_ok _ (by omega) (by omega)
          clear hb k1 hN hmw
          go_wp2_with fail
          ((with_reducible refine (HAl.out _).mono ?_); rintro e w7 ⟨rfl, hb7⟩)
          have HP7 := Lib.hid (HP6.out.kept hb7)
          have HB7 := Lib.hid (HB6.out.trans (hb7.mono HB6.out.size))
          have HK7 := Lib.hid (HK6.out.kept hb7)
          clear hb7
          go_wp2_with fail
          ((with_reducible refine (HTO.out _ HP7.out).mono ?_); rintro e w8 ⟨rfl, hb8⟩)
          have HB8 := Lib.hid (HB7.out.trans (hb8.mono HB7.out.size))
          have HK8 := Lib.hid (HK7.out.kept hb8)
          have s0 : w8.cell? ⟨pb, 0, none⟩ = some (.slice A n cap) := HK8.out.cell 0
          have s1 : w8.cell? ⟨pb, 1, none⟩ = some (.int .i64 sh) := HK8.out.cell 1
          have s2 : w8.cell? ⟨pb, 2, none⟩ = some (.int .i64 ra) := HK8.out.cell 2
          have s3 : w8.cell? ⟨pb, 3, none⟩ = some (.int .i64 mo) := HK8.out.cell 3
          have s4 : w8.cell? ⟨pb, 4, none⟩ = some (.int .i64 wk) := HK8.out.cell 4
          have s5 : w8.cell? ⟨pb, 5, none⟩ = some (.int .i64 ba) := HK8.out.cell 5
          have s6 : w8.cell? ⟨pb, 6, none⟩ = some (.int .i64 mi) := HK8.out.cell 6
          have s7 : w8.cell? ⟨pb, 7, none⟩ = some (.int .i64 st) := HK8.out.cell 7
          have s8 : w8.cell? ⟨pb, 8, none⟩ = some (.int .i64 bu) := HK8.out.cell 8
          have s9 : w8.cell? ⟨pb, 9, none⟩ = some (.int .i64 ch) := HK8.out.cell 9
          have s10 : w8.cell? ⟨pb, 10, none⟩ = some (.int .i64 wi) := HK8.out.cell 10
          have s11 : w8.cell? ⟨pb, 11, none⟩ = some (.int .i64 ca) := HK8.out.cell 11
          have s12 : w8.cell? ⟨pb, 12, none⟩ = some (.int .i64 P) := HK8.out.cell 12
          have ls := HK8.out.lt
          clear hb8
          go_wp2_with fail
          ((with_reducible refine (HRR.out _).mono ?_); rintro e w9 ⟨rfl, hb9⟩)
          have HB9 := Lib.hid (HB8.out.trans (hb9.mono HB8.out.size))
          clear hb9
          go_wp2_with fail
          go_ret
          exact ⟨rfl, HB9.out⟩

theorem planTotals_row (hl : l.length = n) (h : Rd w 1 A n (iv l)) (hcap : n ≤ cap) :
    Calls Try.prog 10 #[rplV A n cap c P] w fun e w' => e = .returned (.bool true) ∧ Below w.heap.size w w' := by
  cases hf : fewPB n l c P
  · exact planTotals_far A n cap l c P w hl h (.inl hf)
  · cases hr : rightB l c P
    · exact planTotals_far A n cap l c P w hl h (.inr hr)
    · exact planTotals_near A n cap l c P w hl h hcap hf hr
end

end Go.Proofs.Ytkecpbdgcbgogaa
