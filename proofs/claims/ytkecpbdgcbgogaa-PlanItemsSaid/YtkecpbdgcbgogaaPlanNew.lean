/-
  A plan is made.
-/
import Derived.Test.YtkecpbdgcbgogaaPlanItems2
namespace Go.Proofs.Ytkecpbdgcbgogaa
set_option linter.unusedVariables false
set_option linter.unusedSimpArgs false
set_option maxRecDepth 100000
open Go.RowKit

/-- The numbers of a plan, out of a configuration. -/
def pcOf (c : Cfg) (P : Nat) : PlC := ⟨P, c.bu.toNat, c.wk.toNat, c.ch, c.wi.toNat, c.mi.toNat⟩
def PlC.lensL (pc : PlC) : List Int := (List.range pc.m).map fun (i : Nat) => ((pc.itemsI (i : Int) 0).length : Int)
theorem PlC.lensL_length (pc : PlC) : pc.lensL.length = pc.m := by simp [PlC.lensL]
theorem PlC.lensL_at (pc : PlC) (k : Nat) (h : k < pc.m) : pc.lensL[k]? = some ((pc.itemsI (k : Int) 0).length : Int) := by simp [PlC.lensL, h]

abbrev planC (A : Option Addr) (n cap : Nat) (c : Cfg) (Ab : Option Addr) (nb cb : Nat) (Ag : Option Addr) (ng cg : Nat) (lv : Value) : Array Value := #[.slice A n cap, .int .i64 c.sh, .int .i64 c.ra, .int .i64 c.mo, .int .i64 c.wk, .int .i64 c.ba, .int .i64 c.mi, .int .i64 c.st, .int .i64 c.bu, .int .i64 c.ch, .int .i64 c.wi, .int .i64 c.ca, .slice Ab nb cb, .slice Ag ng cg, lv]
/-- A plan in memory. -/
def PlanAt (w : World) (b : Nat) (pc : PlC) (c : Cfg) (A : Option Addr) (n cap : Nat) : Prop := ∃ Ab cb Ag cg Al cl, Blk w b 113 (planC A n cap c Ab pc.nb cb Ag (cnt pc.nb pc.wi) cg (.slice Al pc.m cl)) ∧
  Rd w 2 Ab pc.nb (rv pc.bks) ∧ Rd w 2 Ag (cnt pc.nb pc.wi) (rv pc.grps) ∧ Rd w 1 Al pc.m (iv pc.lensL) ∧ pc.nb ≤ cb
theorem PlanAt.kept {w w' : World} {b : Nat} {pc : PlC} {c : Cfg} {A : Option Addr} {n cap : Nat} (h : PlanAt w b pc c A n cap) (hb : Below w.heap.size w w') : PlanAt w' b pc c A n cap := by
  obtain ⟨Ab, cb, Ag, cg, Al, cl, h1, h2, h3, h4, h5⟩ := h
  exact ⟨Ab, cb, Ag, cg, Al, cl, h1.kept hb, h2.below hb, h3.below hb, h4.below hb, h5⟩
theorem pset14 {w : World} {g : Nat} {t : TypeId} {a0 a1 a2 a3 a4 a5 a6 a7 a8 a9 a10 a11 a12 a13 a14 : Value} (h : Blk w g t #[a0, a1, a2, a3, a4, a5, a6, a7, a8, a9, a10, a11, a12, a13, a14]) (v : Value) :
    w.grownBy (w.setCell ⟨g, 14, none⟩ v) (some g) ∧ Blk (w.setCell ⟨g, 14, none⟩ v) g t #[a0, a1, a2, a3, a4, a5, a6, a7, a8, a9, a10, a11, a12, a13, v] :=
  ⟨gr_set (p := ⟨g, 14, none⟩) (World.grownBy.refl w _) (.inl rfl) v, by simpa using h.set_ 14 v⟩

theorem one_cell (x : Int) : ∀ u ∈ (#[Value.int .i64 x] : Array Value).toList, u.oneCell' = true := by
  intro u hu
  simp at hu
  subst hu
  rfl

section
variable (A : Option Addr) (n cap : Nat) (l : List Int) (c : Cfg) (P : Int) (w : World)

set_option maxHeartbeats 1000000 in
theorem planNew_bad (hl : l.length = n) (h : Rd w 1 A n (iv l)) (hcap : n ≤ cap) (hn : n ≤ 1000) (hbad : okCfg l c = false ∨ P < 1 ∨ 1048576 < P) :
    Calls Try.prog 31 #[cfgV A n cap c, .int .i64 P] w fun e w' => e = .returned (.tuple #[.pointer none, .bool false]) ∧ Below w.heap.size w w' := by
  have HG : Hid (∀ W, w.alloc (.cells (cfgC A n cap c) 58) = W → Below w.heap.size w W ∧ Blk W w.heap.size 58 (cfgC A n cap c)) := Lib.hid (by
    rintro W rfl
    exact ⟨(Below.refl _ _).alloc (Nat.le_refl _) _, Blk.new _ _ _⟩)
  have HC := Lib.hid (fun W (r : Rd W 1 A n (iv l)) => confCheck_any A n cap l c W hl r hcap hn)
  have HR := Lib.hid h
  have HBAD := Lib.hid hbad
  obtain ⟨sh, ra, mo, wk, ba, mi, st, bu, ch, wi, ca⟩ := c
  clear hl h hbad
  go_enter Try.func31, Try.ntmps31
  go_wp2_with fail
  obtain ⟨w0, hw0⟩ : ∃ w0, w.alloc (.cells (cfgC A n cap ⟨sh, ra, mo, wk, ba, mi, st, bu, ch, wi, ca⟩) 58) = w0 := ⟨_, rfl⟩
  obtain ⟨hB, hK⟩ := HG.out _ hw0
  rw [hw0]
  clear hw0 HG
  ((with_reducible refine (HC.out _ (HR.out.below hB)).mono ?_); rintro e w1 ⟨cd, rfl, hcd, hb1⟩)
  have HB1 := Lib.hid (hB.trans (hb1.mono hB.size))
  have HCD := Lib.hid hcd
  clear hB hK hb1 hcd HC
  by_cases h0 : cd = 0
  · subst h0
    have hok := HCD.out.1 rfl
    have hP : P < 1 ∨ 1048576 < P := by
      rcases HBAD.out with h | h
      · rw [h] at hok; cases hok
      · exact h
    clear hok
    by_cases hp1 : P < 1
    · have e1 : decide (P < 1) = true := decide_eq_true hp1
      clear hP
      go_wp2_with fail
      go_ret2
      exact ⟨rfl, HB1.out⟩
    · have e1 : decide (P < 1) = false := decide_eq_false hp1
      have e2 : decide (1048576 < P) = true := decide_eq_true (by omega)
      clear hP
      go_wp2_with fail
      go_ret2
      exact ⟨rfl, HB1.out⟩
  · have e5 : (cd != 0) = true := by simp [h0]
    go_wp2_with fail
    go_ret2
    exact ⟨rfl, HB1.out⟩

/-- A plan comes back. -/
def NewRet (pc : PlC) (c : Cfg) (A : Option Addr) (n cap : Nat) (w : World) (e : Ending) (w' : World) : Prop := ∃ b, e = .returned (.tuple #[.pointer (some ⟨b, 0, none⟩), .bool true]) ∧ PlanAt w' b pc c A n cap ∧ Below w.heap.size w w'

set_option maxHeartbeats 4000000 in
theorem planNew_good (pc : PlC) (hp : pc.Ok) (hl : l.length = n) (h : Rd w 1 A n (iv l)) (hcap : n ≤ cap) (hn : n ≤ 1000) (hok : okCfg l c = true) (hwk : c.wk = pc.m) (hch : c.ch = pc.ch) (hmi : c.mi = pc.mi) (hwi : c.wi = pc.wi) (hbu : c.bu = pc.bu) (hP : P = pc.P) :
    Calls Try.prog 31 #[cfgV A n cap c, .int .i64 P] w (NewRet pc c A n cap w) := by
  have HG : Hid (∀ W, w.alloc (.cells (cfgC A n cap c) 58) = W → Below w.heap.size w W ∧ Blk W w.heap.size 58 (cfgC A n cap c)) := Lib.hid (by
    rintro W rfl
    exact ⟨(Below.refl _ _).alloc (Nat.le_refl _) _, Blk.new _ _ _⟩)
  have HC := Lib.hid (fun W (r : Rd W 1 A n (iv l)) => confCheck_any A n cap l c W hl r hcap hn)
  have HR := Lib.hid h
  have HBk := Lib.hid (fun W => buckets_any pc.P pc.bu W hp.p1 (by have := hp.p2; omega) hp.b1 (by have := hp.b2; omega))
  have HGr := Lib.hid (fun W => groups_any pc.nb pc.wi W (PlC.nb_pos hp) (by have := PlC.nb_le hp; omega) hp.w1 (by have := hp.w2; omega))
  have HIt := Lib.hid (fun Ab cb Ag cg (x : Int) W h1 h2 => items20_any pc c A n cap Ab cb Ag cg x 0 W hp hwk hch hmi h1 h2)
  have HLe := Lib.hid (fun x : Int => PlC.itemsI_le hp x 0)
  have HP2 := Lib.hid hp.p2
  have HP1 := Lib.hid hp.p1
  have hm8 := hp.m2
  have HOK := Lib.hid hok
  have HLA := Lib.hid (fun k (h : k < pc.m) => pc.lensL_at k h)
  have HLL := Lib.hid pc.lensL_length
  obtain ⟨sh, ra, mo, wk, ba, mi, st, bu, ch, wi, ca⟩ := c
  simp only at hwk hch hmi hwi hbu
  subst hwk hch hmi hwi hbu hP
  obtain ⟨m, hm⟩ : ∃ m, pc.m = m := ⟨_, rfl⟩
  obtain ⟨nb, hnb⟩ : ∃ nb, pc.nb = nb := ⟨_, rfl⟩
  obtain ⟨ng, hng⟩ : ∃ ng, cnt pc.nb pc.wi = ng := ⟨_, rfl⟩
  obtain ⟨P, hP⟩ : ∃ P, pc.P = P := ⟨_, rfl⟩
  obtain ⟨bu, hbu⟩ : ∃ P, pc.bu = P := ⟨_, rfl⟩
  obtain ⟨wi, hwi⟩ : ∃ P, pc.wi = P := ⟨_, rfl⟩
  obtain ⟨mi, hmi⟩ : ∃ P, pc.mi = P := ⟨_, rfl⟩
  obtain ⟨ch, hch⟩ : ∃ P, pc.ch = P := ⟨_, rfl⟩
  have eb : bucketsL pc.P pc.bu = pc.bks := rfl
  have eg : blocksL pc.nb pc.wi = pc.grps := rfl
  have en : cnt pc.P pc.bu = pc.nb := rfl
  rw [eb, en] at HBk
  rw [eg] at HGr
  have HPA : Hid (∀ W b Ab cb Ag cg Al cl, Blk W b 113 (planC A n cap ⟨sh, ra, mo, m, ba, mi, st, bu, ch, wi, ca⟩ Ab nb cb Ag ng cg (.slice Al m cl)) → Rd W 2 Ab nb (rv pc.bks) → Rd W 2 Ag ng (rv pc.grps) → Rd W 1 Al m (iv pc.lensL) → nb ≤ cb → PlanAt W b pc ⟨sh, ra, mo, m, ba, mi, st, bu, ch, wi, ca⟩ A n cap) := Lib.hid (by
    intro W b Ab cb Ag cg Al cl h1 h2 h3 h4 h5
    subst hm hnb hng
    exact ⟨Ab, cb, Ag, cg, Al, cl, h1, h2, h3, h4, h5⟩)
  rw [hng] at HGr HIt
  rw [hnb] at HBk HIt HGr
  rw [hm] at HIt HLA HLL hm8 HG HC HOK
  rw [hP, hbu] at HBk
  rw [hP] at HP1 HP2
  rw [hwi] at HIt HG HC HGr HOK
  rw [hbu] at HIt HG HC HOK
  rw [hmi] at HIt HG HC HOK
  rw [hch] at HIt HG HC HOK
  rw [hP, hbu, hwi, hmi, hch, hm]
  have hp1 := HP1.out
  have hp2 := HP2.out
  have z1 : decide ((P : Int) < 1) = false := decide_eq_false (by omega)
  have z2 : decide ((1048576 : Int) < (P : Int)) = false := decide_eq_false (by omega)
  clear hl h eb eg en hok hp hP hbu hwi hmi hch hm hnb hng
  go_enter Try.func31, Try.ntmps31
  go_wp2_with fail
  obtain ⟨w0, hw0⟩ : ∃ w0, w.alloc (.cells (cfgC A n cap ⟨sh, ra, mo, m, ba, mi, st, bu, ch, wi, ca⟩) 58) = w0 := ⟨_, rfl⟩
  obtain ⟨hB, hK⟩ := HG.out _ hw0
  rw [hw0]
  clear hw0 HG
  obtain ⟨bc, hbc⟩ : ∃ bc, w.heap.size = bc := ⟨_, rfl⟩
  rw [hbc] at hK ⊢
  have HBC := Lib.hid hbc
  ((with_reducible refine (HC.out _ (HR.out.below hB)).mono ?_); rintro e w1 ⟨cd, rfl, hcd, hb1⟩)
  have h0 : cd = 0 := hcd.2 HOK.out
  subst h0
  have k1 := hK.kept hb1
  have HK1 := Lib.hid k1
  have HB1 := Lib.hid (hB.trans (hb1.mono hB.size))
  have c8 : w1.cell? ⟨bc, 8, none⟩ = some (.int .i64 bu) := k1.cell 8
  have lc := k1.lt
  clear hB hK hb1 hcd HC k1 hbc
  go_wp2_with fail
  ((with_reducible refine (HBk.out _).mono ?_); rintro e w2 ⟨Ab, cb, rfl, hown2, hb2⟩)
  have k2 := HK1.out.kept hb2
  have HK2 := Lib.hid k2
  have HB2 := Lib.hid (HB1.out.trans (hb2.mono HB1.out.size))
  have HO2 := Lib.hid (own_base hown2 HB1.out.size)
  have s0 : w2.cell? ⟨bc, 0, none⟩ = some (.slice A n cap) := k2.cell 0
  have s1 : w2.cell? ⟨bc, 1, none⟩ = some (.int .i64 sh) := k2.cell 1
  have s2 : w2.cell? ⟨bc, 2, none⟩ = some (.int .i64 ra) := k2.cell 2
  have s3 : w2.cell? ⟨bc, 3, none⟩ = some (.int .i64 mo) := k2.cell 3
  have s4 : w2.cell? ⟨bc, 4, none⟩ = some (.int .i64 m) := k2.cell 4
  have s5 : w2.cell? ⟨bc, 5, none⟩ = some (.int .i64 ba) := k2.cell 5
  have s6 : w2.cell? ⟨bc, 6, none⟩ = some (.int .i64 mi) := k2.cell 6
  have s7 : w2.cell? ⟨bc, 7, none⟩ = some (.int .i64 st) := k2.cell 7
  have s8 : w2.cell? ⟨bc, 8, none⟩ = some (.int .i64 bu) := k2.cell 8
  have s9 : w2.cell? ⟨bc, 9, none⟩ = some (.int .i64 ch) := k2.cell 9
  have s10 : w2.cell? ⟨bc, 10, none⟩ = some (.int .i64 wi) := k2.cell 10
  have s11 : w2.cell? ⟨bc, 11, none⟩ = some (.int .i64 ca) := k2.cell 11
  have lc2 := k2.lt
  clear hown2 hb2 k2 c8 lc HB1 HK1
  go_wp2_with fail
  refine wp_region_early (Kept w2) [0, 1, 2, 3, 4, 5] [6] [7, 8, 9, 10] (by kernel_rfl) (by kernel_rfl) (Kept.start w2) ?_
  simp only [List.filterMap_cons, List.filterMap_nil, List.getElem?_cons_succ, List.getElem?_cons_zero]
  refine early_step (cfgV A n cap ⟨sh, ra, mo, m, ba, mi, st, bu, ch, wi, ca⟩) rfl (fun W hW => ?_) ?_
  · obtain ⟨hc, -, -⟩ := hW
    go_simp
  go_simp
  refine early_step (.slice Ab nb cb) rfl (fun W hW => ?_) ?_
  · obtain ⟨hc, -, -⟩ := hW
    go_simp
  go_simp
  refine early_step (.slice Ab nb cb) rfl (fun W hW => ?_) ?_
  · obtain ⟨hc, -, -⟩ := hW
    go_simp
  go_simp
  refine early_step (.int .i64 nb) rfl (fun W hW => ?_) ?_
  · obtain ⟨hc, -, -⟩ := hW
    go_simp
  go_simp
  refine early_step (.pointer (some ⟨bc, 10, none⟩)) rfl (fun W hW => ?_) ?_
  · obtain ⟨hc, -, -⟩ := hW
    go_simp
  go_simp
  refine early_step (.int .i64 wi) rfl (fun W hW => ?_) ?_
  · obtain ⟨hc, -, -⟩ := hW
    go_simp
  go_simp
  change RestW _ _ _ _ _ (_ :: []) _ _
  unfold RestW
  go_wp2_with fail
  ((with_reducible refine (HGr.out _).mono ?_); rintro e w3 ⟨Ag, cg, rfl, hown3, hb3⟩)
  have hb3' : Below w2.heap.size w2 w3 := ((Kept.start w2).call hb3).2.2
  have HO3 := Lib.hid (own_base hown3 (show w.heap.size ≤ _ from HB2.out.size))
  have HO2' := Lib.hid (own_below HO2.out hb3')
  have HB3 := Lib.hid (HB2.out.trans (hb3'.mono HB2.out.size))
  have HK3 := Lib.hid (HK2.out.kept hb3')
  have HKe := Lib.hid (Kept.of hb3')
  clear hown3 hb3 hb3' s0 s1 s2 s3 s4 s5 s6 s7 s8 s9 s10 s11 lc2 HO2 HB2 HK2
  go_wp2_with fail
  refine ⟨HKe.out, ?_⟩
  unfold RestW
  change wpList _ _ _ (_ :: _ :: _ :: _ :: []) _ _
  have HPB : Hid (∀ W, w3.alloc (.cells (planC A n cap ⟨sh, ra, mo, m, ba, mi, st, bu, ch, wi, ca⟩ Ab nb cb Ag ng cg (.slice none 0 0)) 113) = W → Below w3.heap.size w3 W ∧ Blk W w3.heap.size 113 (planC A n cap ⟨sh, ra, mo, m, ba, mi, st, bu, ch, wi, ca⟩ Ab nb cb Ag ng cg (.slice none 0 0))) := Lib.hid (by
    rintro W rfl
    exact ⟨(Below.refl _ _).alloc (Nat.le_refl _) _, Blk.new _ _ _⟩)
  go_wp2_with fail
  refine NoPanic.normal ?_
  obtain ⟨w4, hw4⟩ : ∃ w4, w3.alloc (.cells (planC A n cap ⟨sh, ra, mo, m, ba, mi, st, bu, ch, wi, ca⟩ Ab nb cb Ag ng cg (.slice none 0 0)) 113) = w4 := ⟨_, rfl⟩
  obtain ⟨hb4, hp4⟩ := HPB.out _ hw4
  rw [hw4]
  obtain ⟨bp, hbp⟩ : ∃ bp, w3.heap.size = bp := ⟨_, rfl⟩
  have hwbp : w.heap.size ≤ bp := by rw [← hbp]; exact HB3.out.size
  rw [hbp] at hp4 ⊢
  have HP4 := Lib.hid hp4
  have HB4 := Lib.hid (HB3.out.trans (hb4.mono HB3.out.size))
  have HK4 := Lib.hid (HK3.out.kept hb4)
  have HRb4 := Lib.hid (own_below HO2'.out hb4)
  have HRg4 := Lib.hid (own_below HO3.out hb4)
  have c4 : w4.cell? ⟨bc, 4, none⟩ = some (.int .i64 m) := HK4.out.cell 4
  have lc := HK4.out.lt
  have hcb : nb ≤ cb := by
    obtain ⟨A', cap', e', h', _⟩ := own_form HO2'.out
    injection e' with _ _ e'
    omega
  have hlb := hp4.lt
  clear hw4 hp4 hb4 hbp HPB HO2' HO3 HKe HB3 HK3
  as_aux_lemma =>
    go_wp2_with fail
    clear c4 lc hlb
    go_loopw [36] (fun v wr => ∃ k Al cl, k ≤ m ∧ v = .int .i64 k ∧ Blk wr bp 113 (planC A n cap ⟨sh, ra, mo, m, ba, mi, st, bu, ch, wi, ca⟩ Ab nb cb Ag ng cg (.slice Al k cl)) ∧ wr.ownsRow w.heap.size 3 1 (.slice Al k cl) k (iv (pc.lensL.take k)) ∧ Below w.heap.size w wr ∧ wr.ownsRow w.heap.size 33 2 (.slice Ab nb cb) nb (rv pc.bks) ∧ wr.ownsRow w.heap.size 33 2 (.slice Ag ng cg) ng (rv pc.grps)) (fun v _ => m - (intOf v).toNat)
    case atStart => exact ⟨0, none, 0, by omega, rfl, HP4.out, by simpa [iv] using World.ownsRow_nil w4 w.heap.size 3 1, HB4.out, HRb4.out, HRg4.out⟩
    case round =>
      obtain ⟨k, Al, cl, hk, rfl, hbk, hown, hb, hrb, hrg⟩ := hrel
      by_cases hlt : k < m
      · as_aux_lemma =>
          have HBK := Lib.hid hbk
          have HO := Lib.hid hown
          have HB := Lib.hid hb
          have HRB := Lib.hid hrb
          have HRG := Lib.hid hrg
          have HI := Lib.hid (fun W h1 h2 => HIt.out Ab cb Ag cg k W h1 h2)
          have hle := HLe.out k
          have HLK := Lib.hid (HLA.out k hlt)
          obtain ⟨q, hq⟩ : ∃ q, (pc.itemsI (k : Int) 0).length = q := ⟨_, rfl⟩
          rw [hq] at HI hle HLK
          have hz : w.heap.size ≤ wr.heap.size := hb.size
          clear hbk hown hb hrb hrg hq
          have i1 : (k : Int) < (m : Int) := by omega
          go_wp2_with fail
          refine wp_region_early (fun W : World => Blk W bp 113 (planC A n cap ⟨sh, ra, mo, m, ba, mi, st, bu, ch, wi, ca⟩ Ab nb cb Ag ng cg (.slice Al k cl))) [0, 1, 2, 3, 4, 5, 6, 7, 8, 9] [10, 11, 12, 13] [14, 15, 16] (by kernel_rfl) (by kernel_rfl) HBK.out.drew ?_
          simp only [List.filterMap_cons, List.filterMap_nil, List.getElem?_cons_succ, List.getElem?_cons_zero]
          refine early_step (.pointer (some ⟨bp, 0, none⟩)) rfl (fun W hW => ?_) ?_
          · have h14 := hW.cell 14
            have h0 := hW.cell 0
            have h1 := hW.cell 1
            have h2 := hW.cell 2
            have h3 := hW.cell 3
            have h4 := hW.cell 4
            have h5 := hW.cell 5
            have h6 := hW.cell 6
            have h7 := hW.cell 7
            have h8 := hW.cell 8
            have h9 := hW.cell 9
            have h10 := hW.cell 10
            have h11 := hW.cell 11
            have h12 := hW.cell 12
            have h13 := hW.cell 13
            go_simp
          go_simp
          refine early_step (.pointer (some ⟨bp, 0, none⟩)) rfl (fun W hW => ?_) ?_
          · have h14 := hW.cell 14
            have h0 := hW.cell 0
            have h1 := hW.cell 1
            have h2 := hW.cell 2
            have h3 := hW.cell 3
            have h4 := hW.cell 4
            have h5 := hW.cell 5
            have h6 := hW.cell 6
            have h7 := hW.cell 7
            have h8 := hW.cell 8
            have h9 := hW.cell 9
            have h10 := hW.cell 10
            have h11 := hW.cell 11
            have h12 := hW.cell 12
            have h13 := hW.cell 13
            go_simp
          go_simp
          refine early_step (.pointer (some ⟨bp, 0, none⟩)) rfl (fun W hW => ?_) ?_
          · have h14 := hW.cell 14
            have h0 := hW.cell 0
            have h1 := hW.cell 1
            have h2 := hW.cell 2
            have h3 := hW.cell 3
            have h4 := hW.cell 4
            have h5 := hW.cell 5
            have h6 := hW.cell 6
            have h7 := hW.cell 7
            have h8 := hW.cell 8
            have h9 := hW.cell 9
            have h10 := hW.cell 10
            have h11 := hW.cell 11
            have h12 := hW.cell 12
            have h13 := hW.cell 13
            go_simp
          go_simp
          refine early_step (.pointer (some ⟨bp, 14, none⟩)) rfl (fun W hW => ?_) ?_
          · have h14 := hW.cell 14
            have h0 := hW.cell 0
            have h1 := hW.cell 1
            have h2 := hW.cell 2
            have h3 := hW.cell 3
            have h4 := hW.cell 4
            have h5 := hW.cell 5
            have h6 := hW.cell 6
            have h7 := hW.cell 7
            have h8 := hW.cell 8
            have h9 := hW.cell 9
            have h10 := hW.cell 10
            have h11 := hW.cell 11
            have h12 := hW.cell 12
            have h13 := hW.cell 13
            go_simp
          go_simp
          refine early_step (.slice Al k cl) rfl (fun W hW => ?_) ?_
          · have h14 := hW.cell 14
            have h0 := hW.cell 0
            have h1 := hW.cell 1
            have h2 := hW.cell 2
            have h3 := hW.cell 3
            have h4 := hW.cell 4
            have h5 := hW.cell 5
            have h6 := hW.cell 6
            have h7 := hW.cell 7
            have h8 := hW.cell 8
            have h9 := hW.cell 9
            have h10 := hW.cell 10
            have h11 := hW.cell 11
            have h12 := hW.cell 12
            have h13 := hW.cell 13
            go_simp
          go_simp
          refine early_step (.pointer (some ⟨bp, 0, none⟩)) rfl (fun W hW => ?_) ?_
          · have h14 := hW.cell 14
            have h0 := hW.cell 0
            have h1 := hW.cell 1
            have h2 := hW.cell 2
            have h3 := hW.cell 3
            have h4 := hW.cell 4
            have h5 := hW.cell 5
            have h6 := hW.cell 6
            have h7 := hW.cell 7
            have h8 := hW.cell 8
            have h9 := hW.cell 9
            have h10 := hW.cell 10
            have h11 := hW.cell 11
            have h12 := hW.cell 12
            have h13 := hW.cell 13
            go_simp
          go_simp
          refine early_step (.pointer (some ⟨bp, 0, none⟩)) rfl (fun W hW => ?_) ?_
          · have h14 := hW.cell 14
            have h0 := hW.cell 0
            have h1 := hW.cell 1
            have h2 := hW.cell 2
            have h3 := hW.cell 3
            have h4 := hW.cell 4
            have h5 := hW.cell 5
            have h6 := hW.cell 6
            have h7 := hW.cell 7
            have h8 := hW.cell 8
            have h9 := hW.cell 9
            have h10 := hW.cell 10
            have h11 := hW.cell 11
            have h12 := hW.cell 12
            have h13 := hW.cell 13
            go_simp
          go_simp
          refine early_step (.pointer (some ⟨bp, 0, none⟩)) rfl (fun W hW => ?_) ?_
          · have h14 := hW.cell 14
            have h0 := hW.cell 0
            have h1 := hW.cell 1
            have h2 := hW.cell 2
            have h3 := hW.cell 3
            have h4 := hW.cell 4
            have h5 := hW.cell 5
            have h6 := hW.cell 6
            have h7 := hW.cell 7
            have h8 := hW.cell 8
            have h9 := hW.cell 9
            have h10 := hW.cell 10
            have h11 := hW.cell 11
            have h12 := hW.cell 12
            have h13 := hW.cell 13
            go_simp
          go_simp
          refine early_step (setV A n cap ⟨sh, ra, mo, m, ba, mi, st, bu, ch, wi, ca⟩ Ab nb cb Ag ng cg) rfl (fun W hW => ?_) ?_
          · have h14 := hW.cell 14
            have h0 := hW.cell 0
            have h1 := hW.cell 1
            have h2 := hW.cell 2
            have h3 := hW.cell 3
            have h4 := hW.cell 4
            have h5 := hW.cell 5
            have h6 := hW.cell 6
            have h7 := hW.cell 7
            have h8 := hW.cell 8
            have h9 := hW.cell 9
            have h10 := hW.cell 10
            have h11 := hW.cell 11
            have h12 := hW.cell 12
            have h13 := hW.cell 13
            go_simp
          go_simp
          refine early_step (.int .i64 k) rfl (fun W hW => ?_) ?_
          · have h14 := hW.cell 14
            have h0 := hW.cell 0
            have h1 := hW.cell 1
            have h2 := hW.cell 2
            have h3 := hW.cell 3
            have h4 := hW.cell 4
            have h5 := hW.cell 5
            have h6 := hW.cell 6
            have h7 := hW.cell 7
            have h8 := hW.cell 8
            have h9 := hW.cell 9
            have h10 := hW.cell 10
            have h11 := hW.cell 11
            have h12 := hW.cell 12
            have h13 := hW.cell 13
            go_simp
          go_simp
          change RestW _ _ _ _ _ (_ :: _ :: _ :: _ :: []) _ _
          unfold RestW
          go_wp2_with fail
          ((with_reducible refine (HI.out _ (Rd.of_own (own_below HRB.out (Below.refl _ _).drew)) (Rd.of_own (own_below HRG.out (Below.refl _ _).drew))).mono ?_); rintro e w5 ⟨A5, c5, rfl, hown5, hb5⟩)
          have hb5' : Below wr.heap.size wr w5 := ((Kept.start wr).call hb5).2.2
          have HBK5 := Lib.hid (HBK.out.kept hb5')
          have HO5 := Lib.hid (own_below HO.out hb5')
          have HB5 := Lib.hid (HB.out.trans (hb5'.mono hz))
          have HRB5 := Lib.hid (own_below HRB.out hb5')
          have HRG5 := Lib.hid (own_below HRG.out hb5')
          have HB55 := Lib.hid hb5'
          clear hown5 hb5 hb5'
          have hz5 := HB5.out.size
          go_wp2_with fail
          refine ⟨HBK5.out, ?_⟩
          unfold RestW
          go_wp2_with fail
          refine ⟨HBK5.out, ?_⟩
          unfold RestW
          go_wp2_with fail
          refine ⟨HBK5.out.alloc _, ?_⟩
          unfold RestW
          change wpList _ _ _ (_ :: []) _ (w5.alloc (.cells #[.int .i64 q] 3))
          go_wp2_with (at_builtin; go_must (refine wpList_pushL slInt rfl _ _ rfl w.heap.size (.slice Al k cl) k (iv (pc.lensL.take k)) rfl HO5.out #[.int .i64 q] w5.heap.size rfl rfl rfl (one_cell _) (by unfold maxLen; omega) (by omega) hz5 ?_); intro A6 c6 w6 hown6 hb6 hg6 hat6)
          have HBK6 := Lib.hid (HBK5.out.other HO5.out hg6 (by decide))
          have HO6 := Lib.hid hown6
          have HB6 := Lib.hid (HB5.out.trans hb6)
          have HSI := Stay.of_own' (u := 113) HO5.out hg6
          have HRB6 := Lib.hid (HSI.own hg6.size HRB5.out (by decide) (by decide))
          have HRG6 := Lib.hid (HSI.own hg6.size HRG5.out (by decide) (by decide))
          clear hown6 hb6 hg6 hat6 HSI
          refine ⟨HBK6.out, ?_⟩
          unfold RestW
          change wpList _ _ _ (_ :: _ :: _ :: []) _ _
          have v1 : w6.cell? ⟨bp, 14, none⟩ = some (.slice Al k cl) := HBK6.out.cell 14
          have f1 := HBK6.out.frozen 14
          have l6 := HBK6.out.lt
          go_wp2_with fail
          refine NoPanic.normal ?_
          have HST := Lib.hid (pset14 HBK6.out (.slice A6 (k + 1) c6))
          clear v1 f1
          go_wp2_with fail
          go_roundw
          case rel =>
            refine ⟨k + 1, A6, c6, by omega, by go_num, HST.out.2, ?_, below_gr HB6.out HB6.out.size HST.out.1 hwbp, HRB6.out.kept HST.out.1 (.inr (own_blk_ne HRB6.out HBK6.out (by decide))), HRG6.out.kept HST.out.1 (.inr (own_blk_ne HRG6.out HBK6.out (by decide)))⟩
            have hk' : pc.lensL.take (k + 1) = pc.lensL.take k ++ [(q : Int)] := by
              have hlt' : k < pc.lensL.length := by rw [HLL.out]; exact hlt
              rw [take_snoc _ _ hlt']
              have := HLK.out
              rw [List.getElem?_eq_getElem hlt'] at this
              injection this with this
              rw [this]
            rw [hk', show iv (pc.lensL.take k ++ [(q : Int)]) = iv (pc.lensL.take k) ++ [.int .i64 q] by simp [iv]]
            exact HO6.out.kept HST.out.1 (.inr (own_blk_ne HO6.out HBK6.out (by decide)))
          case measure => simp [intOf]; omega
      · obtain rfl : k = m := by omega
        have HPA1 := Lib.hid (HPA.out wr bp Ab cb Ag cg Al cl hbk (Rd.of_own hrb) (Rd.of_own hrg) (by
          have := Rd.of_own hown
          rwa [List.take_of_length_le (by rw [HLL.out]; omega)] at this) hcb)
        have HB := Lib.hid hb
        clear hbk hown hb hrb hrg
        go_wp2_with fail
        go_ret2
        exact ⟨bp, rfl, HPA1.out, HB.out⟩
end

end Go.Proofs.Ytkecpbdgcbgogaa
