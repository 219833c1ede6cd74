/-
  PlanMakes: there is a plan exactly if the reference has one, with its buckets.
-/
import Derived.Test.YtkecpbdgcbgogaaPlanNear
import Derived.Test.YtkecpbdgcbgogaaEqR
namespace Go.Proofs.Ytkecpbdgcbgogaa
set_option linter.unusedVariables false
set_option linter.unusedSimpArgs false
set_option maxRecDepth 100000
open Go.RowKit

section
variable (A : Option Addr) (n cap : Nat) (l : List Int) (c : Cfg) (P : Int) (w : World)

set_option maxHeartbeats 1000000 in
theorem planMakes_far (hl : l.length = n) (h : Rd w 1 A n (iv l)) (hfar : fewPB n l c P = false) :
    Calls Try.prog 9 #[rplV A n cap c P] w fun e w' => e = .returned (.bool true) ∧ Below w.heap.size w w' := by
  have HG : Hid (∀ W, w.alloc (.cells (rplC A n cap c P) 60) = W → Below w.heap.size w W ∧ Blk W w.heap.size 60 (rplC A n cap c P)) := Lib.hid (by
    rintro W rfl
    exact ⟨(Below.refl _ _).alloc (Nat.le_refl _) _, Blk.new _ _ _⟩)
  have C := fun W (r : Rd W 1 A n (iv l)) => refFew_any A n cap l c P W hl r
  rw [hfar] at C
  have HFw := Lib.hid C
  have HR := Lib.hid h
  have HAl := Lib.hid alive20_any
  obtain ⟨sh, ra, mo, wk, ba, mi, st, bu, ch, wi, ca⟩ := c
  clear hl h hfar C
  go_enter Try.func9, Try.ntmps9
  go_wp2_with fail
  obtain ⟨w0, hw0⟩ : ∃ w0, w.alloc (.cells (rplC A n cap ⟨sh, ra, mo, wk, ba, mi, st, bu, ch, wi, ca⟩ P) 60) = w0 := ⟨_, rfl⟩
  obtain ⟨hB, hK⟩ := HG.out _ hw0
  rw [hw0]
  clear hw0 HG
  have HB := Lib.hid hB
  ((with_reducible refine (HFw.out _ (HR.out.below hB)).mono ?_); rintro e w1 ⟨rfl, hb1⟩)
  have HB1 := Lib.hid (HB.out.trans (hb1.mono HB.out.size))
  clear hB hK hb1
  go_wp2_with fail
  ((with_reducible refine (HAl.out _).mono ?_); rintro e w2 ⟨rfl, hb2⟩)
  have HB2 := Lib.hid (HB1.out.trans (hb2.mono HB1.out.size))
  clear hb2
  go_wp2_with fail
  go_ret
  exact ⟨rfl, HB2.out⟩

set_option maxHeartbeats 1000000 in
theorem planMakes_bad (hl : l.length = n) (h : Rd w 1 A n (iv l)) (hcap : n ≤ cap) (hfw : fewPB n l c P = true) (hri : rightB l c P = false) :
    Calls Try.prog 9 #[rplV A n cap c P] w fun e w' => e = .returned (.bool true) ∧ Below w.heap.size w w' := by
  have hn := few_n hfw
  have HG : Hid (∀ W, w.alloc (.cells (rplC A n cap c P) 60) = W → Below w.heap.size w W ∧ Blk W w.heap.size 60 (rplC A n cap c P)) := Lib.hid (by
    rintro W rfl
    exact ⟨(Below.refl _ _).alloc (Nat.le_refl _) _, Blk.new _ _ _⟩)
  have CF := fun W (r : Rd W 1 A n (iv l)) => refFew_any A n cap l c P W hl r
  have CR := fun W (r : Rd W 1 A n (iv l)) => refRight_any A n cap l c P W hl r (by omega)
  rw [hfw] at CF
  rw [hri] at CR
  have hbad : okCfg l c = false ∨ P < 1 ∨ 1048576 < P := by
    unfold rightB at hri
    cases hok : okCfg l c with
    | false => exact .inl rfl
    | true =>
      rw [hok] at hri
      simp at hri
      right
      by_cases h1 : P < 1
      · exact .inl h1
      · exact .inr (hri (by omega))
  have HFw := Lib.hid CF
  have HRi := Lib.hid CR
  have HNew := Lib.hid (fun W (r : Rd W 1 A n (iv l)) => planNew_bad A n cap l c P W hl r hcap (by omega) hbad)
  have HR := Lib.hid h
  have HAl := Lib.hid alive20_any
  have HBn := Lib.hid planBuckets_nil
  obtain ⟨sh, ra, mo, wk, ba, mi, st, bu, ch, wi, ca⟩ := c
  clear hl h hfw hri CF CR hbad hcap
  go_enter Try.func9, Try.ntmps9
  go_wp2_with fail
  obtain ⟨w0, hw0⟩ : ∃ w0, w.alloc (.cells (rplC A n cap ⟨sh, ra, mo, wk, ba, mi, st, bu, ch, wi, ca⟩ P) 60) = w0 := ⟨_, rfl⟩
  obtain ⟨hB, hK⟩ := HG.out _ hw0
  rw [hw0]
  clear hw0 HG
  have HB := Lib.hid hB
  ((with_reducible refine (HFw.out _ (HR.out.below hB)).mono ?_); rintro e w1 ⟨rfl, hb1⟩)
  have HK1 := Lib.hid (hK.kept hb1)
  have HB1 := Lib.hid (HB.out.trans (hb1.mono HB.out.size))
  have HR1 := Lib.hid ((HR.out.below hB).below hb1)
  have s0 : w1.cell? ⟨w.heap.size, 0, none⟩ = some (.slice A n cap) := HK1.out.cell 0
  have s1 : w1.cell? ⟨w.heap.size, 1, none⟩ = some (.int .i64 sh) := HK1.out.cell 1
  have s2 : w1.cell? ⟨w.heap.size, 2, none⟩ = some (.int .i64 ra) := HK1.out.cell 2
  have s3 : w1.cell? ⟨w.heap.size, 3, none⟩ = some (.int .i64 mo) := HK1.out.cell 3
  have s4 : w1.cell? ⟨w.heap.size, 4, none⟩ = some (.int .i64 wk) := HK1.out.cell 4
  have s5 : w1.cell? ⟨w.heap.size, 5, none⟩ = some (.int .i64 ba) := HK1.out.cell 5
  have s6 : w1.cell? ⟨w.heap.size, 6, none⟩ = some (.int .i64 mi) := HK1.out.cell 6
  have s7 : w1.cell? ⟨w.heap.size, 7, none⟩ = some (.int .i64 st) := HK1.out.cell 7
  have s8 : w1.cell? ⟨w.heap.size, 8, none⟩ = some (.int .i64 bu) := HK1.out.cell 8
  have s9 : w1.cell? ⟨w.heap.size, 9, none⟩ = some (.int .i64 ch) := HK1.out.cell 9
  have s10 : w1.cell? ⟨w.heap.size, 10, none⟩ = some (.int .i64 wi) := HK1.out.cell 10
  have s11 : w1.cell? ⟨w.heap.size, 11, none⟩ = some (.int .i64 ca) := HK1.out.cell 11
  have s12 : w1.cell? ⟨w.heap.size, 12, none⟩ = some (.int .i64 P) := HK1.out.cell 12
  have ls := HK1.out.lt
  clear hB hK hb1
  go_wp2_with fail
  ((with_reducible refine (HNew.out _ HR1.out).mono ?_); rintro e w2 ⟨rfl, hb2⟩)
  have HK2 := Lib.hid (HK1.out.kept hb2)
  have HB2 := Lib.hid (HB1.out.trans (hb2.mono HB1.out.size))
  have HR2 := Lib.hid (HR1.out.below hb2)
  have s0 : w2.cell? ⟨w.heap.size, 0, none⟩ = some (.slice A n cap) := HK2.out.cell 0
  have s1 : w2.cell? ⟨w.heap.size, 1, none⟩ = some (.int .i64 sh) := HK2.out.cell 1
  have s2 : w2.cell? ⟨w.heap.size, 2, none⟩ = some (.int .i64 ra) := HK2.out.cell 2
  have s3 : w2.cell? ⟨w.heap.size, 3, none⟩ = some (.int .i64 mo) := HK2.out.cell 3
  have s4 : w2.cell? ⟨w.heap.size, 4, none⟩ = some (.int .i64 wk) := HK2.out.cell 4
  have s5 : w2.cell? ⟨w.heap.size, 5, none⟩ = some (.int .i64 ba) := HK2.out.cell 5
  have s6 : w2.cell? ⟨w.heap.size, 6, none⟩ = some (.int .i64 mi) := HK2.out.cell 6
  have s7 : w2.cell? ⟨w.heap.size, 7, none⟩ = some (.int .i64 st) := HK2.out.cell 7
  have s8 : w2.cell? ⟨w.heap.size, 8, none⟩ = some (.int .i64 bu) := HK2.out.cell 8
  have s9 : w2.cell? ⟨w.heap.size, 9, none⟩ = some (.int .i64 ch) := HK2.out.cell 9
  have s10 : w2.cell? ⟨w.heap.size, 10, none⟩ = some (.int .i64 wi) := HK2.out.cell 10
  have s11 : w2.cell? ⟨w.heap.size, 11, none⟩ = some (.int .i64 ca) := HK2.out.cell 11
  have s12 : w2.cell? ⟨w.heap.size, 12, none⟩ = some (.int .i64 P) := HK2.out.cell 12
  have ls := HK2.out.lt
  clear hb2
  go_wp2_with fail
  ((with_reducible refine (HRi.out _ HR2.out).mono ?_); rintro e w3 ⟨rfl, hb3⟩)
  have HB3 := Lib.hid (HB2.out.trans (hb3.mono HB2.out.size))
  clear hb3
  go_wp2_with fail
  ((with_reducible refine (HAl.out _).mono ?_); rintro e w4 ⟨rfl, hb4⟩)
  have HB4 := Lib.hid (HB3.out.trans (hb4.mono HB3.out.size))
  clear hb4
  go_wp2_with fail
  ((with_reducible refine (HBn.out _).mono ?_); rintro e w5 ⟨rfl, rfl⟩)
  go_wp2_with fail
  go_ret
  exact ⟨rfl, HB4.out⟩

set_option maxHeartbeats 2000000 in
theorem planMakes_near (hl : l.length = n) (h : Rd w 1 A n (iv l)) (hcap : n ≤ cap) (hfw : fewPB n l c P = true) (hri : rightB l c P = true) :
    Calls Try.prog 9 #[rplV A n cap c P] w fun e w' => e = .returned (.bool true) ∧ Below w.heap.size w w' := by
  obtain ⟨hn, hok, hp, hf, hP⟩ := near_of hfw hri
  have HG : Hid (∀ W, w.alloc (.cells (rplC A n cap c P) 60) = W → Below w.heap.size w W ∧ Blk W w.heap.size 60 (rplC A n cap c P)) := Lib.hid (by
    rintro W rfl
    exact ⟨(Below.refl _ _).alloc (Nat.le_refl _) _, Blk.new _ _ _⟩)
  have CF := fun W (r : Rd W 1 A n (iv l)) => refFew_any A n cap l c P W hl r
  have CR := fun W (r : Rd W 1 A n (iv l)) => refRight_any A n cap l c P W hl r (by omega)
  rw [hfw] at CF
  rw [hri] at CR
  obtain ⟨pc, hpc⟩ : ∃ pc, pcOf c P.toNat = pc := ⟨_, rfl⟩
  rw [hpc] at hp hf hP
  have HFw := Lib.hid CF
  have HRi := Lib.hid CR
  have HNew := Lib.hid (fun W (r : Rd W 1 A n (iv l)) => planNew_good A n cap l c P W pc hp hl r hcap (by omega) hok hf.wk hf.ch hf.mi hf.wi hf.bu hP)
  have HR := Lib.hid h
  have HAl := Lib.hid alive20_any
  have HBk := Lib.hid (fun b W (h : PlanAt W b pc c A n cap) => planBuckets_any pc c A n cap b W hp h)
  have HRB := Lib.hid (fun W => refBuckets20_any pc c A n cap P W hp hf hP)
  have HBL := Lib.hid pc.bks_length
  have hnb1 := PlC.nb_pos hp
  have hnb2 := PlC.nb_le hp
  obtain ⟨nb, hnb⟩ : ∃ nb, pc.nb = nb := ⟨_, rfl⟩
  rw [hnb] at HBk HRB HBL hnb1 hnb2
  have HEq : Hid (∀ (A' B' : Option Addr) (c' d' : Nat) (W : World), Rd W 2 A' nb (rv pc.bks) → Rd W 2 B' nb (rv pc.bks) → Calls Try.prog 42 #[.slice A' nb c', .slice B' nb d'] W fun e w' => e = .returned (.bool true) ∧ Below W.heap.size W w') := Lib.hid (fun A' B' c' d' W r r' => by
    refine (equalRef_any A' B' nb nb c' d' pc.bks pc.bks W HBL.out HBL.out r r' (by omega) (by omega)).mono ?_
    rintro e w' ⟨rfl, hb⟩
    exact ⟨by rw [decide_eq_true rfl], hb⟩)
  obtain ⟨sh, ra, mo, wk, ba, mi, st, bu, ch, wi, ca⟩ := c
  clear hl h hfw hri hn hok hp hf hP hpc CF CR hcap hnb
  go_enter Try.func9, Try.ntmps9
  go_wp2_with fail
  obtain ⟨w0, hw0⟩ : ∃ w0, w.alloc (.cells (rplC A n cap ⟨sh, ra, mo, wk, ba, mi, st, bu, ch, wi, ca⟩ P) 60) = w0 := ⟨_, rfl⟩
  obtain ⟨hB, hK⟩ := HG.out _ hw0
  rw [hw0]
  clear hw0 HG
  have HB := Lib.hid hB
  have HK := Lib.hid hK
  ((with_reducible refine (HFw.out _ (HR.out.below hB)).mono ?_); rintro e w1 ⟨rfl, hb1⟩)
  have HK1 := Lib.hid (hK.kept hb1)
  have HB1 := Lib.hid (HB.out.trans (hb1.mono HB.out.size))
  have HR1 := Lib.hid ((HR.out.below hB).below hb1)
  have s0 : w1.cell? ⟨w.heap.size, 0, none⟩ = some (.slice A n cap) := HK1.out.cell 0
  have s1 : w1.cell? ⟨w.heap.size, 1, none⟩ = some (.int .i64 sh) := HK1.out.cell 1
  have s2 : w1.cell? ⟨w.heap.size, 2, none⟩ = some (.int .i64 ra) := HK1.out.cell 2
  have s3 : w1.cell? ⟨w.heap.size, 3, none⟩ = some (.int .i64 mo) := HK1.out.cell 3
  have s4 : w1.cell? ⟨w.heap.size, 4, none⟩ = some (.int .i64 wk) := HK1.out.cell 4
  have s5 : w1.cell? ⟨w.heap.size, 5, none⟩ = some (.int .i64 ba) := HK1.out.cell 5
  have s6 : w1.cell? ⟨w.heap.size, 6, none⟩ = some (.int .i64 mi) := HK1.out.cell 6
  have s7 : w1.cell? ⟨w.heap.size, 7, none⟩ = some (.int .i64 st) := HK1.out.cell 7
  have s8 : w1.cell? ⟨w.heap.size, 8, none⟩ = some (.int .i64 bu) := HK1.out.cell 8
  have s9 : w1.cell? ⟨w.heap.size, 9, none⟩ = some (.int .i64 ch) := HK1.out.cell 9
  have s10 : w1.cell? ⟨w.heap.size, 10, none⟩ = some (.int .i64 wi) := HK1.out.cell 10
  have s11 : w1.cell? ⟨w.heap.size, 11, none⟩ = some (.int .i64 ca) := HK1.out.cell 11
  have s12 : w1.cell? ⟨w.heap.size, 12, none⟩ = some (.int .i64 P) := HK1.out.cell 12
  have ls := HK1.out.lt
  clear hB hK hb1 HB HK
  go_wp2_with fail
  have HK2 := Lib.hid HK1.out
  have HB2 := Lib.hid HB1.out
  have HR2 := Lib.hid HR1.out
  ((with_reducible refine (HNew.out _ HR2.out).mono ?_); rintro e w3 ⟨b, rfl, hpl, hb3⟩)
  clear s0 s1 s2 s3 s4 s5 s6 s7 s8 s9 s10 s11 s12 ls
  have HK3 := Lib.hid (HK2.out.kept hb3)
  have HB3 := Lib.hid (HB2.out.trans (hb3.mono HB2.out.size))
  have HR3 := Lib.hid (HR2.out.below hb3)
  have HPL := Lib.hid hpl
  have s0 : w3.cell? ⟨w.heap.size, 0, none⟩ = some (.slice A n cap) := HK3.out.cell 0
  have s1 : w3.cell? ⟨w.heap.size, 1, none⟩ = some (.int .i64 sh) := HK3.out.cell 1
  have s2 : w3.cell? ⟨w.heap.size, 2, none⟩ = some (.int .i64 ra) := HK3.out.cell 2
  have s3 : w3.cell? ⟨w.heap.size, 3, none⟩ = some (.int .i64 mo) := HK3.out.cell 3
  have s4 : w3.cell? ⟨w.heap.size, 4, none⟩ = some (.int .i64 wk) := HK3.out.cell 4
  have s5 : w3.cell? ⟨w.heap.size, 5, none⟩ = some (.int .i64 ba) := HK3.out.cell 5
  have s6 : w3.cell? ⟨w.heap.size, 6, none⟩ = some (.int .i64 mi) := HK3.out.cell 6
  have s7 : w3.cell? ⟨w.heap.size, 7, none⟩ = some (.int .i64 st) := HK3.out.cell 7
  have s8 : w3.cell? ⟨w.heap.size, 8, none⟩ = some (.int .i64 bu) := HK3.out.cell 8
  have s9 : w3.cell? ⟨w.heap.size, 9, none⟩ = some (.int .i64 ch) := HK3.out.cell 9
  have s10 : w3.cell? ⟨w.heap.size, 10, none⟩ = some (.int .i64 wi) := HK3.out.cell 10
  have s11 : w3.cell? ⟨w.heap.size, 11, none⟩ = some (.int .i64 ca) := HK3.out.cell 11
  have s12 : w3.cell? ⟨w.heap.size, 12, none⟩ = some (.int .i64 P) := HK3.out.cell 12
  have ls := HK3.out.lt
  clear hb3 hpl HK2 HB2 HR2
  go_wp2_with fail
  ((with_reducible refine (HRi.out _ HR3.out).mono ?_); rintro e w4 ⟨rfl, hb4⟩)
  have HK4 := Lib.hid (HK3.out.kept hb4)
  have HB4 := Lib.hid (HB3.out.trans (hb4.mono HB3.out.size))
  have HP4 := Lib.hid (HPL.out.kept hb4)
  clear hb4
  go_wp2_with fail
  ((with_reducible refine (HBk.out b _ HP4.out).mono ?_); rintro e w5 ⟨A5, c5, rfl, hown5, hb5⟩)
  have hz5 := hb5.size
  obtain ⟨g, cur, rfl, hbg, hbl5, hcs⟩ : ∃ g cur, A5 = some ⟨g, 0, none⟩ ∧ w4.heap.size ≤ g ∧ Blk w5 g 33 cur ∧ nb * 2 ≤ cur.size := by
    rcases hown5.2 with ⟨_, h0⟩ | ⟨g, cap', cur, hv, hbg, hh, h1, h2, h3, _⟩
    · omega
    · injection hv with hv1 _ hv3
      exact ⟨g, cur, hv1, hbg, hh, by rw [h3]; omega⟩
  have HB5 := Lib.hid hb5
  have HBL5 := Lib.hid hbl5
  clear hown5 hb5 hbl5
  go_wp2_with fail
  go_loopw [45] (fun u wr => ∃ (i : Nat) (cs : Array Value), i ≤ nb ∧ u = .int .i64 i ∧ Blk wr g 33 cs ∧ nb * 2 ≤ cs.size ∧ Below w4.heap.size w4 wr) (fun u _ => nb - (intOf u).toNat)
  case atStart => exact ⟨0, cur, by omega, rfl, HBL5.out, hcs, HB5.out⟩
  case round =>
    obtain ⟨i, cs, hi, rfl, hbl, hcs1, hb⟩ := hrel
    by_cases hlt : i < nb
    · have i1 : (i : Int) < (nb : Int) := by omega
      have i2 : (0 : Int) ≤ (i : Int) := by omega
      have h0 : i * 2 < cs.size := by omega
      have h1 : i * 2 + 1 < cs.size := by omega
      have c0 : wr.cell? ⟨g, i * 2, none⟩ = some cs[i * 2] := by rw [hbl.cell (i * 2)]; exact Array.getElem?_eq_getElem h0
      have c1 : wr.cell? ⟨g, i * 2 + 1, none⟩ = some cs[i * 2 + 1] := by rw [hbl.cell (i * 2 + 1)]; exact Array.getElem?_eq_getElem h1
      have f0 := hbl.frozen (i * 2)
      have f1 := hbl.frozen (i * 2 + 1)
      have lg := hbl.lt
      obtain ⟨u0, hu0⟩ : ∃ u0, cs[i * 2] = u0 := ⟨_, rfl⟩
      obtain ⟨u1, hu1⟩ : ∃ u1, cs[i * 2 + 1] = u1 := ⟨_, rfl⟩
      rw [hu0] at c0
      rw [hu1] at c1
      have HBL6 := Lib.hid ((hbl.set_ (i * 2) (.int .i64 0)).set_ (i * 2 + 1) (.int .i64 0))
      have HGR : Hid (wr.grownBy ((wr.setCell ⟨g, i * 2, none⟩ (.int .i64 0)).setCell ⟨g, i * 2 + 1, none⟩ (.int .i64 0)) (some g)) := Lib.hid (gr_set (p := ⟨g, i * 2 + 1, none⟩) (gr_set (p := ⟨g, i * 2, none⟩) (World.grownBy.refl wr _) (.inl rfl) _) (.inl rfl) _)
      have HB6 := Lib.hid hb
      clear hbl hb hu0 hu1
      go_wp2_with fail
      go_roundw
      case rel => exact ⟨i + 1, _, by omega, by go_num, HBL6.out, by simpa using hcs1, below_gr HB6.out HB6.out.size HGR.out hbg⟩
      case measure => simp [intOf]; omega
    · obtain rfl : i = nb := by omega
      have HP5 := Lib.hid (HP4.out.kept hb)
      have HB6 := Lib.hid (HB4.out.trans (hb.mono HB4.out.size))
      have HK6 := Lib.hid (HK4.out.kept hb)
      clear hbl hb
      go_wp2_with fail
      ((with_reducible refine (HBk.out b _ HP5.out).mono ?_); rintro e w6 ⟨A6, c6, rfl, hown6, hb6⟩)
      have HR6 := Lib.hid (Rd.of_own hown6)
      have HB7 := Lib.hid (HB6.out.trans (hb6.mono HB6.out.size))
      have HK7 := Lib.hid (HK6.out.kept hb6)
      clear hown6 hb6 HB5 HBL5
      go_wp2_with fail
      go_loopw [7, 56] (fun v u wr => ∃ k : Nat, k ≤ i ∧ u = .int .i64 k ∧ Coll w6 23 pc.bks k v wr) (fun _ u _ => i - (intOf u).toNat)
      case atStart => exact ⟨0, by omega, rfl, Coll.start _ _ _⟩
      case round =>
        obtain ⟨k, hk, rfl, hcoll⟩ := hrel
        by_cases hlt2 : k < i
        · obtain ⟨g2, o2, x, y, rfl, hg2, hxy, d0, d1⟩ := rd_at HBL.out (HR6.out.below hcoll.2.2) hlt2
          have HX := Lib.hid hxy
          have i1 : (k : Int) < (i : Int) := by omega
          have i2 : (0 : Int) ≤ (k : Int) := by omega
          clear hxy
          go_wp2_with (at_builtin; go_must (refine wpList_push slRef rfl _ _ rfl w6.heap.size _ k (rv (pc.bks.take k)) rfl (hcoll.2.1.alloc _) #[.int .i64 x, .int .i64 y] _ rfl (by simp) rfl (two_cells x y) (by unfold maxLen; omega) (by omega) (by have := hcoll.2.2.size; simp; omega) ?_); intro A' cap' w8 hown1 hb1)
          go_roundw
          case rel => exact ⟨k + 1, by omega, by go_num, hcoll.next HX hown1 (((Below.refl _ _).alloc hcoll.2.2.size _).trans hb1)⟩
          case measure => simp [intOf]; omega
        · obtain rfl : k = i := by omega
          obtain ⟨⟨Av, cv, rfl⟩, hownv, hbv⟩ := hcoll
          rw [List.take_of_length_le (by rw [HBL.out]; exact Nat.le_refl _)] at hownv
          have HRv := Lib.hid (Rd.of_own hownv)
          have HB8 := Lib.hid (HB7.out.trans (hbv.mono HB7.out.size))
          have HK8 := Lib.hid (HK7.out.kept hbv)
          clear hownv hbv
          go_wp2_with fail
          ((with_reducible refine (HAl.out _).mono ?_); rintro e w9 ⟨rfl, hb9⟩)
          have HB9 := Lib.hid (HB8.out.trans (hb9.mono HB8.out.size))
          have HK9 := Lib.hid (HK8.out.kept hb9)
          have HRv9 := Lib.hid (HRv.out.below hb9)
          have s0 : w9.cell? ⟨w.heap.size, 0, none⟩ = some (.slice A n cap) := HK9.out.cell 0
          have s1 : w9.cell? ⟨w.heap.size, 1, none⟩ = some (.int .i64 sh) := HK9.out.cell 1
          have s2 : w9.cell? ⟨w.heap.size, 2, none⟩ = some (.int .i64 ra) := HK9.out.cell 2
          have s3 : w9.cell? ⟨w.heap.size, 3, none⟩ = some (.int .i64 mo) := HK9.out.cell 3
          have s4 : w9.cell? ⟨w.heap.size, 4, none⟩ = some (.int .i64 wk) := HK9.out.cell 4
          have s5 : w9.cell? ⟨w.heap.size, 5, none⟩ = some (.int .i64 ba) := HK9.out.cell 5
          have s6 : w9.cell? ⟨w.heap.size, 6, none⟩ = some (.int .i64 mi) := HK9.out.cell 6
          have s7 : w9.cell? ⟨w.heap.size, 7, none⟩ = some (.int .i64 st) := HK9.out.cell 7
          have s8 : w9.cell? ⟨w.heap.size, 8, none⟩ = some (.int .i64 bu) := HK9.out.cell 8
          have s9 : w9.cell? ⟨w.heap.size, 9, none⟩ = some (.int .i64 ch) := HK9.out.cell 9
          have s10 : w9.cell? ⟨w.heap.size, 10, none⟩ = some (.int .i64 wi) := HK9.out.cell 10
          have s11 : w9.cell? ⟨w.heap.size, 11, none⟩ = some (.int .i64 ca) := HK9.out.cell 11
          have s12 : w9.cell? ⟨w.heap.size, 12, none⟩ = some (.int .i64 P) := HK9.out.cell 12
          have ls := HK9.out.lt
          clear hb9
          go_wp2_with fail
          ((with_reducible refine (HRB.out _).mono ?_); rintro e w10 ⟨A10, c10, rfl, hown10, hb10⟩)
          have HB10 := Lib.hid (HB9.out.trans (hb10.mono HB9.out.size))
          have HRx := Lib.hid (Rd.of_own hown10)
          have HRv10 := Lib.hid (HRv9.out.below hb10)
          clear hown10 hb10
          go_wp2_with fail
          ((with_reducible refine (HEq.out _ _ _ _ _ HRv10.out HRx.out).mono ?_); rintro e w11 ⟨rfl, hb11⟩)
          have HB11 := Lib.hid (HB10.out.trans (hb11.mono HB10.out.size))
          clear hb11
          go_wp2_with fail
          go_ret
          exact ⟨rfl, HB11.out⟩

theorem planMakes_row (hl : l.length = n) (h : Rd w 1 A n (iv l)) (hcap : n ≤ cap) :
    Calls Try.prog 9 #[rplV A n cap c P] w fun e w' => e = .returned (.bool true) ∧ Below w.heap.size w w' := by
  cases hf : fewPB n l c P
  · exact planMakes_far A n cap l c P w hl h hf
  · cases hr : rightB l c P
    · exact planMakes_bad A n cap l c P w hl h hcap hf hr
    · exact planMakes_near A n cap l c P w hl h hcap hf hr
end

end Go.Proofs.Ytkecpbdgcbgogaa
