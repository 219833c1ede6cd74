/-
  The reference's plans: Right, Few, Buckets, Job.
-/
import Derived.Test.YtkecpbdgcbgogaaPlanMeth2
namespace Go.Proofs.Ytkecpbdgcbgogaa
set_option linter.unusedVariables false
set_option linter.unusedSimpArgs false
set_option maxRecDepth 100000
open Go.RowKit

/-- A plan of the reference as a value. -/
abbrev rplC (A : Option Addr) (n cap : Nat) (c : Cfg) (P : Int) : Array Value := #[.slice A n cap, .int .i64 c.sh, .int .i64 c.ra, .int .i64 c.mo, .int .i64 c.wk, .int .i64 c.ba, .int .i64 c.mi, .int .i64 c.st, .int .i64 c.bu, .int .i64 c.ch, .int .i64 c.wi, .int .i64 c.ca, .int .i64 P]
abbrev rplV (A : Option Addr) (n cap : Nat) (c : Cfg) (P : Int) : Value := .agg (rplC A n cap c P)
def rightB (l : List Int) (c : Cfg) (P : Int) : Bool := okCfg l c && (decide (1 ≤ P) && decide (P ≤ 1048576))
def fewPB (n : Nat) (l : List Int) (c : Cfg) (P : Int) : Bool := if 40 < n then false else if rightB l c P then decide (P ≤ 60) && (decide (c.wk ≤ 8) && (decide (c.mi ≤ 20) && decide (c.st ≤ 12))) else true

section
variable (A : Option Addr) (n cap : Nat) (l : List Int) (c : Cfg) (P : Int) (w : World)

set_option maxHeartbeats 4000000 in
theorem refConf_any (hl : l.length = n) (h : Rd w 1 A n (iv l)) (hn : n ≤ 1000) :
    Calls Try.prog 59 #[cfgV A n cap c] w (CodeRet (okCfg l c) w) := by
  have HG : Hid (∀ W, w.alloc (.cells (cfgC A n cap c) 58) = W → Below w.heap.size w W ∧ Blk W w.heap.size 58 (cfgC A n cap c)) := Lib.hid (by
    rintro W rfl
    exact ⟨(Below.refl _ _).alloc (Nat.le_refl _) _, Blk.new _ _ _⟩)
  have HS := Lib.hid (fun W (r : Rd W 1 A n (iv l)) => refCheck08_any A n cap l W hl r hn)
  have HR := Lib.hid h
  have HZ := Lib.hid between_any
  obtain ⟨sh, ra, mo, wk, ba, mi, st, bu, ch, wi, ca⟩ := c
  obtain ⟨ok, hok⟩ : ∃ ok, okCfg l ⟨sh, ra, mo, wk, ba, mi, st, bu, ch, wi, ca⟩ = ok := ⟨_, rfl⟩
  have HOK : Hid ((btB wk 1 64 && (btB sh 1 62 && (sizesB l && (btB mi 1 1048576 && (btB bu 1 1048576 && (btB ch 1 1048576 && (btB wi 1 1048576 && (btB ca 1 1048576 && (btB st 0 1048576 && btB ba wk 1048576))))))))) = ok) := Lib.hid hok
  rw [hok]
  clear hl h hok
  go_enter Try.func59, Try.ntmps59
  go_wp2_with fail
  obtain ⟨w0, hw0⟩ : ∃ w0, w.alloc (.cells (cfgC A n cap ⟨sh, ra, mo, wk, ba, mi, st, bu, ch, wi, ca⟩) 58) = w0 := ⟨_, rfl⟩
  obtain ⟨hB, hK⟩ := HG.out _ hw0
  rw [hw0]
  clear hw0 HG
  obtain ⟨bc, hbc⟩ : ∃ bc, w.heap.size = bc := ⟨_, rfl⟩
  rw [hbc] at hK ⊢
  have HBC := Lib.hid hbc
  clear hbc
  have HB := Lib.hid hB
  have HK := Lib.hid hK
  have c0 : w0.cell? ⟨bc, 0, none⟩ = some (.slice A n cap) := hK.cell 0
  have c1 : w0.cell? ⟨bc, 1, none⟩ = some (.int .i64 sh) := hK.cell 1
  have c4 : w0.cell? ⟨bc, 4, none⟩ = some (.int .i64 wk) := hK.cell 4
  have lc := hK.lt
  clear hB hK
  have HD : Hid (∀ (code : Int) (W : World), code ≠ 0 → ok = false → Below w.heap.size w W → CodeRet ok w (.returned (.int .i64 code)) W) := Lib.hid (fun code W h1 h2 h3 => ⟨code, rfl, by rw [h2]; simp [h1], h3⟩)
  ((with_reducible refine (HZ.out wk 1 64 w0).mono ?_); rintro e w2 ⟨rfl, rfl⟩)
  obtain ⟨q1, hq1⟩ : ∃ q, btB wk 1 64 = q := ⟨_, rfl⟩
  rw [hq1]
  rw [hq1] at HOK
  clear hq1
  cases q1
  · go_wp2_with fail
    go_ret
    exact HD.out 6 _ (by omega) (by rw [← HOK.out]; rfl) HB.out
  · go_wp2_with fail
    ((with_reducible refine (HZ.out sh 1 62 w0).mono ?_); rintro e w2 ⟨rfl, rfl⟩)
    obtain ⟨q2, hq2⟩ : ∃ q, btB sh 1 62 = q := ⟨_, rfl⟩
    rw [hq2]
    rw [hq2] at HOK
    clear hq2
    cases q2
    · go_wp2_with fail
      go_ret
      exact HD.out 9 _ (by omega) (by rw [← HOK.out]; rfl) HB.out
    · go_wp2_with fail
      ((with_reducible refine (HS.out _ (HR.out.below (by rw [HBC.out]; exact HBC.out ▸ HB.out))).mono ?_); rintro e w1 ⟨cd, rfl, hcd, hb1⟩)
      have HCD := Lib.hid hcd
      have k1 := HK.out.kept hb1
      have HK1 := Lib.hid k1
      have HB1 := Lib.hid (HB.out.trans (hb1.mono HB.out.size))
      clear hcd hb1 c0 c1 c4 lc HK HB
      by_cases h0 : cd = 0
      · subst h0
        have hsz := HCD.out.1 rfl
        rw [hsz] at HOK
        have c4 : w1.cell? ⟨bc, 4, none⟩ = some (.int .i64 wk) := k1.cell 4
        have c5 : w1.cell? ⟨bc, 5, none⟩ = some (.int .i64 ba) := k1.cell 5
        have c6 : w1.cell? ⟨bc, 6, none⟩ = some (.int .i64 mi) := k1.cell 6
        have c7 : w1.cell? ⟨bc, 7, none⟩ = some (.int .i64 st) := k1.cell 7
        have c8 : w1.cell? ⟨bc, 8, none⟩ = some (.int .i64 bu) := k1.cell 8
        have c9 : w1.cell? ⟨bc, 9, none⟩ = some (.int .i64 ch) := k1.cell 9
        have c10 : w1.cell? ⟨bc, 10, none⟩ = some (.int .i64 wi) := k1.cell 10
        have c11 : w1.cell? ⟨bc, 11, none⟩ = some (.int .i64 ca) := k1.cell 11
        have lc := k1.lt
        obtain ⟨s1, hs1⟩ : ∃ s1, IntKind.i64.wrap (st + 1) = s1 := ⟨_, rfl⟩
        have HNB : Hid (∀ W, w1.alloc (.cells #[.int .i64 mi, .int .i64 bu, .int .i64 ch, .int .i64 wi, .int .i64 ca, .int .i64 s1] 3) = W → Below w1.heap.size w1 W ∧ Blk W w1.heap.size 3 #[.int .i64 mi, .int .i64 bu, .int .i64 ch, .int .i64 wi, .int .i64 ca, .int .i64 s1]) := Lib.hid (by
          rintro W rfl
          exact ⟨(Below.refl _ _).alloc (Nat.le_refl _) _, Blk.new _ _ _⟩)
        clear k1 hsz
        by_cases hs0 : st < 0
        · have e1 : decide (st < 0) = true := decide_eq_true hs0
          go_wp2_with fail
          go_ret
          exact HD.out 2 _ (by omega) (by rw [← HOK.out]; simp [btB]; intros; omega) (HB1.out.alloc HB1.out.size _)
        · have e1 : decide (st < 0) = false := decide_eq_false hs0
          by_cases hs2 : 1048576 < st
          · have e2 : decide (1048576 < st) = true := decide_eq_true hs2
            go_wp2_with fail
            go_ret
            exact HD.out 2 _ (by omega) (by rw [← HOK.out]; simp [btB]; intros; omega) (HB1.out.alloc HB1.out.size _)
          · have e2 : decide (1048576 < st) = false := decide_eq_false hs2
            have hst : btB st 0 1048576 = true := by simp [btB]; omega
            rw [hst] at HOK
            clear hst
            go_wp2_with fail
            obtain ⟨w3, hw3⟩ : ∃ w3, w1.alloc (.cells #[.int .i64 mi, .int .i64 bu, .int .i64 ch, .int .i64 wi, .int .i64 ca, .int .i64 s1] 3) = w3 := ⟨_, rfl⟩
            obtain ⟨hb3, hl3⟩ := HNB.out _ hw3
            rw [hw3]
            have HB3 := Lib.hid (HB1.out.trans (hb3.mono HB1.out.size))
            have HK3 := Lib.hid (HK1.out.kept hb3)
            obtain ⟨lb, hlb⟩ : ∃ lb, w1.heap.size = lb := ⟨_, rfl⟩
            rw [hlb] at hl3 ⊢
            have HL3 := Lib.hid hl3
            clear hlb hw3 hb3 hl3 HNB hs1 c4 c5 c6 c7 c8 c9 c10 c11 lc e1 e2 HB1 HK1
            have HE : Hid (∀ k : Nat, k < 5 → ∃ y, w3.cell? ⟨lb, k, none⟩ = some (.int .i64 y) ∧ [mi, bu, ch, wi, ca][k]? = some y) := Lib.hid (fun k hk => by
              match k, hk with
              | 0, _ => exact ⟨mi, HL3.out.cell 0, rfl⟩
              | 1, _ => exact ⟨bu, HL3.out.cell 1, rfl⟩
              | 2, _ => exact ⟨ch, HL3.out.cell 2, rfl⟩
              | 3, _ => exact ⟨wi, HL3.out.cell 3, rfl⟩
              | 4, _ => exact ⟨ca, HL3.out.cell 4, rfl⟩)
            have HF : Hid (∀ (k : Nat) (y : Int), [mi, bu, ch, wi, ca][k]? = some y → btB y 1 1048576 = false → ok = false) := Lib.hid (fun k y hy hf => by
              have := HOK.out
              match k, hy with
              | 0, hy => injection hy with hy; subst hy; rw [← this, hf]; simp
              | 1, hy => injection hy with hy; subst hy; rw [← this, hf]; simp
              | 2, hy => injection hy with hy; subst hy; rw [← this, hf]; simp
              | 3, hy => injection hy with hy; subst hy; rw [← this, hf]; simp
              | 4, hy => injection hy with hy; subst hy; rw [← this, hf]; simp)
            have HT : Hid ((∀ (j : Nat) (y : Int), j < 5 → [mi, bu, ch, wi, ca][j]? = some y → btB y 1 1048576 = true) → btB ba wk 1048576 = ok) := Lib.hid (fun hall => by
              have h0 := hall 0 mi (by omega) rfl
              have h1 := hall 1 bu (by omega) rfl
              have h2 := hall 2 ch (by omega) rfl
              have h3 := hall 3 wi (by omega) rfl
              have h4 := hall 4 ca (by omega) rfl
              rw [← HOK.out, h0, h1, h2, h3, h4]
              simp)
            have llb := HL3.out.lt
            go_loopw [5] (fun i wr => ∃ k : Nat, k ≤ 5 ∧ i = .int .i64 k ∧ wr = w3 ∧ Hid (∀ (j : Nat) (y : Int), j < k → [mi, bu, ch, wi, ca][j]? = some y → btB y 1 1048576 = true)) (fun i _ => 5 - (intOf i).toNat)
            case atStart => exact ⟨0, by omega, rfl, rfl, Lib.hid (fun j y h => by omega)⟩
            case round =>
              obtain ⟨k, hk, rfl, hwr, he⟩ := hrel
              subst hwr
              by_cases hlt : k < 5
              · obtain ⟨y, hy1, hy2⟩ := HE.out k hlt
                have HY := Lib.hid hy2
                have i1 : (k : Int) < 5 := by omega
                have i2 : (0 : Int) ≤ (k : Int) := by omega
                have i3 : (k : Int) < 6 := by omega
                clear hy2
                go_wp2_with fail
                ((with_reducible refine (HZ.out y 1 1048576 _).mono ?_); rintro e w2 ⟨rfl, rfl⟩)
                obtain ⟨q3, hq3⟩ : ∃ q, btB y 1 1048576 = q := ⟨_, rfl⟩
                rw [hq3]
                have HQ3 := Lib.hid hq3
                clear hq3
                cases q3
                · go_wp2_with fail
                  go_ret
                  exact HD.out 2 _ (by omega) (HF.out k y HY.out HQ3.out) HB3.out
                · go_wp2_with fail
                  go_roundw
                  case rel =>
                    refine ⟨k + 1, by omega, by go_num, trivial, Lib.hid (fun j z hj hz => ?_)⟩
                    by_cases hjk : j < k
                    · exact he.out j z hjk hz
                    · obtain rfl : j = k := by omega
                      rw [HY.out] at hz
                      injection hz with hz
                      subst hz
                      exact HQ3.out
                  case measure => simp [intOf]; omega
              · obtain rfl : k = 5 := by omega
                have c4 : wr.cell? ⟨bc, 4, none⟩ = some (.int .i64 wk) := HK3.out.cell 4
                have c5 : wr.cell? ⟨bc, 5, none⟩ = some (.int .i64 ba) := HK3.out.cell 5
                have lc := HK3.out.lt
                have HOB := Lib.hid (HT.out he.out)
                clear he
                go_wp2_with fail
                ((with_reducible refine (HZ.out ba wk 1048576 _).mono ?_); rintro e w2 ⟨rfl, rfl⟩)
                obtain ⟨q3, hq3⟩ : ∃ q, btB ba wk 1048576 = q := ⟨_, rfl⟩
                rw [hq3]
                rw [hq3] at HOB
                clear hq3
                cases q3
                · go_wp2_with fail
                  go_ret
                  exact HD.out 7 _ (by omega) HOB.out.symm HB3.out
                · go_wp2_with fail
                  go_ret
                  exact ⟨0, rfl, by rw [← HOB.out]; simp, HB3.out⟩
      · have hsz : sizesB l = false := by
          cases hq : sizesB l with
          | false => rfl
          | true => exact absurd (HCD.out.2 hq) h0
        rw [hsz] at HOK
        have e5 : (cd != 0) = true := by simp [h0]
        clear hsz
        go_wp2_with fail
        go_ret
        exact HD.out cd _ h0 (by rw [← HOK.out]; simp) HB1.out

set_option maxHeartbeats 1000000 in
theorem refRight_any (hl : l.length = n) (h : Rd w 1 A n (iv l)) (hn : n ≤ 1000) :
    Calls Try.prog 29 #[rplV A n cap c P] w fun e w' => e = .returned (.bool (rightB l c P)) ∧ Below w.heap.size w w' := by
  have HG : Hid (∀ W, w.alloc (.cells (rplC A n cap c P) 60) = W → Below w.heap.size w W ∧ Blk W w.heap.size 60 (rplC A n cap c P)) := Lib.hid (by
    rintro W rfl
    exact ⟨(Below.refl _ _).alloc (Nat.le_refl _) _, Blk.new _ _ _⟩)
  have HC := Lib.hid (fun W (r : Rd W 1 A n (iv l)) => refConf_any A n cap l c W hl r hn)
  have HR := Lib.hid h
  obtain ⟨q, hq⟩ : ∃ q, rightB l c P = q := ⟨_, rfl⟩
  have HQ := Lib.hid hq
  rw [hq]
  clear hl h hq
  go_enter Try.func29, Try.ntmps29
  go_wp2_with fail
  obtain ⟨w0, hw0⟩ : ∃ w0, w.alloc (.cells (rplC A n cap c P) 60) = w0 := ⟨_, rfl⟩
  obtain ⟨hB, hK⟩ := HG.out _ hw0
  rw [hw0]
  clear hw0 HG
  have HB := Lib.hid hB
  have HK := Lib.hid hK
  ((with_reducible refine (HC.out _ (HR.out.below hB)).mono ?_); rintro e w1 ⟨cd, rfl, hcd, hb1⟩)
  have k1 := HK.out.kept hb1
  have HB1 := Lib.hid (HB.out.trans (hb1.mono HB.out.size))
  have HCD := Lib.hid hcd
  have c12 : w1.cell? ⟨w.heap.size, 12, none⟩ = some (.int .i64 P) := k1.cell 12
  have lc := k1.lt
  clear hB hK hcd hb1 k1 HB HK
  by_cases h0 : cd = 0
  · subst h0
    have HO := Lib.hid (HCD.out.1 rfl)
    by_cases h1 : 1 ≤ P
    · have e1 : decide (1 ≤ P) = true := decide_eq_true h1
      by_cases h2 : P ≤ 1048576
      · have e2 : decide (P ≤ 1048576) = true := decide_eq_true h2
        go_wp2_with fail
        go_ret
        exact ⟨ret_bool (by rw [← HQ.out]; simp only [rightB, HO.out, e1, e2, Bool.and_true, Bool.true_and]), HB1.out⟩
      · have e2 : decide (P ≤ 1048576) = false := decide_eq_false h2
        go_wp2_with fail
        go_ret
        exact ⟨ret_bool (by rw [← HQ.out]; simp only [rightB, e2, Bool.and_false]), HB1.out⟩
    · have e1 : decide (1 ≤ P) = false := decide_eq_false h1
      go_wp2_with fail
      go_ret
      exact ⟨ret_bool (by rw [← HQ.out]; simp only [rightB, e1, Bool.false_and, Bool.and_false]), HB1.out⟩
  · have hno : okCfg l c = false := by
      cases hh : okCfg l c with
      | false => rfl
      | true => exact absurd (HCD.out.2 hh) h0
    have HO := Lib.hid hno
    have e5 : (cd == 0) = false := by simp [h0]
    clear hno
    go_wp2_with fail
    go_ret
    exact ⟨ret_bool (by rw [← HQ.out]; simp only [rightB, HO.out, Bool.false_and]), HB1.out⟩

set_option maxHeartbeats 2000000 in
theorem refFew_any (hl : l.length = n) (h : Rd w 1 A n (iv l)) :
    Calls Try.prog 28 #[rplV A n cap c P] w fun e w' => e = .returned (.bool (fewPB n l c P)) ∧ Below w.heap.size w w' := by
  have HG : Hid (∀ W, w.alloc (.cells (rplC A n cap c P) 60) = W → Below w.heap.size w W ∧ Blk W w.heap.size 60 (rplC A n cap c P)) := Lib.hid (by
    rintro W rfl
    exact ⟨(Below.refl _ _).alloc (Nat.le_refl _) _, Blk.new _ _ _⟩)
  have HR := Lib.hid h
  have HL := Lib.hid hl
  obtain ⟨q, hq⟩ : ∃ q, fewPB n l c P = q := ⟨_, rfl⟩
  have HQ := Lib.hid hq
  rw [hq]
  by_cases h40 : 40 < n
  · have e1 : decide ((40 : Int) < (n : Int)) = true := decide_eq_true (by omega)
    have e2 : decide ((n : Int) ≤ 40) = false := decide_eq_false (by omega)
    clear hl h hq
    go_enter Try.func28, Try.ntmps28
    go_wp2_with fail
    go_ret
    exact ⟨ret_bool (by rw [← HQ.out, fewPB, if_pos h40]), (Below.refl _ _).alloc (Nat.le_refl _) _⟩
  · have e1 : decide ((40 : Int) < (n : Int)) = false := decide_eq_false (by omega)
    have e2 : decide ((n : Int) ≤ 40) = true := decide_eq_true (by omega)
    have HRi := Lib.hid (fun W (r : Rd W 1 A n (iv l)) => refRight_any A n cap l c P W hl r (by omega))
    clear hl h hq
    go_enter Try.func28, Try.ntmps28
    go_wp2_with fail
    obtain ⟨w0, hw0⟩ : ∃ w0, w.alloc (.cells (rplC A n cap c P) 60) = w0 := ⟨_, rfl⟩
    obtain ⟨hB, hK⟩ := HG.out _ hw0
    rw [hw0]
    clear hw0 HG
    have HB := Lib.hid hB
    have HK := Lib.hid hK
    ((with_reducible refine (HRi.out _ (HR.out.below hB)).mono ?_); rintro e w1 ⟨rfl, hb1⟩)
    have k1 := HK.out.kept hb1
    have HB1 := Lib.hid (HB.out.trans (hb1.mono HB.out.size))
    have c0 : w1.cell? ⟨w.heap.size, 0, none⟩ = some (.slice A n cap) := k1.cell 0
    have c4 : w1.cell? ⟨w.heap.size, 4, none⟩ = some (.int .i64 c.wk) := k1.cell 4
    have c6 : w1.cell? ⟨w.heap.size, 6, none⟩ = some (.int .i64 c.mi) := k1.cell 6
    have c7 : w1.cell? ⟨w.heap.size, 7, none⟩ = some (.int .i64 c.st) := k1.cell 7
    have c12 : w1.cell? ⟨w.heap.size, 12, none⟩ = some (.int .i64 P) := k1.cell 12
    have lc := k1.lt
    clear hB hK hb1 k1 HB HK
    obtain ⟨rq, hrq⟩ : ∃ rq, rightB l c P = rq := ⟨_, rfl⟩
    rw [hrq]
    have HRQ := Lib.hid hrq
    clear hrq
    cases rq
    · go_wp2_with fail
      go_ret
      exact ⟨ret_bool (by rw [← HQ.out, fewPB, if_neg h40, HRQ.out]; rfl), HB1.out⟩
    · have HF : Hid (fewPB n l c P = (decide (P ≤ 60) && (decide (c.wk ≤ 8) && (decide (c.mi ≤ 20) && decide (c.st ≤ 12))))) := Lib.hid (by rw [fewPB, if_neg h40, HRQ.out]; rfl)
      by_cases f1 : P ≤ 60
      · have g1 : decide (P ≤ 60) = true := decide_eq_true f1
        by_cases f2 : c.wk ≤ 8
        · have g2 : decide (c.wk ≤ 8) = true := decide_eq_true f2
          by_cases f3 : c.mi ≤ 20
          · have g3 : decide (c.mi ≤ 20) = true := decide_eq_true f3
            by_cases f4 : c.st ≤ 12
            · have g4 : decide (c.st ≤ 12) = true := decide_eq_true f4
              go_wp2_with fail
              go_ret
              exact ⟨ret_bool (by rw [← HQ.out, HF.out, g1, g2, g3, g4]; rfl), HB1.out⟩
            · have g4 : decide (c.st ≤ 12) = false := decide_eq_false f4
              go_wp2_with fail
              go_ret
              exact ⟨ret_bool (by rw [← HQ.out, HF.out, g4, Bool.and_false, Bool.and_false, Bool.and_false]), HB1.out⟩
          · have g3 : decide (c.mi ≤ 20) = false := decide_eq_false f3
            go_wp2_with fail
            go_ret
            exact ⟨ret_bool (by rw [← HQ.out, HF.out, g3, Bool.false_and, Bool.and_false, Bool.and_false]), HB1.out⟩
        · have g2 : decide (c.wk ≤ 8) = false := decide_eq_false f2
          go_wp2_with fail
          go_ret
          exact ⟨ret_bool (by rw [← HQ.out, HF.out, g2, Bool.false_and, Bool.and_false]), HB1.out⟩
      · have g1 : decide (P ≤ 60) = false := decide_eq_false f1
        go_wp2_with fail
        go_ret
        exact ⟨ret_bool (by rw [← HQ.out, HF.out, g1, Bool.false_and]), HB1.out⟩
end

end Go.Proofs.Ytkecpbdgcbgogaa
