/-
  Check of a configuration, and that of the reference.
-/
import Derived.Test.YtkecpbdgcbgogaaShape2
namespace Go.Proofs.Ytkecpbdgcbgogaa
set_option linter.unusedVariables false
set_option linter.unusedSimpArgs false
set_option maxRecDepth 100000
open Go.RowKit

/-- The numbers of a configuration. -/
structure Cfg where
  sh : Int
  ra : Int
  mo : Int
  wk : Int
  ba : Int
  mi : Int
  st : Int
  bu : Int
  ch : Int
  wi : Int
  ca : Int
abbrev cfgC (A : Option Addr) (n cap : Nat) (c : Cfg) : Array Value := #[.slice A n cap, .int .i64 c.sh, .int .i64 c.ra, .int .i64 c.mo, .int .i64 c.wk, .int .i64 c.ba, .int .i64 c.mi, .int .i64 c.st, .int .i64 c.bu, .int .i64 c.ch, .int .i64 c.wi, .int .i64 c.ca]
abbrev cfgV (A : Option Addr) (n cap : Nat) (c : Cfg) : Value := .agg (cfgC A n cap c)
def szB (x : Int) : Bool := decide (1 ≤ x) && decide (x ≤ 1048576)
theorem szB_iff (x : Int) : szB x = true ↔ 1 ≤ x ∧ x ≤ 1048576 := by simp [szB]
def btB (x lo hi : Int) : Bool := decide (lo ≤ x) && decide (x ≤ hi)
theorem btB_iff (x lo hi : Int) : btB x lo hi = true ↔ lo ≤ x ∧ x ≤ hi := by simp [btB]
/-- Is a configuration right? -/
def okCfg (l : List Int) (c : Cfg) : Bool := btB c.wk 1 64 && (btB c.sh 1 62 && (sizesB l && (szB c.mi && (szB c.bu && (szB c.ch && (szB c.wi && (szB c.ca && (btB c.st 0 1048576 && btB c.ba c.wk 1048576))))))))

set_option maxHeartbeats 400000 in
theorem size11_any (x : Int) (w : World) : Calls Try.prog 82 #[.int .i64 x] w fun e w' => e = .returned (.bool (szB x)) ∧ w = w' := by
  by_cases h1 : 1 ≤ x
  · by_cases h2 : x ≤ 1048576
    · go_enter Try.func82, Try.ntmps82
      go_wp2
      go_ret
      exact ⟨ret_bool (by simp [szB, h1, h2]), rfl⟩
    · go_enter Try.func82, Try.ntmps82
      go_wp2
      go_ret
      exact ⟨ret_bool (by simp [szB, h2]), rfl⟩
  · go_enter Try.func82, Try.ntmps82
    go_wp2
    go_ret
    exact ⟨ret_bool (by rw [szB, decide_eq_false (by omega)]; rfl), rfl⟩
set_option maxHeartbeats 400000 in
theorem between_any (x lo hi : Int) (w : World) : Calls Try.prog 80 #[.int .i64 x, .int .i64 lo, .int .i64 hi] w fun e w' => e = .returned (.bool (btB x lo hi)) ∧ w = w' := by
  by_cases h1 : lo ≤ x
  · by_cases h2 : x ≤ hi
    · go_enter Try.func80, Try.ntmps80
      go_wp2
      go_ret
      exact ⟨ret_bool (by simp [btB, h1, h2]), rfl⟩
    · go_enter Try.func80, Try.ntmps80
      go_wp2
      go_ret
      exact ⟨ret_bool (by simp [btB, h2]), rfl⟩
  · go_enter Try.func80, Try.ntmps80
    go_wp2
    go_ret
    exact ⟨ret_bool (by rw [btB, decide_eq_false (by omega)]; rfl), rfl⟩

section
variable (A : Option Addr) (n cap : Nat) (l : List Int) (c : Cfg) (w : World)

set_option maxHeartbeats 4000000 in
theorem confCheck_any (hl : l.length = n) (h : Rd w 1 A n (iv l)) (hcap : n ≤ cap) (hn : n ≤ 1000) :
    Calls Try.prog 60 #[cfgV A n cap c] w (CodeRet (okCfg l c) w) := by
  have HG : Hid (∀ W, w.alloc (.cells (cfgC A n cap c) 58) = W → Below w.heap.size w W ∧ Blk W w.heap.size 58 (cfgC A n cap c)) := Lib.hid (by
    rintro W rfl
    exact ⟨(Below.refl _ _).alloc (Nat.le_refl _) _, Blk.new _ _ _⟩)
  have HS := Lib.hid (fun W (r : Rd W 1 A n (iv l)) => shapeNew_any A n cap l W hl r hcap (by omega))
  have HR := Lib.hid h
  have HZ := Lib.hid size11_any
  obtain ⟨ok, hok⟩ : ∃ ok, okCfg l c = ok := ⟨_, rfl⟩
  have HOK := Lib.hid hok
  rw [hok]
  clear hl h hok
  obtain ⟨sh, ra, mo, wk, ba, mi, st, bu, ch, wi, ca⟩ := c
  go_enter Try.func60, Try.ntmps60
  go_wp2_with fail
  obtain ⟨hB, hK⟩ := HG.out _ rfl
  ((with_reducible refine (HS.out _ (HR.out.below hB)).mono ?_); rintro e w1 ⟨pv, k, rfl, hk, hb1⟩)
  have k1 := hK.kept hb1
  have HB1 := Lib.hid (hB.trans (hb1.mono hB.size))
  have c1 : w1.cell? ⟨w.heap.size, 1, none⟩ = some (.int .i64 sh) := k1.cell 1
  have c4 : w1.cell? ⟨w.heap.size, 4, none⟩ = some (.int .i64 wk) := k1.cell 4
  have c5 : w1.cell? ⟨w.heap.size, 5, none⟩ = some (.int .i64 ba) := k1.cell 5
  have c6 : w1.cell? ⟨w.heap.size, 6, none⟩ = some (.int .i64 mi) := k1.cell 6
  have c7 : w1.cell? ⟨w.heap.size, 7, none⟩ = some (.int .i64 st) := k1.cell 7
  have c8 : w1.cell? ⟨w.heap.size, 8, none⟩ = some (.int .i64 bu) := k1.cell 8
  have c9 : w1.cell? ⟨w.heap.size, 9, none⟩ = some (.int .i64 ch) := k1.cell 9
  have c10 : w1.cell? ⟨w.heap.size, 10, none⟩ = some (.int .i64 wi) := k1.cell 10
  have c11 : w1.cell? ⟨w.heap.size, 11, none⟩ = some (.int .i64 ca) := k1.cell 11
  have l1 := k1.lt
  have HK := Lib.hid hk
  clear hB hK hb1 k1 hk
  have done : ∀ code : Int, code ≠ 0 → ok = false → CodeRet ok w (.returned (.int .i64 code)) w1 := fun code h1 h2 => ⟨code, rfl, by rw [h2]; simp [h1], HB1.out⟩
  have HD := Lib.hid done
  clear done
  by_cases w1' : wk < 1
  · have e1 : decide (wk < 1) = true := decide_eq_true w1'
    go_wp2_with fail
    go_ret
    exact HD.out 6 (by omega) (by rw [← HOK.out]; simp [okCfg, btB]; omega)
  · have e1 : decide (wk < 1) = false := decide_eq_false w1'
    by_cases w2' : 64 < wk
    · have e2 : decide (64 < wk) = true := decide_eq_true w2'
      go_wp2_with fail
      go_ret
      exact HD.out 6 (by omega) (by rw [← HOK.out]; simp [okCfg, btB]; omega)
    · have e2 : decide (64 < wk) = false := decide_eq_false w2'
      by_cases s1' : sh < 1
      · have e3 : decide (sh < 1) = true := decide_eq_true s1'
        go_wp2_with fail
        go_ret
        exact HD.out 9 (by omega) (by rw [← HOK.out]; simp [okCfg, btB]; omega)
      · have e3 : decide (sh < 1) = false := decide_eq_false s1'
        by_cases s2' : 62 < sh
        · have e4 : decide (62 < sh) = true := decide_eq_true s2'
          go_wp2_with fail
          go_ret
          exact HD.out 9 (by omega) (by rw [← HOK.out]; simp [okCfg, btB]; omega)
        · have e4 : decide (62 < sh) = false := decide_eq_false s2'
          by_cases hk0 : k = 0
          · subst hk0
            have hsz : sizesB l = true := HK.out.1 rfl
            have HSZ := Lib.hid hsz
            clear hsz
            by_cases st0 : st = 0
            · subst st0
              go_wp2_with fail
              ((with_reducible refine (HZ.out mi w1).mono ?_); rintro e w2 ⟨rfl, rfl⟩)
              obtain ⟨qmi, hqmi⟩ : ∃ q, szB mi = q := ⟨_, rfl⟩
              rw [hqmi]
              have HQmi := Lib.hid hqmi
              clear hqmi
              cases qmi
              · go_wp2_with fail
                go_ret
                exact HD.out 2 (by omega) (by rw [← HOK.out]; simp [okCfg, HQmi.out])
              · go_wp2_with fail
                ((with_reducible refine (HZ.out bu w1).mono ?_); rintro e w2 ⟨rfl, rfl⟩)
                obtain ⟨qbu, hqbu⟩ : ∃ q, szB bu = q := ⟨_, rfl⟩
                rw [hqbu]
                have HQbu := Lib.hid hqbu
                clear hqbu
                cases qbu
                · go_wp2_with fail
                  go_ret
                  exact HD.out 2 (by omega) (by rw [← HOK.out]; simp [okCfg, HQbu.out])
                · go_wp2_with fail
                  ((with_reducible refine (HZ.out ch w1).mono ?_); rintro e w2 ⟨rfl, rfl⟩)
                  obtain ⟨qch, hqch⟩ : ∃ q, szB ch = q := ⟨_, rfl⟩
                  rw [hqch]
                  have HQch := Lib.hid hqch
                  clear hqch
                  cases qch
                  · go_wp2_with fail
                    go_ret
                    exact HD.out 2 (by omega) (by rw [← HOK.out]; simp [okCfg, HQch.out])
                  · go_wp2_with fail
                    ((with_reducible refine (HZ.out wi w1).mono ?_); rintro e w2 ⟨rfl, rfl⟩)
                    obtain ⟨qwi, hqwi⟩ : ∃ q, szB wi = q := ⟨_, rfl⟩
                    rw [hqwi]
                    have HQwi := Lib.hid hqwi
                    clear hqwi
                    cases qwi
                    · go_wp2_with fail
                      go_ret
                      exact HD.out 2 (by omega) (by rw [← HOK.out]; simp [okCfg, HQwi.out])
                    · go_wp2_with fail
                      ((with_reducible refine (HZ.out ca w1).mono ?_); rintro e w2 ⟨rfl, rfl⟩)
                      obtain ⟨qca, hqca⟩ : ∃ q, szB ca = q := ⟨_, rfl⟩
                      rw [hqca]
                      have HQca := Lib.hid hqca
                      clear hqca
                      cases qca
                      · go_wp2_with fail
                        go_ret
                        exact HD.out 2 (by omega) (by rw [← HOK.out]; simp [okCfg, HQca.out])
                      · by_cases b1' : ba < wk
                        · have f1 : decide (ba < wk) = true := decide_eq_true b1'
                          go_wp2_with fail
                          go_ret
                          exact HD.out 7 (by omega) (by rw [← HOK.out]; simp [okCfg, btB]; omega)
                        · have f1 : decide (ba < wk) = false := decide_eq_false b1'
                          by_cases b2' : 1048576 < ba
                          · have f2 : decide (1048576 < ba) = true := decide_eq_true b2'
                            go_wp2_with fail
                            go_ret
                            exact HD.out 7 (by omega) (by rw [← HOK.out]; simp [okCfg, btB]; omega)
                          · have f2 : decide (1048576 < ba) = false := decide_eq_false b2'
                            go_wp2_with fail
                            go_ret
                            have hall : ok = true := by
                              rw [← HOK.out]
                              simp [okCfg, btB, HSZ.out, HQmi.out, HQbu.out, HQch.out, HQwi.out, HQca.out]
                              skip
                              omega
                            exact ⟨0, rfl, by rw [hall]; simp, HB1.out⟩
            · have e6 : (st != 0) = true := by simp [st0]
              go_wp2_with fail
              ((with_reducible refine (HZ.out mi w1).mono ?_); rintro e w2 ⟨rfl, rfl⟩)
              obtain ⟨qmi, hqmi⟩ : ∃ q, szB mi = q := ⟨_, rfl⟩
              rw [hqmi]
              have HQmi := Lib.hid hqmi
              clear hqmi
              cases qmi
              · go_wp2_with fail
                go_ret
                exact HD.out 2 (by omega) (by rw [← HOK.out]; simp [okCfg, HQmi.out])
              · go_wp2_with fail
                ((with_reducible refine (HZ.out bu w1).mono ?_); rintro e w2 ⟨rfl, rfl⟩)
                obtain ⟨qbu, hqbu⟩ : ∃ q, szB bu = q := ⟨_, rfl⟩
                rw [hqbu]
                have HQbu := Lib.hid hqbu
                clear hqbu
                cases qbu
                · go_wp2_with fail
                  go_ret
                  exact HD.out 2 (by omega) (by rw [← HOK.out]; simp [okCfg, HQbu.out])
                · go_wp2_with fail
                  ((with_reducible refine (HZ.out ch w1).mono ?_); rintro e w2 ⟨rfl, rfl⟩)
                  obtain ⟨qch, hqch⟩ : ∃ q, szB ch = q := ⟨_, rfl⟩
                  rw [hqch]
                  have HQch := Lib.hid hqch
                  clear hqch
                  cases qch
                  · go_wp2_with fail
                    go_ret
                    exact HD.out 2 (by omega) (by rw [← HOK.out]; simp [okCfg, HQch.out])
                  · go_wp2_with fail
                    ((with_reducible refine (HZ.out wi w1).mono ?_); rintro e w2 ⟨rfl, rfl⟩)
                    obtain ⟨qwi, hqwi⟩ : ∃ q, szB wi = q := ⟨_, rfl⟩
                    rw [hqwi]
                    have HQwi := Lib.hid hqwi
                    clear hqwi
                    cases qwi
                    · go_wp2_with fail
                      go_ret
                      exact HD.out 2 (by omega) (by rw [← HOK.out]; simp [okCfg, HQwi.out])
                    · go_wp2_with fail
                      ((with_reducible refine (HZ.out ca w1).mono ?_); rintro e w2 ⟨rfl, rfl⟩)
                      obtain ⟨qca, hqca⟩ : ∃ q, szB ca = q := ⟨_, rfl⟩
                      rw [hqca]
                      have HQca := Lib.hid hqca
                      clear hqca
                      cases qca
                      · go_wp2_with fail
                        go_ret
                        exact HD.out 2 (by omega) (by rw [← HOK.out]; simp [okCfg, HQca.out])
                      · go_wp2_with fail
                        ((with_reducible refine (HZ.out st w1).mono ?_); rintro e w2 ⟨rfl, rfl⟩)
                        obtain ⟨qst, hqst⟩ : ∃ q, szB st = q := ⟨_, rfl⟩
                        rw [hqst]
                        have HQst := Lib.hid hqst
                        clear hqst
                        cases qst
                        · go_wp2_with fail
                          go_ret
                          exact HD.out 2 (by omega) (by
                            rw [← HOK.out]
                            have hno : btB st 0 1048576 = false := by
                              cases hb : btB st 0 1048576 with
                              | false => rfl
                              | true =>
                                have h1 := (btB_iff _ _ _).1 hb
                                have h2 := (szB_iff st).2 (by omega)
                                rw [HQst.out] at h2
                                cases h2
                            simp [okCfg, hno])
                        · by_cases b1' : ba < wk
                          · have f1 : decide (ba < wk) = true := decide_eq_true b1'
                            go_wp2_with fail
                            go_ret
                            exact HD.out 7 (by omega) (by rw [← HOK.out]; simp [okCfg, btB]; omega)
                          · have f1 : decide (ba < wk) = false := decide_eq_false b1'
                            by_cases b2' : 1048576 < ba
                            · have f2 : decide (1048576 < ba) = true := decide_eq_true b2'
                              go_wp2_with fail
                              go_ret
                              exact HD.out 7 (by omega) (by rw [← HOK.out]; simp [okCfg, btB]; omega)
                            · have f2 : decide (1048576 < ba) = false := decide_eq_false b2'
                              go_wp2_with fail
                              go_ret
                              have hall : ok = true := by
                                rw [← HOK.out]
                                simp [okCfg, btB, HSZ.out, HQmi.out, HQbu.out, HQch.out, HQwi.out, HQca.out]
                                have h2 := (szB_iff st).1 HQst.out
                                omega
                              exact ⟨0, rfl, by rw [hall]; simp, HB1.out⟩
          · have e5 : (k != 0) = true := by simp [hk0]
            have hsz : sizesB l = false := by
              cases hq : sizesB l with
              | false => rfl
              | true => exact absurd (HK.out.2 hq) hk0
            have HSZ := Lib.hid hsz
            clear hsz
            go_wp2_with fail
            go_ret
            exact HD.out k hk0 (by rw [← HOK.out]; simp [okCfg, HSZ.out])
end

end Go.Proofs.Ytkecpbdgcbgogaa
