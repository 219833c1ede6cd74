/-
  SgdNexts: the walk.
-/
import Derived.Test.YtnnphileeeaibaaSgd6
namespace Go.Proofs.Ytnnphileeeaibaa
set_option linter.unusedVariables false
set_option linter.unusedSimpArgs false
open Go.RowKit

set_option maxHeartbeats 400000 in
theorem sgdNexts_far (ra mo sh : Int) (A B G : Option Addr) (N M n c d e : Nat) (w : World) (hN : N ≤ 9223372036854775807) (hM : M ≤ 9223372036854775807) (hn : n ≤ 9223372036854775807) (hf : fewL [N, M, n] = false) :
    Calls Try.prog 3 #[.agg #[.int .i64 ra, .int .i64 mo, .int .i64 sh], .agg #[.slice A N c, .slice B M d], .slice G n e] w fun e w' => e = .returned (.bool true) ∧ Below w.heap.size w w' := by
  have C := fun W => few13_any A B G N M n c d e W hN hM hn
  simp only [hf] at C
  have HF := Lib.hid C
  clear C hf
  go_enter Try.func3, Try.ntmps3
  go_wp2_with fail
  ((with_reducible refine (HF.out _).mono ?_); rintro e w1 ⟨rfl, hb1⟩)
  go_wp2_with fail
  ((with_reducible refine (alive13_any _).mono ?_); rintro e w2 ⟨rfl, hb2⟩)
  go_wp2
  go_ret
  exact ⟨rfl, ((((Kept.of (Below.refl _ w)).alloc _).alloc _).call hb1 |>.call hb2).2.2⟩

/-- What Next hands back, whether there is a state or none. -/
def NOut (w : World) (ok : Bool) (k : Nat) (P' M' : List Int) (en : Ending) (w' : World) : Prop :=
  ∃ AP cP AM cM, en = .returned (.tuple #[.agg #[.slice AP k cP, .slice AM k cM], .bool ok]) ∧ Rd w' 1 AP k (iv P') ∧ Rd w' 1 AM k (iv M') ∧ (∀ b o, AP = some ⟨b, o, none⟩ → 0 < k → w.heap.size ≤ b) ∧ (∀ b o, AM = some ⟨b, o, none⟩ → 0 < k → w.heap.size ≤ b) ∧ Below w.heap.size w w'

theorem next13_pair (ra mo sh : Int) (Ps Ms gs : List Int) (N M n : Nat) (h1 : Ps.length = N) (h2 : Ms.length = M) (h3 : gs.length = n) (hN : N ≤ 1000000) (hM : M ≤ 1000000) (hn : n ≤ 1000000) (hra : In1 ra) (hmo : In1 mo) (hPi : AllIn Ps) (hMi : AllIn Ms) :
    ∃ (ok : Bool) (k : Nat) (P' M' : List Int), k ≤ 1000000 ∧ P'.length = k ∧ M'.length = k ∧ (ok = true → n = N ∧ N = M ∧ P' = nextP ra mo sh Ps Ms gs ∧ M' = nextM mo sh Ms gs) ∧ (ok = false → ¬ (n = N ∧ N = M)) ∧
      (∀ (A B G : Option Addr) (c d e : Nat) (W : World), Rd W 1 A N (iv Ps) → Rd W 1 B M (iv Ms) → Rd W 1 G n (iv gs) → Calls Try.prog 17 #[.agg #[.int .i64 ra, .int .i64 mo, .int .i64 sh], .agg #[.slice A N c, .slice B M d], .slice G n e] W (NOut W ok k P' M')) ∧
      (∀ (A B G : Option Addr) (c d e : Nat) (W : World), Rd W 1 A N (iv Ps) → Rd W 1 B M (iv Ms) → Rd W 1 G n (iv gs) → Calls Try.prog 18 #[.agg #[.int .i64 ra, .int .i64 mo, .int .i64 sh], .agg #[.slice A N c, .slice B M d], .slice G n e] W (NOut W ok k P' M')) := by
  by_cases hg : n = N ∧ N = M
  · obtain ⟨rfl, rfl⟩ := hg
    refine ⟨true, n, nextP ra mo sh Ps Ms gs, nextM mo sh Ms gs, hn, by rw [nextP_length, h1], by rw [nextM_length, h2], fun _ => ⟨rfl, rfl, rfl, rfl⟩, (fun h => by cases h), fun A B G c d e W r1 r2 r3 => ?_, fun A B G c d e W r1 r2 r3 => ?_⟩
    · refine (next13_some ra mo sh A B G n c d e Ps Ms gs W h1 h2 h3 r1 r2 r3 hn hra hmo hPi hMi).mono ?_
      rintro _ w' ⟨AP, cP, AM, cM, rfl, hP, hM, _, hb⟩
      exact ⟨AP, cP, AM, cM, rfl, Rd.of_own hP, Rd.of_own hM, fun b o e _ => (own_rd_block hP b o e).1, fun b o e _ => (own_rd_block hM b o e).1, hb⟩
    · refine (refNext13_some ra mo sh A B G n c d e Ps Ms gs W h1 h2 h3 r1 r2 r3 hn hra hmo hPi hMi).mono ?_
      rintro _ w' ⟨AP, cP, AM, cM, rfl, hP, hM, hb⟩
      exact ⟨AP, cP, AM, cM, rfl, Rd.of_own hP, Rd.of_own hM, fun b o e _ => (own_rd_block hP b o e).1, fun b o e _ => (own_rd_block hM b o e).1, hb⟩
  · refine ⟨false, 0, [], [], by omega, rfl, rfl, (fun h => by cases h), fun _ => hg, fun A B G c d e W r1 r2 r3 => ?_, fun A B G c d e W r1 r2 r3 => ?_⟩
    · refine (next13_not ra mo sh A B G N M c d n e Ps Ms W h1 h2 r1 r2 hN hM hn hg).mono ?_
      rintro _ w' ⟨rfl, hb⟩
      exact ⟨none, 0, none, 0, rfl, Rd.nil _ _ _, Rd.nil _ _ _, fun b o e => by simp at e, fun b o e => by simp at e, hb⟩
    · refine (refNext13_not ra mo sh A B G N M c d n e W hN hM hn hg).mono ?_
      rintro _ w' ⟨rfl, hb⟩
      exact ⟨none, 0, none, 0, rfl, Rd.nil _ _ _, Rd.nil _ _ _, fun b o e => by simp at e, fun b o e => by simp at e, hb⟩

theorem kept_true {P : Program} {f : FuncId} {args : Array Value} {w : World} {x y : List Int} (h : Calls P f args w fun e w' => e = .returned (.bool (decide (x = x) && decide (y = y))) ∧ Below w.heap.size w w') :
    Calls P f args w fun e w' => e = .returned (.bool true) ∧ Below w.heap.size w w' := by
  simpa using h
theorem rd_lt {w : World} {size n : Nat} {A : Option Addr} {xs : List Value} (h : Rd w size A n xs) (b o : Nat) (e : A = some ⟨b, o, none⟩) (h0 : 0 < n) : b < w.heap.size := by
  obtain ⟨b', o', e', hlt, _⟩ := h.2 h0
  rw [e] at e'
  injection e' with e'
  injection e' with e1
  omega

set_option maxHeartbeats 2000000 in
theorem sgdNexts_near (ra mo sh : Int) (A B G : Option Addr) (N M n c d e : Nat) (Ps Ms gs : List Int) (w : World) (h1 : Ps.length = N) (h2 : Ms.length = M) (h3 : gs.length = n) (r1 : Rd w 1 A N (iv Ps)) (r2 : Rd w 1 B M (iv Ms)) (r3 : Rd w 1 G n (iv gs)) (hf : fewL [N, M, n] = true) (hra : In1 ra) (hmo : In1 mo) (hPi : AllIn Ps) (hMi : AllIn Ms) :
    Calls Try.prog 3 #[.agg #[.int .i64 ra, .int .i64 mo, .int .i64 sh], .agg #[.slice A N c, .slice B M d], .slice G n e] w fun e w' => e = .returned (.bool true) ∧ Below w.heap.size w w' := by
  have hle := few_three N M n hf
  have C := fun W => few13_any A B G N M n c d e W (by omega) (by omega) (by omega)
  simp only [hf] at C
  have HF := Lib.hid C
  obtain ⟨ok, k, P', M', hk, hP'l, hM'l, j1, j2, CN, CR⟩ := next13_pair ra mo sh Ps Ms gs N M n h1 h2 h3 (by omega) (by omega) (by omega) hra hmo hPi hMi
  have HCN := Lib.hid CN
  have HCR := Lib.hid CR
  have HG := Lib.hid (fun W (hb : Below w.heap.size w W) => given13_any A B N M c d Ps Ms W h1 h2 (r1.below hb) (r2.below hb) (by omega) (by omega))
  have HCl := Lib.hid (fun W (hb : Below w.heap.size w W) => refClone_any G n e gs W h3 (r3.below hb) (by omega))
  have R1 := Lib.hid r1
  have R2 := Lib.hid r2
  have R3 := Lib.hid r3
  have L1 := Lib.hid h1
  have L2 := Lib.hid h2
  have L3 := Lib.hid h3
  have LP := Lib.hid hP'l
  have LM := Lib.hid hM'l
  clear j1 j2 C CN CR r1 r2 r3 h1 h2 h3 hf hP'l hM'l
  go_enter Try.func3, Try.ntmps3
  go_wp2_with fail
  obtain ⟨w0, hw0⟩ : ∃ w0, (w.alloc (.cells #[.int .i64 ra, .int .i64 mo, .int .i64 sh] 23)).alloc (.cells #[.slice A N c, .slice B M d] 26) = w0 := ⟨_, rfl⟩
  have k0 : Below w.heap.size w w0 := by rw [← hw0]; exact ((Below.refl _ _).alloc (Nat.le_refl _) _).alloc (by simp) _
  have hR0 : Blk w0 w.heap.size 23 #[.int .i64 ra, .int .i64 mo, .int .i64 sh] := by rw [← hw0]; exact (Blk.new w _ _).alloc _
  have hS0 : Blk w0 (w.heap.size + 1) 26 #[.slice A N c, .slice B M d] := by rw [← hw0]; exact Blk.new' _ _ (by simp)
  rw [hw0]
  clear hw0
  ((with_reducible refine (HF.out _).mono ?_); rintro en w1 ⟨rfl, hb1⟩)
  have k1 := ((Kept.of k0).call hb1).2.2
  have hR1 := hR0.kept hb1
  have hS1 := hS0.kept hb1
  have s0 : w1.cell? ⟨w.heap.size + 1, 0, none⟩ = some (.slice A N c) := hS1.cell 0
  have s1 : w1.cell? ⟨w.heap.size + 1, 1, none⟩ = some (.slice B M d) := hS1.cell 1
  clear k0 hR0 hS0 hb1
  go_wp2_with fail
  ((with_reducible refine (HG.out w1 k1).mono ?_); rintro en w2 ⟨AX, cX, AY, cY, rfl, hOX, hOY, hXY, hb2⟩)
  have k2 := ((Kept.of k1).call hb2).2.2
  have HR2 := Lib.hid (hR1.kept hb2)
  have HS2 := Lib.hid (hS1.kept hb2)
  have z2 : w.heap.size + 1 < w2.heap.size := (hS1.kept hb2).lt
  have HOX := Lib.hid hOX
  have HOY := Lib.hid hOY
  clear k1 hR1 hS1 s0 s1 hOX hOY hXY hb2
  go_wp2_with fail
  ((with_reducible refine (HCl.out w2 k2).mono ?_); rintro en w3 ⟨AG, cG, rfl, hOG, hb3⟩)
  have hx3 := own_below HOX.out hb3
  have hy3 := own_below HOY.out hb3
  have hR3 := HR2.out.kept hb3
  have hS3 := HS2.out.kept hb3
  have k3 := ((Kept.of k2).call hb3).2.2
  have hz23 := hb3.size
  have zX : ∀ b o, AX = some ⟨b, o, none⟩ → 0 < N → b < w2.heap.size := fun b o e h0 => (own_rd_block HOX.out b o e).2
  have zY : ∀ b o, AY = some ⟨b, o, none⟩ → 0 < M → b < w2.heap.size := fun b o e h0 => (own_rd_block HOY.out b o e).2
  have HZX := Lib.hid zX
  have HZY := Lib.hid zY
  obtain ⟨w4, hw4⟩ : ∃ w4, w3.alloc (.cells #[.slice AX N cX, .slice AY M cY] 31) = w4 := ⟨_, rfl⟩
  have hb4 : Below w3.heap.size w3 w4 := by rw [← hw4]; exact (Below.refl _ _).alloc (Nat.le_refl _) _
  have hX4 : Blk w4 w3.heap.size 31 #[.slice AX N cX, .slice AY M cY] := by rw [← hw4]; exact Blk.new _ _ _
  have hR4 := hR3.kept hb4
  have hS4 := hS3.kept hb4
  have rX4 := (Rd.of_own hx3).below hb4
  have rY4 := (Rd.of_own hy3).below hb4
  have oG4 := own_below hOG hb4
  have k4 := ((Kept.of k3).call hb4).2.2
  have a0 : w4.cell? ⟨w.heap.size, 0, none⟩ = some (.int .i64 ra) := hR4.cell 0
  have a1 : w4.cell? ⟨w.heap.size, 1, none⟩ = some (.int .i64 mo) := hR4.cell 1
  have a2 : w4.cell? ⟨w.heap.size, 2, none⟩ = some (.int .i64 sh) := hR4.cell 2
  have x0 : w4.cell? ⟨w3.heap.size, 0, none⟩ = some (.slice AX N cX) := hX4.cell 0
  have x1 : w4.cell? ⟨w3.heap.size, 1, none⟩ = some (.slice AY M cY) := hX4.cell 1
  have HN4 := Lib.hid (HCN.out AX AY AG cX cY cG w4 rX4 rY4 (Rd.of_own oG4))
  have HX4 := Lib.hid hX4
  have HR4 := Lib.hid hR4
  have HS4 := Lib.hid hS4
  have HRX := Lib.hid rX4
  have HRY := Lib.hid rY4
  have HOG := Lib.hid oG4
  have HK4 := Lib.hid k4
  have lX := hX4.lt
  have l0 := hR4.lt
  have l1 := hS4.lt
  have zG : ∀ g, (Value.slice AG n cG).ownBlock = some g → w2.heap.size ≤ g ∧ g < w3.heap.size := hOG.lt
  have HZG := Lib.hid zG
  clear zG hx3 hy3 hR3 hS3 k3 hb3 hb4 hX4 hR4 hS4 rX4 rY4 oG4 k4 hOG HR2 HS2 HOX HOY k2 zX zY
  go_wp2_with fail
  clear hw4
  ((with_reducible refine HN4.out.mono ?_); rintro en w5 ⟨A5, c5, B5, d5, rfl, rP5, rM5, hA5, hB5, hb5⟩)
  obtain ⟨w6, hw6⟩ : ∃ w6, w5.alloc (.cells #[.slice A5 k c5, .slice B5 k d5] 31) = w6 := ⟨_, rfl⟩
  have hb6' : Below w5.heap.size w5 w6 := by rw [← hw6]; exact (Below.refl _ _).alloc (Nat.le_refl _) _
  have hY6 : Blk w6 w5.heap.size 31 #[.slice A5 k c5, .slice B5 k d5] := by rw [← hw6]; exact Blk.new _ _ _
  have hb6 := ((Kept.of hb5).call hb6').2.2
  have HP6 := Lib.hid (rP5.below hb6')
  have HM6 := Lib.hid (rM5.below hb6')
  have HA5 := Lib.hid hA5
  have HB5 := Lib.hid hB5
  have hR6 := HR4.out.kept hb6
  have hS6 := HS4.out.kept hb6
  have a0' : w6.cell? ⟨w.heap.size, 0, none⟩ = some (.int .i64 ra) := hR6.cell 0
  have a1' : w6.cell? ⟨w.heap.size, 1, none⟩ = some (.int .i64 mo) := hR6.cell 1
  have a2' : w6.cell? ⟨w.heap.size, 2, none⟩ = some (.int .i64 sh) := hR6.cell 2
  have b0' : w6.cell? ⟨w.heap.size + 1, 0, none⟩ = some (.slice A N c) := hS6.cell 0
  have b1' : w6.cell? ⟨w.heap.size + 1, 1, none⟩ = some (.slice B M d) := hS6.cell 1
  have k6 := ((Kept.of HK4.out).call hb6).2.2
  have HN6 := Lib.hid (HCR.out A B G c d e w6 (R1.out.below k6) (R2.out.below k6) (R3.out.below k6))
  have HX6 := Lib.hid (HX4.out.kept hb6)
  have HY6 := Lib.hid hY6
  have HS6 := Lib.hid hS6
  have HRX6 := Lib.hid (HRX.out.below hb6)
  have HRY6 := Lib.hid (HRY.out.below hb6)
  have HOG6 := Lib.hid (own_below HOG.out hb6)
  have HK6 := Lib.hid k6
  have hz46 := hb6.size
  have lY := hY6.lt
  have hz45 := hb5.size
  have lr6 := hR6.lt
  have ls6 := hS6.lt
  clear a0 a1 a2 x0 x1 HN4 hR6 hS6 hY6 k6 hb5 hb6' hb6 rP5 rM5 hA5 hB5 HX4 HR4 HS4 HRX HRY HOG HK4 HCN HCR
  go_wp2_with fail
  clear hw6
  ((with_reducible refine HN6.out.mono ?_); rintro en w7 ⟨A7, c7, B7, d7, rfl, rP7, rM7, hA7, hB7, hb7⟩)
  obtain ⟨w8, hw8⟩ : ∃ w8, w7.alloc (.cells #[.slice A7 k c7, .slice B7 k d7] 26) = w8 := ⟨_, rfl⟩
  have hb8' : Below w7.heap.size w7 w8 := by rw [← hw8]; exact (Below.refl _ _).alloc (Nat.le_refl _) _
  have hW8 : Blk w8 w7.heap.size 26 #[.slice A7 k c7, .slice B7 k d7] := by rw [← hw8]; exact Blk.new _ _ _
  have hb8 := ((Kept.of hb7).call hb8').2.2
  have hz68 := hb7.size
  have HW8 := Lib.hid hW8
  have HP7 := Lib.hid (rP7.below hb8')
  have HM7 := Lib.hid (rM7.below hb8')
  have HA7 := Lib.hid hA7
  have HB7 := Lib.hid hB7
  have HX8 := Lib.hid (HX6.out.kept hb8)
  have HY8 := Lib.hid (HY6.out.kept hb8)
  have HS8 := Lib.hid (HS6.out.kept hb8)
  have HRX8 := Lib.hid (HRX6.out.below hb8)
  have HRY8 := Lib.hid (HRY6.out.below hb8)
  have HP8 := Lib.hid (HP6.out.below hb8)
  have HM8 := Lib.hid (HM6.out.below hb8)
  have HOG8 := Lib.hid (own_below HOG6.out hb8)
  have HK8 := Lib.hid (((Kept.of HK6.out).call hb8).2.2)
  clear a0' a1' a2' b0' b1' HN6 HX6 HY6 HS6 HRX6 HRY6 HP6 HM6 HOG6 HK6 hW8 hb7 hb8' hb8 rP7 rM7 hA7 hB7
  go_wp2_with fail
  clear hw8
  go_loopw [39] (fun i wr => ∃ j : Nat, j ≤ n ∧ i = .int .i64 j ∧ (∃ gs' : List Int, gs'.length = n ∧ wr.ownsRow w2.heap.size 2 1 (.slice AG n cG) n (iv gs')) ∧ But (fun b => (Value.slice AG n cG).ownBlock = some b) w8 wr) (fun i _ => n - (intOf i).toNat)
  case atStart => exact ⟨0, by omega, rfl, ⟨gs, L3.out, HOG8.out⟩, But.refl _ _⟩
  case round =>
    obtain ⟨j, hj, rfl, ⟨gs', hgl, hown⟩, hB⟩ := hrel
    by_cases hlt : j < n
    · obtain ⟨_, _, q1, _, _, q6⟩ := own_form hown
      injection q1 with q4
      subst q4
      obtain ⟨g, rfl, _, hg⟩ := q6 (by omega)
      have hjl : j < gs'.length := by omega
      have cg := own_cell hown (List.getElem?_eq_getElem hjl)
      have fg := hown.frozenAt j
      generalize gs'[j] = x at cg
      have HO := Lib.hid hown
      have HB := Lib.hid hB
      have HGL := Lib.hid hgl
      clear hown hB q6 hgl hjl
      go_wp2
      have hst := HO.out.stored j (.int .i64 (wrap64 (x + 1)))
      go_roundw
      case rel => exact ⟨j + 1, by omega, by go_num, ⟨gs'.set j (wrap64 (x + 1)), by rw [List.length_set, HGL.out], by rw [← iv_set]; exact hst.1⟩, HB.out.trans (But.of_gr hst.2 rfl)⟩
      case measure => simp [intOf]; omega
    · have hX := HX8.out.but hB (fun h => by have := HZG.out _ h; omega)
      have hY := HY8.out.but hB (fun h => by have := HZG.out _ h; omega)
      have hW := HW8.out.but hB (fun h => by have := HZG.out _ h; omega)
      have hS := HS8.out.but hB (fun h => by have := HZG.out _ h; omega)
      have qX := HRX8.out.but hB (fun b o e h0 h => by have := HZG.out _ h; have := HZX.out b o e h0; omega)
      have qY := HRY8.out.but hB (fun b o e h0 h => by have := HZG.out _ h; have := HZY.out b o e h0; omega)
      have qP := HP8.out.but hB (fun b o e h0 h => by have := HZG.out _ h; have := HA5.out b o e h0; omega)
      have qM := HM8.out.but hB (fun b o e h0 h => by have := HZG.out _ h; have := HB5.out b o e h0; omega)
      have qP' := HP7.out.but hB (fun b o e h0 h => by have := HZG.out _ h; have := HA7.out b o e h0; omega)
      have qM' := HM7.out.but hB (fun b o e h0 h => by have := HZG.out _ h; have := HB7.out b o e h0; omega)
      have q1 := (R1.out.below HK8.out).but hB (fun b o e h0 h => by have := HZG.out _ h; have := rd_lt R1.out b o e h0; omega)
      have q2 := (R2.out.below HK8.out).but hB (fun b o e h0 h => by have := HZG.out _ h; have := rd_lt R2.out b o e h0; omega)
      have HKr := Lib.hid (HK8.out.trans (hB.below HK8.out.size (fun i h => by have := HZG.out i h; omega)))
      have x0 : wr.cell? ⟨w3.heap.size, 0, none⟩ = some (.slice AX N cX) := hX.cell 0
      have x1 : wr.cell? ⟨w3.heap.size, 1, none⟩ = some (.slice AY M cY) := hX.cell 1
      have y0 : wr.cell? ⟨w5.heap.size, 0, none⟩ = some (.slice A5 k c5) := hY.cell 0
      have y1 : wr.cell? ⟨w5.heap.size, 1, none⟩ = some (.slice B5 k d5) := hY.cell 1
      have t0 : wr.cell? ⟨w7.heap.size, 0, none⟩ = some (.slice A7 k c7) := hW.cell 0
      have t1 : wr.cell? ⟨w7.heap.size, 1, none⟩ = some (.slice B7 k d7) := hW.cell 1
      have s0 : wr.cell? ⟨w.heap.size + 1, 0, none⟩ = some (.slice A N c) := hS.cell 0
      have s1 : wr.cell? ⟨w.heap.size + 1, 1, none⟩ = some (.slice B M d) := hS.cell 1
      have g1 := hX.lt
      have g2 := hY.lt
      have g3 := hW.lt
      have g4 := hS.lt
      have S1 := Lib.hid (fun (u : KW wr) => kept_true (refSame13_any A5 B5 A7 B7 k k k k c5 d5 c7 d7 P' M' P' M' u.w LP.out LM.out LP.out LM.out (qP.kept u.h) (qM.kept u.h) (qP'.kept u.h) (qM'.kept u.h) hk hk hk hk))
      have S2 := Lib.hid (fun (u : KW wr) => kept_true (refSame13_any AX AY A B N M N M cX cY c d Ps Ms Ps Ms u.w L1.out L2.out L1.out L2.out (qX.kept u.h) (qY.kept u.h) (q1.kept u.h) (q2.kept u.h) (by omega) (by omega) (by omega) (by omega)))
      clear hX hY hW hS hB hown qX qY qP qM qP' qM' q1 q2
      go_wp2_with fail
      have KC := fun (u : KW wr) b o h => KW.cells u b o h
      refine wp_region_kept wr (by kernel_rfl) (by kernel_rfl) (Kept.of (Below.refl _ _)) ?_
      cases ok <;>
      repeat (go_big_quiet_step (first | (go_at_call 14; with_reducible exact kept_call (alive13_any _)) | (go_at_call 20; with_reducible exact kept_call (back13_any _ _ _ _ _ _ _)) | (go_at_call 19; first | with_reducible exact kept_call (S1.out _) | with_reducible exact kept_call (S2.out _))))
      all_goals refine wpQuiet_nil ?_
      all_goals rintro _ ⟨⟨w9, k9⟩, rfl⟩
      all_goals clear KC
      all_goals go_wp2
      all_goals go_ret
      all_goals exact ⟨rfl, HKr.out.trans (k9.2.2.mono HKr.out.size)⟩

theorem sgdNexts_any (ra mo sh : Int) (A B G : Option Addr) (N M n c d e : Nat) (Ps Ms gs : List Int) (w : World) (hra : In1 ra) (hmo : In1 mo) (hN : N ≤ 9223372036854775807) (hM : M ≤ 9223372036854775807) (hn : n ≤ 9223372036854775807) (h1 : Ps.length = N) (h2 : Ms.length = M) (h3 : gs.length = n) (r1 : Rd w 1 A N (iv Ps)) (r2 : Rd w 1 B M (iv Ms)) (r3 : Rd w 1 G n (iv gs)) (hPi : AllIn Ps) (hMi : AllIn Ms) :
    Calls Try.prog 3 #[.agg #[.int .i64 ra, .int .i64 mo, .int .i64 sh], .agg #[.slice A N c, .slice B M d], .slice G n e] w fun e w' => e = .returned (.bool true) ∧ Below w.heap.size w w' := by
  cases hf : fewL [N, M, n]
  · exact sgdNexts_far ra mo sh A B G N M n c d e w hN hM hn hf
  · exact sgdNexts_near ra mo sh A B G N M n c d e Ps Ms gs w h1 h2 h3 r1 r2 r3 hf hra hmo hPi hMi

end Go.Proofs.Ytnnphileeeaibaa
