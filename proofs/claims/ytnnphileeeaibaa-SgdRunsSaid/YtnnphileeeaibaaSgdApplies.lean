/-
  SgdApplies: the walk.
-/
import Derived.Test.YtnnphileeeaibaaSgd7
namespace Go.Proofs.Ytnnphileeeaibaa
set_option linter.unusedVariables false
set_option linter.unusedSimpArgs false
open Go.RowKit

set_option maxHeartbeats 400000 in
theorem sgdApplies_far (ra mo sh lo hi : Int) (A B G : Option Addr) (N M n c d e : Nat) (w : World) (hN : N ≤ 9223372036854775807) (hM : M ≤ 9223372036854775807) (hn : n ≤ 9223372036854775807) (hf : fewL [N, M, n] = false) :
    Calls Try.prog 4 #[.agg #[.int .i64 ra, .int .i64 mo, .int .i64 sh], .agg #[.slice A N c, .slice B M d], .agg #[.int .i64 lo, .int .i64 hi, .slice G n e]] w fun e w' => e = .returned (.bool true) ∧ Below w.heap.size w w' := by
  have C := fun W => few13_any A B G N M n c d e W hN hM hn
  simp only [hf] at C
  have HF := Lib.hid C
  clear C hf
  go_enter Try.func4, Try.ntmps4
  go_wp2_with fail
  ((with_reducible refine (HF.out _).mono ?_); rintro e w1 ⟨rfl, hb1⟩)
  go_wp2_with fail
  ((with_reducible refine (alive13_any _).mono ?_); rintro e w2 ⟨rfl, hb2⟩)
  go_wp2
  go_ret
  exact ⟨rfl, (((((Kept.of (Below.refl _ w)).alloc _).alloc _).alloc _).call hb1 |>.call hb2).2.2⟩

/-- The blocks that a state of the call's own lies in. -/
def StB (A B : Option Addr) (N M c d : Nat) (b : Nat) : Prop := (Value.slice A N c).ownBlock = some b ∨ (Value.slice B M d).ownBlock = some b

/-- What Apply and its reference make of a state. -/
theorem apply13_pair (ra mo sh lo hi : Int) (Ps Ms gs : List Int) (N M n : Nat) (h1 : Ps.length = N) (h2 : Ms.length = M) (h3 : gs.length = n) (hN : N ≤ 1000000) (hM : M ≤ 1000000) (hn : n ≤ 1000000) (hra : In1 ra) (hmo : In1 mo) (hPi : AllIn Ps) (hMi : AllIn Ms) :
    ∃ (ok : Bool) (P' M' : List Int), P'.length = N ∧ M'.length = M ∧
      (∀ (A B G : Option Addr) (c d e base : Nat) (W : World), W.ownsRow base 2 1 (.slice A N c) N (iv Ps) → W.ownsRow base 2 1 (.slice B M d) M (iv Ms) → (∀ g h, (Value.slice A N c).ownBlock = some g → (Value.slice B M d).ownBlock = some h → g < h) → Rd W 1 G n (iv gs) → (∀ b o, G = some ⟨b, o, none⟩ → 0 < n → b < base) →
        Calls Try.prog 21 #[.agg #[.int .i64 ra, .int .i64 mo, .int .i64 sh], .agg #[.slice A N c, .slice B M d], .agg #[.int .i64 lo, .int .i64 hi], .slice G n e] W fun en w' => en = .returned (.bool ok) ∧
          w'.ownsRow base 2 1 (.slice A N c) N (iv P') ∧ w'.ownsRow base 2 1 (.slice B M d) M (iv M') ∧ But (StB A B N M c d) W w') ∧
      (∀ (A B G : Option Addr) (c d e : Nat) (W : World), N ≤ c → M ≤ d → Rd W 1 A N (iv Ps) → Rd W 1 B M (iv Ms) → Rd W 1 G n (iv gs) →
        Calls Try.prog 22 #[.agg #[.int .i64 ra, .int .i64 mo, .int .i64 sh], .agg #[.slice A N c, .slice B M d], .agg #[.int .i64 lo, .int .i64 hi], .slice G n e] W fun en w' => ∃ AP cP AM cM, en = .returned (.tuple #[.agg #[.slice AP N cP, .slice AM M cM], .bool ok]) ∧
          Rd w' 1 AP N (iv P') ∧ Rd w' 1 AM M (iv M') ∧ Below W.heap.size W w') := by
  cases hc : canApply N M lo hi n
  · refine ⟨false, Ps, Ms, h1, h2, fun A B G c d e base W o1 o2 _ r3 _ => ?_, fun A B G c d e W _ _ r1 r2 r3 => ?_⟩
    · refine (apply_not ra mo sh lo hi A B G N M c d n e W hN hM hn hc).mono ?_
      rintro _ w' ⟨rfl, hb⟩
      exact ⟨rfl, own_below o1 hb, own_below o2 hb, But.of_below _ hb⟩
    · refine (refApply13_not ra mo sh lo hi A B G N M c d n e W hN hM hn hc).mono ?_
      rintro _ w' ⟨rfl, hb⟩
      exact ⟨A, c, B, d, rfl, r1.below hb, r2.below hb, hb⟩
  · have hb : N = M ∧ 0 ≤ lo ∧ lo ≤ hi ∧ hi ≤ N ∧ (n : Int) = hi - lo := by simpa [canApply] using hc
    obtain ⟨rfl, b1, b2, b3, b4⟩ := hb
    obtain ⟨l, rfl⟩ := Int.eq_ofNat_of_zero_le b1
    obtain ⟨h, rfl⟩ := Int.eq_ofNat_of_zero_le (show 0 ≤ hi by omega)
    refine ⟨true, applyP ra mo sh Ps Ms gs l n, applyM mo sh Ms gs l n, by rw [applyP_length, h1], by rw [applyM_length, h2], fun A B G c d e base W o1 o2 hlt r3 hG => ?_, fun A B G c d e W hNc hNd r1 r2 r3 => ?_⟩
    · obtain ⟨bp, bm, hap, hbb⟩ : ∃ bp bm, (0 < N → A = some ⟨bp, 0, none⟩ ∧ B = some ⟨bm, 0, none⟩ ∧ bp ≠ bm) ∧ (0 < N → base ≤ bp ∧ base ≤ bm) := by
        rcases Nat.eq_zero_or_pos N with h0 | h0
        · exact ⟨0, 0, fun h => by omega, fun h => by omega⟩
        · obtain ⟨_, _, q1, _, _, q6⟩ := own_form o1
          obtain ⟨_, _, s1, _, _, s6⟩ := own_form o2
          injection q1 with q4
          injection s1 with s4
          subst q4 s4
          obtain ⟨g, rfl, g1, _⟩ := q6 h0
          obtain ⟨k, rfl, k1, _⟩ := s6 h0
          exact ⟨g, k, fun _ => ⟨rfl, rfl, by have := hlt g k rfl rfl; omega⟩, fun _ => ⟨g1, k1⟩⟩
      refine (apply_any ra mo sh A B G N c d n e l h bp bm base Ps Ms gs W o1 o2 hap r3 h3 (fun b o e' h0 => by have := hG b o e' h0; have := hbb (by omega); omega) (by omega) (by omega) hN hra hmo hPi hMi).mono ?_
      rintro _ w' ⟨rfl, p1, p2, hB⟩
      refine ⟨rfl, p1, p2, hB.mono (fun i _ hi => ?_)⟩
      obtain ⟨e1, e2, _⟩ := hap hi.1
      rcases hi.2 with rfl | rfl
      · exact .inl (by rw [e1]; rfl)
      · exact .inr (by rw [e2]; rfl)
    · refine (refApply13_some ra mo sh A B G N c d n e l h Ps Ms gs W h1 h2 h3 r1 r2 r3 (by omega) (by omega) hN hNc hNd hra hmo hPi hMi).mono ?_
      rintro _ w' ⟨AP, cP, AM, cM, rfl, hP, hM, hb⟩
      exact ⟨AP, cP, AM, cM, rfl, Rd.of_own hP, Rd.of_own hM, hb⟩

set_option maxHeartbeats 2000000 in
theorem sgdApplies_near (ra mo sh lo hi : Int) (A B G : Option Addr) (N M n c d e : Nat) (Ps Ms gs : List Int) (w : World) (hNc : N ≤ c) (hMd : M ≤ d) (h1 : Ps.length = N) (h2 : Ms.length = M) (h3 : gs.length = n) (r1 : Rd w 1 A N (iv Ps)) (r2 : Rd w 1 B M (iv Ms)) (r3 : Rd w 1 G n (iv gs)) (hf : fewL [N, M, n] = true) (hra : In1 ra) (hmo : In1 mo) (hPi : AllIn Ps) (hMi : AllIn Ms) :
    Calls Try.prog 4 #[.agg #[.int .i64 ra, .int .i64 mo, .int .i64 sh], .agg #[.slice A N c, .slice B M d], .agg #[.int .i64 lo, .int .i64 hi, .slice G n e]] w fun e w' => e = .returned (.bool true) ∧ Below w.heap.size w w' := by
  have hle := few_three N M n hf
  have C := fun W => few13_any A B G N M n c d e W (by omega) (by omega) (by omega)
  simp only [hf] at C
  have HF := Lib.hid C
  obtain ⟨ok, P', M', hP'l, hM'l, CN, CR⟩ := apply13_pair ra mo sh lo hi Ps Ms gs N M n h1 h2 h3 (by omega) (by omega) (by omega) hra hmo hPi hMi
  have HCN := Lib.hid CN
  have HCR := Lib.hid (fun W => CR A B G c d e W hNc hMd)
  have HG := Lib.hid (fun W (hb : Below w.heap.size w W) => given13_any A B N M c d Ps Ms W h1 h2 (r1.below hb) (r2.below hb) (by omega) (by omega))
  have R1 := Lib.hid r1
  have R2 := Lib.hid r2
  have R3 := Lib.hid r3
  have LP := Lib.hid hP'l
  have LM := Lib.hid hM'l
  clear C CN CR r1 r2 r3 h1 h2 h3 hf hP'l hM'l
  go_enter Try.func4, Try.ntmps4
  go_wp2_with fail
  obtain ⟨w0, hw0⟩ : ∃ w0, ((w.alloc (.cells #[.int .i64 ra, .int .i64 mo, .int .i64 sh] 23)).alloc (.cells #[.slice A N c, .slice B M d] 26)).alloc (.cells #[.int .i64 lo, .int .i64 hi, .slice G n e] 45) = w0 := ⟨_, rfl⟩
  have k0 : Below w.heap.size w w0 := by rw [← hw0]; exact (((Below.refl _ _).alloc (Nat.le_refl _) _).alloc (by simp) _).alloc (by simp <;> omega) _
  have hR0 : Blk w0 w.heap.size 23 #[.int .i64 ra, .int .i64 mo, .int .i64 sh] := by rw [← hw0]; exact ((Blk.new w _ _).alloc _).alloc _
  have hS0 : Blk w0 (w.heap.size + 1) 26 #[.slice A N c, .slice B M d] := by rw [← hw0]; exact (Blk.new' _ _ (by simp)).alloc _
  have hX0 : Blk w0 (w.heap.size + 1 + 1) 45 #[.int .i64 lo, .int .i64 hi, .slice G n e] := by rw [← hw0]; exact Blk.new' _ _ (by simp)
  rw [hw0]
  clear hw0
  ((with_reducible refine (HF.out _).mono ?_); rintro en w1 ⟨rfl, hb1⟩)
  have k1 := ((Kept.of k0).call hb1).2.2
  have hR1 := hR0.kept hb1
  have hS1 := hS0.kept hb1
  have hX1 := hX0.kept hb1
  have s0 : w1.cell? ⟨w.heap.size + 1, 0, none⟩ = some (.slice A N c) := hS1.cell 0
  have s1 : w1.cell? ⟨w.heap.size + 1, 1, none⟩ = some (.slice B M d) := hS1.cell 1
  clear k0 hR0 hS0 hX0 hb1
  go_wp2_with fail
  ((with_reducible refine (HG.out w1 k1).mono ?_); rintro en w2 ⟨AX, cX, AY, cY, rfl, hOX, hOY, hXY, hb2⟩)
  obtain ⟨w4, hw4⟩ : ∃ w4, w2.alloc (.cells #[.slice AX N cX, .slice AY M cY] 31) = w4 := ⟨_, rfl⟩
  have hb4 : Below w2.heap.size w2 w4 := by rw [← hw4]; exact (Below.refl _ _).alloc (Nat.le_refl _) _
  have hX4 : Blk w4 w2.heap.size 31 #[.slice AX N cX, .slice AY M cY] := by rw [← hw4]; exact Blk.new _ _ _
  have hb24 := ((Kept.of hb2).call hb4).2.2
  have hR4 := hR1.kept hb24
  have hS4 := hS1.kept hb24
  have hG4 := hX1.kept hb24
  have k4 := ((Kept.of k1).call hb24).2.2
  have a0 : w4.cell? ⟨w.heap.size, 0, none⟩ = some (.int .i64 ra) := hR4.cell 0
  have a1 : w4.cell? ⟨w.heap.size, 1, none⟩ = some (.int .i64 mo) := hR4.cell 1
  have a2 : w4.cell? ⟨w.heap.size, 2, none⟩ = some (.int .i64 sh) := hR4.cell 2
  have x0 : w4.cell? ⟨w2.heap.size, 0, none⟩ = some (.slice AX N cX) := hX4.cell 0
  have x1 : w4.cell? ⟨w2.heap.size, 1, none⟩ = some (.slice AY M cY) := hX4.cell 1
  have y0 : w4.cell? ⟨w.heap.size + 1 + 1, 0, none⟩ = some (.int .i64 lo) := hG4.cell 0
  have y1 : w4.cell? ⟨w.heap.size + 1 + 1, 1, none⟩ = some (.int .i64 hi) := hG4.cell 1
  have y2 : w4.cell? ⟨w.heap.size + 1 + 1, 2, none⟩ = some (.slice G n e) := hG4.cell 2
  have zz := k1.size
  have HN4 := Lib.hid (HCN.out AX AY G cX cY e w1.heap.size w4 (own_below hOX hb4) (own_below hOY hb4) hXY (R3.out.below k4) (fun b o e' h0 => by have := R3.out.lt b o e' h0; omega))
  have HX4 := Lib.hid hX4
  have HR4 := Lib.hid hR4
  have HS4 := Lib.hid hS4
  have HG4 := Lib.hid hG4
  have HK4 := Lib.hid k4
  have far : ∀ b, StB AX AY N M cX cY b → w1.heap.size ≤ b ∧ b < w2.heap.size := fun b h => by
    rcases h with h | h
    · exact hOX.lt b h
    · exact hOY.lt b h
  have HFar := Lib.hid far
  have lX := hX4.lt
  have l0 := hR4.lt
  have l1 := hS4.lt
  have l2 := hG4.lt
  have lx1 := hX1.lt
  clear hR1 hS1 hX1 hb2 hb4 hb24 hX4 hR4 hS4 hG4 k4 k1 s0 s1 hOX hOY hXY far HG HF
  go_wp2_with fail
  clear hw4
  ((with_reducible refine HN4.out.mono ?_); rintro en w5 ⟨rfl, hP5, hM5, hB5⟩)
  have hR5 := HR4.out.but hB5 (fun h => by have := HFar.out _ h; omega)
  have hS5 := HS4.out.but hB5 (fun h => by have := HFar.out _ h; omega)
  have hG5 := HG4.out.but hB5 (fun h => by have := HFar.out _ h; omega)
  have hX5 := HX4.out.but hB5 (fun h => by have := HFar.out _ h; omega)
  have k5 := HK4.out.trans (hB5.below (B := w.heap.size) HK4.out.size (fun i h => by have := HFar.out i h; omega))
  have a0' : w5.cell? ⟨w.heap.size, 0, none⟩ = some (.int .i64 ra) := hR5.cell 0
  have a1' : w5.cell? ⟨w.heap.size, 1, none⟩ = some (.int .i64 mo) := hR5.cell 1
  have a2' : w5.cell? ⟨w.heap.size, 2, none⟩ = some (.int .i64 sh) := hR5.cell 2
  have s0' : w5.cell? ⟨w.heap.size + 1, 0, none⟩ = some (.slice A N c) := hS5.cell 0
  have s1' : w5.cell? ⟨w.heap.size + 1, 1, none⟩ = some (.slice B M d) := hS5.cell 1
  have y0' : w5.cell? ⟨w.heap.size + 1 + 1, 0, none⟩ = some (.int .i64 lo) := hG5.cell 0
  have y1' : w5.cell? ⟨w.heap.size + 1 + 1, 1, none⟩ = some (.int .i64 hi) := hG5.cell 1
  have y2' : w5.cell? ⟨w.heap.size + 1 + 1, 2, none⟩ = some (.slice G n e) := hG5.cell 2
  have HR6 := Lib.hid (HCR.out w5 (R1.out.below k5) (R2.out.below k5) (R3.out.below k5))
  have HX5 := Lib.hid hX5
  have HP5 := Lib.hid (Rd.of_own hP5)
  have HM5 := Lib.hid (Rd.of_own hM5)
  have HK5 := Lib.hid k5
  have l0' := hR5.lt
  have l1' := hS5.lt
  have l2' := hG5.lt
  have lX' := hX5.lt
  clear a0 a1 a2 x0 x1 y0 y1 y2 HN4 hR5 hS5 hG5 hX5 hP5 hM5 hB5 k5 HX4 HR4 HS4 HG4 HK4 HCN HCR
  go_wp2_with fail
  ((with_reducible refine HR6.out.mono ?_); rintro en w7 ⟨A7, c7, B7, d7, rfl, rP7, rM7, hb7⟩)
  obtain ⟨w8, hw8⟩ : ∃ w8, w7.alloc (.cells #[.slice A7 N c7, .slice B7 M d7] 26) = w8 := ⟨_, rfl⟩
  have hb8' : Below w7.heap.size w7 w8 := by rw [← hw8]; exact (Below.refl _ _).alloc (Nat.le_refl _) _
  have hW8 : Blk w8 w7.heap.size 26 #[.slice A7 N c7, .slice B7 M d7] := by rw [← hw8]; exact Blk.new _ _ _
  have hb8 := ((Kept.of hb7).call hb8').2.2
  have hX8 := HX5.out.kept hb8
  have HKr := Lib.hid (((Kept.of HK5.out).call hb8).2.2)
  have x0 : w8.cell? ⟨w2.heap.size, 0, none⟩ = some (.slice AX N cX) := hX8.cell 0
  have x1 : w8.cell? ⟨w2.heap.size, 1, none⟩ = some (.slice AY M cY) := hX8.cell 1
  have t0 : w8.cell? ⟨w7.heap.size, 0, none⟩ = some (.slice A7 N c7) := hW8.cell 0
  have t1 : w8.cell? ⟨w7.heap.size, 1, none⟩ = some (.slice B7 M d7) := hW8.cell 1
  have g1 := hX8.lt
  have g2 := hW8.lt
  have qP := HP5.out.below hb8
  have qM := HM5.out.below hb8
  have qP' := rP7.below hb8'
  have qM' := rM7.below hb8'
  have S1 := Lib.hid (fun (u : KW w8) => kept_true (refSame13_any AX AY A7 B7 N M N M cX cY c7 d7 P' M' P' M' u.w LP.out LM.out LP.out LM.out (qP.kept u.h) (qM.kept u.h) (qP'.kept u.h) (qM'.kept u.h) (by omega) (by omega) (by omega) (by omega)))
  clear hW8 hb7 hb8' hb8 hX8 rP7 rM7 qP qM qP' qM' a0' a1' a2' s0' s1' y0' y1' y2' HR6
  go_wp2_with fail
  clear hw8
  have KC := fun (u : KW w8) b o h => KW.cells u b o h
  refine wp_region_kept w8 (by kernel_rfl) (by kernel_rfl) (Kept.of (Below.refl _ _)) ?_
  cases ok <;>
  repeat (go_big_quiet_step (first | (go_at_call 14; with_reducible exact kept_call (alive13_any _)) | (go_at_call 20; with_reducible exact kept_call (back13_any _ _ _ _ _ _ _)) | (go_at_call 19; with_reducible exact kept_call (S1.out _))))
  all_goals refine wpQuiet_nil ?_
  all_goals rintro _ ⟨⟨w9, k9⟩, rfl⟩
  all_goals clear KC
  all_goals go_wp2
  all_goals go_ret
  all_goals exact ⟨rfl, HKr.out.trans (k9.2.2.mono HKr.out.size)⟩

theorem sgdApplies_any (ra mo sh : Int) (A B : Option Addr) (N M c d : Nat) (Ps Ms : List Int) (lo hi : Int) (G : Option Addr) (n e : Nat) (gs : List Int) (w : World) (hra : In1 ra) (hmo : In1 mo) (hN : N ≤ 9223372036854775807) (hM : M ≤ 9223372036854775807) (hNc : N ≤ c) (hMd : M ≤ d) (h1 : Ps.length = N) (h2 : Ms.length = M) (r1 : Rd w 1 A N (iv Ps)) (r2 : Rd w 1 B M (iv Ms)) (hPi : AllIn Ps) (hMi : AllIn Ms) (hn : n ≤ 9223372036854775807) (h3 : gs.length = n) (r3 : Rd w 1 G n (iv gs)) :
    Calls Try.prog 4 #[.agg #[.int .i64 ra, .int .i64 mo, .int .i64 sh], .agg #[.slice A N c, .slice B M d], .agg #[.int .i64 lo, .int .i64 hi, .slice G n e]] w fun e w' => e = .returned (.bool true) ∧ Below w.heap.size w w' := by
  cases hf : fewL [N, M, n]
  · exact sgdApplies_far ra mo sh lo hi A B G N M n c d e w hN hM hn hf
  · exact sgdApplies_near ra mo sh lo hi A B G N M n c d e Ps Ms gs w hNc hMd h1 h2 h3 r1 r2 r3 hf hra hmo hPi hMi

end Go.Proofs.Ytnnphileeeaibaa
