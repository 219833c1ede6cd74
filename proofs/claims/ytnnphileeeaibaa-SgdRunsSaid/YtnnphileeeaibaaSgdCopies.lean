/-
  SgdCopies: the walk.
-/
import Derived.Test.YtnnphileeeaibaaSgdCopC
import Derived.Test.YtnnphileeeaibaaSgdNexts
namespace Go.Proofs.Ytnnphileeeaibaa
set_option linter.unusedVariables false
set_option linter.unusedSimpArgs false
set_option maxRecDepth 100000
open Go.RowKit

set_option maxHeartbeats 400000 in
theorem sgdCopies_far (A B A' B' : Option Addr) (N M N' M' c d c' d' : Nat) (w : World) (hN : N ≤ 9223372036854775807) (hM : M ≤ 9223372036854775807) (hN' : N' ≤ 9223372036854775807) (hM' : M' ≤ 9223372036854775807) (hf : (fewL [N, M, 0] && fewL [N', M', 0]) = false) :
    Calls Try.prog 8 #[.agg #[.slice A N c, .slice B M d], .agg #[.slice A' N' c', .slice B' M' d']] w fun e w' => e = .returned (.bool true) ∧ Below w.heap.size w w' := by
  have HF1 := Lib.hid (fun W => few13_any A B none N M 0 c d 0 W hN hM (by omega))
  have HF2 := Lib.hid (fun W => few13_any A' B' none N' M' 0 c' d' 0 W hN' hM' (by omega))
  obtain ⟨w0, hw0⟩ : ∃ w0, (w.alloc (.cells #[.slice A N c, .slice B M d] 26)).alloc (.cells #[.slice A' N' c', .slice B' M' d'] 26) = w0 := ⟨_, rfl⟩
  have k0 : Below w.heap.size w w0 := by rw [← hw0]; exact ((Below.refl _ _).alloc (Nat.le_refl _) _).alloc (by simp) _
  have hB0 : Blk w0 (w.heap.size + 1) 26 #[.slice A' N' c', .slice B' M' d'] := by rw [← hw0]; exact Blk.new' _ _ (by simp)
  have HK := Lib.hid k0
  have HB := Lib.hid hB0
  have HW := Lib.hid hw0
  clear k0 hB0 hw0
  go_enter Try.func8, Try.ntmps8
  go_wp2_with fail
  rw [HW.out]
  ((with_reducible refine (HF1.out _).mono ?_); rintro e w1 ⟨rfl, hb1⟩)
  have k1 := ((Kept.of HK.out).call hb1).2.2
  have b1 := HB.out.kept hb1
  have s0 : w1.cell? ⟨w.heap.size + 1, 0, none⟩ = some (.slice A' N' c') := b1.cell 0
  have s1 : w1.cell? ⟨w.heap.size + 1, 1, none⟩ = some (.slice B' M' d') := b1.cell 1
  have lt1 := b1.lt
  clear hb1 b1
  cases h1 : fewL [N, M, 0]
  · clear h1 hf
    go_wp2_with fail
    ((with_reducible refine (alive13_any _).mono ?_); rintro e w2 ⟨rfl, hb2⟩)
    go_wp2
    go_ret
    exact ⟨rfl, ((Kept.of k1).call hb2).2.2⟩
  · have h2 : fewL [N', M', 0] = false := by rw [h1] at hf; simpa using hf
    have C := HF2.out
    simp only [h2] at C
    have HF3 := Lib.hid C
    clear h1 hf h2 C
    go_wp2_with fail
    ((with_reducible refine (HF3.out _).mono ?_); rintro e w3 ⟨rfl, hb3⟩)
    go_wp2_with fail
    ((with_reducible refine (alive13_any _).mono ?_); rintro e w2 ⟨rfl, hb2⟩)
    go_wp2
    go_ret
    exact ⟨rfl, (((Kept.of k1).call hb3).call hb2).2.2⟩

theorem kept_true2 {P : Program} {f : FuncId} {args : Array Value} {w : World} {x y : List Int} (h : Calls P f args w fun e w' => e = .returned (.bool (decide (x = x) && decide (y = y))) ∧ Below w.heap.size w w') :
    Calls P f args w fun e w' => e = .returned (.bool true) ∧ Below w.heap.size w w' := by
  simpa using h

/-- The blocks of two rows. -/
def StB2 (A B : Option Addr) (N M c d : Nat) (b : Nat) : Prop := (Value.slice A N c).ownBlock = some b ∨ (Value.slice B M d).ownBlock = some b

set_option maxHeartbeats 4000000 in
theorem sgdCopies_near (A B A' B' : Option Addr) (N M N' M' c d c' d' : Nat) (Ps Ms Qs Ns : List Int) (w : World) (h1 : Ps.length = N) (h2 : Ms.length = M) (h3 : Qs.length = N') (h4 : Ns.length = M') (r1 : Rd w 1 A N (iv Ps)) (r2 : Rd w 1 B M (iv Ms)) (r3 : Rd w 1 A' N' (iv Qs)) (r4 : Rd w 1 B' M' (iv Ns)) (hf1 : fewL [N, M, 0] = true) (hf2 : fewL [N', M', 0] = true) :
    Calls Try.prog 8 #[.agg #[.slice A N c, .slice B M d], .agg #[.slice A' N' c', .slice B' M' d']] w fun e w' => e = .returned (.bool true) ∧ Below w.heap.size w w' := by
  have hle1 := few_three N M 0 hf1
  have hle2 := few_three N' M' 0 hf2
  have C1 := fun W => few13_any A B none N M 0 c d 0 W (by omega) (by omega) (by omega)
  have C2 := fun W => few13_any A' B' none N' M' 0 c' d' 0 W (by omega) (by omega) (by omega)
  simp only [hf1] at C1
  simp only [hf2] at C2
  have HF1 := Lib.hid C1
  have HF2 := Lib.hid C2
  have HG := Lib.hid (fun W (hb : Below w.heap.size w W) => given13_any A B N M c d Ps Ms W h1 h2 (r1.below hb) (r2.below hb) (by omega) (by omega))
  have HG' := Lib.hid (fun W (hb : Below w.heap.size w W) => given13_any A' B' N' M' c' d' Qs Ns W h3 h4 (r3.below hb) (r4.below hb) (by omega) (by omega))
  have R1 := Lib.hid r1
  have R2 := Lib.hid r2
  have R3 := Lib.hid r3
  have R4 := Lib.hid r4
  have L1 := Lib.hid h1
  have L2 := Lib.hid h2
  have L3 := Lib.hid h3
  have L4 := Lib.hid h4
  clear C1 C2 r1 r2 r3 r4 h1 h2 h3 h4 hf1 hf2
  obtain ⟨w0, hw0⟩ : ∃ w0, (w.alloc (.cells #[.slice A N c, .slice B M d] 26)).alloc (.cells #[.slice A' N' c', .slice B' M' d'] 26) = w0 := ⟨_, rfl⟩
  have k0 : Below w.heap.size w w0 := by rw [← hw0]; exact ((Below.refl _ _).alloc (Nat.le_refl _) _).alloc (by simp) _
  have hA0 : Blk w0 w.heap.size 26 #[.slice A N c, .slice B M d] := by rw [← hw0]; exact (Blk.new w _ _).alloc _
  have hB0 : Blk w0 (w.heap.size + 1) 26 #[.slice A' N' c', .slice B' M' d'] := by rw [← hw0]; exact Blk.new' _ _ (by simp)
  have HK0 := Lib.hid k0
  have HA0 := Lib.hid hA0
  have HB0 := Lib.hid hB0
  have HW := Lib.hid hw0
  clear k0 hA0 hB0 hw0
  go_enter Try.func8, Try.ntmps8
  go_wp2_with fail
  rw [HW.out]
  clear HW
  ((with_reducible refine (HF1.out _).mono ?_); rintro e w1 ⟨rfl, hb1⟩)
  have HK1 := Lib.hid ((Kept.of HK0.out).call hb1).2.2
  have HA1 := Lib.hid (HA0.out.kept hb1)
  have HB1 := Lib.hid (HB0.out.kept hb1)
  have s0 : w1.cell? ⟨w.heap.size, 0, none⟩ = some (.slice A N c) := HA1.out.cell 0
  have s1 : w1.cell? ⟨w.heap.size, 1, none⟩ = some (.slice B M d) := HA1.out.cell 1
  have t0 : w1.cell? ⟨w.heap.size + 1, 0, none⟩ = some (.slice A' N' c') := HB1.out.cell 0
  have t1 : w1.cell? ⟨w.heap.size + 1, 1, none⟩ = some (.slice B' M' d') := HB1.out.cell 1
  have lt1 := HB1.out.lt
  clear hb1 HK0 HA0 HB0
  go_wp2_with fail
  ((with_reducible refine (HF2.out _).mono ?_); rintro e w2 ⟨rfl, hb2⟩)
  have HK2 := Lib.hid ((Kept.of HK1.out).call hb2).2.2
  have HA2 := Lib.hid (HA1.out.kept hb2)
  have HB2 := Lib.hid (HB1.out.kept hb2)
  clear s0 s1 t0 t1 lt1 hb2 HK1 HA1 HB1
  have s0 : w2.cell? ⟨w.heap.size, 0, none⟩ = some (.slice A N c) := HA2.out.cell 0
  have s1 : w2.cell? ⟨w.heap.size, 1, none⟩ = some (.slice B M d) := HA2.out.cell 1
  have lt2 := HB2.out.lt
  go_wp2_with fail
  ((with_reducible refine (HG.out w2 HK2.out).mono ?_); rintro en w3 ⟨AX, cX, AY, cY, rfl, hOX, hOY, hXY, hb3⟩)
  have HK3 := Lib.hid ((Kept.of HK2.out).call hb3).2.2
  obtain ⟨w4, hw4⟩ : ∃ w4, w3.alloc (.cells #[.slice AX N cX, .slice AY M cY] 31) = w4 := ⟨_, rfl⟩
  have hb4 : Below w3.heap.size w3 w4 := by rw [← hw4]; exact (Below.refl _ _).alloc (Nat.le_refl _) _
  have HX4 : Hid (Blk w4 w3.heap.size 31 #[.slice AX N cX, .slice AY M cY]) := Lib.hid (by rw [← hw4]; exact Blk.new _ _ _)
  have hb34 := ((Kept.of hb3).call hb4).2.2
  have HA4 := Lib.hid (HA2.out.kept hb34)
  have HB4 := Lib.hid (HB2.out.kept hb34)
  have HK4 := Lib.hid ((Kept.of HK3.out).call hb4).2.2
  have HOX := Lib.hid (own_below hOX hb4)
  have HOY := Lib.hid (own_below hOY hb4)
  have HXY := Lib.hid hXY
  have z23 := hb3.size
  have HFX : Hid (∀ g, (Value.slice AX N cX).ownBlock = some g → w2.heap.size ≤ g ∧ g < w3.heap.size) := Lib.hid hOX.lt
  have HFY : Hid (∀ g, (Value.slice AY M cY).ownBlock = some g → w2.heap.size ≤ g ∧ g < w3.heap.size) := Lib.hid hOY.lt
  have x0 : w4.cell? ⟨w3.heap.size, 0, none⟩ = some (.slice AX N cX) := HX4.out.cell 0
  have x1 : w4.cell? ⟨w3.heap.size, 1, none⟩ = some (.slice AY M cY) := HX4.out.cell 1
  have lx := HX4.out.lt
  have HCl := Lib.hid (sgdClone_any AX AY N M cX cY Ps Ms w4 L1.out L2.out (Rd.of_own HOX.out) (Rd.of_own HOY.out) (by omega) (by omega))
  clear s0 s1 hb3 hb4 hb34 hOX hOY hXY HA2 HB2 HK3
  go_wp2_with fail
  clear hw4
  ((with_reducible refine HCl.out.mono ?_); rintro en w5 ⟨AC, cC, AD, cD, rfl, hOC, hOD, hCD, hb5⟩)
  obtain ⟨w6, hw6⟩ : ∃ w6, w5.alloc (.cells #[.slice AC N cC, .slice AD M cD] 31) = w6 := ⟨_, rfl⟩
  have hb6 : Below w5.heap.size w5 w6 := by rw [← hw6]; exact (Below.refl _ _).alloc (Nat.le_refl _) _
  have HC6 : Hid (Blk w6 w5.heap.size 31 #[.slice AC N cC, .slice AD M cD]) := Lib.hid (by rw [← hw6]; exact Blk.new _ _ _)
  have hb46 := ((Kept.of hb5).call hb6).2.2
  have HA6 := Lib.hid (HA4.out.kept hb46)
  have HB6 := Lib.hid (HB4.out.kept hb46)
  have HX6 := Lib.hid (HX4.out.kept hb46)
  have HK6 := Lib.hid ((Kept.of HK4.out).call hb46).2.2
  have HOX6 := Lib.hid (own_below HOX.out hb46)
  have HOY6 := Lib.hid (own_below HOY.out hb46)
  have HRC := Lib.hid ((Rd.of_own hOC).below hb6)
  have HRD := Lib.hid ((Rd.of_own hOD).below hb6)
  have HFC : Hid (∀ b o, AC = some ⟨b, o, none⟩ → 0 < N → w4.heap.size ≤ b) := Lib.hid (fun b o e _ => (own_rd_block hOC b o e).1)
  have HFD : Hid (∀ b o, AD = some ⟨b, o, none⟩ → 0 < M → w4.heap.size ≤ b) := Lib.hid (fun b o e _ => (own_rd_block hOD b o e).1)
  clear x0 x1 lx
  have x0 : w6.cell? ⟨w3.heap.size, 0, none⟩ = some (.slice AX N cX) := HX6.out.cell 0
  have x1 : w6.cell? ⟨w3.heap.size, 1, none⟩ = some (.slice AY M cY) := HX6.out.cell 1
  have lx := HX6.out.lt
  have z45 := hb5.size
  have z34 := HX4.out.lt
  have HSt := Lib.hid (sgdStart_any AX N cX Ps w6 L1.out (Rd.of_own HOX6.out) (by omega))
  clear hOC hOD hCD hb5 hb6 hb46 HCl HA4 HB4 HX4 HK4 HOX HOY
  go_wp2_with fail
  clear hw6
  ((with_reducible refine HSt.out.mono ?_); rintro en w7 ⟨AE, cE, AF, cF, rfl, hOE, hOF, hEF, hb7⟩)
  obtain ⟨w8, hw8⟩ : ∃ w8, w7.alloc (.cells #[.slice AE N cE, .slice AF N cF] 31) = w8 := ⟨_, rfl⟩
  have hb8 : Below w7.heap.size w7 w8 := by rw [← hw8]; exact (Below.refl _ _).alloc (Nat.le_refl _) _
  have HE8 : Hid (Blk w8 w7.heap.size 31 #[.slice AE N cE, .slice AF N cF]) := Lib.hid (by rw [← hw8]; exact Blk.new _ _ _)
  have hb68 := ((Kept.of hb7).call hb8).2.2
  have HA8 := Lib.hid (HA6.out.kept hb68)
  have HB8 := Lib.hid (HB6.out.kept hb68)
  have HX8 := Lib.hid (HX6.out.kept hb68)
  have HC8 := Lib.hid (HC6.out.kept hb68)
  have HK8 := Lib.hid ((Kept.of HK6.out).call hb68).2.2
  have HOX8 := Lib.hid (own_below HOX6.out hb68)
  have HOY8 := Lib.hid (own_below HOY6.out hb68)
  have HRC8 := Lib.hid (HRC.out.below hb68)
  have HRD8 := Lib.hid (HRD.out.below hb68)
  have HRE := Lib.hid ((Rd.of_own hOE).below hb8)
  have HRF := Lib.hid ((Rd.of_own hOF).below hb8)
  have HFE : Hid (∀ b o, AE = some ⟨b, o, none⟩ → 0 < N → w6.heap.size ≤ b) := Lib.hid (fun b o e _ => (own_rd_block hOE b o e).1)
  have HFF : Hid (∀ b o, AF = some ⟨b, o, none⟩ → 0 < N → w6.heap.size ≤ b) := Lib.hid (fun b o e _ => (own_rd_block hOF b o e).1)
  clear x0 x1 lx
  have x0 : w8.cell? ⟨w3.heap.size, 0, none⟩ = some (.slice AX N cX) := HX8.out.cell 0
  have x1 : w8.cell? ⟨w3.heap.size, 1, none⟩ = some (.slice AY M cY) := HX8.out.cell 1
  have lx := HX8.out.lt
  have z67 := hb7.size
  have z56 := HC6.out.lt
  clear hOE hOF hEF hb7 hb8 hb68 HSt HA6 HB6 HX6 HC6 HK6 HOX6 HOY6 HRC HRD
  go_wp2_with fail
  clear hw8
  go_loopw [29] (fun i wr => ∃ j : Nat, j ≤ N ∧ i = .int .i64 j ∧ (∃ gs' : List Int, gs'.length = N ∧ wr.ownsRow w2.heap.size 2 1 (.slice AX N cX) N (iv gs')) ∧ But (fun b => (Value.slice AX N cX).ownBlock = some b) w8 wr) (fun i _ => N - (intOf i).toNat)
  case atStart => exact ⟨0, by omega, rfl, ⟨Ps, L1.out, HOX8.out⟩, But.refl _ _⟩
  case round =>
    obtain ⟨j, hj, rfl, ⟨gs', hgl, hown⟩, hB⟩ := hrel
    have hX := HX8.out.but hB (fun h => by have := HFX.out _ h; omega)
    have x0' : wr.cell? ⟨w3.heap.size, 0, none⟩ = some (.slice AX N cX) := hX.cell 0
    have x1' : wr.cell? ⟨w3.heap.size, 1, none⟩ = some (.slice AY M cY) := hX.cell 1
    have lx' := hX.lt
    have HX9 := Lib.hid hX
    clear hX
    by_cases hlt : j < N
    · obtain ⟨_, _, q1, _, _, q6⟩ := own_form hown
      injection q1 with q4
      subst q4
      obtain ⟨g, rfl, _, hg⟩ := q6 (by omega)
      have hjl : j < gs'.length := by omega
      have cg := own_cell hown (List.getElem?_eq_getElem hjl)
      have fg := hown.frozenAt j
      generalize gs'[j] = x at cg
      have HO := Lib.hid hown
      have HB := Lib.hid hB
      have HGL := Lib.hid hgl
      clear hown hB q6 hgl hjl
      go_wp2
      have hst := HO.out.stored j (.int .i64 (wrap64 (x + 1)))
      go_roundw
      case rel => exact ⟨j + 1, by omega, by go_num, ⟨gs'.set j (wrap64 (x + 1)), by rw [List.length_set, HGL.out], by rw [← iv_set]; exact hst.1⟩, HB.out.trans (But.of_gr hst.2 rfl)⟩
      case measure => simp [intOf]; omega
    · have HB1 := Lib.hid hB
      have HOY9 := Lib.hid (own_but HOY8.out hB (fun g hg h => by have := HXY.out g g h hg; omega))
      clear hB hown hgl x0 x1 lx
      go_wp2_with fail
      go_loopw [43] (fun i wq => ∃ j : Nat, j ≤ M ∧ i = .int .i64 j ∧ (∃ gs' : List Int, gs'.length = M ∧ wq.ownsRow w2.heap.size 2 1 (.slice AY M cY) M (iv gs')) ∧ But (fun b => (Value.slice AY M cY).ownBlock = some b) wr wq) (fun i _ => M - (intOf i).toNat)
      case atStart => exact ⟨0, by omega, rfl, ⟨Ms, L2.out, HOY9.out⟩, But.refl _ _⟩
      case round =>
        obtain ⟨j, hj, rfl, ⟨gs', hgl, hown⟩, hB⟩ := hrel
        have hX := HX9.out.but hB (fun h => by have := HFY.out _ h; omega)
        have x0 : wr.cell? ⟨w3.heap.size, 0, none⟩ = some (.slice AX N cX) := hX.cell 0
        have x1 : wr.cell? ⟨w3.heap.size, 1, none⟩ = some (.slice AY M cY) := hX.cell 1
        have lx := hX.lt
        clear hX
        by_cases hlt : j < M
        · obtain ⟨_, _, q1, _, _, q6⟩ := own_form hown
          injection q1 with q4
          subst q4
          obtain ⟨g, rfl, _, hg⟩ := q6 (by omega)
          have hjl : j < gs'.length := by omega
          have cg := own_cell hown (List.getElem?_eq_getElem hjl)
          have fg := hown.frozenAt j
          generalize gs'[j] = x at cg
          have HO := Lib.hid hown
          have HB := Lib.hid hB
          have HGL := Lib.hid hgl
          clear hown hB q6 hgl hjl
          go_wp2
          have hst := HO.out.stored j (.int .i64 (wrap64 (x + 1)))
          go_roundw
          case rel => exact ⟨j + 1, by omega, by go_num, ⟨gs'.set j (wrap64 (x + 1)), by rw [List.length_set, HGL.out], by rw [← iv_set]; exact hst.1⟩, HB.out.trans (But.of_gr hst.2 rfl)⟩
          case measure => simp [intOf]; omega
        · have hBB : But (StB2 AX AY N M cX cY) w8 wr := (HB1.out.mono (fun i _ h => .inl h)).trans (hB.mono (fun i _ h => .inr h))
          have far : ∀ b, StB2 AX AY N M cX cY b → w2.heap.size ≤ b ∧ b < w3.heap.size := fun b h => by
            rcases h with h | h
            · exact HFX.out b h
            · exact HFY.out b h
          have hA9 := HA8.out.but hBB (fun h => by have := far _ h; omega)
          have hB9 := HB8.out.but hBB (fun h => by have := far _ h; omega)
          have hC9 := HC8.out.but hBB (fun h => by have := far _ h; omega)
          have hE9 := HE8.out.but hBB (fun h => by have := far _ h; omega)
          have qC := HRC8.out.but hBB (fun b o e h0 h => by have := far _ h; have := HFC.out b o e h0; omega)
          have qD := HRD8.out.but hBB (fun b o e h0 h => by have := far _ h; have := HFD.out b o e h0; omega)
          have qE := HRE.out.but hBB (fun b o e h0 h => by have := far _ h; have := HFE.out b o e h0; omega)
          have qF := HRF.out.but hBB (fun b o e h0 h => by have := far _ h; have := HFF.out b o e h0; omega)
          have z2 := HK2.out.size
          have HKr := Lib.hid (HK8.out.trans (hBB.below HK8.out.size (fun i h => by have := far i h; omega)))
          have s0 : wr.cell? ⟨w.heap.size, 0, none⟩ = some (.slice A N c) := hA9.cell 0
          have s1 : wr.cell? ⟨w.heap.size, 1, none⟩ = some (.slice B M d) := hA9.cell 1
          have t0 : wr.cell? ⟨w.heap.size + 1, 0, none⟩ = some (.slice A' N' c') := hB9.cell 0
          have t1 : wr.cell? ⟨w.heap.size + 1, 1, none⟩ = some (.slice B' M' d') := hB9.cell 1
          have y0 : wr.cell? ⟨w5.heap.size, 0, none⟩ = some (.slice AC N cC) := hC9.cell 0
          have y1 : wr.cell? ⟨w5.heap.size, 1, none⟩ = some (.slice AD M cD) := hC9.cell 1
          have v0 : wr.cell? ⟨w7.heap.size, 0, none⟩ = some (.slice AE N cE) := hE9.cell 0
          have v1 : wr.cell? ⟨w7.heap.size, 1, none⟩ = some (.slice AF N cF) := hE9.cell 1
          have g1 := hA9.lt
          have g2 := hB9.lt
          have g3 := hC9.lt
          have g4 := hE9.lt
          obtain ⟨q, hq⟩ : ∃ q, (decide (Ps = Qs) && decide (Ms = Ns)) = q := ⟨_, rfl⟩
          have G1 : Hid (∀ W, Kept wr W → Calls Try.prog 15 #[.agg #[.slice A N c, .slice B M d]] W (StRet W N M Ps Ms)) := Lib.hid (fun W k => HG.out W ((Kept.of HKr.out).call k.2.2).2.2)
          have G2 : Hid (∀ W, Kept wr W → Calls Try.prog 15 #[.agg #[.slice A' N' c', .slice B' M' d']] W (StRet W N' M' Qs Ns)) := Lib.hid (fun W k => HG'.out W ((Kept.of HKr.out).call k.2.2).2.2)
          have M1 : Hid (∀ (A1 B1 A2 B2 : Option Addr) (c1 d1 c2 d2 : Nat) W, Rd W 1 A1 N (iv Ps) → Rd W 1 B1 M (iv Ms) → Rd W 1 A2 N' (iv Qs) → Rd W 1 B2 M' (iv Ns) → Calls Try.prog 36 #[.agg #[.slice A1 N c1, .slice B1 M d1], .agg #[.slice A2 N' c2, .slice B2 M' d2]] W fun e w' => e = .returned (.bool q) ∧ Below W.heap.size W w') := Lib.hid (fun A1 B1 A2 B2 c1 d1 c2 d2 W p1 p2 p3 p4 => by
            have := sgdSame_any A1 B1 A2 B2 N M N' M' c1 d1 c2 d2 Ps Ms Qs Ns W L1.out L2.out L3.out L4.out p1 p2 p3 p4 (by omega) (by omega) (by omega) (by omega)
            rwa [hq] at this)
          have M2 : Hid (∀ W, Kept wr W → Calls Try.prog 19 #[.agg #[.slice A N c, .slice B M d], .agg #[.slice A' N' c', .slice B' M' d']] W fun e w' => e = .returned (.bool q) ∧ Below W.heap.size W w') := Lib.hid (fun W k => by
            have kb := ((Kept.of HKr.out).call k.2.2).2.2
            have := refSame13_any A B A' B' N M N' M' c d c' d' Ps Ms Qs Ns W L1.out L2.out L3.out L4.out (R1.out.below kb) (R2.out.below kb) (R3.out.below kb) (R4.out.below kb) (by omega) (by omega) (by omega) (by omega)
            rwa [hq] at this)
          have M3 : Hid (∀ (A2 B2 : Option Addr) (c2 d2 : Nat) W, Kept wr W → Rd W 1 A2 N (iv Ps) → Rd W 1 B2 M (iv Ms) → Calls Try.prog 36 #[.agg #[.slice AC N cC, .slice AD M cD], .agg #[.slice A2 N c2, .slice B2 M d2]] W fun e w' => e = .returned (.bool true) ∧ Below W.heap.size W w') := Lib.hid (fun A2 B2 c2 d2 W k p3 p4 =>
            kept_true2 (sgdSame_any AC AD A2 B2 N M N M cC cD c2 d2 Ps Ms Ps Ms W L1.out L2.out L1.out L2.out (qC.below k.2.2) (qD.below k.2.2) p3 p4 (by omega) (by omega) (by omega) (by omega)))
          have M4 : Hid (∀ W, Kept wr W → Calls Try.prog 19 #[.agg #[.slice AC N cC, .slice AD M cD], .agg #[.slice A N c, .slice B M d]] W fun e w' => e = .returned (.bool true) ∧ Below W.heap.size W w') := Lib.hid (fun W k => by
            have kb := ((Kept.of HKr.out).call k.2.2).2.2
            exact kept_true2 (refSame13_any AC AD A B N M N M cC cD c d Ps Ms Ps Ms W L1.out L2.out L1.out L2.out (qC.below k.2.2) (qD.below k.2.2) (R1.out.below kb) (R2.out.below kb) (by omega) (by omega) (by omega) (by omega)))
          have M5 : Hid (∀ (Z : Option Addr) (cZ : Nat) W, Kept wr W → Rd W 1 Z N (iv (zeros N)) → Calls Try.prog 19 #[.agg #[.slice AE N cE, .slice AF N cF], .agg #[.slice A N c, .slice Z N cZ]] W fun e w' => e = .returned (.bool true) ∧ Below W.heap.size W w') := Lib.hid (fun Z cZ W k p => by
            have kb := ((Kept.of HKr.out).call k.2.2).2.2
            exact kept_true2 (refSame13_any AE AF A Z N N N N cE cF c cZ Ps (zeros N) Ps (zeros N) W L1.out (by simp) L1.out (by simp) (qE.below k.2.2) (qF.below k.2.2) (R1.out.below kb) p (by omega) (by omega) (by omega) (by omega)))
          have M6 := Lib.hid (fun W => refStart13_any A N c W (by omega))
          clear hq hA9 hB9 hC9 hE9 qC qD qE qF hBB far hB hown hgl x0' x1' lx'
          go_wp2_with fail
          go_region_held3 (fun w' => Kept wr w') (first | exact kk | exact kk.alloc _ | exact Kept.start wr) (first
            | (go_at_call 14; (with_reducible refine (alive13_any _).mono ?_); rintro e wa ⟨rfl, hb⟩; have kk := (Kept.start wr).call hb; clear hb)
            | (go_at_call 15; (with_reducible refine (G1.out _ kk).mono ?_); rintro e wb ⟨AP, cP, AQ, cQ, rfl, hP, hQ, _, hb⟩; replace kk := kk.call hb; have HP := Lib.hid (Rd.of_own hP); have HQ := Lib.hid (Rd.of_own hQ); clear hP hQ hb)
            | (go_at_call 15; (with_reducible refine (G2.out _ kk).mono ?_); rintro e wc ⟨AU, cU, AV, cV, rfl, hU, hV, _, hb⟩; replace kk := kk.call hb; have HU := Lib.hid (Rd.of_own hU); have HV := Lib.hid (Rd.of_own hV); replace HP := Lib.hid (HP.out.below hb); replace HQ := Lib.hid (HQ.out.below hb); clear hU hV hb)
            | (go_at_call 36; (with_reducible refine (M1.out _ _ _ _ _ _ _ _ _ HP.out HQ.out HU.out HV.out).mono ?_); rintro e wd ⟨rfl, hb⟩; replace kk := kk.call hb; clear hb)
            | (go_at_call 36; (with_reducible refine (M3.out _ _ _ _ _ kk HP.out HQ.out).mono ?_); rintro e we ⟨rfl, hb⟩; replace kk := kk.call hb; clear hb)
            | (go_at_call 19; (with_reducible refine (M2.out _ kk).mono ?_); rintro e wf ⟨rfl, hb⟩; replace kk := kk.call hb; clear hb)
            | (go_at_call 19; (with_reducible refine (M4.out _ kk).mono ?_); rintro e wg ⟨rfl, hb⟩; replace kk := kk.call hb; clear hb)
            | (go_at_call 19; (with_reducible refine (M5.out _ _ _ kk HZ.out).mono ?_); rintro e wh ⟨rfl, hb⟩; replace kk := kk.call hb; clear hb)
            | (go_at_call 20; (with_reducible refine (back13_any _ _ _ _ _ _ _).mono ?_); rintro e wi ⟨rfl, hb⟩; replace kk := kk.call hb; clear hb)
            | (go_at_call 35; (with_reducible refine (M6.out _).mono ?_); rintro e wj ⟨Z, cZ, rfl, hZ, hb⟩; replace kk := kk.call hb; have HZ := Lib.hid hZ; clear hZ hb))
          all_goals go_wp2_with fail
          all_goals go_ret
          all_goals exact ⟨rfl, ((Kept.of HKr.out).call kk.2.2).2.2⟩

theorem sgdCopies_any (A B A' B' : Option Addr) (N M N' M' c d c' d' : Nat) (Ps Ms Qs Ns : List Int) (w : World) (h1 : Ps.length = N) (h2 : Ms.length = M) (h3 : Qs.length = N') (h4 : Ns.length = M') (r1 : Rd w 1 A N (iv Ps)) (r2 : Rd w 1 B M (iv Ms)) (r3 : Rd w 1 A' N' (iv Qs)) (r4 : Rd w 1 B' M' (iv Ns)) (hN : N ≤ 9223372036854775807) (hM : M ≤ 9223372036854775807) (hN' : N' ≤ 9223372036854775807) (hM' : M' ≤ 9223372036854775807) :
    Calls Try.prog 8 #[.agg #[.slice A N c, .slice B M d], .agg #[.slice A' N' c', .slice B' M' d']] w fun e w' => e = .returned (.bool true) ∧ Below w.heap.size w w' := by
  cases hf1 : fewL [N, M, 0]
  · exact sgdCopies_far A B A' B' N M N' M' c d c' d' w hN hM hN' hM' (by rw [hf1]; rfl)
  · cases hf2 : fewL [N', M', 0]
    · exact sgdCopies_far A B A' B' N M N' M' c d c' d' w hN hM hN' hM' (by rw [hf1, hf2]; rfl)
    · exact sgdCopies_near A B A' B' N M N' M' c d c' d' Ps Ms Qs Ns w h1 h2 h3 h4 r1 r2 r3 r4 hf1 hf2

end Go.Proofs.Ytnnphileeeaibaa
