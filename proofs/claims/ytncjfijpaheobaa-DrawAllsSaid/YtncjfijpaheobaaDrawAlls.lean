/-
  DrawAlls: the walk.
-/
import Derived.Test.YtncjfijpaheobaaDrawAll
import Derived.RangeFuncBox
namespace Go.Proofs.Ytncjfijpaheobaa
set_option linter.unusedVariables false
set_option linter.unusedSimpArgs false
set_option maxRecDepth 100000
open Go.RowKit Go.Shelf

attribute [local go_sem] Oper.semAt_some


set_option maxHeartbeats 4000000 in
theorem drawAlls_far (A : Option Addr) (n cap : Nat) (l : List Int) (us st : Nat) (w : World) (hn : n * 8 ≤ 140737488351232) (hl : l.length = n) (hr : Rd w 1 A n (uv l)) (hu : InU l) (hus : us ≤ 255) (hst : st ≤ 255) (hfar : 300 < n) :
    Calls Try.prog 5 #[.slice A n cap, .int .u8 us, .int .u8 st] w fun e w' => e = .returned (.bool true) ∧ Below w.heap.size w w' := by
  obtain ⟨W0, hW0⟩ : ∃ W0, ((w.alloc (.cells #[.slice A n cap] 22)).alloc (.cells #[.int .u8 st] 5)).alloc (.cells #[.bool false] 4) = W0 := ⟨_, rfl⟩
  have k0 : Below w.heap.size w W0 := by rw [← hW0]; exact (((Below.refl _ _).alloc (Nat.le_refl _) _).alloc (by simp) _).alloc (by simp <;> omega) _
  have b0 : Blk W0 w.heap.size 22 #[.slice A n cap] := by rw [← hW0]; exact ((Blk.new _ _ _).alloc _).alloc _
  have b1 : Blk W0 (w.heap.size + 1) 5 #[.int .u8 st] := by rw [← hW0]; exact (Blk.new' _ _ (by simp)).alloc _
  have b2 : Blk W0 (w.heap.size + 1 + 1) 4 #[.bool false] := by rw [← hW0]; exact Blk.new' _ _ (by simp)
  have a0 : W0.cell? ⟨w.heap.size, 0, none⟩ = some (.slice A n cap) := b0.cell 0
  have la := b0.lt
  have HCN := Lib.hid (drawNew_cap A n cap l W0 hl (hr.below k0) hn hu)
  have HRW := Lib.hid hr
  have HL := Lib.hid hl
  have HU := Lib.hid hu
  have HB0 := Lib.hid b0
  have HB1 := Lib.hid b1
  have HB2 := Lib.hid b2
  have HK0 := Lib.hid k0
  have HW0 := Lib.hid hW0
  clear hl hr hu b0 b1 b2 k0 hW0
  go_enter Try.func5, Try.ntmps5
  go_wp2_with fail
  rw [HW0.out]
  go_wp2_with fail
  ((with_reducible refine HCN.out.mono ?_); rintro e w2 ⟨g, A1, c1, rfl, hst2, hg, hA, ⟨hcap1, hcap2⟩, hb2⟩)
  have x0 := HB0.out.kept hb2
  have y0 : w2.cell? ⟨w.heap.size, 0, none⟩ = some (.slice A n cap) := x0.cell 0
  have l2 := x0.lt
  have HX0 := Lib.hid x0
  have HX1 := Lib.hid (HB1.out.kept hb2)
  have HX2 := Lib.hid (HB2.out.kept hb2)
  have HK2 := Lib.hid ((Kept.of HK0.out).call hb2).2.2
  have HS2 := Lib.hid hst2
  have HA2 := Lib.hid hA
  have hl02 := HX2.out.lt
  have hl0 : w.heap.size + 1 + 1 < W0.heap.size := HB2.out.lt
  clear hb2 hst2 hA a0 la x0 HW0
  go_wp2_with fail
  ((with_reducible refine (alive05_any _).mono ?_); rintro e w3 ⟨rfl, hb3⟩)
  have t3 := HX2.out.kept hb3
  have K3 := Lib.hid ((Kept.of HK2.out).call hb3).2.2
  have f0 := t3.frozen 0
  have l3 := t3.lt
  have t0 : w3.cell? ⟨w.heap.size + 1 + 1, 0, none⟩ = some (.bool false) := t3.cell 0
  have HT3 := Lib.hid t3
  clear t3 hb3 y0
  go_wp2
  have hst : (w3.setCell ⟨w.heap.size + 1 + 1, 0, none⟩ (.bool true)).cell? ⟨w.heap.size + 1 + 1, 0, none⟩ = some (.bool true) := (HT3.out.set_ 0 (.bool true)).cell 0
  refine bodyPost_ret (v := .bool true) (by simp [results, Try.results5, go_sem, hst]) rfl ⟨rfl, ?_⟩
  exact K3.out.setCell (p := ⟨w.heap.size + 1 + 1, 0, none⟩) (show w.heap.size ≤ w.heap.size + 1 + 1 by omega) _

set_option maxHeartbeats 4000000 in
theorem drawAlls_near (A : Option Addr) (n cap : Nat) (l : List Int) (us st : Nat) (w : World) (hn : n * 8 ≤ 140737488351232) (hl : l.length = n) (hr : Rd w 1 A n (uv l)) (hu : InU l) (hus : us ≤ 255) (hst : st ≤ 255) (hfar : n ≤ 300) :
    Calls Try.prog 5 #[.slice A n cap, .int .u8 us, .int .u8 st] w fun e w' => e = .returned (.bool true) ∧ Below w.heap.size w w' := by
  obtain ⟨W0, hW0⟩ : ∃ W0, ((w.alloc (.cells #[.slice A n cap] 22)).alloc (.cells #[.int .u8 st] 5)).alloc (.cells #[.bool false] 4) = W0 := ⟨_, rfl⟩
  have k0 : Below w.heap.size w W0 := by rw [← hW0]; exact (((Below.refl _ _).alloc (Nat.le_refl _) _).alloc (by simp) _).alloc (by simp <;> omega) _
  have b0 : Blk W0 w.heap.size 22 #[.slice A n cap] := by rw [← hW0]; exact ((Blk.new _ _ _).alloc _).alloc _
  have b1 : Blk W0 (w.heap.size + 1) 5 #[.int .u8 st] := by rw [← hW0]; exact (Blk.new' _ _ (by simp)).alloc _
  have b2 : Blk W0 (w.heap.size + 1 + 1) 4 #[.bool false] := by rw [← hW0]; exact Blk.new' _ _ (by simp)
  have a0 : W0.cell? ⟨w.heap.size, 0, none⟩ = some (.slice A n cap) := b0.cell 0
  have la := b0.lt
  have HCN := Lib.hid (drawNew_cap A n cap l W0 hl (hr.below k0) hn hu)
  have HRW := Lib.hid hr
  have HL := Lib.hid hl
  have HU := Lib.hid hu
  have HB0 := Lib.hid b0
  have HB1 := Lib.hid b1
  have HB2 := Lib.hid b2
  have HK0 := Lib.hid k0
  have HW0 := Lib.hid hW0
  clear hl hr hu b0 b1 b2 k0 hW0
  refine (callsIn_wide (n := 9)).1 (callsIn_of_wp_marks Try.func5 rfl trivial (wpIn_wide.2 ?_) rfl)
  simp only [Try.ntmps5, List.size_toArray, List.length_cons, List.length_nil, Nat.reduceAdd, Nat.reduceSub, Array.replicate_succ, Array.replicate_zero, List.push_toArray, List.append_toArray, List.nil_append, List.cons_append]
  go_wp2_with fail
  rw [HW0.out]
  go_wp2_with fail
  ((with_reducible refine HCN.out.mono ?_); rintro e w2 ⟨g, A1, c1, rfl, hst2, hg, hA, ⟨hcap1, hcap2⟩, hb2⟩)
  have x0 := HB0.out.kept hb2
  have y0 : w2.cell? ⟨w.heap.size, 0, none⟩ = some (.slice A n cap) := x0.cell 0
  have l2 := x0.lt
  have HX0 := Lib.hid x0
  have HX1 := Lib.hid (HB1.out.kept hb2)
  have HX2 := Lib.hid (HB2.out.kept hb2)
  have HK2 := Lib.hid ((Kept.of HK0.out).call hb2).2.2
  have HS2 := Lib.hid hst2
  have HA2 := Lib.hid hA
  have hl02 := HX2.out.lt
  have hl0 : w.heap.size + 1 + 1 < W0.heap.size := HB2.out.lt
  clear hb2 hst2 hA a0 la x0 HW0
  go_wp2_with fail
  obtain ⟨v, hv⟩ : ∃ v, w2.heap.size = v := ⟨_, rfl⟩
  obtain ⟨W3, hW3⟩ : ∃ W3, w2.alloc (.cells #[.slice A n cap, .int .i64 0] 28) = W3 := ⟨_, rfl⟩
  have g3 : Below w2.heap.size w2 W3 := by rw [← hW3]; exact (Below.refl _ _).alloc (Nat.le_refl _) _
  have b3 : Blk W3 v 28 #[.slice A n cap, .int .i64 0] := by rw [← hW3, ← hv]; exact Blk.new _ _ _
  rw [hW3, hv]
  have HS3 := Lib.hid (HS2.out.kept g3)
  have HY0 := Lib.hid (HX0.out.kept g3)
  have HY1 := Lib.hid (HX1.out.kept g3)
  have HY2 := Lib.hid (HX2.out.kept g3)
  have HK3 := Lib.hid ((Kept.of HK2.out).call g3).2.2
  have HB3 := Lib.hid b3
  have hvg : g < v := by have := HS2.out.blk.lt; omega
  have hvw : w.heap.size + 1 + 1 < v := by omega
  have hA3 : Hid (∀ b' o, A1 = some ⟨b', o, none⟩ → 0 < n → b' < v ∧ W0.heap.size ≤ b') := Lib.hid (fun b' o e h0 => ⟨by have := HS2.out.rd.lt b' o e h0; omega, HA2.out b' o e⟩)
  have hg0 : w.heap.size + 1 + 1 < g := by omega
  clear hW3 g3 b3 hv y0
  go_loopw [30] (fun i ws => ∃ (j m : Nat), j ≤ us ∧ i = .int .i64 j ∧ Stm ws g A1 n c1 m l ∧ Blk ws v 28 #[.slice A n cap, .int .i64 m] ∧ But (fun b => b = g ∨ b = v ∨ W3.heap.size ≤ b) W3 ws) (fun i _ => us - (intOf i).toNat)
  case atStart => exact ⟨0, 0, by omega, rfl, HS3.out, HB3.out, But.refl _ _⟩
  case round =>
    rename World => ws
    obtain ⟨j, m, hj, rfl, hst, hblk, hbut⟩ := hrel
    have hvl : v < W3.heap.size := HB3.out.lt
    have hb : Below w.heap.size w ws := HK3.out.trans (hbut.below (B := w.heap.size) HK3.out.size (fun i hi => by omega))
    by_cases hjt : j < us
    · obtain ⟨x, ok, m', hm', C1, C2⟩ := step05 hst 9 (by omega) (by omega)
      have hgv : v ≠ g := by omega
      have HC1 := Lib.hid C1
      have HC2 := Lib.hid C2
      have HS4 := Lib.hid hst
      have HB4 := Lib.hid hblk
      have HU4 := Lib.hid hbut
      have HW4 := Lib.hid hb
      clear C1 C2 hst hblk hbut hb
      go_wp2_with fail
      ((with_reducible refine HC1.out.mono ?_); rintro e w4 ⟨rfl, hg4, hblk4⟩)
      have hst4 := HS4.out.turned hg4 hblk4 hm'
      have hv4 := HB4.out.grown hg4 (by simpa using hgv)
      have hb4 := below_gr HW4.out HW4.out.size hg4 (by omega)
      have HS5 := Lib.hid hst4
      have HB5 := Lib.hid hv4
      have HU5 := Lib.hid (HU4.out.trans (But.of_gr hg4 (.inl rfl)))
      have a0 : w4.cell? ⟨v, 0, none⟩ = some (.slice A n cap) := hv4.cell 0
      have a1 : w4.cell? ⟨v, 1, none⟩ = some (.int .i64 m) := hv4.cell 1
      have la := hv4.lt
      have HC3 := Lib.hid (HC2.out A cap w4 (HRW.out.below hb4))
      clear hst4 hv4 hb4 hg4 hblk4 HS4 HB4 HU4 HW4 HC1 HC2
      go_wp2_with fail
      ((with_reducible refine HC3.out.mono ?_); rintro e w5 ⟨rfl, hb5⟩)
      have HS6 := Lib.hid (HS5.out.kept hb5)
      have hv5 := HB5.out.kept hb5
      have HU6 := Lib.hid (HU5.out.call hb5)
      have c2 : w5.cell? ⟨v, 0, none⟩ = some (.slice A n cap) := hv5.cell 0
      have c3 : w5.cell? ⟨v, 1, none⟩ = some (.int .i64 m) := hv5.cell 1
      have f2 := hv5.frozen 0
      have f3 := hv5.frozen 1
      have hvlt := hv5.lt
      have hst2 := store2' hv5 (.slice A n cap) (.int .i64 m')
      have HG2 := Lib.hid hst2.1
      have HB7 := Lib.hid hst2.2
      clear hst2 hv5 a0 a1 la hb5 HS5 HB5 HU5 HC3
      go_wp2_with fail
      go_roundw
      case rel => exact ⟨j + 1, m', by omega, by go_num, HS6.out.grown HG2.out (by omega) (fun b' o e h0 => by have := (hA3.out b' o e h0).1; omega), HB7.out, HU6.out.trans (But.of_gr HG2.out (.inr (.inl rfl)))⟩
      case measure => simp [intOf]; omega
    · have hmn := hst.le
      obtain ⟨M, hM⟩ : ∃ M, m + M = n := ⟨n - m, by omega⟩
      have HST := Lib.hid hst
      have HVB := Lib.hid hblk
      have HZ0 := Lib.hid (HY0.out.but hbut (by omega))
      have HZ1 := Lib.hid (HY1.out.but hbut (by omega))
      have HZ2 := Lib.hid (HY2.out.but hbut (by omega))
      have HWW := Lib.hid hb
      have HM := Lib.hid hM
      have hz3 : W3.heap.size ≤ ws.heap.size := hbut.size
      clear hst hblk hbut hb
      go_wp2_with fail
      obtain ⟨h9, hh9⟩ : ∃ h9, ws.heap.size = h9 := ⟨_, rfl⟩
      obtain ⟨Wr, hWr⟩ : ∃ Wr, ws.alloc (.cells #[.int .i64 0] 3) = Wr := ⟨_, rfl⟩
      rw [hWr, hh9]
      have g9 : Below h9 ws Wr := by rw [← hWr, ← hh9]; exact (Below.refl _ _).alloc (Nat.le_refl _) _
      have b9 : Blk Wr h9 3 #[.int .i64 0] := by rw [← hWr, ← hh9]; exact Blk.new _ _ _
      have h9l : h9 < Wr.heap.size := b9.lt
      have HG9 := Lib.hid g9
      have g9' : Below ws.heap.size ws Wr := by rw [hh9]; exact g9
      have hSr := HST.out.kept g9'
      have hAl : ∀ b' o, A1 = some ⟨b', o, none⟩ → 0 < n → b' < h9 := fun b' o e h0 => by have := HST.out.rd.lt b' o e h0; omega
      have hgl : g < h9 := by have := HST.out.blk.lt; omega
      have hvl9 : v < h9 := by omega
      have hseq := all_stops (9 - 1) g n c1 m M A1 l (by omega) hM hfar hcap1 hcap2 (fun b => b = h9 ∨ Wr.heap.size ≤ b) (by omega) Wr hSr (fun b' o e h0 => by have := hAl b' o e h0; omega)
      have HB9 := Lib.hid b9
      clear hWr hh9 g9 b9 g9' hSr
      refine wpIn_wide.1 (wpIn_range_meth (F := Fence.wide) (n := 9) rfl (by omega) (gf := 21) (rv := .pointer (some ⟨g, 0, none⟩)) rfl trivial (enters_of Try.func21 (by kernel_rfl) rfl) 2 hseq (fun h k => h.trans k) (fun W l o o' hl h _ _ => But.of_gr (grownBy_putObj' W l o') (.inr hl)) (fun _ => rfl)
        (fun pre W => pre.length ≤ st ∧ Blk W h9 3 #[.int .i64 pre.length] ∧ Below h9 Wr W)
        (fun pre W => pre.length = st + 1 ∧ Blk W h9 3 #[.int .i64 pre.length] ∧ Below h9 Wr W)
        (fun s X Y row hs hg hr => ⟨hs.1, Blk.grown hs.2.1 hg (fun e => by
          obtain ⟨_, o, ho, hc⟩ := hr h9 e.symm
          have h := hs.2.1
          unfold Blk at h
          rw [h] at ho
          cases ho
          cases hc), hs.2.2.grown hg (Nat.le_trans (Nat.le_of_lt h9l) hs.2.2.size) (fun k e => by have := (hr k e).1; omega)⟩)
        (fun s X Y row hs hg hr => ⟨hs.1, Blk.grown hs.2.1 hg (fun e => by
          obtain ⟨_, o, ho, hc⟩ := hr h9 e.symm
          have h := hs.2.1
          unfold Blk at h
          rw [h] at ho
          cases ho
          cases hc), hs.2.2.grown hg (Nat.le_trans (Nat.le_of_lt h9l) hs.2.2.size) (fun k e => by have := (hr k e).1; omega)⟩)
        ⟨Nat.zero_le _, HB9.out, Below.refl _ _⟩
        (fun k a' => a' = { tmps := #[.slice A n cap, .int .u8 us, .int .u8 st, .pointer (some ⟨w.heap.size, 0, none⟩), undef, .pointer (some ⟨w.heap.size + 1, 0, none⟩), .pointer (some ⟨w.heap.size + 1 + 1, 0, none⟩), .pointer (some ⟨g, 0, none⟩), .pointer (some ⟨v, 0, none⟩), .pointer (some ⟨h9, 0, none⟩), .int .i64 ((m : Int) + (k.val : Int)), .int .u64 ((l[m + k.val]?).getD 0), .slice A n cap, .pointer (some ⟨g, 0, none⟩), .slice A n cap, .int .i64 n, .bool (decide (300 < (n : Int))), .bool (decide (300 < (n : Int))), .pointer (some ⟨g, 0, none⟩), .bool false, .bool (decide (300 < (n : Int))), undef, undef, undef, undef, undef, .slice A n cap, .agg #[.slice A n cap, .int .i64 0], .int .u8 us, .int .i64 us, .int .i64 j, .bool false, u32, u33, u34, u35, u36, u37, u38, u39, u40, .pointer (some ⟨g, 0, none⟩), .func (.func 21) #[.pointer (some ⟨g, 0, none⟩)] #[], .int .i64 ((m : Int) + (k.val : Int)), .int .u64 ((l[m + k.val]?).getD 0), undef, undef, undef, undef, undef, undef, undef, undef, undef, undef, undef, undef, undef, undef, undef, undef, undef, undef, undef, undef, undef, undef, undef, undef, undef, undef, undef, undef, undef, undef, undef, undef, undef, undef, undef, undef, undef, undef, undef, undef, undef, undef, undef, undef, undef, undef, undef, undef], defers := [] }) ?assign ?body ?done ?stop)
      case assign =>
        rintro l' pre k W K hI hK
        simp only [encU]
        gi_wp2_with fail
        rfl
      case body =>
        rintro l' pre k a' W hl3 ⟨r0, hr0⟩ ⟨hps, hbx, hBl⟩ rfl hlt hnx
        obtain ⟨kv, hkv⟩ : ∃ kv, k.val = kv := ⟨_, rfl⟩
        have hkn : kv < M := by rw [← hkv]; exact k.isLt
        have hpl : pre.length = kv := by rw [← hnx, hkv]
        rw [hpl] at hbx hps
        rw [hkv]
        have kW : Below h9 ws W := HG9.out.trans hBl
        have z0 := HZ0.out.below kW (by omega)
        have z1 := HZ1.out.below kW (by omega)
        have zv := HVB.out.below kW hvl9
        have hrd : Rd W 1 A n (uv l) := HRW.out.below (HWW.out.trans (kW.mono (show w.heap.size ≤ h9 by omega)))
        obtain ⟨gA, oA, x, rfl, hgA, hx, cx⟩ := uv_at HL.out hrd (show m + kv < n by omega)
        rw [hx, Option.getD_some]
        have c0 : W.cell? ⟨w.heap.size, 0, none⟩ = some (.slice (some ⟨gA, oA, none⟩) n cap) := z0.cell 0
        have c1' : W.cell? ⟨w.heap.size + 1, 0, none⟩ = some (.int .u8 st) := z1.cell 0
        have cv1 : W.cell? ⟨v, 1, none⟩ = some (.int .i64 m) := zv.cell 1
        have c9 : W.cell? ⟨h9, 0, none⟩ = some (.int .i64 kv) := hbx.cell 0
        have f9 := hbx.frozen 0
        have p0 := z0.lt
        have p1 := z1.lt
        have pv := zv.lt
        have p9 := hbx.lt
        have hsub : (n : Int) - (m : Int) = (M : Int) := by omega
        have e1 : decide ((M : Int) ≤ (kv : Int)) = false := decide_eq_false (by omega)
        have e2 : ((m : Int) + (kv : Int) != (m : Int) + (kv : Int)) = false := by simp
        have e3 : (x != x) = false := by simp
        have r0' : (0 : Int) ≤ (m : Int) + (kv : Int) := by omega
        have r1' : (m : Int) + (kv : Int) < (n : Int) := by omega
        have HBX := Lib.hid hbx
        have HBL := Lib.hid hBl
        have HPL := Lib.hid hpl
        clear z0 z1 zv hrd hbx hBl kW hl3 hr0 hlt hnx hkv hpl hx hseq
        by_cases hstop : kv + 1 ≤ st
        · have e4 : decide ((st : Int) < (kv : Int) + 1) = false := decide_eq_false (by omega)
          gi_wp2_with fail
          refine ⟨(KeepsOthers.setCell _ _ _).from _, But.of_gr (grownBy_setCell' W h9 _) (.inl rfl), ?_, ?_, HBL.out.setCell (p := ⟨h9, 0, none⟩) (Nat.le_refl _) _⟩
          · rw [List.length_append, HPL.out]
            exact hstop
          · rw [List.length_append, HPL.out]
            exact HBX.out.set_ 0 (.int .i64 ((kv : Int) + 1))
        · have e4 : decide ((st : Int) < (kv : Int) + 1) = true := decide_eq_true (by omega)
          gi_wp2_with fail
          refine ⟨rfl, (KeepsOthers.setCell _ _ _).from _, ?_, ?_, HBL.out.setCell (p := ⟨h9, 0, none⟩) (Nat.le_refl _) _⟩
          · rw [List.length_append, HPL.out]
            show kv + 1 = st + 1
            omega
          · rw [List.length_append, HPL.out]
            exact HBX.out.set_ 0 (.int .i64 ((kv : Int) + 1))
      case done =>
        rintro D ys W hD rfl ⟨hps, hbx, hBl⟩ hK
        rw [List.length_finRange] at hps hbx
        have kW : Below h9 ws W := HG9.out.trans hBl
        have z0 := HZ0.out.below kW (by omega)
        have z1 := HZ1.out.below kW (by omega)
        have z2 := HZ2.out.below kW (by omega)
        have zv := HVB.out.below kW hvl9
        have zg := HST.out.blk.below kW hgl
        have hDl : D < W.heap.size := (Array.getElem?_eq_some_iff.1 hK).1
        have HZW := Lib.hid (HWW.out.trans (kW.mono (show w.heap.size ≤ h9 by omega)))
        have Z0 := Lib.hid z0
        have Z1 := Lib.hid z1
        have Z2 := Lib.hid z2
        have ZV := Lib.hid zv
        have ZG := Lib.hid zg
        have ZX := Lib.hid hbx
        clear z0 z1 z2 zv zg kW hbx hBl hseq
        skip
        go_wp2_with fail
        ((with_reducible refine (alive05_any _).mono ?_); rintro e wa ⟨rfl, hba⟩)
        have q0 := Z0.out.kept hba
        have q1 := Z1.out.kept hba
        have q2 := Z2.out.kept hba
        have qv := ZV.out.kept hba
        have qx := ZX.out.kept hba
        have c0 : wa.cell? ⟨w.heap.size, 0, none⟩ = some (.slice A n cap) := q0.cell 0
        have c1' : wa.cell? ⟨w.heap.size + 1, 0, none⟩ = some (.int .u8 st) := q1.cell 0
        have c2 : wa.cell? ⟨w.heap.size + 1 + 1, 0, none⟩ = some (.bool false) := q2.cell 0
        have cv0 : wa.cell? ⟨v, 0, none⟩ = some (.slice A n cap) := qv.cell 0
        have cv1 : wa.cell? ⟨v, 1, none⟩ = some (.int .i64 m) := qv.cell 1
        have cx : wa.cell? ⟨h9, 0, none⟩ = some (.int .i64 ((M : Nat))) := qx.cell 0
        have p0 := q0.lt
        have p1 := q1.lt
        have p2 := q2.lt
        have pv := qv.lt
        have px := qx.lt
        have HSM := Lib.hid (same05_any g A1 A n c1 cap m wa (ZG.out.kept hba) hmn (by omega))
        have HWA := Lib.hid ((Kept.of HZW.out).call hba).2.2
        have Q2 := Lib.hid q2
        have hKa : wa.heap[D]? = some (.deferred (some [])) := (hba.block D hDl).trans hK
        have hsub : (n : Int) - (m : Int) = (M : Int) := by have := HM.out; omega
        clear q0 q1 q2 qv qx hba hK
        go_wp2_with fail
        all_goals
          (with_reducible refine HSM.out.mono ?_)
          rintro e wb ⟨rfl, hbb⟩
          have s2 := Q2.out.kept hbb
          have x0 : wb.cell? ⟨w.heap.size + 1 + 1, 0, none⟩ = some (.bool false) := s2.cell 0
          have f0 := s2.frozen 0
          have ls := s2.lt
          have HS9 := Lib.hid s2
          have HWB := Lib.hid ((Kept.of HWA.out).call hbb).2.2
          have hKb : wb.heap[D]? = some (.deferred (some [])) := (hbb.block D (Array.getElem?_eq_some_iff.1 hKa).1).trans hKa
          have hD9 : w.heap.size + 1 + 1 ≠ D := by omega
          clear hbb s2 hKa c0 c1' c2 cv0 cv1 cx
          go_wp2_with fail
          have hst := HS9.out.set_ 0 (.bool true)
          have hK9 : (wb.setCell ⟨w.heap.size + 1 + 1, 0, none⟩ (.bool true)).heap[D]? = some (.deferred (some [])) := by
            rw [heap_setCell_other _ _ _ _ (by simp; omega)]
            exact hKb
          have hgs : wb.grownBy (wb.setCell ⟨w.heap.size + 1 + 1, 0, none⟩ (.bool true)) (some (w.heap.size + 1 + 1)) := gr_set (World.grownBy.refl wb _) (.inl rfl) _
          obtain ⟨w9, hw9⟩ : ∃ w9, wb.setCell ⟨w.heap.size + 1 + 1, 0, none⟩ (.bool true) = w9 := ⟨_, rfl⟩
          rw [hw9] at hst hK9 hgs ⊢
          refine ⟨by simp, .inl ⟨_, _, rfl, run_takeDeferred hK9, ?_⟩⟩
          have hg9' : w9.grownBy (w9.putObj D (.deferred none)) (some D) := grownBy_putObj' w9 D (.deferred none)
          have hb9 : Blk (w9.putObj D (.deferred none)) (w.heap.size + 1 + 1) 4 #[.bool true] := Blk.grown (by simpa using hst) hg9' (by simp; omega)
          have hc9 : (w9.putObj D (.deferred none)).cell? ⟨w.heap.size + 1 + 1, 0, none⟩ = some (.bool true) := hb9.cell 0
          have hz := HWB.out.size
          exact ⟨.bool true, by simp [results, Try.results5, go_sem, hc9], rfl, (below_gr HWB.out hz hgs (by omega)).trans ((Below.refl _ _).grown hg9' (Nat.le_trans hz hgs.size) (fun k e => by cases e; omega))⟩
      case stop =>
        rintro D pre W hD hpre ⟨hps, hbx, hBl⟩ hK
        have hpM : st + 1 ≤ M := by
          have := hpre.length_le
          rw [List.length_finRange] at this
          omega
        rw [hps] at hbx
        have kW : Below h9 ws W := HG9.out.trans hBl
        have z0 := HZ0.out.below kW (by omega)
        have z1 := HZ1.out.below kW (by omega)
        have z2 := HZ2.out.below kW (by omega)
        have zv := HVB.out.below kW hvl9
        have zg := HST.out.blk.below kW hgl
        have hDl : D < W.heap.size := (Array.getElem?_eq_some_iff.1 hK).1
        have HZW := Lib.hid (HWW.out.trans (kW.mono (show w.heap.size ≤ h9 by omega)))
        have Z0 := Lib.hid z0
        have Z1 := Lib.hid z1
        have Z2 := Lib.hid z2
        have ZV := Lib.hid zv
        have ZG := Lib.hid zg
        have ZX := Lib.hid hbx
        clear z0 z1 z2 zv zg kW hbx hBl hseq
        refine wpIn_wide.2 ?_
        go_wp2_with fail
        ((with_reducible refine (alive05_any _).mono ?_); rintro e wa ⟨rfl, hba⟩)
        have q0 := Z0.out.kept hba
        have q1 := Z1.out.kept hba
        have q2 := Z2.out.kept hba
        have qv := ZV.out.kept hba
        have qx := ZX.out.kept hba
        have c0 : wa.cell? ⟨w.heap.size, 0, none⟩ = some (.slice A n cap) := q0.cell 0
        have c1' : wa.cell? ⟨w.heap.size + 1, 0, none⟩ = some (.int .u8 st) := q1.cell 0
        have c2 : wa.cell? ⟨w.heap.size + 1 + 1, 0, none⟩ = some (.bool false) := q2.cell 0
        have cv0 : wa.cell? ⟨v, 0, none⟩ = some (.slice A n cap) := qv.cell 0
        have cv1 : wa.cell? ⟨v, 1, none⟩ = some (.int .i64 m) := qv.cell 1
        have cx : wa.cell? ⟨h9, 0, none⟩ = some (.int .i64 (((st + 1 : Nat) : Int))) := qx.cell 0
        have p0 := q0.lt
        have p1 := q1.lt
        have p2 := q2.lt
        have pv := qv.lt
        have px := qx.lt
        have HSM := Lib.hid (same05_any g A1 A n c1 cap m wa (ZG.out.kept hba) hmn (by omega))
        have HWA := Lib.hid ((Kept.of HZW.out).call hba).2.2
        have Q2 := Lib.hid q2
        have hKa : wa.heap[D]? = some (.deferred (some [])) := (hba.block D hDl).trans hK
        have hsub : (n : Int) - (m : Int) = (M : Int) := by have := HM.out; omega
        clear q0 q1 q2 qv qx hba hK
        go_wp2_with fail
        all_goals
          (with_reducible refine HSM.out.mono ?_)
          rintro e wb ⟨rfl, hbb⟩
          have s2 := Q2.out.kept hbb
          have x0 : wb.cell? ⟨w.heap.size + 1 + 1, 0, none⟩ = some (.bool false) := s2.cell 0
          have f0 := s2.frozen 0
          have ls := s2.lt
          have HS9 := Lib.hid s2
          have HWB := Lib.hid ((Kept.of HWA.out).call hbb).2.2
          have hKb : wb.heap[D]? = some (.deferred (some [])) := (hbb.block D (Array.getElem?_eq_some_iff.1 hKa).1).trans hKa
          have hD9 : w.heap.size + 1 + 1 ≠ D := by omega
          clear hbb s2 hKa c0 c1' c2 cv0 cv1 cx
          go_wp2_with fail
          have hst := HS9.out.set_ 0 (.bool true)
          have hK9 : (wb.setCell ⟨w.heap.size + 1 + 1, 0, none⟩ (.bool true)).heap[D]? = some (.deferred (some [])) := by
            rw [heap_setCell_other _ _ _ _ (by simp; omega)]
            exact hKb
          have hgs : wb.grownBy (wb.setCell ⟨w.heap.size + 1 + 1, 0, none⟩ (.bool true)) (some (w.heap.size + 1 + 1)) := gr_set (World.grownBy.refl wb _) (.inl rfl) _
          obtain ⟨w9, hw9⟩ : ∃ w9, wb.setCell ⟨w.heap.size + 1 + 1, 0, none⟩ (.bool true) = w9 := ⟨_, rfl⟩
          rw [hw9] at hst hK9 hgs ⊢
          refine ⟨by simp, .inl ⟨_, _, rfl, run_takeDeferred hK9, ?_⟩⟩
          have hg9' : w9.grownBy (w9.putObj D (.deferred none)) (some D) := grownBy_putObj' w9 D (.deferred none)
          have hb9 : Blk (w9.putObj D (.deferred none)) (w.heap.size + 1 + 1) 4 #[.bool true] := Blk.grown (by simpa using hst) hg9' (by simp; omega)
          have hc9 : (w9.putObj D (.deferred none)).cell? ⟨w.heap.size + 1 + 1, 0, none⟩ = some (.bool true) := hb9.cell 0
          have hz := HWB.out.size
          exact ⟨.bool true, by simp [results, Try.results5, go_sem, hc9], rfl, (below_gr HWB.out hz hgs (by omega)).trans ((Below.refl _ _).grown hg9' (Nat.le_trans hz hgs.size) (fun k e => by cases e; omega))⟩


theorem drawAlls_any (A : Option Addr) (n cap : Nat) (l : List Int) (us st : Int) (w : World) (hn : n * 8 ≤ 140737488351232) (hl : l.length = n) (hr : Rd w 1 A n (uv l)) (hu : InU l) (hus : 0 ≤ us ∧ us ≤ 255) (hst : 0 ≤ st ∧ st ≤ 255) :
    Calls Try.prog 5 #[.slice A n cap, .int .u8 us, .int .u8 st] w fun e w' => e = .returned (.bool true) ∧ Below w.heap.size w w' := by
  obtain ⟨u, rfl⟩ := Int.eq_ofNat_of_zero_le hus.1
  obtain ⟨s, rfl⟩ := Int.eq_ofNat_of_zero_le hst.1
  by_cases h : 300 < n
  · exact drawAlls_far A n cap l u s w hn hl hr hu (by omega) (by omega) h
  · exact drawAlls_near A n cap l u s w hn hl hr hu (by omega) (by omega) (by omega)

end Go.Proofs.Ytncjfijpaheobaa
