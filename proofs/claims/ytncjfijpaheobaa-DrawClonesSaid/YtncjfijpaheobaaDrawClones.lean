/-
  DrawClones: the walk.
-/
import Derived.Test.YtncjfijpaheobaaDrawNexts
namespace Go.Proofs.Ytncjfijpaheobaa
set_option linter.unusedVariables false
set_option linter.unusedSimpArgs false
open Go.RowKit

set_option maxHeartbeats 400000 in
theorem drawClones_far (A : Option Addr) (n cap : Nat) (l : List Int) (p q : Int) (w : World) (hn : n * 8 ≤ 140737488351232) (hl : l.length = n) (hr : Rd w 1 A n (uv l)) (hu : InU l) (hfar : 300 < n) :
    Calls Try.prog 4 #[.slice A n cap, .int .u8 p, .int .u8 q] w fun e w' => e = .returned (.bool true) ∧ Below w.heap.size w w' := by
  have HC := Lib.hid (drawNew_any A n cap l w hl hr hn hu)
  clear hl hr hu
  go_enter Try.func4, Try.ntmps4
  go_wp2_with fail
  ((with_reducible refine HC.out.mono ?_); rintro e w1 ⟨g, A1, cap1, rfl, hst, hg, hA, hb1⟩)
  clear hst hA
  go_wp2_with fail
  ((with_reducible refine (alive05_any _).mono ?_); rintro e w2 ⟨rfl, hb2⟩)
  go_wp2
  go_ret
  exact ⟨rfl, ((Kept.of hb1).call hb2).2.2⟩

set_option maxHeartbeats 2000000 in
theorem drawClones_near (A : Option Addr) (n cap : Nat) (l : List Int) (p q : Nat) (w : World) (hn : n ≤ 300) (hl : l.length = n) (hr : Rd w 1 A n (uv l)) (hu : InU l) (hp : p ≤ 255) (hq : q ≤ 255) :
    Calls Try.prog 4 #[.slice A n cap, .int .u8 p, .int .u8 q] w fun e w' => e = .returned (.bool true) ∧ Below w.heap.size w w' := by
  have HC := Lib.hid (drawNew_any A n cap l w hl hr (by omega) hu)
  have HR := Lib.hid hr
  clear hl hr hu
  go_enter Try.func4, Try.ntmps4
  go_wp2_with fail
  ((with_reducible refine HC.out.mono ?_); rintro e w1 ⟨g, A1, cap1, rfl, hst, hg, hA, hb1⟩)
  have hglt := hst.blk.lt
  have hvs := hb1.size
  have HS := Lib.hid hst
  have HAv : Hid (∀ b' o, A1 = some ⟨b', o, none⟩ → 0 < n → b' < w1.heap.size) := Lib.hid hst.rd.lt
  clear hst hA HC
  go_wp2_with fail
  obtain ⟨v, hv⟩ : ∃ v, w1.heap.size = v := ⟨_, rfl⟩
  rw [hv]
  rw [hv] at HAv
  have hvw : w.heap.size ≤ v := by omega
  have hgv' : g < v := by omega
  have HV := Lib.hid hv
  clear hv
  go_loopw [34] (fun c wr => ∃ j k : Nat, j ≤ p ∧ c = .int .i64 j ∧ Stm wr g A1 n cap1 k l ∧ Blk wr v 28 #[.slice A n cap, .int .i64 k] ∧ Below w.heap.size w wr) (fun c _ => p - (intOf c).toNat)
  case atStart => exact ⟨0, 0, by omega, rfl, HS.out.kept ((Below.refl _ _).alloc (Nat.le_refl _) _), by rw [← HV.out]; exact Blk.new _ _ _, hb1.alloc hb1.size _⟩
  case round =>
    obtain ⟨j, k, hj, rfl, hst, hblk, hb⟩ := hrel
    by_cases hlt : j < p
    · obtain ⟨x, ok, k', hk', C1, C2⟩ := step05 hst 9 (by omega) (by omega)
      have hgv : v ≠ g := by omega
      have HC1 := Lib.hid C1
      have HC2 := Lib.hid C2
      have HS2 := Lib.hid hst
      have HB2 := Lib.hid hblk
      have HW := Lib.hid hb
      clear C1 C2 hst hblk hb
      go_wp2_with fail
      ((with_reducible refine HC1.out.mono ?_); rintro e w2 ⟨rfl, hg2, hblk2⟩)
      have hst2 := HS2.out.turned hg2 hblk2 hk'
      have hv2 := HB2.out.grown hg2 (by simpa using hgv)
      have hb2 := below_gr HW.out HW.out.size hg2 (by omega)
      have HS3 := Lib.hid hst2
      have HB3 := Lib.hid hv2
      have c0 : w2.cell? ⟨v, 0, none⟩ = some (.slice A n cap) := hv2.cell 0
      have c1 : w2.cell? ⟨v, 1, none⟩ = some (.int .i64 k) := hv2.cell 1
      have HC3 := Lib.hid (HC2.out A cap w2 (HR.out.below hb2))
      have HW3 := Lib.hid hb2
      clear hst2 hv2 hb2 hg2 hblk2 HS2 HB2 HW HC1 HC2
      go_wp2_with fail
      ((with_reducible refine HC3.out.mono ?_); rintro e w3 ⟨rfl, hb3⟩)
      have HS4 := Lib.hid (HS3.out.kept hb3)
      have hv3 := HB3.out.kept hb3
      have c2 : w3.cell? ⟨v, 0, none⟩ = some (.slice A n cap) := hv3.cell 0
      have c3 : w3.cell? ⟨v, 1, none⟩ = some (.int .i64 k) := hv3.cell 1
      have f2 := hv3.frozen 0
      have f3 := hv3.frozen 1
      have hvlt := hv3.lt
      have HB4 := Lib.hid hv3
      have HW4 := Lib.hid (((Kept.of HW3.out).call hb3).2.2)
      clear hv3 c0 c1 hb3 HS3 HB3 HW3 HC3
      go_wp2_with fail
      have hst2 := store2' HB4.out (.slice A n cap) (.int .i64 k')
      go_roundw
      case rel => exact ⟨j + 1, k', by omega, by go_num, HS4.out.grown hst2.1 (by omega) (fun b' o e h0 => by have := HAv.out b' o e h0; omega), hst2.2, below_gr HW4.out HW4.out.size hst2.1 (by omega)⟩
      case measure => simp [intOf]; omega
    · have HK := Lib.hid (streamClone_any g A1 n cap1 k wr hst.blk)
      have hk := hst.le
      have HS2 := Lib.hid hst
      have HB2 := Lib.hid hblk
      have HW := Lib.hid hb
      have hvr := hblk.lt
      clear hst hblk
      go_wp2_with fail
      ((with_reducible refine HK.out.mono ?_); rintro e w2 ⟨rfl, hw2⟩)
      obtain ⟨c, hc⟩ : ∃ c, wr.heap.size = c := ⟨_, rfl⟩
      have hz2 : w2.heap.size = c + 1 := by rw [hw2, ← hc]; simp
      have hbw : Below wr.heap.size wr w2 := by rw [hw2]; exact (Below.refl _ _).alloc (Nat.le_refl _) _
      have hSc : Stm w2 c A1 n cap1 k l := ⟨by rw [hw2, ← hc]; exact Blk.new _ _ _, HS2.out.len, hk, HS2.out.rd.below hbw, fun b' o e h0 => by have := HAv.out b' o e h0; omega, HS2.out.inb⟩
      have HS3 := Lib.hid (HS2.out.kept hbw)
      have HB3 := Lib.hid (HB2.out.kept hbw)
      have HW3 := Lib.hid (((Kept.of HW.out).call hbw).2.2)
      have HT3 := Lib.hid hSc
      have c0 : w2.cell? ⟨v, 0, none⟩ = some (.slice A n cap) := HB3.out.cell 0
      have c1 : w2.cell? ⟨v, 1, none⟩ = some (.int .i64 k) := HB3.out.cell 1
      have hcv : v < c := by omega
      have HZ2 := Lib.hid hz2
      rw [hc]
      have HCc := Lib.hid hc
      clear hw2 hbw hSc HS2 HB2 HW HK hz2 hc
      go_wp2_with fail
      ((with_reducible refine (same05_any c A1 A n cap1 cap k _ HT3.out.blk hk (by omega)).mono ?_); rintro e w3 ⟨rfl, hb3⟩)
      have HS4 := Lib.hid (HS3.out.kept hb3)
      have HB4 := Lib.hid (HB3.out.kept hb3)
      have HW4 := Lib.hid (((Kept.of HW3.out).call hb3).2.2)
      have HT4 := Lib.hid (HT3.out.kept hb3)
      have c2 : w3.cell? ⟨v, 0, none⟩ = some (.slice A n cap) := HB4.out.cell 0
      have c3 : w3.cell? ⟨v, 1, none⟩ = some (.int .i64 k) := HB4.out.cell 1
      have hz3 : c < w3.heap.size := HT4.out.blk.lt
      clear c0 c1 HS3 HB3 HW3 HT3 hb3
      go_wp2_with fail
      obtain ⟨u, hu⟩ : ∃ u, w3.heap.size = u := ⟨_, rfl⟩
      rw [hu]
      have hcu : c < u := by omega
      have HU := Lib.hid hu
      clear hu
      go_loopw [58] (fun i wr => ∃ j k2 : Nat, j ≤ q ∧ i = .int .i64 j ∧ Stm wr c A1 n cap1 k2 l ∧ Blk wr u 28 #[.slice A n cap, .int .i64 k2] ∧ Stm wr g A1 n cap1 k l ∧ Blk wr v 28 #[.slice A n cap, .int .i64 k] ∧ Below w.heap.size w wr) (fun i _ => q - (intOf i).toNat)
      case atStart =>
        have ha : Below w3.heap.size w3 (w3.alloc (.cells #[.slice A n cap, .int .i64 k] 28)) := (Below.refl _ _).alloc (Nat.le_refl _) _
        exact ⟨0, k, by omega, rfl, HT4.out.kept ha, by rw [← HU.out]; exact Blk.new _ _ _, HS4.out.kept ha, HB4.out.kept ha, ((Kept.of HW4.out).call ha).2.2⟩
      case round =>
        obtain ⟨j2, k2, hj2, rfl, htc, hbu, hsg, hbv, hb5⟩ := hrel
        clear c2 c3
        by_cases hlt2 : j2 < q
        · obtain ⟨x, ok, k', hk', C1, C2⟩ := step05 htc 1000 (by omega) (by omega)
          have HC1 := Lib.hid C1
          have HC2 := Lib.hid C2
          have HT5 := Lib.hid htc
          have HU5 := Lib.hid hbu
          have HS5 := Lib.hid hsg
          have HV5 := Lib.hid hbv
          have HW5 := Lib.hid hb5
          clear C1 C2 htc hbu hsg hbv hb5
          go_wp2_with fail
          ((with_reducible refine HC1.out.mono ?_); rintro e w6 ⟨rfl, hg6, hblk6⟩)
          have HT6 := Lib.hid (HT5.out.turned hg6 hblk6 hk')
          have HU6 := Lib.hid (HU5.out.grown hg6 (by simp; omega))
          have HS6 := Lib.hid (HS5.out.grown hg6 (by omega) (fun b' o e h0 => by have := HAv.out b' o e h0; omega))
          have HV6 := Lib.hid (HV5.out.grown hg6 (by simp; omega))
          have HW6 := Lib.hid (below_gr HW5.out HW5.out.size hg6 (by omega))
          have c0 : w6.cell? ⟨u, 0, none⟩ = some (.slice A n cap) := HU6.out.cell 0
          have c1 : w6.cell? ⟨u, 1, none⟩ = some (.int .i64 k2) := HU6.out.cell 1
          have HC3 := Lib.hid (HC2.out A cap w6 (HR.out.below HW6.out))
          clear hg6 hblk6 HT5 HU5 HS5 HV5 HW5 HC1 HC2
          go_wp2_with fail
          ((with_reducible refine HC3.out.mono ?_); rintro e w7 ⟨rfl, hb7⟩)
          have HT7 := Lib.hid (HT6.out.kept hb7)
          have HU7 := Lib.hid (HU6.out.kept hb7)
          have HS7 := Lib.hid (HS6.out.kept hb7)
          have HV7 := Lib.hid (HV6.out.kept hb7)
          have HW7 := Lib.hid (((Kept.of HW6.out).call hb7).2.2)
          have c2 : w7.cell? ⟨u, 0, none⟩ = some (.slice A n cap) := HU7.out.cell 0
          have c3 : w7.cell? ⟨u, 1, none⟩ = some (.int .i64 k2) := HU7.out.cell 1
          have f2 := HU7.out.frozen 0
          have f3 := HU7.out.frozen 1
          have hvlt := HU7.out.lt
          clear c0 c1 hb7 HT6 HU6 HS6 HV6 HW6 HC3
          go_wp2_with fail
          have hst2 := store2 HU7.out (.cells #[.slice A n cap, .int .i64 k'] 28) (.slice A n cap) (.int .i64 k')
          go_roundw
          case rel => exact ⟨j2 + 1, k', by omega, by go_num, HT7.out.grown hst2.1 (by omega) (fun b' o e h0 => by have := HAv.out b' o e h0; omega), hst2.2, HS7.out.grown hst2.1 (by omega) (fun b' o e h0 => by have := HAv.out b' o e h0; omega), HV7.out.grown hst2.1 (by simp; omega), below_gr HW7.out HW7.out.size hst2.1 (by omega)⟩
          case measure => simp [intOf]; omega
        · have HT5 := Lib.hid htc
          have HU5 := Lib.hid hbu
          have HS5 := Lib.hid hsg
          have HV5 := Lib.hid hbv
          have HW5 := Lib.hid hb5
          have hk2 := htc.le
          clear htc hbu hsg hbv hb5
          go_wp2_with fail
          ((with_reducible refine (alive05_any _).mono ?_); rintro e w6 ⟨rfl, hb6⟩)
          have HT6 := Lib.hid (HT5.out.kept hb6)
          have HU6 := Lib.hid (HU5.out.kept hb6)
          have HS6 := Lib.hid (HS5.out.kept hb6)
          have HV6 := Lib.hid (HV5.out.kept hb6)
          have HW6 := Lib.hid (((Kept.of HW5.out).call hb6).2.2)
          have c0 : w6.cell? ⟨v, 0, none⟩ = some (.slice A n cap) := HV6.out.cell 0
          have c1 : w6.cell? ⟨v, 1, none⟩ = some (.int .i64 k) := HV6.out.cell 1
          clear HT5 HU5 HS5 HV5 HW5 hb6
          go_wp2_with fail
          ((with_reducible refine (same05_any g A1 A n cap1 cap k _ HS6.out.blk hk (by omega)).mono ?_); rintro e w7 ⟨rfl, hb7⟩)
          have HT7 := Lib.hid (HT6.out.kept hb7)
          have HU7 := Lib.hid (HU6.out.kept hb7)
          have HW7 := Lib.hid (((Kept.of HW6.out).call hb7).2.2)
          have c2 : w7.cell? ⟨u, 0, none⟩ = some (.slice A n cap) := HU7.out.cell 0
          have c3 : w7.cell? ⟨u, 1, none⟩ = some (.int .i64 k2) := HU7.out.cell 1
          clear c0 c1 HT6 HU6 HS6 HV6 HW6 hb7
          go_wp2_with fail
          ((with_reducible refine (same05_any c A1 A n cap1 cap k2 _ HT7.out.blk hk2 (by omega)).mono ?_); rintro e w8 ⟨rfl, hb8⟩)
          have HW8 := Lib.hid (((Kept.of HW7.out).call hb8).2.2)
          clear c2 c3 HT7 HU7 HW7 hb8
          go_wp2
          go_ret
          exact ⟨rfl, HW8.out⟩

theorem drawClones_any (A : Option Addr) (n cap : Nat) (l : List Int) (p q : Int) (w : World) (hn : n * 8 ≤ 140737488351232) (hl : l.length = n) (hr : Rd w 1 A n (uv l)) (hu : InU l) (hp : 0 ≤ p ∧ p ≤ 255) (hq : 0 ≤ q ∧ q ≤ 255) :
    Calls Try.prog 4 #[.slice A n cap, .int .u8 p, .int .u8 q] w fun e w' => e = .returned (.bool true) ∧ Below w.heap.size w w' := by
  by_cases h : 300 < n
  · exact drawClones_far A n cap l p q w hn hl hr hu h
  · obtain ⟨p', rfl⟩ := Int.eq_ofNat_of_zero_le hp.1
    obtain ⟨q', rfl⟩ := Int.eq_ofNat_of_zero_le hq.1
    exact drawClones_near A n cap l p' q' w (by omega) hl hr hu (by omega) (by omega)

end Go.Proofs.Ytncjfijpaheobaa
