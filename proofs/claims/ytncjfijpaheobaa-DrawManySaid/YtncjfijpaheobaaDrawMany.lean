/-
  DrawMany: the walk.
-/
import Derived.Test.YtncjfijpaheobaaDrawRefMany
namespace Go.Proofs.Ytncjfijpaheobaa
set_option linter.unusedVariables false
set_option linter.unusedSimpArgs false
open Go.RowKit

set_option maxHeartbeats 400000 in
theorem drawMany_far (A B : Option Addr) (n cap m d : Nat) (l : List Int) (w : World) (hn : n * 8 ≤ 140737488351232) (hl : l.length = n) (hr : Rd w 1 A n (uv l)) (hu : InU l) (hm : m ≤ 9223372036854775807) (hfar : 300 < n ∨ 50 < m) :
    Calls Try.prog 6 #[.slice A n cap, .slice B m d] w fun e w' => e = .returned (.bool true) ∧ Below w.heap.size w w' := by
  have HC := Lib.hid (drawNew_any A n cap l w hl hr hn hu)
  clear hl hr hu
  by_cases h1 : 300 < n
  · clear hfar
    go_enter Try.func6, Try.ntmps6
    go_wp2_with fail
    ((with_reducible refine HC.out.mono ?_); rintro e w1 ⟨g, A1, cap1, rfl, hst, hg, hA, hb1⟩)
    clear hst hA
    go_wp2_with fail
    ((with_reducible refine (alive05_any _).mono ?_); rintro e w2 ⟨rfl, hb2⟩)
    go_wp2
    go_ret
    exact ⟨rfl, ((Kept.of hb1).call hb2).2.2⟩
  · have h2 : 50 < m := by omega
    clear hfar
    go_enter Try.func6, Try.ntmps6
    go_wp2_with fail
    ((with_reducible refine HC.out.mono ?_); rintro e w1 ⟨g, A1, cap1, rfl, hst, hg, hA, hb1⟩)
    clear hst hA
    go_wp2_with fail
    ((with_reducible refine (alive05_any _).mono ?_); rintro e w2 ⟨rfl, hb2⟩)
    go_wp2
    go_ret
    exact ⟨rfl, ((Kept.of hb1).call hb2).2.2⟩

/-- Lists that are there and known. -/
def RdLs (w : World) (ss : List (Option Addr × Nat × Nat)) (zs : List (List Int)) : Prop := ∀ (i : Nat) (s : Option Addr × Nat × Nat) (z : List Int), ss[i]? = some s → zs[i]? = some z → z.length = s.2.1 ∧ Rd w 1 s.1 s.2.1 (iv z)

set_option maxHeartbeats 2000000 in
theorem drawMany_near (A B : Option Addr) (n cap m d : Nat) (l : List Int) (ss : List (Option Addr × Nat × Nat)) (zs : List (List Int)) (w : World) (hn : n ≤ 300) (hl : l.length = n) (hr : Rd w 1 A n (uv l)) (hu : InU l) (hm : m ≤ 50) (hls : ss.length = m) (hlz : zs.length = m) (hcp : ∀ s ∈ ss, s.2.1 ≤ s.2.2 ∧ s.2.2 ≤ 9223372036854775807)
    (hrb : Rd w 1 B m (ss.map fun s => Value.slice s.1 s.2.1 s.2.2)) (hrv : RdLs w ss zs) (hbd : ∀ z ∈ zs, ∀ x ∈ z, x ≤ 9223372036854775807) :
    Calls Try.prog 6 #[.slice A n cap, .slice B m d] w fun e w' => e = .returned (.bool true) ∧ Below w.heap.size w w' := by
  have HC := Lib.hid (drawNew_any A n cap l w hl hr (by omega) hu)
  have HLL := Lib.hid hl
  have HL := Lib.hid hls
  have HZ := Lib.hid hlz
  have HCP := Lib.hid hcp
  have HRB := Lib.hid hrb
  have HRV := Lib.hid hrv
  have HR := Lib.hid hr
  have HU := Lib.hid hu
  have HD := Lib.hid hbd
  clear hl hr hu hls hlz hcp hrb hrv hbd
  go_enter Try.func6, Try.ntmps6
  go_wp2_with fail
  ((with_reducible refine HC.out.mono ?_); rintro e w1 ⟨g, A1, cap1, rfl, hst, hg, hA, hb1⟩)
  have hglt := hst.blk.lt
  have hvs := hb1.size
  have HS := Lib.hid hst
  have HAv : Hid (∀ b' o, A1 = some ⟨b', o, none⟩ → 0 < n → b' < w1.heap.size) := Lib.hid hst.rd.lt
  clear hst hA HC
  go_wp2_with fail
  obtain ⟨v, hv⟩ : ∃ v, w1.heap.size = v := ⟨_, rfl⟩
  rw [hv]
  rw [hv] at HAv
  have hvw : w.heap.size ≤ v := by omega
  have hgv' : g < v := by omega
  have HV := Lib.hid hv
  clear hv
  go_loopw [37] (fun c wr => ∃ j k : Nat, j ≤ m ∧ c = .int .i64 j ∧ Stm wr g A1 n cap1 k l ∧ Blk wr v 28 #[.slice A n cap, .int .i64 k] ∧ Below w.heap.size w wr) (fun c _ => m - (intOf c).toNat)
  case atStart => exact ⟨0, 0, by omega, rfl, HS.out.kept ((Below.refl _ _).alloc (Nat.le_refl _) _), by rw [← HV.out]; exact Blk.new _ _ _, hb1.alloc hb1.size _⟩
  case round =>
    obtain ⟨j, k, hj, rfl, hst, hblk, hb⟩ := hrel
    by_cases hlt : j < m
    · obtain ⟨b, o, rfl, hbl, hcc⟩ := (HRB.out.below hb).2 (by omega)
      have hjs : j < ss.length := by rw [HL.out]; exact hlt
      have hjz : j < zs.length := by rw [HZ.out]; exact hlt
      have cy := hcc j (Value.slice ss[j].1 ss[j].2.1 ss[j].2.2) (by simp [hjs])
      have hrv := HRV.out j _ _ (List.getElem?_eq_getElem hjs) (List.getElem?_eq_getElem hjz)
      have hcp := HCP.out _ (List.getElem_mem hjs)
      have hbd := HD.out _ (List.getElem_mem hjz)
      generalize ss[j] = sj at cy hrv hcp
      generalize zs[j] = z at hrv hbd
      obtain ⟨Bj, mj, dj⟩ := sj
      dsimp only at cy hrv hcp
      clear hcc
      have hvr := hblk.lt
      have hk := hst.le
      have hgv : v ≠ g := by omega
      have HS2 := Lib.hid hst
      have HB2 := Lib.hid hblk
      have HW := Lib.hid hb
      have HRj := Lib.hid (hrv.2.below hb)
      have HLj := Lib.hid hrv.1
      have HDj := Lib.hid hbd
      have HBj : Hid (∀ b' o, Bj = some ⟨b', o, none⟩ → 0 < mj → b' < w.heap.size) := Lib.hid hrv.2.lt
      clear hst hblk hb hrv hbd
      by_cases hfar : 300 < mj
      · go_wp2_with fail
        ((with_reducible refine (alive05_any _).mono ?_); rintro e w2 ⟨rfl, hb2⟩)
        go_wp2
        go_ret
        exact ⟨rfl, ((Kept.of HW.out).call hb2).2.2⟩
      · by_cases hcan : canMany n k mj z = true
        · obtain ⟨k', hk'⟩ : ∃ k', k + mj = k' := ⟨_, rfl⟩
          have hcan' : k + mj ≤ n ∧ anyLow z = false := by
            unfold canMany at hcan
            simpa using hcan
          have C1 := many_some g A1 Bj n cap1 k mj dj l z wr HS2.out (by omega) HLj.out HRj.out (fun b' o e h0 => by have := HBj.out b' o e h0; omega) hcan'.1 hcan'.2 HDj.out
          rw [hk'] at C1
          have HC1 := Lib.hid C1
          have HN := Lib.hid hcan
          have HML := Lib.hid (manyL_length l k z (by rw [HLL.out, HLj.out]; omega))
          have hk'n : k' ≤ n := by omega
          have HK' := Lib.hid hk'
          clear hcan hcan' C1 hk'
          go_wp2_with fail
          ((with_reducible refine HC1.out.mono ?_); rintro e w2 ⟨A2, c2', rfl, hown2, hg2, hblk2⟩)
          have hst2 := HS2.out.turned hg2 hblk2 hk'n
          have hv2 := HB2.out.grown hg2 (by simpa using hgv)
          have hb2 := below_gr HW.out HW.out.size hg2 (by omega)
          have HS3 := Lib.hid hst2
          have HB3 := Lib.hid hv2
          have HO3 := Lib.hid hown2
          have c0 : w2.cell? ⟨v, 0, none⟩ = some (.slice A n cap) := hv2.cell 0
          have c1 : w2.cell? ⟨v, 1, none⟩ = some (.int .i64 k) := hv2.cell 1
          have HC3 := Lib.hid (refMany_any A Bj n cap k mj dj l z w2 HLL.out (HR.out.below hb2) HU.out hk (by omega) HLj.out (HRj.out.grown hg2 (fun b' o e h0 => by have := HBj.out b' o e h0; omega)) (by omega) HDj.out)
          have HW3 := Lib.hid hb2
          clear hst2 hv2 hb2 hg2 hblk2 HS2 HB2 HW HC1 hown2
          go_wp2_with fail
          ((with_reducible refine HC3.out.mono ?_); rintro e w3 ⟨hb3, h3⟩)
          obtain ⟨A3, c3', rfl, hown3⟩ : ∃ A' c', e = .returned (.tuple #[.agg #[.slice A n cap, .int .i64 (k' : Int)], .slice A' mj c', .bool true]) ∧ w3.ownsRow w2.heap.size 3 1 (.slice A' mj c') mj (iv (manyL l k z)) := by
            rcases h3 with ⟨h3, _⟩ | ⟨h3, A', c', he, ho⟩
            · rw [HN.out] at h3; cases h3
            · rw [HK'.out] at he; exact ⟨A', c', he, ho⟩
          clear h3
          have HS4 := Lib.hid (HS3.out.kept hb3)
          have hv3 := HB3.out.kept hb3
          have HO4 := Lib.hid (own_below HO3.out hb3)
          have HP4 := Lib.hid hown3
          have c2 : w3.cell? ⟨v, 0, none⟩ = some (.slice A n cap) := hv3.cell 0
          have c3 : w3.cell? ⟨v, 1, none⟩ = some (.int .i64 k) := hv3.cell 1
          have f2 := hv3.frozen 0
          have f3 := hv3.frozen 1
          have hvlt := hv3.lt
          have hv2lt := HB3.out.lt
          have HB4 := Lib.hid hv3
          have HW4 := Lib.hid (((Kept.of HW3.out).call hb3).2.2)
          clear hv3 c0 c1 hb3 HS3 HB3 HW3 HC3 HO3 hown3
          go_wp2_with fail
          obtain ⟨W5, hW5⟩ : ∃ W5, ((w3.setCell ⟨v, 0, none⟩ (.slice A n cap)).setCell ⟨v, 1, none⟩ (.int .i64 k')).alloc (.cells #[.slice A n cap, .int .i64 k'] 28) = W5 := ⟨_, rfl⟩
          have hst2 := store2 HB4.out (.cells #[.slice A n cap, .int .i64 k'] 28) (.slice A n cap) (.int .i64 k')
          rw [hW5] at hst2 ⊢
          have HS5 := Lib.hid (HS4.out.grown hst2.1 (by omega) (fun b' o e h0 => by have := HAv.out b' o e h0; omega))
          have HB5 := Lib.hid hst2.2
          have HW5 := Lib.hid (below_gr HW4.out HW4.out.size hst2.1 (by omega))
          have R5 := Lib.hid ((Rd.of_own HO4.out).grown hst2.1 (fun b' o e h0 => by have := (own_rd_block HO4.out b' o e).1; omega))
          have Q5 := Lib.hid ((Rd.of_own HP4.out).grown hst2.1 (fun b' o e h0 => by have := (own_rd_block HP4.out b' o e).1; omega))
          clear hst2 hW5 c2 c3 f2 f3 HS4 HB4 HW4
          ((with_reducible refine (equalInt_any A2 A3 mj mj c2' c3' (manyL l k z) (manyL l k z) _ (HML.out.trans HLj.out) (HML.out.trans HLj.out) R5.out Q5.out (by omega) (by omega)).mono ?_); rintro e w6 ⟨rfl, hb6⟩)
          rw [decide_eq_true (rfl : manyL l k z = manyL l k z)]
          have HS6 := Lib.hid (HS5.out.kept hb6)
          have HB6 := Lib.hid (HB5.out.kept hb6)
          have HW6 := Lib.hid (((Kept.of HW5.out).call hb6).2.2)
          have c0 : w6.cell? ⟨v, 0, none⟩ = some (.slice A n cap) := HB6.out.cell 0
          have c1 : w6.cell? ⟨v, 1, none⟩ = some (.int .i64 k') := HB6.out.cell 1
          clear HS5 HB5 HW5 hb6 R5 Q5 HO4 HP4
          go_wp2_with fail
          ((with_reducible refine (same05_any g A1 A n cap1 cap k' _ HS6.out.blk hk'n (by omega)).mono ?_); rintro e w7 ⟨rfl, hb7⟩)
          go_wp2
          go_roundw
          case rel => exact ⟨j + 1, k', by omega, by go_num, HS6.out.kept hb7, HB6.out.kept hb7, ((Kept.of HW6.out).call hb7).2.2⟩
          case measure => simp [intOf]; omega
        · have HN : Hid (canMany n k mj z = false) := Lib.hid (by simpa using hcan)
          have HC1 := Lib.hid (many_none g A1 Bj n cap1 k mj dj z wr HS2.out.blk hk (by omega) HLj.out HRj.out (by omega) (by
            have := HN.out
            unfold canMany at this
            by_cases h1 : n - k < mj
            · exact .inl h1
            · refine .inr ?_
              rw [decide_eq_true (by omega)] at this
              simpa using this))
          clear hcan
          go_wp2_with fail
          ((with_reducible refine HC1.out.mono ?_); rintro e w2 ⟨rfl, hg2, hblk2⟩)
          have hst2 := HS2.out.turned hg2 hblk2 hk
          have hv2 := HB2.out.grown hg2 (by simpa using hgv)
          have hb2 := below_gr HW.out HW.out.size hg2 (by omega)
          have HS3 := Lib.hid hst2
          have HB3 := Lib.hid hv2
          have c0 : w2.cell? ⟨v, 0, none⟩ = some (.slice A n cap) := hv2.cell 0
          have c1 : w2.cell? ⟨v, 1, none⟩ = some (.int .i64 k) := hv2.cell 1
          have HC3 := Lib.hid (refMany_any A Bj n cap k mj dj l z w2 HLL.out (HR.out.below hb2) HU.out hk (by omega) HLj.out (HRj.out.grown hg2 (fun b' o e h0 => by have := HBj.out b' o e h0; omega)) (by omega) HDj.out)
          have HW3 := Lib.hid hb2
          clear hst2 hv2 hb2 hg2 hblk2 HS2 HB2 HW HC1
          go_wp2_with fail
          ((with_reducible refine HC3.out.mono ?_); rintro e w3 ⟨hb3, h3⟩)
          obtain ⟨_, rfl⟩ : canMany n k mj z = false ∧ e = _ := by
            rcases h3 with h3 | ⟨h3, _⟩
            · exact h3
            · rw [HN.out] at h3; cases h3
          clear h3
          have HS4 := Lib.hid (HS3.out.kept hb3)
          have hv3 := HB3.out.kept hb3
          have c2 : w3.cell? ⟨v, 0, none⟩ = some (.slice A n cap) := hv3.cell 0
          have c3 : w3.cell? ⟨v, 1, none⟩ = some (.int .i64 k) := hv3.cell 1
          have f2 := hv3.frozen 0
          have f3 := hv3.frozen 1
          have hvlt := hv3.lt
          have HB4 := Lib.hid hv3
          have HW4 := Lib.hid (((Kept.of HW3.out).call hb3).2.2)
          clear hv3 c0 c1 hb3 HS3 HB3 HW3 HC3
          go_wp2_with fail
          obtain ⟨W5, hW5⟩ : ∃ W5, ((w3.setCell ⟨v, 0, none⟩ (.slice A n cap)).setCell ⟨v, 1, none⟩ (.int .i64 k)).alloc (.cells #[.slice A n cap, .int .i64 k] 28) = W5 := ⟨_, rfl⟩
          have hst2 := store2 HB4.out (.cells #[.slice A n cap, .int .i64 k] 28) (.slice A n cap) (.int .i64 k)
          rw [hW5] at hst2 ⊢
          have HS5 := Lib.hid (HS4.out.grown hst2.1 (by omega) (fun b' o e h0 => by have := HAv.out b' o e h0; omega))
          have HB5 := Lib.hid hst2.2
          have HW5 := Lib.hid (below_gr HW4.out HW4.out.size hst2.1 (by omega))
          clear hst2 hW5 c2 c3 f2 f3 HS4 HB4 HW4
          ((with_reducible refine (equalInt_any none none 0 0 0 0 [] [] _ rfl rfl (Rd.nil _ _ _) (Rd.nil _ _ _) (by omega) (by omega)).mono ?_); rintro e w6 ⟨rfl, hb6⟩)
          have HS6 := Lib.hid (HS5.out.kept hb6)
          have HB6 := Lib.hid (HB5.out.kept hb6)
          have HW6 := Lib.hid (((Kept.of HW5.out).call hb6).2.2)
          have c0 : w6.cell? ⟨v, 0, none⟩ = some (.slice A n cap) := HB6.out.cell 0
          have c1 : w6.cell? ⟨v, 1, none⟩ = some (.int .i64 k) := HB6.out.cell 1
          clear HS5 HB5 HW5 hb6
          go_wp2_with fail
          ((with_reducible refine (same05_any g A1 A n cap1 cap k _ HS6.out.blk hk (by omega)).mono ?_); rintro e w7 ⟨rfl, hb7⟩)
          go_wp2
          go_roundw
          case rel => exact ⟨j + 1, k, by omega, by go_num, HS6.out.kept hb7, HB6.out.kept hb7, ((Kept.of HW6.out).call hb7).2.2⟩
          case measure => simp [intOf]; omega
    · go_wp2_with fail
      ((with_reducible refine (alive05_any _).mono ?_); rintro e w2 ⟨rfl, hb2⟩)
      go_wp2
      go_ret
      exact ⟨rfl, ((Kept.of hb).call hb2).2.2⟩

theorem drawMany_any (A : Option Addr) (n cap : Nat) (l : List Int) (B : Option Addr) (m d : Nat) (ss : List (Option Addr × Nat × Nat)) (zs : List (List Int)) (w : World) (hn : n * 8 ≤ 140737488351232) (hl : l.length = n) (hr : Rd w 1 A n (uv l)) (hu : InU l)
    (hm : m ≤ 9223372036854775807) (hls : ss.length = m) (hlz : zs.length = m) (hcp : ∀ s ∈ ss, s.2.1 ≤ s.2.2 ∧ s.2.2 ≤ 9223372036854775807) (hrb : Rd w 1 B m (ss.map fun s => Value.slice s.1 s.2.1 s.2.2)) (hrv : RdLs w ss zs) (hbd : ∀ z ∈ zs, ∀ x ∈ z, (Lit.int .i64 x).wf = true) :
    Calls Try.prog 6 #[.slice A n cap, .slice B m d] w fun e w' => e = .returned (.bool true) ∧ Below w.heap.size w w' := by
  by_cases h : 300 < n ∨ 50 < m
  · exact drawMany_far A B n cap m d l w hn hl hr hu hm h
  · exact drawMany_near A B n cap m d l ss zs w (by omega) hl hr hu (by omega) hls hlz hcp hrb hrv (fun z hz x hx => (bounds_i64 (hbd z hz x hx)).2)

end Go.Proofs.Ytncjfijpaheobaa
