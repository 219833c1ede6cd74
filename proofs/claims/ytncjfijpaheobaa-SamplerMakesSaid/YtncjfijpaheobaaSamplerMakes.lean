/-
  SamplerMakes: the walk.
-/
import Derived.Test.YtncjfijpaheobaaSmpLaw
namespace Go.Proofs.Ytncjfijpaheobaa
set_option linter.unusedVariables false
set_option linter.unusedSimpArgs false
set_option maxRecDepth 100000
open Go.RowKit

theorem uv_set (l : List Int) (i : Nat) (x : Int) : uv (l.set i x) = (uv l).set i (.int .u64 x) := by simp [uv, List.map_set]

set_option maxHeartbeats 4000000 in
theorem samplerMakes_ok (n b st q E : Nat) (t : Int) (A : Option Addr) (N cap : Nat) (L : List Int) (w : World) (hN : N ≤ 4000) (hl : L.length = N) (hR : Rd w 1 A N (uv L)) (P : SmpP n b st q E) (hn : n ≤ 60) (hst : st ≤ 60) (hf : fewR n st N = true)
    (C1 : ∀ A cap W, Rd W 1 A N (uv L) → Calls Try.prog 41 #[.int .i64 n, .int .i64 b, .int .i64 st, .slice A N cap] W fun e w' => ∃ bs, e = .returned (.tuple #[.pointer (some ⟨bs, 0, none⟩), .int .i64 0]) ∧ SmpAt w' W.heap.size bs b st q E (blocksL (q * b) b) (ordsL L n E) ∧ Below W.heap.size W w')
    (C2 : ∀ A cap W, Rd W 1 A N (uv L) → Calls Try.prog 42 #[.int .i64 n, .int .i64 b, .int .i64 st, .slice A N cap] W fun e w' => ∃ Ao co, e = .returned (.tuple #[rsmp n b st Ao E co, .int .i64 0]) ∧ RSmp w' W.heap.size n Ao E co (ordsL L n E) ∧ Below W.heap.size W w') :
    Calls Try.prog 12 #[runV n b st A N cap, .int .i64 t] w fun e w' => e = .returned (.bool true) ∧ Below w.heap.size w w' := by
  have HR := Lib.hid hR
  have HL := Lib.hid hl
  have H1 := Lib.hid C1
  have H2 := Lib.hid C2
  have HF := Lib.hid (fun W => (by have h := few12_any n b st A N cap W (by omega); rw [hf] at h; exact h : Calls Try.prog 39 #[runV n b st A N cap] W fun e w' => e = .returned (.bool true) ∧ Below W.heap.size W w'))
  have HP := Lib.hid P
  have HG : Hid (∀ W, w.alloc (.cells #[.int .i64 n, .int .i64 b, .int .i64 st, .slice A N cap] 61) = W → Below w.heap.size w W ∧ Blk W w.heap.size 61 #[.int .i64 n, .int .i64 b, .int .i64 st, .slice A N cap]) := Lib.hid (by
    rintro W rfl
    exact ⟨(Below.refl _ _).alloc (Nat.le_refl _) _, Blk.new _ _ _⟩)
  clear hR hl C1 C2 hf P
  go_enter Try.func12, Try.ntmps12
  go_wp2_with fail
  obtain ⟨hB, hK⟩ := HG.out _ rfl
  ((with_reducible refine (HF.out _).mono ?_); rintro e w1 ⟨rfl, hb1⟩)
  have HB1 := Lib.hid (hB.trans (hb1.mono hB.size))
  have HK1 := Lib.hid (hK.kept hb1)
  have c3 : w1.cell? ⟨w.heap.size, 3, none⟩ = some (.slice A N cap) := HK1.out.cell 3
  have l1 := HK1.out.lt
  clear hB hK hb1
  go_wp2_with (at_builtin; go_must (refine wpList_appendAll slU64 rfl _ _ rfl w1.heap.size _ 0 [] rfl (World.ownsRow_lit w1 #[] 0 (Nat.le_refl _) (by unfold maxLen; omega) rfl) A N cap (uv L) rfl ((HR.out.below HB1.out).alloc _) (uv_one L) (by unfold maxLen; omega) (by omega) (by simp) ?_); go_must (intro A2 c2 w2 hown2 hb2; (have HO2 : Hid (w2.ownsRow w1.heap.size 38 1 (.slice A2 N c2) N (uv L)) := Lib.hid (by simpa using hown2)); (have HB2 : Hid (Below w1.heap.size w1 w2) := Lib.hid (((Below.refl _ _).alloc (Nat.le_refl _) _).trans hb2)); (have d0 : w2.cell? ⟨w.heap.size, 0, none⟩ = some (.int .i64 n) := (HK1.out.kept HB2.out).cell 0); (have d1 : w2.cell? ⟨w.heap.size, 1, none⟩ = some (.int .i64 b) := (HK1.out.kept HB2.out).cell 1); (have d2 : w2.cell? ⟨w.heap.size, 2, none⟩ = some (.int .i64 st) := (HK1.out.kept HB2.out).cell 2); (have d4 := (HK1.out.kept HB2.out).lt); clear hown2 hb2 c3 l1))
  have HBW2 := Lib.hid (HB1.out.trans (HB2.out.mono HB1.out.size))
  have HK2 := Lib.hid (HK1.out.kept HB2.out)
  ((with_reducible refine (H1.out A2 c2 w2 (Rd.of_own HO2.out)).mono ?_); rintro e w3 ⟨bs, rfl, hs3, hb3⟩)
  have HB3 := Lib.hid ((Kept.of HBW2.out).call hb3).2.2
  have HO3 := Lib.hid (own_below HO2.out hb3)
  have HS3 := Lib.hid hs3
  have HK3 := Lib.hid (HK2.out.kept hb3)
  have d0' : w3.cell? ⟨w.heap.size, 0, none⟩ = some (.int .i64 n) := HK3.out.cell 0
  have d1' : w3.cell? ⟨w.heap.size, 1, none⟩ = some (.int .i64 b) := HK3.out.cell 1
  have d2' : w3.cell? ⟨w.heap.size, 2, none⟩ = some (.int .i64 st) := HK3.out.cell 2
  have d3' : w3.cell? ⟨w.heap.size, 3, none⟩ = some (.slice A N cap) := HK3.out.cell 3
  have l3 := HK3.out.lt
  have h23 : w2.heap.size ≤ w3.heap.size := hb3.size
  clear hs3 hb3 d0 d1 d2 d4
  go_wp2_with fail
  ((with_reducible refine (H2.out A cap w3 (HR.out.below HB3.out)).mono ?_); rintro e w4 ⟨Ao, co, rfl, hr4, hb4⟩)
  have HB4 := Lib.hid ((Kept.of HB3.out).call hb4).2.2
  have HO4 := Lib.hid (own_below HO3.out hb4)
  have HS4 := Lib.hid (HS3.out.below hb4)
  have HR4 := Lib.hid (hr4.base h23)
  have HK4 := Lib.hid (HK3.out.kept hb4)
  have HG4 : Hid (∀ W, w4.alloc (.cells #[.int .i64 n, .int .i64 b, .int .i64 st, .slice Ao E co] 68) = W → Below w4.heap.size w4 W ∧ Blk W w4.heap.size 68 #[.int .i64 n, .int .i64 b, .int .i64 st, .slice Ao E co]) := Lib.hid (by
    rintro W rfl
    exact ⟨(Below.refl _ _).alloc (Nat.le_refl _) _, Blk.new _ _ _⟩)
  have h34 : w3.heap.size ≤ w4.heap.size := hb4.size
  clear hr4 hb4 d0' d1' d2' d3' l3
  go_wp2_with fail
  obtain ⟨h5, b5⟩ := HG4.out _ rfl
  obtain ⟨w5, hw5⟩ : ∃ w5, w4.alloc (.cells #[.int .i64 n, .int .i64 b, .int .i64 st, .slice Ao E co] 68) = w5 := ⟨_, rfl⟩
  rw [hw5] at h5 b5 ⊢
  have HB5 := Lib.hid ((Kept.of HB4.out).call h5).2.2
  have HO5 := Lib.hid (own_below HO4.out h5)
  have HS5 := Lib.hid (HS4.out.below h5)
  have HR5 := Lib.hid (HR4.out.below h5)
  have HK5 := Lib.hid (HK4.out.kept h5)
  have HZ5 := Lib.hid b5
  obtain ⟨g, hg⟩ : ∃ g, w4.heap.size = g := ⟨_, rfl⟩
  rw [hg] at HZ5 ⊢
  have hgw : w2.heap.size ≤ g := by rw [← hg]; exact Nat.le_trans h23 h34
  have hw12 : w.heap.size ≤ w1.heap.size := HB1.out.size
  have hw22 : w1.heap.size ≤ w2.heap.size := HB2.out.size
  have hwk : w.heap.size < w1.heap.size := HK1.out.lt
  have h2lt : ∀ b' o, A2 = some ⟨b', o, none⟩ → w1.heap.size ≤ b' ∧ b' < w2.heap.size := own_rd_block HO2.out
  have H2LT := Lib.hid h2lt
  have HI2 : Hid (∀ i, (Value.slice A2 N c2).ownBlock = some i → w1.heap.size ≤ i ∧ i < w2.heap.size) := Lib.hid (fun i e => HO2.out.lt i e)
  clear h5 b5 hw5 hg h2lt HB1 HB2 HB3 HB4 HBW2 HO2 HO3 HO4 HS3 HS4 HR4 HK1 HK2 HK3 HK4 HG HG4
  go_loopw [45] (fun c wr => ∃ (j : Nat) (M : List Int), j ≤ N ∧ c = .int .i64 j ∧ Hid (M.length = N) ∧ wr.ownsRow w1.heap.size 38 1 (.slice A2 N c2) N (uv M) ∧ But (fun q => (Value.slice A2 N c2).ownBlock = some q) w5 wr) (fun c _ => N - (intOf c).toNat)
  case atStart => exact ⟨0, L, by omega, rfl, HL, HO5.out, But.refl _ _⟩
  case round =>
    obtain ⟨j, M, hj, rfl, hM, ho, hbut⟩ := hrel
    by_cases hlt : j < N
    · obtain ⟨_, _, q1, q2, q3, q6⟩ := own_form ho
      injection q1 with q4 _ q5
      subst q4 q5
      obtain ⟨g2, rfl, _, _⟩ := q6 (by omega)
      obtain ⟨x, hx⟩ : ∃ x, M[j]? = some x := ⟨_, List.getElem?_eq_getElem (by rw [hM.out]; exact hlt)⟩
      have c1 : wr.cell? ⟨g2, j, none⟩ = some (.int .u64 x) := (ho.cellAt j (by omega)).trans (by rw [uv, List.getElem?_map, hx]; rfl)
      have f1 := ho.frozenAt j
      have i1 : (0 : Int) ≤ (j : Int) := by omega
      have i2 : (j : Int) < (N : Int) := by omega
      have HO := Lib.hid ho
      have HBT := Lib.hid hbut
      clear ho hbut hx q6
      go_wp2_with fail
      have hst := HO.out.stored j (.int .u64 (IntKind.u64.wrap (x + 1)))
      go_roundw
      case rel => exact ⟨j + 1, M.set j (IntKind.u64.wrap (x + 1)), by omega, by go_num, Lib.hid (by rw [List.length_set]; exact hM.out), by rw [uv_set]; exact hst.1, HBT.out.trans (But.of_gr hst.2 rfl)⟩
      case measure => simp [intOf]; omega
    · obtain rfl : j = N := by omega
      have hSb : ∀ i, (Value.slice A2 j c2).ownBlock = some i → w1.heap.size ≤ i ∧ i < w2.heap.size := fun i e => HI2.out i e
      have HS6 := Lib.hid (HS5.out.but hbut (fun i h => (hSb i h).2))
      have HR6 := Lib.hid (HR5.out.but hbut (fun i h => (hSb i h).2))
      have HZ6 := Lib.hid (HZ5.out.but hbut (fun h => by have := hSb _ h; omega))
      have HK6 := Lib.hid (HK5.out.but hbut (fun h => by have := hSb _ h; omega))
      have HB6 := Lib.hid (HB5.out.trans (hbut.below (by have := HB5.out.size; exact this) (fun i h => by have := hSb i h; omega)))
      clear ho hbut hSb HS5 HR5 HZ5 HK5 HB5 HO5 H2LT
      obtain ⟨w6, hw6⟩ : ∃ w6, wr = w6 := ⟨_, rfl⟩
      subst hw6
      have k2 : wr.cell? ⟨w.heap.size, 2, none⟩ = some (.int .i64 st) := HK6.out.cell 2
      have k3 := HK6.out.lt
      go_wp2_with fail
      clear k2 k3
      have HBT := Lib.hid (fun W (hb : Below wr.heap.size wr W) (i : Int) => smpBatch_any w2.heap.size bs b st q E n L W HP.out i (HS6.out.below hb))
      have HRT := Lib.hid (fun W (hb : Below wr.heap.size wr W) (i : Int) => refBatch_any w2.heap.size b st q E n co Ao L W HP.out i (HR6.out.below hb))
      have HST := Lib.hid (fun W (hb : Below wr.heap.size wr W) => steps_any w2.heap.size bs b st q E W _ _ (HS6.out.below hb))
      go_loopw [67] (fun c w7 => ∃ (i : Nat), i ≤ st ∧ c = .int .i64 i ∧ Below wr.heap.size wr w7) (fun c _ => st - (intOf c).toNat)
      case atStart => exact ⟨0, by omega, rfl, Below.refl _ _⟩
      case round =>
        obtain ⟨i, hi, rfl, hb⟩ := hrel
        have z7 := HZ6.out.kept hb
        have c0 : wr.cell? ⟨g, 0, none⟩ = some (.int .i64 n) := z7.cell 0
        have c1 : wr.cell? ⟨g, 1, none⟩ = some (.int .i64 b) := z7.cell 1
        have c2 : wr.cell? ⟨g, 2, none⟩ = some (.int .i64 st) := z7.cell 2
        have c3 : wr.cell? ⟨g, 3, none⟩ = some (.slice Ao E co) := z7.cell 3
        have l7 := z7.lt
        have HB7 := Lib.hid hb
        by_cases hlt : i < st
        · have C1 := fun W (k : Kept wr W) => HBT.out W ((Kept.of hb).call k.2.2).2.2 (i : Int)
          have C2 := fun W (k : Kept wr W) => HRT.out W ((Kept.of hb).call k.2.2).2.2 (i : Int)
          have hle := batchL_le L n b q st (i : Int) HP.out.hbn
          obtain ⟨l, hl⟩ : ∃ l, batchL L n b q st (i : Int) = l := ⟨_, rfl⟩
          rw [hl] at C1 C2 hle
          obtain ⟨m, hm⟩ : ∃ m, l.length = m := ⟨_, rfl⟩
          simp only [CpRet, hm] at C1 C2 hle
          have HM := Lib.hid hm
          have M1 := Lib.hid C1
          have M2 := Lib.hid C2
          clear C1 C2 hl hm z7 hb
          go_wp2_with fail
          go_region_held3 (fun w' => Kept wr w') (first | exact kk | exact kk.alloc _ | exact Kept.start wr) (first
            | (go_at_call 43; (with_reducible refine (M1.out _ (Kept.start wr)).mono ?_); rintro e w8 ⟨A8, c8, rfl, h8, hb8⟩; have kk := (Kept.start wr).call hb8; have P8 := Lib.hid h8; clear h8 hb8)
            | (go_at_call 44; (with_reducible refine (M2.out _ kk).mono ?_); rintro e w9 ⟨A9, c9, rfl, hc9, h9, hb9⟩; have P9 := Lib.hid (own_below P8.out hb9); have Q9 := Lib.hid h9; replace kk := kk.call hb9; clear h9 hb9)
            | (go_at_call 24; (with_reducible refine (equalInt_any A8 A9 m m c8 c9 l l _ HM.out HM.out (Rd.of_own P9.out) Q9.out (by omega) (by omega)).mono ?_); rintro e w10 ⟨rfl, hb10⟩; rw [decide_eq_true (rfl : l = l)]; replace kk := kk.call hb10; clear hb10))
          go_wp2_with fail
          go_roundw
          case rel => exact ⟨i + 1, by omega, by go_num, HB7.out.trans (kk.2.2.mono HB7.out.size)⟩
          case measure => simp [intOf]; omega
        · obtain rfl : i = st := by omega
          have C1 := fun W (k : Kept wr W) => HBT.out W ((Kept.of hb).call k.2.2).2.2 t
          have C2 := fun W (k : Kept wr W) => HRT.out W ((Kept.of hb).call k.2.2).2.2 t
          have M3 := Lib.hid (fun W (k : Kept wr W) => HST.out W ((Kept.of hb).call k.2.2).2.2)
          have hle := batchL_le L n b q i t HP.out.hbn
          obtain ⟨l, hl⟩ : ∃ l, batchL L n b q i t = l := ⟨_, rfl⟩
          rw [hl] at C1 C2 hle
          obtain ⟨m, hm⟩ : ∃ m, l.length = m := ⟨_, rfl⟩
          simp only [CpRet, hm] at C1 C2 hle
          have HM := Lib.hid hm
          have M1 := Lib.hid C1
          have M2 := Lib.hid C2
          have k2 : wr.cell? ⟨w.heap.size, 2, none⟩ = some (.int .i64 i) := (HK6.out.kept hb).cell 2
          have k3 := (HK6.out.kept hb).lt
          clear C1 C2 hl hm z7 hb
          go_wp2_with fail
          go_region_held3 (fun w' => Kept wr w') (first | exact kk | exact kk.alloc _ | exact Kept.start wr) (first
            | (go_at_call 40; (with_reducible refine (alive12_any _).mono ?_); rintro e w7 ⟨rfl, hb7⟩; have kk := (Kept.start wr).call hb7; clear hb7)
            | (go_at_call 45; (with_reducible refine (M3.out _ kk).mono ?_); rintro e w7s ⟨rfl, rfl⟩)
            | (go_at_call 43; (with_reducible refine (M1.out _ kk).mono ?_); rintro e w8 ⟨A8, c8, rfl, h8, hb8⟩; replace kk := kk.call hb8; have P8 := Lib.hid h8; clear h8 hb8)
            | (go_at_call 44; (with_reducible refine (M2.out _ kk).mono ?_); rintro e w9 ⟨A9, c9, rfl, hc9, h9, hb9⟩; have P9 := Lib.hid (own_below P8.out hb9); have Q9 := Lib.hid h9; replace kk := kk.call hb9; clear h9 hb9)
            | (go_at_call 24; (with_reducible refine (equalInt_any A8 A9 m m c8 c9 l l _ HM.out HM.out (Rd.of_own P9.out) Q9.out (by omega) (by omega)).mono ?_); rintro e w10 ⟨rfl, hb10⟩; rw [decide_eq_true (rfl : l = l)]; replace kk := kk.call hb10; clear hb10))
          go_wp2_with fail
          go_ret
          exact ⟨rfl, ((HB6.out.trans (HB7.out.mono HB6.out.size)).trans (kk.2.2.mono (Nat.le_trans HB6.out.size HB7.out.size)))⟩

set_option maxHeartbeats 4000000 in
theorem samplerMakes_bad (n b st c t : Int) (A : Option Addr) (N cap : Nat) (L : List Int) (w : World) (hN : N ≤ 4000) (hl : L.length = N) (hR : Rd w 1 A N (uv L)) (hc : c ≠ 0) (hf : fewR n st N = true)
    (C1 : ∀ A cap W, Rd W 1 A N (uv L) → Calls Try.prog 41 #[.int .i64 n, .int .i64 b, .int .i64 st, .slice A N cap] W fun e w' => e = .returned (.tuple #[.pointer none, .int .i64 c]) ∧ Below W.heap.size W w')
    (C2 : ∀ A cap W, Rd W 1 A N (uv L) → Calls Try.prog 42 #[.int .i64 n, .int .i64 b, .int .i64 st, .slice A N cap] W fun e w' => e = .returned (.tuple #[noSmp, .int .i64 c]) ∧ Below W.heap.size W w') :
    Calls Try.prog 12 #[runV n b st A N cap, .int .i64 t] w fun e w' => e = .returned (.bool true) ∧ Below w.heap.size w w' := by
  have HR := Lib.hid hR
  have HL := Lib.hid hl
  have H1 := Lib.hid C1
  have H2 := Lib.hid C2
  have HF := Lib.hid (fun W => (by have h := few12_any n b st A N cap W (by omega); rw [hf] at h; exact h : Calls Try.prog 39 #[runV n b st A N cap] W fun e w' => e = .returned (.bool true) ∧ Below W.heap.size W w'))
  have HG : Hid (∀ W, w.alloc (.cells #[.int .i64 n, .int .i64 b, .int .i64 st, .slice A N cap] 61) = W → Below w.heap.size w W ∧ Blk W w.heap.size 61 #[.int .i64 n, .int .i64 b, .int .i64 st, .slice A N cap]) := Lib.hid (by
    rintro W rfl
    exact ⟨(Below.refl _ _).alloc (Nat.le_refl _) _, Blk.new _ _ _⟩)
  clear hR hl C1 C2 hf
  go_enter Try.func12, Try.ntmps12
  go_wp2_with fail
  obtain ⟨hB, hK⟩ := HG.out _ rfl
  ((with_reducible refine (HF.out _).mono ?_); rintro e w1 ⟨rfl, hb1⟩)
  have HB1 := Lib.hid (hB.trans (hb1.mono hB.size))
  have HK1 := Lib.hid (hK.kept hb1)
  have c3 : w1.cell? ⟨w.heap.size, 3, none⟩ = some (.slice A N cap) := HK1.out.cell 3
  have l1 := HK1.out.lt
  clear hB hK hb1
  go_wp2_with (at_builtin; go_must (refine wpList_appendAll slU64 rfl _ _ rfl w1.heap.size _ 0 [] rfl (World.ownsRow_lit w1 #[] 0 (Nat.le_refl _) (by unfold maxLen; omega) rfl) A N cap (uv L) rfl ((HR.out.below HB1.out).alloc _) (uv_one L) (by unfold maxLen; omega) (by omega) (by simp) ?_); go_must (intro A2 c2 w2 hown2 hb2; (have HO2 : Hid (w2.ownsRow w1.heap.size 38 1 (.slice A2 N c2) N (uv L)) := Lib.hid (by simpa using hown2)); (have HB2 : Hid (Below w1.heap.size w1 w2) := Lib.hid (((Below.refl _ _).alloc (Nat.le_refl _) _).trans hb2)); (have d0 : w2.cell? ⟨w.heap.size, 0, none⟩ = some (.int .i64 n) := (HK1.out.kept HB2.out).cell 0); (have d1 : w2.cell? ⟨w.heap.size, 1, none⟩ = some (.int .i64 b) := (HK1.out.kept HB2.out).cell 1); (have d2 : w2.cell? ⟨w.heap.size, 2, none⟩ = some (.int .i64 st) := (HK1.out.kept HB2.out).cell 2); (have d4 := (HK1.out.kept HB2.out).lt); clear hown2 hb2 c3 l1))
  have HBW2 := Lib.hid (HB1.out.trans (HB2.out.mono HB1.out.size))
  have HK2 := Lib.hid (HK1.out.kept HB2.out)
  ((with_reducible refine (H1.out A2 c2 w2 (Rd.of_own HO2.out)).mono ?_); rintro e w3 ⟨rfl, hb3⟩)
  have HB3 := Lib.hid ((Kept.of HBW2.out).call hb3).2.2
  have HO3 := Lib.hid (own_below HO2.out hb3)
  have HK3 := Lib.hid (HK2.out.kept hb3)
  have d0' : w3.cell? ⟨w.heap.size, 0, none⟩ = some (.int .i64 n) := HK3.out.cell 0
  have d1' : w3.cell? ⟨w.heap.size, 1, none⟩ = some (.int .i64 b) := HK3.out.cell 1
  have d2' : w3.cell? ⟨w.heap.size, 2, none⟩ = some (.int .i64 st) := HK3.out.cell 2
  have d3' : w3.cell? ⟨w.heap.size, 3, none⟩ = some (.slice A N cap) := HK3.out.cell 3
  have l3 := HK3.out.lt
  have h23 : w2.heap.size ≤ w3.heap.size := hb3.size
  clear hb3 d0 d1 d2 d4
  go_wp2_with fail
  ((with_reducible refine (H2.out A cap w3 (HR.out.below HB3.out)).mono ?_); rintro e w4 ⟨rfl, hb4⟩)
  have HB4 := Lib.hid ((Kept.of HB3.out).call hb4).2.2
  have HO4 := Lib.hid (own_below HO3.out hb4)
  have HK4 := Lib.hid (HK3.out.kept hb4)
  have HG4 : Hid (∀ W, w4.alloc (.cells #[.int .i64 0, .int .i64 0, .int .i64 0, .slice none 0 0] 68) = W → Below w4.heap.size w4 W ∧ Blk W w4.heap.size 68 #[.int .i64 0, .int .i64 0, .int .i64 0, .slice none 0 0]) := Lib.hid (by
    rintro W rfl
    exact ⟨(Below.refl _ _).alloc (Nat.le_refl _) _, Blk.new _ _ _⟩)
  have h34 : w3.heap.size ≤ w4.heap.size := hb4.size
  clear hb4 d0' d1' d2' d3' l3
  go_wp2_with fail
  obtain ⟨h5, b5⟩ := HG4.out _ rfl
  obtain ⟨w5, hw5⟩ : ∃ w5, w4.alloc (.cells #[.int .i64 0, .int .i64 0, .int .i64 0, .slice none 0 0] 68) = w5 := ⟨_, rfl⟩
  rw [hw5] at h5 b5 ⊢
  have HB5 := Lib.hid ((Kept.of HB4.out).call h5).2.2
  have HO5 := Lib.hid (own_below HO4.out h5)
  have HK5 := Lib.hid (HK4.out.kept h5)
  have HZ5 := Lib.hid b5
  obtain ⟨g, hg⟩ : ∃ g, w4.heap.size = g := ⟨_, rfl⟩
  rw [hg] at HZ5 ⊢
  have hgw : w2.heap.size ≤ g := by rw [← hg]; exact Nat.le_trans h23 h34
  have hw12 : w.heap.size ≤ w1.heap.size := HB1.out.size
  have hw22 : w1.heap.size ≤ w2.heap.size := HB2.out.size
  have hwk : w.heap.size < w1.heap.size := HK1.out.lt
  have h2lt : ∀ b' o, A2 = some ⟨b', o, none⟩ → w1.heap.size ≤ b' ∧ b' < w2.heap.size := own_rd_block HO2.out
  have H2LT := Lib.hid h2lt
  have HI2 : Hid (∀ i, (Value.slice A2 N c2).ownBlock = some i → w1.heap.size ≤ i ∧ i < w2.heap.size) := Lib.hid (fun i e => HO2.out.lt i e)
  clear h5 b5 hw5 hg h2lt HB1 HB2 HB3 HB4 HBW2 HO2 HO3 HO4 HK1 HK2 HK3 HK4 HG HG4
  go_loopw [45] (fun c wr => ∃ (j : Nat) (M : List Int), j ≤ N ∧ c = .int .i64 j ∧ Hid (M.length = N) ∧ wr.ownsRow w1.heap.size 38 1 (.slice A2 N c2) N (uv M) ∧ But (fun q => (Value.slice A2 N c2).ownBlock = some q) w5 wr) (fun c _ => N - (intOf c).toNat)
  case atStart => exact ⟨0, L, by omega, rfl, HL, HO5.out, But.refl _ _⟩
  case round =>
    obtain ⟨j, M, hj, rfl, hM, ho, hbut⟩ := hrel
    by_cases hlt : j < N
    · obtain ⟨_, _, q1, q2, q3, q6⟩ := own_form ho
      injection q1 with q4 _ q5
      subst q4 q5
      obtain ⟨g2, rfl, _, _⟩ := q6 (by omega)
      obtain ⟨x, hx⟩ : ∃ x, M[j]? = some x := ⟨_, List.getElem?_eq_getElem (by rw [hM.out]; exact hlt)⟩
      have c1 : wr.cell? ⟨g2, j, none⟩ = some (.int .u64 x) := (ho.cellAt j (by omega)).trans (by rw [uv, List.getElem?_map, hx]; rfl)
      have f1 := ho.frozenAt j
      have i1 : (0 : Int) ≤ (j : Int) := by omega
      have i2 : (j : Int) < (N : Int) := by omega
      have HO := Lib.hid ho
      have HBT := Lib.hid hbut
      clear ho hbut hx q6
      go_wp2_with fail
      have hst := HO.out.stored j (.int .u64 (IntKind.u64.wrap (x + 1)))
      go_roundw
      case rel => exact ⟨j + 1, M.set j (IntKind.u64.wrap (x + 1)), by omega, by go_num, Lib.hid (by rw [List.length_set]; exact hM.out), by rw [uv_set]; exact hst.1, HBT.out.trans (But.of_gr hst.2 rfl)⟩
      case measure => simp [intOf]; omega
    · obtain rfl : j = N := by omega
      have hSb : ∀ i, (Value.slice A2 j c2).ownBlock = some i → w1.heap.size ≤ i ∧ i < w2.heap.size := fun i e => HI2.out i e
      have HB6 := Lib.hid (HB5.out.trans (hbut.below (by have := HB5.out.size; exact this) (fun i h => by have := hSb i h; omega)))
      have e1 : (c != c) = false := by simp
      have e2 : (c != 0) = true := by simp [hc]
      clear ho hbut hSb HZ5 HK5 HB5 HO5 H2LT
      go_wp2_with fail
      ((with_reducible refine (alive12_any _).mono ?_); rintro e w7 ⟨rfl, hb7⟩)
      have HB7 := Lib.hid ((Kept.of HB6.out).call hb7).2.2
      clear hb7
      go_wp2_with fail
      go_ret
      exact ⟨rfl, HB7.out⟩

set_option maxHeartbeats 1000000 in
theorem samplerMakes_any (n b st : Int) (A : Option Addr) (N cap : Nat) (L : List Int) (t : Int) (w : World) (hN : N ≤ 9223372036854775807) (hl : L.length = N) (hR : Rd w 1 A N (uv L)) (hu : InU L) :
    Calls Try.prog 12 #[runV n b st A N cap, .int .i64 t] w fun e w' => e = .returned (.bool true) ∧ Below w.heap.size w w' := by
  obtain ⟨q, hq⟩ : ∃ q, fewR n st N = q := ⟨_, rfl⟩
  cases q with
  | false =>
    have HF := Lib.hid (fun W => (by have h := few12_any n b st A N cap W hN; rw [hq] at h; exact h : Calls Try.prog 39 #[runV n b st A N cap] W fun e w' => e = .returned (.bool false) ∧ Below W.heap.size W w'))
    have HB : Hid (∀ W, w.alloc (.cells #[.int .i64 n, .int .i64 b, .int .i64 st, .slice A N cap] 61) = W → Below w.heap.size w W) := Lib.hid (by rintro W rfl; exact (Below.refl _ _).alloc (Nat.le_refl _) _)
    clear hR hu hl hq
    go_enter Try.func12, Try.ntmps12
    go_wp2_with fail
    have hB := HB.out _ rfl
    ((with_reducible refine (HF.out _).mono ?_); rintro e w1 ⟨rfl, hb1⟩)
    have HB1 := Lib.hid (hB.trans (hb1.mono hB.size))
    clear hb1 hB
    go_wp2_with fail
    ((with_reducible refine (alive12_any _).mono ?_); rintro e w2 ⟨rfl, hb2⟩)
    go_wp2_with fail
    go_ret
    exact ⟨rfl, ((Kept.of HB1.out).call hb2).2.2⟩
  | true =>
    obtain ⟨h1, h2, h3⟩ := (fewR_iff n st N).1 hq
    rcases newBoth n b st N L h1 h2 h3 hl hu with ⟨c, hc, C1, C2⟩ | ⟨n', b', st', q, E, rfl, rfl, rfl, P, p1, p2, C1, C2⟩
    · exact samplerMakes_bad n b st c t A N cap L w h3 hl hR hc hq C1 C2
    · exact samplerMakes_ok n' b' st' q E t A N cap L w h3 hl hR P p1 p2 hq C1 C2

end Go.Proofs.Ytncjfijpaheobaa
