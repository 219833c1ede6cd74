/-
  BucketCovers: the walk.
-/
import Derived.Test.YtmnmjjackffnjaaCovPlain
import Derived.Deep.OwnRows
namespace Go.Proofs.Ytmnmjjackffnjaa
set_option linter.unusedVariables false
set_option linter.unusedSimpArgs false
set_option maxRecDepth 100000
open Go.RowKit

theorem guardPlace15 : Try.prog.eqGuardType Try.prog.depth 66 = false := by kernel_rfl
attribute [go_sem] guardPlace15

/-- The cells of the numbers seen. -/
def SeenO (w : World) (G N : Nat) (P : Nat → Bool) : Prop := w.ownsRow G 3 1 (.slice (some ⟨G, 0, none⟩) N N) N ((covL N P).map (Value.int .i64))
theorem SeenO.below {w w' : World} {G N : Nat} {P : Nat → Bool} (h : SeenO w G N P) (hb : Below w.heap.size w w') : SeenO w' G N P := own_below h hb
theorem SeenO.congr {w : World} {G N : Nat} {P Q : Nat → Bool} (h : SeenO w G N P) (e : ∀ t, t < N → P t = Q t) : SeenO w G N Q := by
  unfold SeenO at h ⊢
  rw [← covL_congr e]
  exact h
theorem SeenO.cell {w : World} {G N i : Nat} {P : Nat → Bool} (h : SeenO w G N P) (hi : i < N) : w.cell? ⟨G, i, none⟩ = some (.int .i64 (if P i then 1 else 0)) := by
  rw [World.ownsRow.cellAt h i (by omega), List.getElem?_map, covL_get _ _ _ hi]
  rfl
theorem SeenO.store {w : World} {G N i : Nat} {P Q : Nat → Bool} (h : SeenO w G N P) (hi : i < N) (hq : ∀ t, t < N → Q t = (P t || t == i)) : SeenO (w.setCell ⟨G, i, none⟩ (.int .i64 1)) G N Q ∧ w.grownBy (w.setCell ⟨G, i, none⟩ (.int .i64 1)) (some G) := by
  have h2 := World.ownsRow.stored h i (.int .i64 1)
  refine ⟨?_, h2.2⟩
  unfold SeenO
  rw [← covL_set hi hq, List.map_set]
  exact h2.1
theorem SeenO.made (w : World) (G N : Nat) {P : Nat → Bool} (hg : w.heap.size = G) (hn : N ≤ 255) (h : ∀ t, t < N → P t = false) : SeenO (w.alloc (.cells (madeCells #[Value.int .i64 0] N) 3)) G N P := by
  subst hg
  unfold SeenO
  rw [covL_none N h, List.map_replicate]
  have e : (madeCells #[Value.int .i64 0] N).toList = List.replicate N (Value.int .i64 0) := toList_madeCells_one _ _
  have e2 : (madeCells #[Value.int .i64 0] N).size = N := by
    have h := congrArg List.length e
    rwa [Array.length_toList, List.length_replicate] at h
  have h := World.ownsRow_lit (base := w.heap.size) (e := 3) (size := 1) w (madeCells #[Value.int .i64 0] N) N (Nat.le_refl _) (by unfold maxLen; omega) (by rw [e2, Nat.mul_one])
  rw [e] at h
  exact h
/-- A row of ranges stays where the numbers seen turn. -/
theorem rd_seen {w w' : World} {G B n : Nat} {A : Option Addr} {xs : List Value} (h : Rd w 2 A n xs) (hb : But (fun b => b = G ∨ B ≤ b) w w') (hA : ∀ b o, A = some ⟨b, o, none⟩ → 0 < n → b ≠ G) (hB : w.heap.size ≤ B) : Rd w' 2 A n xs :=
  h.but hb (fun b o e h0 hs => by have h1 := h.lt b o e h0; have h2 := hA b o e h0; omega)

set_option maxHeartbeats 8000000 in
theorem bucketCovers_any (n s0 s1 s2 : Int) (w : World) (hn : 0 ≤ n ∧ n ≤ 255) (h0 : 0 ≤ s0 ∧ s0 ≤ 255) (h1 : 0 ≤ s1 ∧ s1 ≤ 255) (h2 : 0 ≤ s2 ∧ s2 ≤ 255) :
    Calls Try.prog 14 #[.int .u8 n, .agg #[.int .u8 s0, .int .u8 s1, .int .u8 s2]] w fun e w' => e = .returned (.bool true) ∧ Below w.heap.size w w' := by
  obtain ⟨hn1, hn2⟩ := hn
  obtain ⟨h01, h02⟩ := h0
  obtain ⟨h11, h12⟩ := h1
  obtain ⟨h21, h22⟩ := h2
  obtain ⟨v, hv⟩ : ∃ v, s1.tmod 20 = v := ⟨_, rfl⟩
  have hv2 : 0 ≤ v ∧ v < 20 := by rw [← hv, Int.tmod_eq_emod_of_nonneg h11]; omega
  obtain ⟨hv3, hv4⟩ := hv2
  obtain ⟨N, rfl⟩ := Int.eq_ofNat_of_zero_le hn1
  have hmk := fun W => run_make_row' (P := Try.prog) 74 3 (.int .i64 0) 8 Try.underlying74 slInt.info rfl .i64 .i64 N (by omega) (by omega) W
  obtain ⟨W0, hW0⟩ : ∃ W0, w.alloc (.cells #[.int .u8 s0, .int .u8 s1, .int .u8 s2] 73) = W0 := ⟨_, rfl⟩
  have k0 : Below w.heap.size w W0 := by rw [← hW0]; exact (Below.refl _ _).alloc (Nat.le_refl _) _
  have b0 : Blk W0 w.heap.size 73 #[.int .u8 s0, .int .u8 s1, .int .u8 s2] := by rw [← hW0]; exact Blk.new _ _ _
  have a0 : W0.cell? ⟨w.heap.size, 0, none⟩ = some (.int .u8 s0) := b0.cell 0
  have a1 : W0.cell? ⟨w.heap.size, 1, none⟩ = some (.int .u8 s1) := b0.cell 1
  have a2 : W0.cell? ⟨w.heap.size, 2, none⟩ = some (.int .u8 s2) := b0.cell 2
  have la := b0.lt
  have HW := Lib.hid hW0
  have HK := Lib.hid k0
  clear hW0 k0 b0
  go_enter Try.func14, Try.ntmps14
  go_wp2_with fail
  rw [HW.out]
  go_wp2_with fail
  go_quiet (fail)
  obtain ⟨b, hb⟩ : ∃ b, 1 + s0 = b := ⟨_, rfl⟩
  obtain ⟨q, hq⟩ : ∃ q, 1 + v = q := ⟨_, rfl⟩
  obtain ⟨c, hc⟩ : ∃ c, 1 + s2 = c := ⟨_, rfl⟩
  rw [hb, hq, hc]
  have hb1 : 1 ≤ b := by omega
  have hb2 : b ≤ 256 := by omega
  have hq1 : 1 ≤ q := by omega
  have hq2 : q ≤ 20 := by omega
  have hc1 : 1 ≤ c := by omega
  have hc2 : c ≤ 256 := by omega
  clear hb hq hc hv hv3 hv4 a0 a1 a2 HW
  go_wp2_with fail
  obtain ⟨G, hG⟩ : ∃ G, W0.heap.size = G := ⟨_, rfl⟩
  obtain ⟨W1, hW1⟩ : ∃ W1, (W0.drewN nq).alloc (.cells (madeCells #[Value.int .i64 0] N) 3) = W1 := ⟨_, rfl⟩
  have k1 : Below w.heap.size w W1 := by rw [← hW1]; exact (((Kept.of HK.out).drewN nq).alloc _).2.2
  have HS1 : Hid (SeenO W1 G N fun t => decide (hiB N b 0 ≤ (t : Int))) := Lib.hid (by
    rw [← hW1]
    refine SeenO.made _ _ _ hG (by omega) (fun t ht => decide_eq_false ?_)
    have := hiB_start N b (by omega) hb1
    omega)
  have hGw : w.heap.size ≤ G := by rw [← hG]; exact HK.out.size
  have hG1 : G < W1.heap.size := by rw [← hW1, ← hG]; show W0.heap.size < ((W0.drewN nq).alloc _).heap.size; rw [World.size_alloc]; exact Nat.lt_succ_self _
  rw [hW1, hG]
  have HK1 := Lib.hid k1
  clear k1 hW1 hG hmk la HK
  obtain ⟨L, hL⟩ : ∃ L, (bucketsI N b).length = L := ⟨_, rfl⟩
  have CB := fun W => buckets_all N b W (by omega) (by omega) (by omega)
  rw [hL] at CB
  have HCB := Lib.hid CB
  have HL := Lib.hid hL
  have hL2 : L ≤ 255 := by
    rw [← hL]
    unfold bucketsI
    rw [List.length_reverse, blocksI_length]
    have := cnt_le (N : Int).toNat b.toNat
    omega
  clear CB hL
  ((with_reducible refine (HCB.out _).mono ?_); rintro e w2 ⟨A1, c1, rfl, hown, hb2'⟩)
  have HA1 := Lib.hid (fun b o (e : A1 = some ⟨b, o, none⟩) (_ : 0 < L) => show b ≠ G from by have := (own_rd_block hown b o e).1; omega)
  have HR1 := Lib.hid (Rd.of_own hown)
  have HS2 := Lib.hid (HS1.out.below hb2')
  have HK2 := Lib.hid ((Kept.of HK1.out).call hb2').2.2
  have hG2 : G < w2.heap.size := by have := hb2'.size; omega
  clear hown hb2' HS1 HK1
  go_wp2_with fail
  go_loopw [43] (fun i wr => ∃ j : Nat, j ≤ L ∧ i = .int .i64 j ∧ SeenO wr G N (fun t => decide (hiB N b j ≤ (t : Int))) ∧ But (fun b => b = G ∨ w2.heap.size ≤ b) w2 wr) (fun i _ => L - (intOf i).toNat)
  case atStart => exact ⟨0, by omega, rfl, HS2.out, But.refl _ _⟩
  case round =>
    obtain ⟨j, hj, rfl, hso, hbut⟩ := hrel
    by_cases hlt : j < L
    · have hbk := bucket_at N b j (by rw [HL.out]; exact hlt)
      obtain ⟨hN1, _, hl0, hl1, hl2, hbx⟩ := hbk
      obtain ⟨g', o', x0, x1, rfl, hbl, hx, cx0, cx1⟩ := rd_at HL.out (rd_seen HR1.out hbut HA1.out (Nat.le_refl _)) hlt
      have hx' := hx
      rw [hbx] at hx'
      injection hx' with hx'
      injection hx' with e0 e1
      have hx01 : x0 < x1 := by omega
      have hxn : x1 ≤ N := by omega
      have HX := Lib.hid hx
      have HE0 := Lib.hid e0
      have HE1 := Lib.hid e1
      have HL2 := Lib.hid hl2
      have hx00 : 0 ≤ x0 := by omega
      have HSO := Lib.hid hso
      have HBU := Lib.hid hbut
      have hgs : G < wr.heap.size := Nat.lt_of_lt_of_le hG2 hbut.size
      have hws : w2.heap.size ≤ wr.heap.size := hbut.size
      have i0 : (0 : Int) ≤ (j : Int) := by omega
      have i1 : (j : Int) < (L : Int) := by omega
      clear hso hbut hx hbx e0 e1 hl0 hl1 hl2
      obtain ⟨K, hK⟩ : ∃ K, (segsL x0 x1 q).length = K := ⟨_, rfl⟩
      have hKq : K = q.toNat := by rw [← hK]; exact segsL_length x0 x1 q (by omega)
      have CS := fun W => segments_any x0 x1 q W hx00 (by omega) (by omega) (by omega)
      rw [hK] at CS
      have HCS := Lib.hid CS
      have HKK := Lib.hid hK
      have HMS := Lib.hid (fun W => messages_any x0 x1 q c W hx00 (by omega) (by omega) (by omega) (by omega))
      clear CS hK
      go_wp2_with fail
      obtain ⟨Wa, hWa⟩ : ∃ Wa, wr.alloc (.cells #[.int .i64 x0, .int .i64 x1] 30) = Wa := ⟨_, rfl⟩
      have ka : Below wr.heap.size wr Wa := by rw [← hWa]; exact (Below.refl _ _).alloc (Nat.le_refl _) _
      have ba : Blk Wa wr.heap.size 30 #[.int .i64 x0, .int .i64 x1] := by rw [← hWa]; exact Blk.new _ _ _
      rw [hWa]
      clear hWa cx0 cx1
      ((with_reducible refine (HCS.out _).mono ?_); rintro e w3 ⟨A3, c3, rfl, hown3, hb3⟩)
      have k3 := ((Kept.of ka).call hb3).2.2
      have HA3 := Lib.hid (fun b o (e : A3 = some ⟨b, o, none⟩) (_ : 0 < K) => show b ≠ G from by have := (own_rd_block hown3 b o e).1; have := ka.size; omega)
      have HR3 := Lib.hid (Rd.of_own hown3)
      have HS3 := Lib.hid (HSO.out.below k3)
      have HB3 := Lib.hid (HBU.out.call k3)
      have HX3 := Lib.hid (ba.kept hb3)
      have hG3 : G < w3.heap.size := by have := k3.size; omega
      have hx3 : wr.heap.size < w3.heap.size := (ba.kept hb3).lt
      clear hown3 hb3 k3 ka ba HSO HBU HCS
      go_wp2_with fail
      go_loopw [12, 52] (fun tot i ws => ∃ (k T : Nat), k ≤ K ∧ i = .int .i64 k ∧ tot = .int .i64 T ∧ Hid (T = msgsF c ((segsL x0 x1 q).take k)) ∧ SeenO ws G N (seenP (hiB N b j) x0 ((bnd (x1 - x0).toNat q.toNat k : Int) + x0)) ∧ But (fun b => b = G ∨ w3.heap.size ≤ b) w3 ws) (fun _ i _ => K - (intOf i).toNat)
      case atStart => exact ⟨0, 0, by omega, rfl, rfl, Lib.hid rfl, HS3.out.congr (fun t _ => by rw [bnd_zero, Int.natCast_zero, Int.zero_add]; exact (seenP_start _ _ t).symm), But.refl _ _⟩
      case round =>
        rename World => ws
        obtain ⟨k, T, hk, rfl, rfl, hT, hso, hbut⟩ := hrel
        by_cases hkt : k < K
        · obtain ⟨g3, o3, y0, y1, rfl, hbl3, hy, cy0, cy1⟩ := rd_at HKK.out (rd_seen HR3.out hbut HA3.out (Nat.le_refl _)) hkt
          have hy' := hy
          rw [segs_at x0 x1 q k (by omega) (by omega)] at hy'
          injection hy' with hy'
          injection hy' with f0 f1
          obtain ⟨hy0, hy1, hy2⟩ := segs_in x0 x1 q (by omega) (y0, y1) (List.mem_of_getElem? hy)
          dsimp only at hy0 hy1 hy2
          have HY := Lib.hid hy
          have HF0 := Lib.hid f0
          have HF1 := Lib.hid f1
          have HSO := Lib.hid hso
          have HBU := Lib.hid hbut
          have hgs3 : G < ws.heap.size := Nat.lt_of_lt_of_le hG3 hbut.size
          have hws3 : w3.heap.size ≤ ws.heap.size := hbut.size
          have j0 : (0 : Int) ≤ (k : Int) := by omega
          have j1 : (k : Int) < (K : Int) := by omega
          have hTT : T ≤ 20000000 := by
            rw [hT.out]
            have h1 := msgsF_le c ((segsL x0 x1 q).take k) (fun r hr => by
              have := segs_in x0 x1 q (by omega) r (List.mem_of_mem_take hr)
              omega)
            rw [List.length_take] at h1
            have h2 : min k (segsL x0 x1 q).length ≤ 20 := by have := HKK.out; omega
            have h3 := Nat.mul_le_mul_right 1000000 h2
            omega
          clear hso hbut hy f0 f1
          obtain ⟨M, hM⟩ : ∃ M, (chunksL y0 y1 c).length = M := ⟨_, rfl⟩
          have CC := fun W => chunks_any y0 y1 c W (by omega) hy1 (by omega) (by omega)
          rw [hM] at CC
          have HCC := Lib.hid CC
          have HMM := Lib.hid hM
          have hM2 : M ≤ 1000000 := by
            rw [← hM, chunksL_length]
            have := cnt_le (y1 - y0).toNat c.toNat
            omega
          clear CC hM
          go_wp2_with fail
          obtain ⟨Wb, hWb⟩ : ∃ Wb, ws.alloc (.cells #[.int .i64 y0, .int .i64 y1] 30) = Wb := ⟨_, rfl⟩
          have kb : Below ws.heap.size ws Wb := by rw [← hWb]; exact (Below.refl _ _).alloc (Nat.le_refl _) _
          rw [hWb]
          clear hWb cy0 cy1
          ((with_reducible refine (HCC.out _).mono ?_); rintro e w4 ⟨A4, c4, rfl, hown4, hb4⟩)
          have k4 := ((Kept.of kb).call hb4).2.2
          have HA4 := Lib.hid (fun b o (e : A4 = some ⟨b, o, none⟩) (_ : 0 < M) => show b ≠ G from by have := (own_rd_block hown4 b o e).1; have := kb.size; omega)
          have HR4 := Lib.hid (Rd.of_own hown4)
          have HS4 := Lib.hid (HSO.out.below k4)
          have HB4 := Lib.hid (HBU.out.call k4)
          have hG4 : G < w4.heap.size := by have := k4.size; omega
          clear hown4 hb4 k4 kb HSO HBU HCC
          go_wp2_with fail
          go_loopw [12, 61] (fun tot i wt => ∃ (m p : Nat), m ≤ M ∧ i = .int .i64 m ∧ tot = .int .i64 p ∧ Hid (p = T + m) ∧ SeenO wt G N (seenP (hiB N b j) x0 (y0 + min ((m : Int) * c) (y1 - y0))) ∧ But (fun b => b = G ∨ w4.heap.size ≤ b) w4 wt) (fun _ i _ => M - (intOf i).toNat)
          case atStart => exact ⟨0, T, by omega, rfl, rfl, Lib.hid rfl, by
            have e : y0 + min (((0 : Nat) : Int) * c) (y1 - y0) = (bnd (x1 - x0).toNat q.toNat k : Int) + x0 := by
              rw [HF0.out, Int.natCast_zero, Int.zero_mul]
              omega
            rw [e]
            exact HS4.out, But.refl _ _⟩
          case round =>
            rename World => wt
            obtain ⟨m, p, hm, rfl, rfl, hp, hso, hbut⟩ := hrel
            by_cases hmt : m < M
            · obtain ⟨g4, o4, z0, z1, rfl, hbl4, hz, cz0, cz1⟩ := rd_at HMM.out (rd_seen HR4.out hbut HA4.out (Nat.le_refl _)) hmt
              have hz' := hz
              obtain ⟨hmc, hzz⟩ := chunk_of y0 y1 c m hy1 hc1 (by rw [HMM.out]; exact hmt)
              rw [hzz] at hz'
              injection hz' with hz'
              injection hz' with e0 e1
              have hm0 : 0 ≤ (m : Int) * c := Int.mul_nonneg (Int.natCast_nonneg _) (by omega)
              have hz01 : z0 ≤ z1 := by omega
              have hzy0 : y0 ≤ z0 := by omega
              have hzy1 : z1 ≤ y1 := by omega
              have hpos0 : y0 + min ((m : Int) * c) (y1 - y0) = z0 := by omega
              have hpos1 : y0 + min (((m + 1 : Nat) : Int) * c) (y1 - y0) = z1 := by
                rw [Int.natCast_add, Int.add_mul, Int.natCast_one, Int.one_mul]
                omega
              rw [hpos0] at hso
              have HZ := Lib.hid hz
              have HP1 := Lib.hid hpos1
              have HSO := Lib.hid hso
              have HBU := Lib.hid hbut
              have hgs4 : G < wt.heap.size := Nat.lt_of_lt_of_le hG4 hbut.size
              have hws4 : w4.heap.size ≤ wt.heap.size := hbut.size
              have l0 : (0 : Int) ≤ (m : Int) := by omega
              have l1 : (m : Int) < (M : Int) := by omega
              clear hso hbut hz hzz hmc hpos0 hpos1 e0 e1 hm0
              obtain ⟨d0, rfl⟩ := Int.eq_ofNat_of_zero_le (show 0 ≤ z0 by omega)
              have hpb : p ≤ 30000000 := by have := hp.out; omega
              go_wp2_with fail
              obtain ⟨Wc, hWc⟩ : ∃ Wc, wt.alloc (.cells #[.int .i64 (d0 : Int), .int .i64 z1] 30) = Wc := ⟨_, rfl⟩
              have kc : Below wt.heap.size wt Wc := by rw [← hWc]; exact (Below.refl _ _).alloc (Nat.le_refl _) _
              have bc : Blk Wc wt.heap.size 30 #[.int .i64 (d0 : Int), .int .i64 z1] := by rw [← hWc]; exact Blk.new _ _ _
              have hcl : wt.heap.size < Wc.heap.size := bc.lt
              have SC := Lib.hid (HSO.out.below kc)
              have BC := Lib.hid bc
              have BUC := Lib.hid (HBU.out.call kc)
              rw [hWc]
              clear hWc cz0 cz1 kc bc HSO HBU
              go_loopw [17] (fun i wu => ∃ d : Nat, d0 ≤ d ∧ (d : Int) ≤ z1 ∧ i = .int .i64 d ∧ SeenO wu G N (seenP (hiB N b j) x0 d) ∧ But (fun b => b = G ∨ Wc.heap.size ≤ b) Wc wu) (fun i _ => (z1 - intOf i).toNat)
              case atStart => exact ⟨d0, by omega, hz01, rfl, SC.out, But.refl _ _⟩
              case round =>
                rename World => wu
                obtain ⟨d, hd0, hd1, rfl, hso, hbut⟩ := hrel
                have bu : Blk wu wt.heap.size 30 #[.int .i64 (d0 : Int), .int .i64 z1] := BC.out.but hbut (by omega)
                have zc : wu.cell? ⟨wt.heap.size, 1, none⟩ = some (.int .i64 z1) := bu.cell 1
                have zl := bu.lt
                by_cases hdt : (d : Int) < z1
                · have hdN : d < N := by omega
                  have hH : (d : Int) < hiB N b j := by have := HE1.out; omega
                  have cs : wu.cell? ⟨G, d, none⟩ = some (.int .i64 0) := by
                    rw [hso.cell hdN, seenP_not hH]
                    rfl
                  have fs := World.ownsRow.frozenAt hso d
                  have hgl : G < wu.heap.size := (World.ownsRow.lt hso G rfl).2
                  have HST := Lib.hid (SeenO.store (Q := seenP (hiB N b j) x0 ((d : Int) + 1)) hso hdN (fun t _ => seenP_next (hiB N b j) x0 d t (by omega)))
                  have CF := fun W => find_any d N b q c W (by omega) (by omega) (by omega) (by omega) (by omega)
                  rw [find_hit N b q c d j k m (x0, x1) (y0, y1) ((d0 : Int), z1) (by omega) (by omega) hq1 hc1 HX.out HY.out HZ.out ⟨by show (d0 : Int) ≤ d; omega, hdt⟩] at CF
                  have HFI := Lib.hid (show ∀ W, Calls Try.prog 49 #[.int .i64 (d : Int), .int .i64 (N : Int), .int .i64 b, .int .i64 q, .int .i64 c] W fun e w' => e = .returned (.tuple #[.agg #[.int .i64 (j : Int), .int .i64 (k : Int), .int .i64 (m : Int)], .bool true]) ∧ Below W.heap.size W w' from fun W => CF W)
                  have HBT := Lib.hid hbut
                  have e1 : decide ((d : Int) < 0) = false := decide_eq_false (by omega)
                  have e2 : decide ((N : Int) ≤ (d : Int)) = false := decide_eq_false (by omega)
                  have r0 : (0 : Int) ≤ (d : Int) := by omega
                  have r1 : (d : Int) < (N : Int) := by omega
                  clear hso hbut CF bu
                  go_wp2_with fail
                  obtain ⟨Wd, hWd⟩ : ∃ Wd, wu.setCell ⟨G, d, none⟩ (.int .i64 1) = Wd := ⟨_, rfl⟩
                  have HST2 := Lib.hid (show SeenO Wd G N (seenP (hiB N b j) x0 ((d : Int) + 1)) ∧ wu.grownBy Wd (some G) by rw [← hWd]; exact HST.out)
                  rw [hWd]
                  clear hWd HST cs fs zc
                  ((with_reducible refine (HFI.out _).mono ?_); rintro e w6 ⟨rfl, hb6⟩)
                  go_wp2_with fail
                  go_roundw
                  case rel =>
                    refine ⟨d + 1, by omega, by omega, by go_num, ?_, ?_⟩
                    · rw [show (((d + 1 : Nat)) : Int) = (d : Int) + 1 by omega]
                      exact (HST2.out.1.below hb6).below ((Below.refl _ _).alloc (Nat.le_refl _) _)
                    · exact ((HBT.out.trans (But.of_gr HST2.out.2 (.inl rfl))).call hb6).call ((Below.refl _ _).alloc (Nat.le_refl _) _)
                  case measure => simp [intOf]; omega
                · have hdz : z1 = (d : Int) := by omega
                  have HSU := Lib.hid hso
                  have HBT := Lib.hid hbut
                  have HDZ := Lib.hid hdz
                  clear hso hbut bu hdz
                  go_wp2_with fail
                  go_roundw
                  case rel =>
                    refine ⟨m + 1, p + 1, by omega, by go_num, by go_num, Lib.hid (by have := hp.out; omega), ?_, BUC.out.trans (HBT.out.mono (fun i hi h => by rcases h with h | h; exact .inl h; omega))⟩
                    rw [HP1.out, HDZ.out]
                    exact HSU.out
                  case measure => simp [intOf]; omega
            · obtain rfl : m = M := by omega
              have hend : y0 + min ((m : Int) * c) (y1 - y0) = y1 := by
                have := chunk_len_end y0 y1 c hy1 hc1
                rw [HMM.out] at this
                omega
              rw [hend, ← HF1.out] at hso
              have HSU := Lib.hid hso
              have HBT := Lib.hid hbut
              have HPT : Hid (p = msgsF c ((segsL x0 x1 q).take (k + 1))) := Lib.hid (by
                rw [hp.out, List.take_add_one, HY.out]
                show T + m = msgsF c (List.take k (segsL x0 x1 q) ++ [(y0, y1)])
                rw [msgsF_snoc, ← hT.out, ← HMM.out, chunksL_length])
              clear hso hbut hend
              go_wp2_with fail
              go_roundw
              case rel => exact ⟨k + 1, p, by omega, by go_num, rfl, HPT, HSU.out, HB4.out.trans (HBT.out.mono (fun i hi h => by rcases h with h | h; exact .inl h; omega))⟩
              case measure => simp [intOf]; omega
        · obtain rfl : k = K := by omega
          have eT : msgsF c (segsL x0 x1 q) = T := by
            rw [hT.out, List.take_of_length_le (by rw [HKK.out]; exact Nat.le_refl _)]
          have hTT : T ≤ 30000000 := by
            rw [← eT]
            have h1 := msgsF_le c (segsL x0 x1 q) (fun r hr => by
              have := segs_in x0 x1 q (by omega) r hr
              omega)
            rw [HKK.out] at h1
            have h2 : k ≤ 20 := by omega
            have h3 := Nat.mul_le_mul_right 1000000 h2
            omega
          have CM := HMS.out
          rw [eT] at CM
          have HCM := Lib.hid CM
          have bx : Blk ws wr.heap.size 30 #[.int .i64 x0, .int .i64 x1] := HX3.out.but hbut (by omega)
          have v0 : ws.cell? ⟨wr.heap.size, 0, none⟩ = some (.int .i64 x0) := bx.cell 0
          have v1 : ws.cell? ⟨wr.heap.size, 1, none⟩ = some (.int .i64 x1) := bx.cell 1
          have lv := bx.lt
          have d1 : ((T : Int) != (T : Int)) = false := by simp
          have epos : (bnd (x1 - x0).toNat q.toNat k : Int) + x0 = x1 := by
            rw [hKq, bnd_k _ _ (by omega)]
            omega
          rw [epos] at hso
          have HSU := Lib.hid hso
          have HBT := Lib.hid hbut
          clear hso hbut bx CM eT epos hT
          go_wp2_with fail
          ((with_reducible refine (HCM.out _).mono ?_); rintro e w7 ⟨rfl, hb7⟩)
          clear v0 v1
          go_wp2_with fail
          go_roundw
          case rel =>
            refine ⟨j + 1, by omega, by go_num, ?_, (HB3.out.trans (HBT.out.mono (fun i hi h => by rcases h with h | h; exact .inl h; omega))).call hb7⟩
            refine (HSU.out.below hb7).congr (fun t ht => ?_)
            have g0 := HE0.out
            have g1 := HE1.out
            have g2 := HL2.out
            unfold seenP
            rw [Bool.eq_iff_iff]
            simp only [Bool.and_eq_true, Bool.or_eq_true, decide_eq_true_eq]
            omega
          case measure => simp [intOf]; omega
    · obtain rfl : j = L := by omega
      have hall : SeenO wr G N (fun _ => true) := hso.congr (fun t ht => by
        have h := hiB_end N b (by omega) hb1
        rw [HL.out] at h
        rw [h]
        exact decide_eq_true (by omega))
      have HSA := Lib.hid hall
      have HKW := Lib.hid (HK2.out.trans (hbut.below (B := w.heap.size) (by have := HK2.out.size; omega) (fun i hi => by have := HK2.out.size; omega)))
      clear hso hbut hall
      go_wp2_with fail
      go_loopw [119] (fun i wz => ∃ k : Nat, k ≤ N ∧ i = .int .i64 k ∧ SeenO wz G N (fun _ => true) ∧ Below w.heap.size w wz) (fun i _ => N - (intOf i).toNat)
      case atStart => exact ⟨0, by omega, rfl, HSA.out, HKW.out⟩
      case round =>
        rename World => wz
        obtain ⟨k, hk, rfl, hsz, hbz⟩ := hrel
        by_cases hkt : k < N
        · have ck : wz.cell? ⟨G, k, none⟩ = some (.int .i64 1) := hsz.cell hkt
          have lg : G < wz.heap.size := (World.ownsRow.lt hsz G rfl).2
          have HSZ := Lib.hid hsz
          have HBZ := Lib.hid hbz
          clear hsz hbz
          have u0 : (0 : Int) ≤ (k : Int) := by omega
          have u1 : (k : Int) < (N : Int) := by omega
          go_wp2_with fail
          go_roundw
          case rel => exact ⟨k + 1, by omega, by go_num, HSZ.out, HBZ.out⟩
          case measure => simp [intOf]; omega
        · obtain rfl : k = N := by omega
          have CR := fun W => refBuckets_all k b W (by omega) (by omega)
          rw [HL.out] at CR
          have HRB := Lib.hid CR
          have HBZ := Lib.hid hbz
          clear CR hsz hbz
          go_wp2_with fail
          ((with_reducible refine (alive15_any _).mono ?_); rintro e w8 ⟨rfl, hb8⟩)
          have k8 := (Kept.of HBZ.out).call hb8
          clear hb8
          go_wp2_with fail
          ((with_reducible refine (HRB.out _).mono ?_); rintro e w9 ⟨A9, c9, rfl, _, hb9⟩)
          have k9 := k8.call hb9
          clear hb9 k8
          go_wp2_with fail
          ((with_reducible refine (HCB.out _).mono ?_); rintro e wa ⟨Aa, ca, rfl, _, hba⟩)
          have ka := k9.call hba
          clear hba k9
          go_wp2
          go_ret
          exact ⟨rfl, ka.2.2⟩

end Go.Proofs.Ytmnmjjackffnjaa
