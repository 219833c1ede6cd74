/-
  Contract: Find.
-/
import Derived.Test.YtmnmjjackffnjaaFind
namespace Go.Proofs.Ytmnmjjackffnjaa
set_option linter.unusedVariables false
set_option linter.unusedSimpArgs false
open Go.RowKit

theorem guardPlace : Try.prog.eqGuardType Try.prog.depth 66 = false := by kernel_rfl
attribute [go_sem] guardPlace

/-- The box of a place. -/
abbrev plV (p : Int × Int × Int) : Array Value := #[.int .i64 p.1, .int .i64 p.2.1, .int .i64 p.2.2]
theorem set_place {w : World} {g : Nat} {t : TypeId} {p : Int × Int × Int} (h : Blk w g t (plV p)) (a b c : Int) :
    Blk (((w.setCell ⟨g, 0, none⟩ (.int .i64 a)).setCell ⟨g, 1, none⟩ (.int .i64 b)).setCell ⟨g, 2, none⟩ (.int .i64 c)) g t (plV (a, b, c)) ∧ w.grownBy (((w.setCell ⟨g, 0, none⟩ (.int .i64 a)).setCell ⟨g, 1, none⟩ (.int .i64 b)).setCell ⟨g, 2, none⟩ (.int .i64 c)) (some g) :=
  ⟨by simpa using ((h.set_ 0 (.int .i64 a)).set_ 1 (.int .i64 b)).set_ 2 (.int .i64 c), gr_set (p := ⟨g, 2, none⟩) (gr_set (p := ⟨g, 1, none⟩) (gr_set (p := ⟨g, 0, none⟩) (World.grownBy.refl w _) (.inl rfl) _) (.inl rfl) _) (.inl rfl) _⟩

/-- What Find returns. -/
def FindRet (r : (Int × Int × Int) × Bool) (W : World) (e : Ending) (w' : World) : Prop := e = .returned (.tuple #[.agg (plV r.1), .bool r.2]) ∧ Below W.heap.size W w'

set_option maxRecDepth 100000 in
set_option maxHeartbeats 4000000 in
theorem find_any (i n b w c : Int) (W : World) (hn0 : -9223372036854775808 ≤ n) (hn : n ≤ 1000000) (hb : b ≤ 9223372036854775807) (hw2 : w ≤ 1000) (hc : c ≤ 9223372036854775807) :
    Calls Try.prog 49 #[.int .i64 i, .int .i64 n, .int .i64 b, .int .i64 w, .int .i64 c] W (FindRet (findR i n b w c) W) := by
  have hle := buckets_le n b hn
  have C1 := fun W => buckets_all n b W hn0 hn hb
  have HIN := Lib.hid (fun k r => buckets_in n b k r)
  obtain ⟨E1, E2, E3⟩ := find_eq i n b w c
  generalize findR i n b w c = F at *
  obtain ⟨P, hP⟩ : ∃ P, findP i n b w c = P := ⟨_, rfl⟩
  have hP' : outerP i w c (bucketsI n b) (bucketsI n b).length = P := hP
  rw [hP] at E1
  generalize bucketsI n b = B at *
  obtain ⟨nb, hnb⟩ : ∃ v, B.length = v := ⟨_, rfl⟩
  rw [hnb] at C1 hle hP'
  have HC1 := Lib.hid C1
  have HNB := Lib.hid hnb
  have HP := Lib.hid hP'
  have HE := Lib.hid (And.intro E1 (And.intro E2 E3))
  clear C1 hnb hP hP' E1 E2 E3
  go_enter Try.func49, Try.ntmps49
  go_wp2_with fail
  obtain ⟨w0, hw0⟩ : ∃ w0, ((W.alloc (.cells #[.int .i64 0, .int .i64 0, .int .i64 0] 66)).alloc (.cells #[.int .i64 (-1), .int .i64 (-1), .int .i64 (-1)] 66)).alloc (.cells #[.int .i64 (-1), .int .i64 (-1), .int .i64 (-1)] 66) = w0 := ⟨_, rfl⟩
  have k0 : Below W.heap.size W w0 := by rw [← hw0]; exact (((Below.refl _ _).alloc (Nat.le_refl _) _).alloc (by simp) _).alloc (by simp <;> omega) _
  have Z0 : Blk w0 W.heap.size 66 #[.int .i64 0, .int .i64 0, .int .i64 0] := by rw [← hw0]; exact ((Blk.new W _ _).alloc _).alloc _
  have N0 : Blk w0 (W.heap.size + 1) 66 #[.int .i64 (-1), .int .i64 (-1), .int .i64 (-1)] := by rw [← hw0]; exact (Blk.new' _ _ (by simp)).alloc _
  have P0 : Blk w0 (W.heap.size + 1 + 1) 66 (plV (-1, -1, -1)) := by rw [← hw0]; exact Blk.new' _ _ (by simp)
  rw [hw0]
  clear hw0
  ((with_reducible refine (HC1.out _).mono ?_); rintro e w1 ⟨A, cA, rfl, hown, hb1⟩)
  have HZ1 := Lib.hid (Z0.kept hb1)
  have HN1 := Lib.hid (N0.kept hb1)
  have HP1 := Lib.hid (P0.kept hb1)
  have HK1 := Lib.hid (((Kept.of k0).call hb1).2.2)
  have zw := k0.size
  have lp0 := P0.lt
  have z1 := hb1.size
  have HRb := Lib.hid (fun g o e => (own_rd_block hown g o e).1)
  have HR := Lib.hid (Rd.of_own hown)
  clear hown hb1 Z0 N0 P0 k0
  go_wp2_with fail
  go_loopw [25] (fun v wr => ∃ k : Nat, k ≤ nb ∧ v = .int .i64 k ∧ Blk wr (W.heap.size + 1 + 1) 66 (plV (outerP i w c B k)) ∧ But (fun q => q = W.heap.size + 1 + 1) w1 wr) (fun v _ => nb - (intOf v).toNat)
  case atStart => exact ⟨0, by omega, rfl, HP1.out, But.refl _ _⟩
  case round =>
    obtain ⟨k, hk, rfl, hPb, hB⟩ := hrel
    have HPb := Lib.hid hPb
    have HB := Lib.hid hB
    have hRk := HR.out.but hB (fun g o e h0 h => by have := HRb.out g o e; omega)
    by_cases hlt : k < nb
    · obtain ⟨g, o, x, y, rfl, hg, hx, c0, c1⟩ := rd_at HNB.out hRk hlt
      obtain ⟨q1, q2, q3⟩ := HIN.out k _ hx
      dsimp only at q1 q2 q3
      have hsx : outerP i w c B (k + 1) = if inR i (x, y) then innerP i c k (segsL x y w) (outerP i w c B k) (segsL x y w).length else outerP i w c B k := by
        rw [outerP, getD_some hx]
      have HSX := Lib.hid hsx
      have i1 : (0 : Int) ≤ (k : Int) := by omega
      have i2 : (k : Int) < (nb : Int) := by omega
      clear hPb hB hRk hx hsx
      by_cases hin : x ≤ i ∧ i < y
      · obtain ⟨hin1, hin2⟩ := hin
        have hsl := segsL_length x y w q2
        have CS := fun W => segments_any x y w W q1 q2 (by omega) (by omega)
        have HSI := Lib.hid (segs_in x y w q2)
        obtain ⟨P1, hP1⟩ : ∃ P1, outerP i w c B k = P1 := ⟨_, rfl⟩
        have HSX' : Hid (outerP i w c B (k + 1) = innerP i c k (segsL x y w) P1 (segsL x y w).length) := Lib.hid (by rw [HSX.out, if_pos ⟨hin1, hin2⟩, hP1])
        rw [hP1] at HPb
        generalize segsL x y w = S at *
        obtain ⟨ns, hns⟩ : ∃ v, S.length = v := ⟨_, rfl⟩
        rw [hns] at CS HSX'
        have HCS := Lib.hid CS
        have HNS := Lib.hid hns
        have hnsle : ns ≤ 1000 := by omega
        clear CS hns hsl hP1 HSX
        go_wp2_with fail
        ((with_reducible refine (HCS.out _).mono ?_); rintro e w2 ⟨A2, c2, rfl, hown2, hb2⟩)
        have hb2' : Below wr.heap.size wr w2 := ((Kept.of (Below.refl _ wr)).alloc _).call hb2 |>.2.2
        have HPb2 := Lib.hid (HPb.out.kept hb2')
        have HB2 := Lib.hid (HB.out.call hb2')
        have zb := HPb.out.lt
        have zr2 := hb2.size
        simp only [World.size_alloc] at zr2
        have HRb2 := Lib.hid (fun g o e => (own_rd_block hown2 g o e).1)
        have HR2 := Lib.hid (Rd.of_own hown2)
        clear hown2 hb2 hb2' c0 c1
        go_wp2_with fail
        obtain ⟨wo, hwo⟩ : ∃ wo : World, wo = wr := ⟨_, rfl⟩
        subst hwo
        go_loopw [44] (fun v wi => ∃ m : Nat, m ≤ ns ∧ v = .int .i64 m ∧ Blk wi (W.heap.size + 1 + 1) 66 (plV (innerP i c k S P1 m)) ∧ But (fun q => q = W.heap.size + 1 + 1) w2 wi) (fun v _ => ns - (intOf v).toNat)
        case atStart => exact ⟨0, by omega, rfl, HPb2.out, But.refl _ _⟩
        case round =>
          obtain ⟨m, hm, rfl, hPi, hBi⟩ := hrel
          have HPi := Lib.hid hPi
          have HBi := Lib.hid hBi
          have hRm := HR2.out.but hBi (fun g o e h0 h => by have := HRb2.out g o e; simp at this; omega)
          by_cases hltm : m < ns
          · obtain ⟨g2, o2, x2, y2, rfl, hg2, hx2, d0, d1⟩ := rd_at HNS.out hRm hltm
            obtain ⟨s1, s2, s3⟩ := HSI.out _ (List.mem_of_getElem? hx2)
            dsimp only at s1 s2 s3
            have hcl : (chunksL x2 y2 c).length ≤ 1000000 := by rw [chunksL_length]; have := cnt_le (y2 - x2).toNat c.toNat; omega
            have CC := fun W => chunks_any x2 y2 c W (by omega) s2 (by omega) hc
            have CO := fun A d W h => of_any i A (chunksL x2 y2 c).length d (chunksL x2 y2 c) W rfl h hcl
            have hsi : innerP i c k S P1 (m + 1) = if 0 ≤ ofL i (chunksL x2 y2 c) then ((k : Int), (m : Int), ofL i (chunksL x2 y2 c)) else innerP i c k S P1 m := by
              rw [innerP, getD_some hx2]
            generalize ofL i (chunksL x2 y2 c) = q at *
            obtain ⟨nc, hnc⟩ : ∃ v, (chunksL x2 y2 c).length = v := ⟨_, rfl⟩
            rw [hnc] at CC CO
            have HCC := Lib.hid CC
            have HCO := Lib.hid CO
            have i3 : (0 : Int) ≤ (m : Int) := by omega
            have i4 : (m : Int) < (ns : Int) := by omega
            by_cases hq : 0 ≤ q
            · rw [if_pos hq] at hsi
              have HSi := Lib.hid hsi
              clear CC CO hnc hcl hPi hBi hRm hx2 hsi
              go_wp2_with fail
              ((with_reducible refine (HCC.out _).mono ?_); rintro e w3 ⟨A3, c3, rfl, hown3, hb3⟩)
              have HR3 := Lib.hid (Rd.of_own hown3)
              have k3 := ((Kept.of (Below.refl _ wr)).alloc _).call hb3
              clear hown3 hb3 d0 d1
              go_wp2_with fail
              ((with_reducible refine (HCO.out _ _ _ HR3.out).mono ?_); rintro e w4 ⟨rfl, hb4⟩)
              have k4 := (k3.call hb4).2.2
              have hP4 := HPi.out.kept k4
              have HB4 := Lib.hid (HBi.out.call k4)
              have HP4 := Lib.hid hP4
              have p0 := hP4.cell 0
              have p1 := hP4.cell 1
              have p2 := hP4.cell 2
              have f0 := hP4.frozen 0
              have f1 := hP4.frozen 1
              have f2 := hP4.frozen 2
              have lp := hP4.lt
              clear k3 k4 hb4 hP4
              simp only [List.getElem?_toArray, List.getElem?_cons_zero, List.getElem?_cons_succ] at p0 p1 p2
              go_wp2_with fail
              have hst := set_place HP4.out (k : Int) (m : Int) q
              go_roundw
              case rel => exact ⟨m + 1, by omega, by go_num, by rw [HSi.out]; exact hst.1, HB4.out.trans (But.of_gr hst.2 rfl)⟩
              case measure => simp [intOf]; omega
            · rw [if_neg hq] at hsi
              have HSi := Lib.hid hsi
              clear CC CO hnc hcl hPi hBi hRm hx2 hsi
              go_wp2_with fail
              ((with_reducible refine (HCC.out _).mono ?_); rintro e w3 ⟨A3, c3, rfl, hown3, hb3⟩)
              have HR3 := Lib.hid (Rd.of_own hown3)
              have k3 := ((Kept.of (Below.refl _ wr)).alloc _).call hb3
              clear hown3 hb3 d0 d1
              go_wp2_with fail
              ((with_reducible refine (HCO.out _ _ _ HR3.out).mono ?_); rintro e w4 ⟨rfl, hb4⟩)
              have k4 := (k3.call hb4).2.2
              have HP4 := Lib.hid (HPi.out.kept k4)
              have HB4 := Lib.hid (HBi.out.call k4)
              clear k3 k4 hb4
              go_wp2_with fail
              go_roundw
              case rel => exact ⟨m + 1, by omega, by go_num, by rw [HSi.out]; exact HP4.out, HB4.out⟩
              case measure => simp [intOf]; omega
          · obtain rfl : m = ns := by omega
            clear hPi hBi hRm
            go_wp2_with fail
            go_roundw
            case rel => exact ⟨k + 1, by omega, by go_num, by rw [HSX'.out]; exact HPi.out, HB2.out.trans HBi.out⟩
            case measure => simp [intOf]; omega
      · have HSX' : Hid (outerP i w c B (k + 1) = outerP i w c B k) := Lib.hid (by rw [HSX.out, if_neg (show ¬ inR i (x, y) from hin)])
        clear HSX
        by_cases h1 : x ≤ i
        · have h2 : y ≤ i := by omega
          clear hin
          go_wp2_with fail
          go_roundw
          case rel => exact ⟨k + 1, by omega, by go_num, by rw [HSX'.out]; exact HPb.out.alloc _, HB.out.call ((Below.refl _ _).alloc (Nat.le_refl _) _)⟩
          case measure => simp [intOf]; omega
        · clear hin
          go_wp2_with fail
          go_roundw
          case rel => exact ⟨k + 1, by omega, by go_num, by rw [HSX'.out]; exact HPb.out.alloc _, HB.out.call ((Below.refl _ _).alloc (Nat.le_refl _) _)⟩
          case measure => simp [intOf]; omega
    · obtain rfl : k = nb := by omega
      have hPf := HPb.out
      rw [HP.out] at hPf
      have hNf := HN1.out.but hB (by omega)
      have hZf := HZ1.out.but hB (by omega)
      obtain ⟨E1, E2, E3⟩ := HE.out
      obtain ⟨⟨f1, f2, f3⟩, ok⟩ := F
      have HKf := Lib.hid (HK1.out.trans (hB.below (B := W.heap.size) HK1.out.size (fun q hq => by omega)))
      have z0 : wr.cell? ⟨W.heap.size, 0, none⟩ = some (.int .i64 0) := hZf.cell 0
      have z1' : wr.cell? ⟨W.heap.size, 1, none⟩ = some (.int .i64 0) := hZf.cell 1
      have z2 : wr.cell? ⟨W.heap.size, 2, none⟩ = some (.int .i64 0) := hZf.cell 2
      have y0 := hZf.frozen 0
      have y1 := hZf.frozen 1
      have y2 := hZf.frozen 2
      have lz := hZf.lt
      have n0 : wr.cell? ⟨W.heap.size + 1, 0, none⟩ = some (.int .i64 (-1)) := hNf.cell 0
      have n1 : wr.cell? ⟨W.heap.size + 1, 1, none⟩ = some (.int .i64 (-1)) := hNf.cell 1
      have n2 : wr.cell? ⟨W.heap.size + 1, 2, none⟩ = some (.int .i64 (-1)) := hNf.cell 2
      have HZf := Lib.hid (show Blk wr W.heap.size 66 (plV (0, 0, 0)) from hZf)
      cases ok
      · rw [if_neg (by simp)] at E1
        have e3 := E3 rfl
        dsimp only at e3
        injection e3 with g1 g2
        injection g2 with g2 g3
        subst g1 g2 g3 E1
        have p0 : wr.cell? ⟨W.heap.size + 1 + 1, 0, none⟩ = some (.int .i64 (-1)) := hPf.cell 0
        have p1 : wr.cell? ⟨W.heap.size + 1 + 1, 1, none⟩ = some (.int .i64 (-1)) := hPf.cell 1
        have p2 : wr.cell? ⟨W.heap.size + 1 + 1, 2, none⟩ = some (.int .i64 (-1)) := hPf.cell 2
        have HPz := Lib.hid hPf
        clear E2 E3 hPb hB hPf hNf hZf hRk
        go_wp2_with fail
        have hst := set_place HZf.out 0 0 0
        refine bodyPost_ret (v := .tuple #[.agg #[.int .i64 0, .int .i64 0, .int .i64 0], .bool false]) (by simp [results, Try.results49, go_sem, z0, z1', z2, lz]) rfl ⟨rfl, ?_⟩
        exact below_gr HKf.out HKf.out.size hst.2 (Nat.le_refl _)
      · rw [if_pos rfl] at E1
        have e2 := E2 rfl
        dsimp only at E1 e2
        subst E1
        have p0 : wr.cell? ⟨W.heap.size + 1 + 1, 0, none⟩ = some (.int .i64 f1) := hPf.cell 0
        have p1 : wr.cell? ⟨W.heap.size + 1 + 1, 1, none⟩ = some (.int .i64 f2) := hPf.cell 1
        have p2 : wr.cell? ⟨W.heap.size + 1 + 1, 2, none⟩ = some (.int .i64 f3) := hPf.cell 2
        have ne1 : ¬ f1 = -1 := by omega
        have HPz := Lib.hid hPf
        clear E2 E3 hPb hB hPf hNf hZf hRk
        go_wp2_with fail
        have hst := set_place HZf.out f1 f2 f3
        refine bodyPost_ret (v := .tuple #[.agg #[.int .i64 f1, .int .i64 f2, .int .i64 f3], .bool true]) (by simp [results, Try.results49, go_sem, z0, z1', z2, lz]) rfl ⟨rfl, ?_⟩
        exact below_gr HKf.out HKf.out.size hst.2 (Nat.le_refl _)

end Go.Proofs.Ytmnmjjackffnjaa
