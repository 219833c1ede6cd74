/-
  Draws and the reference's Draws; slices.Equal at []uint64.
-/
import Derived.Test.YtncjfijpaheobaaPermDrPlain
namespace Go.Proofs.Ytncjfijpaheobaa
set_option linter.unusedVariables false
set_option linter.unusedSimpArgs false
set_option maxRecDepth 100000
open Go.RowKit

set_option maxHeartbeats 400000 in
theorem equalU_any (A B : Option Addr) (n m c d : Nat) (l k : List Int) (w : World) (hl : l.length = n) (hk : k.length = m) (h : Rd w 1 A n (uv l)) (h' : Rd w 1 B m (uv k)) (hn : n ≤ 9223372036854775807) (hm : m ≤ 9223372036854775807) :
    Calls Try.prog 37 #[.slice A n c, .slice B m d] w fun e w' => e = .returned (.bool (decide (l = k))) ∧ Below w.heap.size w w' := by
  by_cases hnm : n = m
  · subst hnm
    have HL := Lib.hid hl
    have HK := Lib.hid hk
    have HR := Lib.hid h
    have HR' := Lib.hid h'
    clear hl hk h h'
    go_enter Try.func37, Try.ntmps37
    go_wp2_with fail
    go_loopw [13] (fun i wr => ∃ j : Nat, j ≤ n ∧ i = .int .i64 j ∧ Below w.heap.size w wr ∧ Hid (l.take j = k.take j)) (fun i _ => n - (intOf i).toNat)
    case atStart => exact ⟨0, by omega, rfl, Below.refl _ _, Lib.hid rfl⟩
    case round =>
      obtain ⟨j, hj, rfl, hb, he⟩ := hrel
      by_cases hlt : j < n
      · obtain ⟨b, o, x, rfl, hbl, hx, c1⟩ := uv_at HL.out (HR.out.below hb) hlt
        obtain ⟨b', o', x', rfl, hbl', hx', c1'⟩ := uv_at HK.out (HR'.out.below hb) hlt
        have HX := Lib.hid hx
        have HX' := Lib.hid hx'
        clear hx hx'
        have i1 : (0 : Int) ≤ (j : Int) := by omega
        have i2 : (j : Int) < (n : Int) := by omega
        by_cases e1 : x = x'
        · subst e1
          go_wp2_with fail
          go_quiet (fail)
          go_wp2
          go_roundw
          case rel => exact ⟨j + 1, by omega, by go_num, below_drewN hb _, isame_step he HX HX'⟩
          case measure => simp [intOf]; omega
        · go_wp2_with fail
          go_quiet (fail)
          go_wp2
          go_ret
          exact ⟨ret_bool (by simp [idiffer_at HX HX' (by simp [e1])]), below_drewN hb _⟩
      · go_wp2
        go_ret
        refine ⟨ret_bool ?_, hb⟩
        have h1 := he.out
        rw [List.take_of_length_le (by have := HL.out; omega), List.take_of_length_le (by have := HK.out; omega)] at h1
        simp [h1]
  · have hne : l ≠ k := fun e => hnm (by rw [← hl, ← hk, e])
    have d1 : ((n : Int) != (m : Int)) = true := by simp; omega
    clear hl hk h h'
    go_enter Try.func37, Try.ntmps37
    go_wp2
    go_ret
    exact ⟨ret_bool (by simp [hne]), Below.refl _ _⟩

theorem uv_take_snoc (l : List Int) (k : Nat) (x : Int) (h : l[k]? = some x) : uv (l.take (k + 1)) = uv (l.take k) ++ [.int .u64 x] := by
  obtain ⟨hk, hx⟩ := List.getElem?_eq_some_iff.1 h
  rw [List.take_succ_eq_append_getElem hk, uv, uv, List.map_append, hx]
  rfl
theorem uone_u (x : Int) : ∀ u ∈ (#[Value.int .u64 x] : Array Value).toList, u.oneCell' = true := by
  intro u hu
  simp at hu
  subst hu
  rfl
theorem but_of {B : Nat} {a w : World} (h : Below B a w) : But (fun q => B ≤ q) a w := ⟨h.os, h.tape, h.output, h.size, fun i hi hn => h.block i (by omega)⟩
theorem store_one {w : World} {base : Nat} {e : TypeId} {g n cap : Nat} {l : List Int} (h : w.ownsRow base e 1 (.slice (some ⟨g, 0, none⟩) n cap) n (iv l)) (j : Nat) (y : Int) :
    (w.setCell ⟨g, j, none⟩ (.int .i64 y)).ownsRow base e 1 (.slice (some ⟨g, 0, none⟩) n cap) n (iv (l.set j y)) ∧ w.grownBy (w.setCell ⟨g, j, none⟩ (.int .i64 y)) (some g) := by
  have h := h.stored j (.int .i64 y)
  rw [iv_set] at h
  exact h
theorem cell_iv {w : World} {base : Nat} {e : TypeId} {g n cap k : Nat} {l : List Int} {x : Int} (h : w.ownsRow base e 1 (.slice (some ⟨g, 0, none⟩) n cap) n (iv l)) (hk : k < n) (hx : l[k]? = some x) : w.cell? ⟨g, k, none⟩ = some (.int .i64 x) :=
  (h.cellAt k (by omega)).trans (by rw [iv, List.getElem?_map, hx]; rfl)

/-- Draws come back in memory of the call's own. -/
def DrawsRet (w : World) (m : Nat) (l : List Int) (e : Ending) (w' : World) : Prop :=
  ∃ A' c', e = .returned (.tuple #[.slice A' m c', .bool true]) ∧ w'.ownsRow w.heap.size 38 1 (.slice A' m c') m (uv l) ∧ Below w.heap.size w w'

section
variable (A : Option Addr) (n c : Nat) (p : List Int) (w : World)

theorem inv_iota (n : Nat) : invL (iotaL n) = iotaL n := by
  apply List.ext_getElem?
  intro i
  by_cases hi : i < n
  · rw [invL_get (by rw [iotaL_length]; exact hi), iotaL_get n i hi]
    exact congrArg some (placeL_at (iota_good n) (by rw [iotaL_length]; exact hi) (iotaL_get n i hi))
  · rw [List.getElem?_eq_none (by rw [invL_length, iotaL_length]; omega), List.getElem?_eq_none (by rw [iotaL_length]; omega)]
theorem iota_wf (n : Nat) (hn : n ≤ 1000000) : ∀ x ∈ iotaL n, (Lit.int .i64 x).wf = true := fun x hx => by
  obtain ⟨i, hi, rfl⟩ := List.mem_map.1 hx
  have := List.mem_range.1 hi
  exact fits_nat (by omega) (by omega)
/-- The inverse of the identity. -/
theorem inverse_iota (hn : n ≤ 1000000) (h : Rd w 1 A n (iv (iotaL n))) : Calls Try.prog 32 #[.slice A n c] w (ListRet w n (iotaL n)) := by
  have h1 := inverse_some A n c (iotaL n) w (iotaL_length n) h hn (iota_wf n hn) (by have := iota_good n; rw [iotaL_length] at this; exact this)
  rw [inv_iota] at h1
  exact h1

set_option maxHeartbeats 1000000 in
theorem draws_none (hl : p.length = n) (h : Rd w 1 A n (iv p)) (hn : n ≤ 1000000) (hw : ∀ x ∈ p, (Lit.int .i64 x).wf = true) (hg : ¬ goodTo p n) :
    Calls Try.prog 35 #[.slice A n c] w fun e w' => e = .returned (.tuple #[.slice none 0 0, .bool false]) ∧ Below w.heap.size w w' := by
  have HA := Lib.hid (fun W (r : Rd W 1 A n (iv p)) => valid_good A n c p W hl r hn hw false (by simpa using hg))
  have HR := Lib.hid h
  clear hl h hw hg
  go_enter Try.func35, Try.ntmps35
  go_wp2_with fail
  ((with_reducible refine (identity_any n w hn).mono ?_); rintro e w1 ⟨A1, c1, rfl, hown1, hb1⟩)
  have HO1 := Lib.hid hown1
  have HB1 := Lib.hid hb1
  clear hown1 hb1
  go_wp2_with fail
  ((with_reducible refine (inverse_iota A1 n c1 w1 hn (Rd.of_own HO1.out)).mono ?_); rintro e w2 ⟨A2, c2, rfl, hown2, hb2⟩)
  have HB2 := Lib.hid ((Kept.of HB1.out).call hb2).2.2
  clear hown2 hb2
  go_wp2_with fail
  ((with_reducible refine (HA.out _ (HR.out.below HB2.out)).mono ?_); rintro e w3 ⟨rfl, hb3⟩)
  have HB3 := Lib.hid ((Kept.of HB2.out).call hb3).2.2
  clear hb3
  go_wp2_with fail
  go_ret2
  exact ⟨rfl, HB3.out⟩

set_option maxHeartbeats 4000000 in
theorem draws_some (hl : p.length = n) (h : Rd w 1 A n (iv p)) (hn : n ≤ 1000) (hw : ∀ x ∈ p, (Lit.int .i64 x).wf = true) (hg : goodTo p n) :
    Calls Try.prog 35 #[.slice A n c] w (DrawsRet w (n - 1) (drL p)) := by
  have HA := Lib.hid (fun W (r : Rd W 1 A n (iv p)) => valid_good A n c p W hl r (by omega) hw true (by simpa using hg))
  have HR := Lib.hid h
  have HL := Lib.hid hl
  have HG : Hid (goodTo p p.length) := Lib.hid (by rw [hl]; exact hg)
  clear hl h hw hg
  obtain ⟨m, hm⟩ : ∃ m, n - 1 = m := ⟨_, rfl⟩
  rw [hm]
  have hmn : m ≤ n := by omega
  have HM := Lib.hid hm
  clear hm
  go_enter Try.func35, Try.ntmps35
  go_wp2_with fail
  ((with_reducible refine (identity_any n w (by omega)).mono ?_); rintro e w1 ⟨A1, c1, rfl, hown1, hb1⟩)
  have HO1 := Lib.hid hown1
  have HB1 := Lib.hid hb1
  clear hown1 hb1
  go_wp2_with fail
  ((with_reducible refine (inverse_iota A1 n c1 w1 (by omega) (Rd.of_own HO1.out)).mono ?_); rintro e w2 ⟨A2, c2, rfl, hown2, hb2⟩)
  have HO2 := Lib.hid hown2
  have HB2 := Lib.hid ((Kept.of HB1.out).call hb2).2.2
  clear hown2 hb2
  go_wp2_with fail
  ((with_reducible refine (HA.out _ (HR.out.below HB2.out)).mono ?_); rintro e w3 ⟨rfl, hb3⟩)
  have HO3 := Lib.hid (own_below HO2.out hb3)
  have HB3 := Lib.hid ((Kept.of HB2.out).call hb3).2.2
  clear hb3
  go_wp2_with fail
  ((with_reducible refine (identity_any n w3 (by omega)).mono ?_); rintro e w4 ⟨A4, c4, rfl, hown4, hb4⟩)
  have hs1 : w.heap.size ≤ w1.heap.size := HB1.out.size
  have hs3 : w.heap.size ≤ w3.heap.size := HB3.out.size
  have HT := Lib.hid (own_base (own_below HO3.out hb4) hs1)
  have HQ := Lib.hid (own_base hown4 hs3)
  obtain ⟨B, hB⟩ : ∃ B, w4.heap.size = B := ⟨_, rfl⟩
  have HNE : Hid (∀ g g', A4 = some ⟨g, 0, none⟩ → A2 = some ⟨g', 0, none⟩ → g ≠ g' ∧ w.heap.size ≤ g ∧ w.heap.size ≤ g' ∧ g < B ∧ g' < B) := Lib.hid (fun g g' e e' => by
    have x1 := own_rd_block hown4 g 0 e
    have x2 := own_rd_block HO3.out g' 0 e'
    omega)
  have HB4 := Lib.hid ((Kept.of HB3.out).call hb4).2.2
  have hBw : w.heap.size ≤ B := by rw [← hB]; exact HB4.out.size
  clear hown4 hb4 HO1 HO2 HO3 HB1 HB2 HB3 HA hs1 hs3
  have HWB := Lib.hid hB
  clear hB
  go_wp2_with fail
  go_loopw [7, 8] (fun v i wr => ∃ (k : Nat) (Q T : List Int), k ≤ m ∧ i = .int .i64 ((n : Int) - 1 - (k : Int)) ∧ (∃ A' c', v = .slice A' k c') ∧ wr.ownsRow B 38 1 v k (uv ((drL p).take k)) ∧ wr.ownsRow w.heap.size 3 1 (.slice A4 n c4) n (iv Q) ∧ wr.ownsRow w.heap.size 3 1 (.slice A2 n c2) n (iv T) ∧ Below w.heap.size w wr ∧ B ≤ wr.heap.size ∧ Hid (DrSt p k Q T)) (fun _ i _ => (intOf i).toNat)
  case atStart => exact ⟨0, iotaL n, iotaL n, by omega, by simp, ⟨none, 0, rfl⟩, by simpa [uv] using World.ownsRow_nil _ _ _ _, HQ.out, HT.out, HB4.out, by have := HWB.out; omega, Lib.hid (by have := drSt_zero p; rw [HL.out] at this; exact this)⟩
  case round =>
    obtain ⟨k, Q, T, hk, rfl, ⟨A', c', rfl⟩, hown, hq, ht, hb, hsz, hd⟩ := hrel
    have hmm := HM.out
    by_cases hlt : k < m
    · obtain ⟨i, hi⟩ : ∃ i, i + k + 1 = n := ⟨n - 1 - k, by omega⟩
      rw [show (n : Int) - 1 - (k : Int) = (i : Int) by omega]
      have hi0 : 0 < i := by omega
      have hin : i < n := by omega
      obtain ⟨_, _, q1, q2, q3, q6⟩ := own_form hq
      injection q1 with q4 _ q5
      subst q4 q5
      obtain ⟨g, rfl, _, _⟩ := q6 (by omega)
      obtain ⟨_, _, r1, r2, r3, r6⟩ := own_form ht
      injection r1 with r4 _ r5
      subst r4 r5
      obtain ⟨g', rfl, _, _⟩ := r6 (by omega)
      obtain ⟨hne, hg0, hg0', hgB, hgB'⟩ := HNE.out g g' rfl rfl
      obtain ⟨x, y, j, hx, hxn, hyn, hTx, hJ, hji, hQi, hst⟩ := drSt_step HG.out hd.out (by rw [HL.out]; exact hi) hi0
      rw [HL.out] at hxn hyn
      obtain ⟨b1, o1, x', hAe, hbl, hx', cc1⟩ := iv_at HL.out (HR.out.below hb) hin
      subst hAe
      obtain rfl : x' = (x : Int) := by rw [hx] at hx'; injection hx' with e; exact e.symm
      have cc2 := cell_iv ht hxn hTx
      have HTK := Lib.hid (uv_take_snoc (drL p) k j (by rw [drL_get (by rw [HL.out]; omega), hJ]))
      have HOQ := Lib.hid hq
      have HOT := Lib.hid ht
      have HO := Lib.hid hown
      have HBB := Lib.hid hb
      obtain ⟨zq, hzq⟩ : ∃ z, Q[j]? = some z := ⟨_, List.getElem?_eq_getElem (by have := hd.out.1; rw [HL.out] at this; omega)⟩
      obtain ⟨zt, hzt⟩ : ∃ z, T[y]? = some z := ⟨_, List.getElem?_eq_getElem (by have := hd.out.2.1; rw [HL.out] at this; omega)⟩
      have HQI := Lib.hid hQi
      have HZQ := Lib.hid hzq
      have HZT := Lib.hid hzt
      have HST := Lib.hid hst
      have HI := Lib.hid hi
      have hjn : j < n := by omega
      clear hzq hzt hx hx' hTx hJ hQi hst hd hown hq ht hb q6 r6 hi hmm
      go_wp2_with (at_builtin; go_must (refine wpList_push slU64 rfl _ _ rfl B _ k (uv ((drL p).take k)) rfl HO.out #[.int .u64 j] _ rfl rfl rfl (uone_u _) (by unfold maxLen; omega) (by omega) hsz ?_); go_must (intro A9 c9 w9 hown9 hb9; have hq9 := own_but HOQ.out (but_of hb9) (fun b e h => by (have e' : some g = some b := e); injection e' with e'; subst e'; exact absurd hgB (Nat.not_lt.2 h)); have ht9 := own_but HOT.out (but_of hb9) (fun b e h => by (have e' : some g' = some b := e); injection e' with e'; subst e'; exact absurd hgB' (Nat.not_lt.2 h)); have s1 := store_one hq9 j (y : Int); have cq1 := cell_iv hq9 hin HQI.out; have cq2 := cell_iv hq9 hjn HZQ.out; have ct1 := cell_iv ht9 hyn HZT.out; have fq1 := hq9.frozenAt j; have ft1 := ht9.frozenAt y; (have HO9 := Lib.hid hown9); (have HB9 := Lib.hid hb9); (have HQ9 := Lib.hid hq9); (have HT9 := Lib.hid ht9); clear hown9 hb9 hq9 ht9 s1))
      have X1 := store_one HQ9.out j (y : Int)
      have Y1 := ownsRow_setCell_other HT9.out (a := ⟨g, j, none⟩) (fun e => hne (by (have e' : some g' = some g := e); injection e' with e'; exact e'.symm)) (.int .i64 (y : Int))
      have Y2 := store_one Y1 y (j : Int)
      have X2 := ownsRow_setCell_other X1.1 (a := ⟨g', y, none⟩) (fun e => hne (by (have e' : some g = some g' := e); injection e')) (.int .i64 (j : Int))
      have Z1 := ownsRow_setCell_below HO9.out (a := ⟨g, j, none⟩) hgB (.int .i64 (y : Int))
      have Z2 := ownsRow_setCell_below Z1 (a := ⟨g', y, none⟩) hgB' (.int .i64 (j : Int))
      have K1 := ((HBB.out.trans (HB9.out.mono hBw)).setCell (p := ⟨g, j, none⟩) hg0 (.int .i64 (y : Int))).setCell (p := ⟨g', y, none⟩) hg0' (.int .i64 (j : Int))
      have HX := Lib.hid X2
      have HY := Lib.hid Y2.1
      have HZ := Lib.hid Z2
      have HK := Lib.hid K1
      have hs9 : B ≤ w9.heap.size := Nat.le_trans hsz HB9.out.size
      clear X1 Y1 Y2 X2 Z1 Z2 K1 cq1 cq2 ct1 fq1 ft1
      go_roundw
      case rel => exact ⟨k + 1, Q.set j y, T.set y j, by omega, by have := HI.out; congr 1; omega, ⟨A9, c9, rfl⟩, by rw [HTK.out]; exact HZ.out, HX.out, HY.out, HK.out, by simpa using hs9, HST⟩
      case measure => simp [intOf]; omega
    · obtain rfl : k = m := by omega
      obtain ⟨z, hz⟩ : ∃ z, (n : Int) - 1 - (k : Int) = z := ⟨_, rfl⟩
      have hz0 : z ≤ 0 := by omega
      rw [hz]
      rw [List.take_of_length_le (by rw [drL_length, HL.out]; omega)] at hown
      have HO := Lib.hid (own_base hown hBw)
      have HBB := Lib.hid hb
      clear hown hq ht hb hd hz hmm
      go_wp2_with fail
      go_ret2
      exact ⟨A', c', rfl, HO.out, HBB.out⟩
end

end Go.Proofs.Ytncjfijpaheobaa
