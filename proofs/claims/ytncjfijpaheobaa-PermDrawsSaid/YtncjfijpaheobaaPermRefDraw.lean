/-
  The reference's Draws.
-/
import Derived.Test.YtncjfijpaheobaaPermDraw
namespace Go.Proofs.Ytncjfijpaheobaa
set_option linter.unusedVariables false
set_option linter.unusedSimpArgs false
set_option maxRecDepth 100000
open Go.RowKit

section
variable (A : Option Addr) (n c : Nat) (p : List Int) (w : World)

set_option maxHeartbeats 1000000 in
theorem refDraws_none (hl : p.length = n) (h : Rd w 1 A n (iv p)) (hn : n ≤ 1000000) (hg : ¬ goodTo p n) :
    Calls Try.prog 36 #[.slice A n c] w fun e w' => e = .returned (.tuple #[.slice none 0 0, .bool false]) ∧ Below w.heap.size w w' := by
  have HA := Lib.hid (refValid_good A n c p w hl h hn false (by simpa using hg))
  clear hl h hg
  go_enter Try.func36, Try.ntmps36
  go_wp2_with fail
  ((with_reducible refine HA.out.mono ?_); rintro e w1 ⟨rfl, rfl⟩)
  go_wp2_with fail
  go_ret2
  exact ⟨rfl, Below.refl _ _⟩

theorem set_same {l : List Int} {i j : Nat} {y : Int} (h : l[i]? = some y) : (l.set j y)[i]? = some y := by
  have := (List.getElem?_eq_some_iff.1 h).1
  rw [List.getElem?_set]
  by_cases e : j = i
  · subst e; rw [if_pos rfl, if_pos this]
  · rw [if_neg e]; exact h
theorem dr_swap2 {p : List Int} {k i j : Nat} {x y : Int} (hi : i + k + 1 = p.length) (hx : p[i]? = some x) (e : drJ p k = j) (hy : (drR p k)[i]? = some y) : drR p (k + 1) = ((drR p k).set j y).set i x := by
  rw [drR]
  rw [drJ] at e
  rw [e, show p.length - 1 - k = i by omega, show p.getD i 0 = x by simp [List.getD, hx], show (drR p k).getD i 0 = y by simp [List.getD, hy], show ((j : Nat) : Int).toNat = j by omega]

set_option maxHeartbeats 4000000 in
theorem refDraws_some (hl : p.length = n) (h : Rd w 1 A n (iv p)) (hn : n ≤ 1000) (hg : goodTo p n) :
    Calls Try.prog 36 #[.slice A n c] w (DrawsRet w (n - 1) (drL p)) := by
  have HA := Lib.hid (refValid_good A n c p w hl h (by omega) true (by simpa using hg))
  have HR := Lib.hid h
  have HL := Lib.hid hl
  have HG : Hid (goodTo p p.length) := Lib.hid (by rw [hl]; exact hg)
  clear hl h hg
  obtain ⟨m, hm⟩ : ∃ m, n - 1 = m := ⟨_, rfl⟩
  rw [hm]
  have hmn : m ≤ n := by omega
  have HM := Lib.hid hm
  clear hm
  go_enter Try.func36, Try.ntmps36
  go_wp2_with fail
  ((with_reducible refine HA.out.mono ?_); rintro e w1 ⟨rfl, rfl⟩)
  go_wp2_with fail
  go_loopw [4, 5] (fun v c wr => ∃ j : Nat, j ≤ n ∧ c = .int .i64 j ∧ (∃ A' c', v = .slice A' j c') ∧ wr.ownsRow w.heap.size 3 1 v j (iv (iotaL j)) ∧ Below w.heap.size w wr) (fun _ c _ => n - (intOf c).toNat)
  case atStart => exact ⟨0, by omega, rfl, ⟨none, 0, rfl⟩, by simpa [iv, iotaL] using World.ownsRow_nil _ _ _ _, Below.refl _ _⟩
  case round =>
    obtain ⟨j, hj, rfl, ⟨A', c', rfl⟩, hown, hb⟩ := hrel
    by_cases hlt : j < n
    · have hsz := hb.size
      have HO := Lib.hid hown
      have HB := Lib.hid hb
      have HT := Lib.hid (iv_iota_succ j)
      clear hown hb
      go_wp2_with (at_builtin; go_must (refine wpList_push slInt rfl _ _ rfl w.heap.size _ j (iv (iotaL j)) rfl HO.out #[.int .i64 j] _ rfl rfl rfl (uone_int _) (by unfold maxLen; omega) (by omega) hsz ?_); intro A2 c2 w2 hown2 hb2)
      go_roundw
      case rel => exact ⟨j + 1, by omega, by go_num, ⟨A2, c2, rfl⟩, by rw [HT.out]; exact hown2, HB.out.trans hb2⟩
      case measure => simp [intOf]; omega
    · obtain rfl : j = n := by omega
      obtain ⟨B, hB⟩ : ∃ B, wr.heap.size = B := ⟨_, rfl⟩
      have HQ := Lib.hid hown
      have HB4 := Lib.hid hb
      have hBw : w.heap.size ≤ B := by rw [← hB]; exact hb.size
      have HNE : Hid (∀ g, A' = some ⟨g, 0, none⟩ → w.heap.size ≤ g ∧ g < B) := Lib.hid (fun g e => by
        have x1 := own_rd_block hown g 0 e
        omega)
      have HWB := Lib.hid hB
      clear hown hb hB
      go_wp2_with fail
      go_loopw [6, 7] (fun v i wr => ∃ (k : Nat), k ≤ m ∧ i = .int .i64 ((j : Int) - 1 - (k : Int)) ∧ (∃ A' c', v = .slice A' k c') ∧ wr.ownsRow B 38 1 v k (uv ((drL p).take k)) ∧ wr.ownsRow w.heap.size 3 1 (.slice A' j c') j (iv (drR p k)) ∧ Below w.heap.size w wr ∧ B ≤ wr.heap.size) (fun _ i _ => (intOf i).toNat)
      case atStart => exact ⟨0, by omega, by simp, ⟨none, 0, rfl⟩, by simpa [uv] using World.ownsRow_nil _ _ _ _, by rw [drR, HL.out]; exact HQ.out, HB4.out, by have := HWB.out; omega⟩
      case round =>
        obtain ⟨k, hk, rfl, ⟨A2, c2, rfl⟩, hown, hq, hb, hsz⟩ := hrel
        have hmm := HM.out
        by_cases hlt : k < m
        · obtain ⟨i, hi⟩ : ∃ i, i + k + 1 = j := ⟨j - 1 - k, by omega⟩
          rw [show (j : Int) - 1 - (k : Int) = (i : Int) by omega]
          have hi0 : 0 < i := by omega
          have hin : i < j := by omega
          obtain ⟨_, _, q1, q2, q3, q6⟩ := own_form hq
          injection q1 with q4 _ q5
          subst q4 q5
          obtain ⟨g, rfl, _, _⟩ := q6 (by omega)
          obtain ⟨hg0, hgB⟩ := HNE.out g rfl
          have hv := drInv HG.out k (by rw [HL.out]; omega)
          obtain ⟨x, jj, hx, hjx, hJ, hji⟩ := dr_place HG.out hv (by rw [HL.out]; exact hi)
          obtain ⟨b1, o1, x', hAe, hbl, hx', cc0⟩ := iv_at HL.out HR.out hin
          subst hAe
          obtain rfl : x' = x := by rw [hx] at hx'; injection hx' with e; exact e.symm
          have cc1 := ((bcell hb).1 b1 (o1 + i) hbl).trans cc0
          have HC0 := Lib.hid cc0
          have hne1 : b1 ≠ g := by omega
          clear cc0
          have hRl : (drR p k).length = j := by rw [hv.len, HL.out]
          obtain ⟨y, hy⟩ : ∃ y, (drR p k)[i]? = some y := ⟨_, List.getElem?_eq_getElem (by omega)⟩
          have C := place_any (some ⟨g, 0, none⟩) j c' (drR p k) x' wr hRl (Rd.of_own hq) (by omega)
          have hJ' : placeL (drR p k) x' = jj := by
            rw [← hJ, drJ, show p.length - 1 - k = i by rw [HL.out]; omega]
            simp [List.getD, hx]
          rw [hJ'] at C
          have HC := Lib.hid C
          have HSW := Lib.hid (dr_swap2 (by rw [HL.out]; exact hi) hx hJ hy)
          have HTK := Lib.hid (uv_take_snoc (drL p) k jj (by rw [drL_get (by rw [HL.out]; omega), hJ]))
          have HOQ := Lib.hid hq
          have HO := Lib.hid hown
          have HBB := Lib.hid hb
          have HYY := Lib.hid hy
          have HJX := Lib.hid hjx
          have HI := Lib.hid hi
          have hjn : jj < j := by omega
          clear hx hx' hJ hJ' hy hjx hown hq hb q6 hi hmm C hv hRl
          go_wp2_with fail
          ((with_reducible refine HC.out.mono ?_); rintro e w8 ⟨rfl, rfl⟩)
          go_wp2_with (at_builtin; go_must (refine wpList_push slU64 rfl _ _ rfl B _ k (uv ((drL p).take k)) rfl HO.out #[.int .u64 jj] _ rfl rfl rfl (uone_u _) (by unfold maxLen; omega) (by omega) hsz ?_); go_must (intro A9 c9 w9 hown9 hb9; have hq9 := own_but HOQ.out (but_of hb9) (fun b e h => by (have e' : some g = some b := e); injection e' with e'; subst e'; exact absurd hgB (Nat.not_lt.2 h)); have cp1 := ((bcell (HBB.out.trans (hb9.mono hBw))).1 b1 (o1 + i) hbl).trans HC0.out; have cq1 := cell_iv hq9 hin HYY.out; have cq2 := cell_iv hq9 hjn HJX.out; have fq1 := hq9.frozenAt jj; have fq2 := hq9.frozenAt i; have c5 := cell_iv (store_one hq9 jj y).1 hin (set_same HYY.out); have f5 := (store_one hq9 jj y).1.frozenAt i; (have HO9 := Lib.hid hown9); (have HB9 := Lib.hid hb9); (have HQ9 := Lib.hid hq9); clear hown9 hb9 hq9))
          have X1 := store_one HQ9.out jj y
          have X2 := store_one X1.1 i x'
          rw [← HSW.out] at X2
          have Z1 := ownsRow_setCell_below HO9.out (a := ⟨g, jj, none⟩) hgB (.int .i64 y)
          have Z2 := ownsRow_setCell_below Z1 (a := ⟨g, i, none⟩) hgB (.int .i64 x')
          have K1 := ((HBB.out.trans (HB9.out.mono hBw)).setCell (p := ⟨g, jj, none⟩) hg0 (.int .i64 y)).setCell (p := ⟨g, i, none⟩) hg0 (.int .i64 x')
          have HX := Lib.hid X2.1
          have HZ := Lib.hid Z2
          have HK := Lib.hid K1
          have hs9 : B ≤ w9.heap.size := Nat.le_trans hsz HB9.out.size
          clear X1 X2 Z1 Z2 K1 cq1 cq2 fq1 fq2 cp1
          go_roundw
          case rel => exact ⟨k + 1, by omega, by have := HI.out; congr 1; omega, ⟨A9, c9, rfl⟩, by rw [HTK.out]; exact HZ.out, HX.out, HK.out, by simpa using hs9⟩
          case measure => simp [intOf]; omega
        · obtain rfl : k = m := by omega
          obtain ⟨z, hz⟩ : ∃ z, (j : Int) - 1 - (k : Int) = z := ⟨_, rfl⟩
          have hz0 : z ≤ 0 := by omega
          rw [hz]
          rw [List.take_of_length_le (by rw [drL_length, HL.out]; omega)] at hown
          have HO := Lib.hid (own_base hown hBw)
          have HBB := Lib.hid hb
          clear hown hq hb hz hmm
          go_wp2_with fail
          go_ret2
          exact ⟨A2, c2, rfl, HO.out, HBB.out⟩
end

end Go.Proofs.Ytncjfijpaheobaa
