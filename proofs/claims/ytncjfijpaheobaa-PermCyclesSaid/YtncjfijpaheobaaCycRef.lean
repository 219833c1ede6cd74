/-
  The reference's Cycles.
-/
import Derived.Test.YtncjfijpaheobaaCyc
namespace Go.Proofs.Ytncjfijpaheobaa
set_option linter.unusedVariables false
set_option linter.unusedSimpArgs false
set_option maxRecDepth 100000
open Go.RowKit

section
variable (A : Option Addr) (n c : Nat) (p : List Int) (w : World)

set_option maxHeartbeats 4000000 in
theorem refCycles_some (hl : p.length = n) (h : Rd w 1 A n (iv p)) (hn : n ≤ 1000) (hg : goodTo p n) :
    Calls Try.prog 31 #[.slice A n c] w (CycRet w (cycs p n)) := by
  have HA := Lib.hid (refValid_good A n c p w hl h (by omega) true (by simpa using hg))
  have HR := Lib.hid h
  have HL := Lib.hid hl
  have HG : Hid (goodTo p p.length) := Lib.hid (by rw [hl]; exact hg)
  clear hl h hg
  go_enter Try.func31, Try.ntmps31
  go_wp2_with fail
  ((with_reducible refine HA.out.mono ?_); rintro e w1 ⟨rfl, rfl⟩)
  go_wp2_with fail
  go_loopw [4, 5] (fun v i wr => ∃ (k m : Nat) (vs : List SlN), k ≤ n ∧ i = .int .i64 k ∧ (∃ A' c', v = .slice A' m c') ∧ Hid (m = (cycs p k).length) ∧ wr.ownsRow w.heap.size 23 1 v m (slsv vs) ∧ OwnN wr w.heap.size vs (cycs p k) ∧ Below w.heap.size w wr) (fun _ i _ => n - (intOf i).toNat)
  case atStart => exact ⟨0, 0, [], by omega, rfl, ⟨none, 0, rfl⟩, Lib.hid rfl, by simpa [slsv] using World.ownsRow_nil _ _ _ _, OwnN.nil _ _, Below.refl _ _⟩
  case round =>
    obtain ⟨k, m, vs, hk, rfl, ⟨A', c', rfl⟩, hm, ho, hon, hb⟩ := hrel
    by_cases hlt : k < n
    · have hkp : k < p.length := by rw [HL.out]; exact hlt
      obtain ⟨O, hO⟩ : ∃ O, ordP p (k : Int) = O := ⟨_, rfl⟩
      have hsp := ordP_spec HG.out (i := (k : Int)) (by omega) (by omega)
      rw [hO, HL.out] at hsp
      obtain ⟨hO1, hO2, hO3, hO4⟩ := hsp
      have H3 := Lib.hid hO3
      have H4 := Lib.hid hO4
      have HLP : Hid (leastP p (k : Int) = leastTo p (k : Int) (O - 1)) := Lib.hid (by rw [leastP, hO])
      have HCY : Hid (cycL p (k : Int) = cycTo p (k : Int) O) := Lib.hid (by rw [cycL, hO])
      have hml : m ≤ k := by rw [hm.out]; exact cycs_length p k
      obtain ⟨g0, o0, y, rfl, hbl, hy, c1⟩ := iv_at HL.out (HR.out.below hb) hlt
      have hin := itP_in HG.out (i := (k : Int)) (by omega) (by omega) 1
      have hyy : itP p k 1 = y := by
        rw [itP, itP, nxP, List.getD, show ((k : Int)).toNat = k by omega, hy]
        rfl
      rw [hyy, HL.out] at hin
      obtain ⟨yn, rfl⟩ := Int.eq_ofNat_of_zero_le hin.1
      have hyn : yn < n := by omega
      have HY := Lib.hid hyy
      have HST : Hid ((wr.alloc (.cells #[.int .i64 (k : Int)] 3)).ownsRow wr.heap.size 3 1 (.slice (some ⟨wr.heap.size, 0, none⟩) 1 1) 1 (iv (cycTo p k 1))) := Lib.hid (World.ownsRow_lit wr #[.int .i64 (k : Int)] 1 (Nat.le_refl _) (by unfold maxLen; omega) rfl)
      have HO := Lib.hid ho
      have HON := Lib.hid hon
      have HB := Lib.hid hb
      have hwr := hb.size
      have i1 : (0 : Int) ≤ (k : Int) := by omega
      have i2 : (k : Int) < (n : Int) := by omega
      clear ho hon hb hO hO3 hO4 hy hyy hin
      go_wp2_with fail
      go_loopw [6, 7, 8] (fun L v x w2 => ∃ (j xn : Nat) (q : Bool), j + 1 ≤ O ∧ L = .bool q ∧ Hid (leastTo p k j = q) ∧ (∃ A2 c2, v = .slice A2 (j + 1) c2) ∧ x = .int .i64 (xn : Int) ∧ Hid (itP p k (j + 1) = (xn : Int)) ∧ xn < n ∧ w2.ownsRow wr.heap.size 3 1 v (j + 1) (iv (cycTo p k (j + 1))) ∧ Below wr.heap.size wr w2) (fun _ v _ _ => n - lenV v)
      case atStart => exact ⟨0, yn, true, by omega, rfl, Lib.hid rfl, ⟨_, _, rfl⟩, rfl, HY, hyn, HST.out, (Below.refl _ _).alloc (Nat.le_refl _) _⟩
      case round =>
        obtain ⟨j, xn, q, hj, rfl, hq, ⟨A2, c2, rfl⟩, rfl, hx, hxn, ho2, hb2⟩ := hrel
        have hsz2 := hb2.size
        have HO2 := Lib.hid ho2
        have HB2 := Lib.hid hb2
        have HBW := Lib.hid (HB.out.trans (hb2.mono hwr))
        clear ho2 hb2
        by_cases e : xn = k
        · subst e
          have hjO : j + 1 = O := Classical.byContradiction (fun h => H4.out (j + 1) (by omega) (by omega) hx.out)
          subst hjO
          have HOO := Lib.hid (own_below HO.out HB2.out)
          have HONN := Lib.hid (HON.out.below HB2.out)
          have hszw := HBW.out.size
          have hlq : leastP p (xn : Int) = q := by rw [HLP.out, show j + 1 - 1 = j by omega]; exact hq.out
          cases q with
          | true =>
            have hC : cycs p (xn + 1) = cycs p xn ++ [cycTo p xn (j + 1)] := by rw [cycs, if_pos hlq, HCY.out]
            have HC := Lib.hid hC
            have HSN := Lib.hid (slsv_snoc vs (A2, j + 1, c2))
            have e1 : ((xn : Int) != (xn : Int)) = false := by simp
            clear hC hlq
            go_wp2_with (at_builtin; go_must (refine wpList_pushG slRows rfl _ _ rfl w.heap.size _ m (slsv vs) rfl HOO.out #[.slice A2 (j + 1) c2] _ rfl rfl rfl (uone_sl _ _ _) (by unfold maxLen; omega) (by omega) hszw ?_); intro A5 c5 w5 hown5 hb5 hg5)
            go_roundw
            case rel => exact ⟨xn + 1, m + 1, vs ++ [(A2, j + 1, c2)], by omega, by go_num, ⟨A5, c5, rfl⟩, Lib.hid (by rw [HC.out, List.length_append, hm.out]; rfl), by rw [HSN.out]; exact hown5, by
              rw [HC.out]
              exact (HONN.out.rowkept HOO.out (by decide) hg5).snoc (by simp [cycTo_length]) (own_base (HO2.out.kept hg5 (own_ne_own HO2.out HOO.out (by decide))) hwr), HBW.out.trans hb5⟩
            case measure => simp [intOf]; omega
          | false =>
            have hC : cycs p (xn + 1) = cycs p xn := by rw [cycs, if_neg (by rw [hlq]; simp), List.append_nil]
            have HC := Lib.hid hC
            have e1 : ((xn : Int) != (xn : Int)) = false := by simp
            clear hC hlq
            go_wp2_with fail
            go_roundw
            case rel => exact ⟨xn + 1, m, vs, by omega, by go_num, ⟨A', c', rfl⟩, Lib.hid (by rw [HC.out]; exact hm.out), HOO.out, by rw [HC.out]; exact HONN.out, HBW.out⟩
            case measure => simp [intOf]; omega
        · have hjO : j + 1 < O := by
            rcases Nat.lt_or_ge (j + 1) O with h | h
            · exact h
            · exact absurd (by have h3 := H3.out; rw [show O = j + 1 by omega, hx.out] at h3; omega) e
          obtain ⟨b1, o1, z, hAe, hbl1, hz, cc1⟩ := iv_at HL.out HR.out hxn
          injection hAe with hAe
          injection hAe with hAe1 hAe2
          subst hAe1 hAe2
          have HC1 := Lib.hid cc1
          have hin := itP_in HG.out (i := (k : Int)) (by omega) (by rw [HL.out]; omega) (j + 2)
          have hzz : itP p k (j + 2) = z := by
            rw [show j + 2 = (j + 1) + 1 from rfl, itP, hx.out, nxP, List.getD, show ((xn : Int)).toNat = xn by omega, hz]
            rfl
          rw [hzz, HL.out] at hin
          obtain ⟨zn, rfl⟩ := Int.eq_ofNat_of_zero_le hin.1
          have hzn : zn < n := by omega
          have HZ := Lib.hid hzz
          have HTK := Lib.hid (iv_cyc_succ p k (j + 1) xn hx.out)
          have HLE : Hid (leastTo p k (j + 1) = (q && decide ((k : Int) < (xn : Int)))) := Lib.hid (by rw [leastTo, hq.out, hx.out])
          have i3 : (0 : Int) ≤ (xn : Int) := by omega
          have i4 : (xn : Int) < (n : Int) := by omega
          have e1 : ((xn : Int) != (k : Int)) = true := by simp; omega
          clear hz hzz hin cc1 e c1
          obtain ⟨d, hd⟩ : ∃ d, decide ((k : Int) < (xn : Int)) = d := ⟨_, rfl⟩
          rw [hd] at HLE
          cases q <;>
          · go_wp2_with (at_builtin; go_must (refine wpList_push slInt rfl _ _ rfl _ _ (j + 1) (iv (cycTo p k (j + 1))) rfl HO2.out #[.int .i64 xn] _ rfl rfl rfl (uone_int _) (by unfold maxLen; omega) (by omega) hsz2 ?_); go_must (intro A4 c4 w4 hown4 hb4; have cp1 := ((bcell (HBW.out.trans (hb4.mono hwr))).1 g0 (o0 + xn) hbl1).trans HC1.out; (have HO4 := Lib.hid hown4); (have HB4 := Lib.hid hb4); clear hown4 hb4))
            go_roundw
            case rel => exact ⟨j + 1, zn, _, by omega, rfl, Lib.hid (by rw [HLE.out]; first | rfl | (rw [← hd]; simp)), ⟨A4, c4, rfl⟩, rfl, HZ, hzn, by rw [HTK.out]; exact HO4.out, HB2.out.trans HB4.out⟩
            case measure => simp [lenV]; omega
    · obtain rfl : k = n := by omega
      have HO := Lib.hid ho
      have HON := Lib.hid hon
      have HB := Lib.hid hb
      clear ho hon hb
      go_wp2_with fail
      go_ret2
      exact ⟨A', c', m, vs, rfl, hm.out, HO.out, HON.out, HB.out⟩
end

end Go.Proofs.Ytncjfijpaheobaa
