/-
  Contract of the reference's Sum.
-/
import Derived.Test.YthbkmhdoakpjgaaVec5
namespace Go.Proofs.Ythbkmhdoakpjgaa
set_option linter.unusedVariables false
set_option linter.unusedSimpArgs false
open Go.RowKit

theorem addL_zeros (z : List Int) (h : ∀ x ∈ z, -9223372036854775808 ≤ x ∧ x ≤ 9223372036854775807) : addL (List.replicate z.length 0) z = z := by
  apply List.ext_getElem?
  intro i
  unfold addL
  rw [addAt_get]
  by_cases hi : i < z.length
  · rw [List.getElem?_replicate, if_pos hi, List.getElem?_eq_getElem hi]
    have := h z[i] (List.getElem_mem hi)
    simp [hi, List.getD, List.getElem?_eq_getElem hi]
    unfold wrap64
    omega
  · rw [List.getElem?_eq_none (by simpa using hi), List.getElem?_eq_none (by omega)]
    rfl
theorem sumL_zeros (zs : List (List Int)) (z : List Int) (hz : zs[0]? = some z) (h : ∀ x ∈ z, -9223372036854775808 ≤ x ∧ x ≤ 9223372036854775807) : sumL zs = sumFrom (List.replicate z.length 0) (zs.drop 0) := by
  rw [sumL_first zs z hz, sumFrom_step _ zs 0 z hz (by simp), addL_zeros z h]
theorem iv_zeros (n : Nat) : iv (List.replicate n 0) = List.replicate n (.int .i64 0) := by simp [iv]
theorem addL_is (x y : List Int) (n : Nat) (h : x.length = n) : addAt x 0 y n = addL x y := by unfold addL; rw [h]

set_option maxHeartbeats 400000 in
theorem refSum_nil (A : Option Addr) (cap : Nat) (w : World) :
    Calls Try.prog 26 #[.slice A 0 cap] w (SumRet w (sumL [])) := by
  go_enter Try.func26, Try.ntmps26
  go_wp2
  go_ret2
  exact ⟨none, 0, rfl, World.ownsRow_nil _ _ _ _, Below.refl _ _⟩

set_option maxHeartbeats 2000000 in
theorem refSum_any (A : Option Addr) (n cap : Nat) (ss : List (Option Addr × Nat × Nat)) (zs : List (List Int)) (w : World) (hl : ss.length = n) (hn1 : 1 ≤ n) (hn : n ≤ 10000000) (h : Rd w 1 A n (ss.map slv)) (hv : RdV w ss zs) (hz : ∀ z ∈ zs, z.length ≤ 10000000) (hx : ∀ z ∈ zs, ∀ x ∈ z, -9223372036854775808 ≤ x ∧ x ≤ 9223372036854775807) :
    Calls Try.prog 26 #[.slice A n cap] w (SumRet w (sumL zs)) := by
  have HL := Lib.hid hl
  have HR := Lib.hid h
  have HV := Lib.hid hv
  have HZ := Lib.hid hz
  obtain ⟨b, o, A0, n0, c0, z0, rfl, hbl, hs0, hz0, c1, hzl, hr0⟩ := sv_at hl h hv (show 0 < n by omega)
  have HZ0 := Lib.hid (sumL_zeros zs z0 hz0 (hx z0 (List.mem_of_getElem? hz0)))
  rw [hzl] at HZ0
  have hn0 : n0 ≤ 10000000 := by rw [← hzl]; exact hz z0 (List.mem_of_getElem? hz0)
  have d1 : ((n : Int) == 0) = false := by simp; omega
  clear hl h hv hz hz0 hs0 hzl hr0 hx
  rw [Nat.add_zero] at c1
  obtain ⟨i0, hi0, q0, q1, q2⟩ := info_parts slI64.info
  go_enter Try.func26, Try.ntmps26
  go_wp2_with (at_make; go_must (refine wpList_make_full w rfl _ _ _ rfl w.heap.size 2 i0 (.int .i64 0) 1 slI64.slice hi0 q0 q1 .i64 .i64 _ _ n0 rfl rfl rfl rfl (by rw [q2]; omega) (by unfold maxLen; omega) (Nat.le_refl _) ?_); intro W hown hg1)
  have hbW : Below w.heap.size w W := (Below.refl _ _).grown hg1 (Nat.le_refl _) (by simp)
  have HO : Hid (W.ownsRow w.heap.size 2 1 (.slice (some ⟨w.heap.size, 0, none⟩) n0 n0) n0 (iv (List.replicate n0 0))) := Lib.hid (by
    rw [iv_zeros, ← toList_madeCells_one]
    have e : (madeCells (Value.int .i64 0).cells (n0 * 1)) = madeCells #[.int .i64 0] n0 := by rw [Nat.mul_one]; rfl
    rw [← e]
    exact hown)
  clear hown hg1 c1
  go_loopw [5] (fun i wr => ∃ (k : Nat) (acc : List Int), k ≤ n ∧ i = .int .i64 k ∧ Hid (acc.length = n0) ∧ Hid (wr.ownsRow w.heap.size 2 1 (.slice (some ⟨w.heap.size, 0, none⟩) n0 n0) n0 (iv acc)) ∧ Below w.heap.size w wr ∧ Hid (sumL zs = sumFrom acc (zs.drop k))) (fun i _ => n - (intOf i).toNat)
  case atStart => exact ⟨0, List.replicate n0 0, by omega, rfl, Lib.hid (by simp), HO, hbW, HZ0⟩
  case round =>
    clear HO hbW
    obtain ⟨k, acc, hk, rfl, hacc, hO, hb, he⟩ := hrel
    by_cases hlt : k < n
    · obtain ⟨b', o', As, ns, cs, z, e1, hbl', hss, hzk, c2, hzl, hrz⟩ := sv_at HL.out HR.out HV.out hlt
      injection e1 with e1
      injection e1 with e2 e3
      subst e2 e3
      have HZK := Lib.hid hzk
      have HZl := Lib.hid hzl
      have HRZ := Lib.hid hrz
      have hns : ns ≤ 10000000 := by rw [← hzl]; exact HZ.out z (List.mem_of_getElem? hzk)
      have c3 : wr.cell? ⟨b, o + k, none⟩ = some (.slice As ns cs) := (hb.cell (p := ⟨b, o + k, none⟩) hbl).trans c2
      have C2 := Lib.hid c2
      clear hzk hzl hrz hss c2
      by_cases hnn : ns = n0
      · have d2 : ((ns : Int) != (n0 : Int)) = false := by simp [hnn]
        have HNN := Lib.hid hnn
        clear hnn
        obtain ⟨wo, rfl⟩ : ∃ wo : World, wo = wr := ⟨_, rfl⟩
        go_wp2_with fail
        go_loopw [6] (fun i wr => ∃ j : Nat, j ≤ n0 ∧ i = .int .i64 j ∧ Hid (wr.ownsRow w.heap.size 2 1 (.slice (some ⟨w.heap.size, 0, none⟩) n0 n0) n0 (iv (addAt acc 0 z j))) ∧ Below w.heap.size w wr) (fun i _ => n0 - (intOf i).toNat)
        case atStart => exact ⟨0, by omega, rfl, Lib.hid (by rw [addAt_zero]; exact hO.out), hb⟩
        case round =>
          clear hO hb c3
          obtain ⟨j, hj, rfl, hO, hb⟩ := hrel
          by_cases hlt2 : j < n0
          · have hns2 : j < ns := by have := HNN.out; omega
            obtain ⟨b1, o1, y, rfl, hbl1, hy, c4⟩ := iv_at HZl.out HRZ.out hns2
            have c5 : wr.cell? ⟨b, o + k, none⟩ = some (.slice (some ⟨b1, o1, none⟩) ns cs) := (hb.cell (p := ⟨b, o + k, none⟩) hbl).trans C2.out
            have c6 : wr.cell? ⟨b1, o1 + j, none⟩ = some (.int .i64 y) := (hb.cell (p := ⟨b1, o1 + j, none⟩) hbl1).trans c4
            obtain ⟨x, hx⟩ : ∃ x, acc[0 + j]? = some x := ⟨_, List.getElem?_eq_getElem (by rw [hacc.out]; omega)⟩
            have c7 : wr.cell? ⟨w.heap.size, j, none⟩ = some (.int .i64 x) := by
              rw [hO.out.cellAt j (by omega)]
              unfold iv
              have := addAt_at acc 0 z j x hx
              rw [Nat.zero_add] at this
              rw [List.getElem?_map, this]
              rfl
            have f7 := hO.out.frozenAt j
            have HX := Lib.hid hx
            have HY := Lib.hid hy
            have i1 : (0 : Int) ≤ (j : Int) := by omega
            have i2 : (j : Int) < (n0 : Int) := by omega
            have i3 : (j : Int) < (ns : Int) := by omega
            have i4 : (0 : Int) ≤ (k : Int) := by omega
            have i5 : (k : Int) < (n : Int) := by omega
            clear hy hx c4
            go_wp2_with fail
            go_region
            go_wp2
            go_roundw
            case rel => exact ⟨j + 1, by omega, by go_num, Lib.hid (by rw [← addAt_next acc 0 z j x y HX.out HY.out, ← iv_set, Nat.zero_add]; exact (hO.out.stored j _).1), (hb.setCell (p := ⟨w.heap.size, j, none⟩) (Nat.le_refl _) _).drew⟩
            case measure => simp [intOf]; omega
          · obtain rfl : j = n0 := by omega
            go_wp2
            go_roundw
            case rel => exact ⟨k + 1, addL acc z, by omega, by go_num, Lib.hid (by rw [addL_length]; exact hacc.out), Lib.hid (by rw [← addL_is acc z j hacc.out]; exact hO.out), hb, Lib.hid (by rw [he.out]; exact sumFrom_step acc zs k z HZK.out (by rw [HZl.out, hacc.out]; exact HNN.out))⟩
            case measure => simp [intOf]; omega
      · have d2 : ((ns : Int) != (n0 : Int)) = true := by simp; omega
        go_wp2
        go_ret2
        refine sumRet_none ?_ hb
        rw [he.out]
        exact sumFrom_stop acc zs k z HZK.out (by rw [HZl.out, hacc.out]; exact hnn)
    · go_wp2
      go_ret2
      refine sumRet_some ?_ hacc hO hb
      rw [he.out]
      exact sumFrom_end _ _ _ (by rw [← HV.out.1, HL.out]; omega)

end Go.Proofs.Ythbkmhdoakpjgaa
