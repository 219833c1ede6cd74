/-
  The statement's own 'sends'.
-/
import Derived.Test.YtkecpbdgcbgogaaRingRounds
import Derived.Test.YtkecpbdgcbgogaaPairsPlain
namespace Go.Proofs.Ytkecpbdgcbgogaa
set_option linter.unusedVariables false
set_option linter.unusedSimpArgs false
open Go.RowKit

theorem sendsL_snoc (z : Bool) (l : List RAct) (a : RAct) : sendsL z (l ++ [a]) = sendsL z l ++ (if a.1.1 == z then [((false, false), a.2.1, a.2.2)] else []) := by
  rw [sendsL_append]
  congr 1
  unfold sendsL
  by_cases h : a.1.1 == z
  · simp [h]
  · simp [h]

set_option maxHeartbeats 1000000 in
theorem sends_any (z : Bool) (A : Option Addr) (n cap : Nat) (l : List RAct) (w : World) (hl : l.length = n) (h : Rd w 9 A n (acts l)) (hn : n ≤ 1000000) :
    Calls Try.prog 21 #[.slice A n cap, .bool z] w (OwnRet w 85 9 (sendsL z l).length (acts (sendsL z l))) := by
  have HL := Lib.hid hl
  have HBk := Lib.hid (back19_any A n cap l w hl h hn)
  clear hl h
  go_enter Try.func21, Try.ntmps21
  go_wp2_with fail
  ((with_reducible refine HBk.out.mono ?_); rintro e wa ⟨A2, c2, rfl, hown, hba⟩)
  have HR := Lib.hid (Rd.of_own hown)
  have HB := Lib.hid hba
  clear hown hba HBk
  go_wp2_with fail
  go_loopw [5, 11] (fun v i wr => ∃ k n' : Nat, k ≤ n ∧ n' ≤ k ∧ i = .int .i64 k ∧ CollA wa 85 n' (sendsL z (l.take k)) v wr) (fun _ i _ => n - (intOf i).toNat)
  case atStart => exact ⟨0, 0, by omega, by omega, rfl, by simpa [sendsL] using CollA.start wa _⟩
  case round =>
    obtain ⟨k, n', hk, hn', rfl, hcoll⟩ := hrel
    by_cases hlt : k < n
    · obtain ⟨g, o, sd, ad, s, bu, p, r, i, x, y, rfl, hbl, hx, c0, c1, c2, c3, c4, c5, c6, c7, c8⟩ := act_cells HL.out (HR.out.below hcoll.2.2) hlt
      have hsn : sendsL z (l.take (k + 1)) = sendsL z (l.take k) ++ (if sd == z then [((false, false), (s, bu, p, r, i), (x, y))] else []) := by
        obtain ⟨h1, h2⟩ := List.getElem?_eq_some_iff.1 hx
        rw [List.take_succ_eq_append_getElem h1, h2]
        exact sendsL_snoc z _ _
      have HCo := Lib.hid hcoll
      have hzr := hcoll.2.2.size
      obtain ⟨⟨Av, cv, rfl⟩, hownv, _⟩ := hcoll
      have HOv := Lib.hid hownv
      clear hownv hx
      cases hz : sd == z
      · rw [hz] at hsn
        have HSn := Lib.hid hsn
        clear hsn
        go_wp2_with fail
        go_roundw
        case rel => exact ⟨k + 1, n', by omega, by omega, by go_num, by rw [HSn.out]; simpa using HCo.out.below ((Below.refl _ _).alloc (Nat.le_refl _) _)⟩
        case measure => simp [intOf]; omega
      · rw [hz] at hsn
        have HSn := Lib.hid hsn
        clear hsn
        have hz1 : wa.heap.size ≤ (wr.alloc (.cells (actV ((sd, ad), (s, bu, p, r, i), (x, y))).toArray 85)).heap.size := by simp; omega
        have HO2 := Lib.hid (HOv.out.alloc (.cells (actV ((sd, ad), (s, bu, p, r, i), (x, y))).toArray 85))
        go_wp2_with (at_builtin; go_must (refine wpList_push slRefAct rfl _ _ rfl wa.heap.size _ n' (acts (sendsL z (l.take k))) rfl HO2.out (actV ((false, false), (s, bu, p, r, i), (x, y))).toArray _ rfl (by simp) rfl (actV_cells _) (by unfold maxLen; omega) (by omega) hz1 ?_); intro A' cap' w1 hown1 hb1)
        go_roundw
        case rel => exact ⟨k + 1, n' + 1, by omega, by omega, by go_num, by rw [HSn.out]; exact HCo.out.next hown1 (((Below.refl _ _).alloc hzr _).trans hb1)⟩
        case measure => simp [intOf]; omega
    · obtain rfl : k = n := by omega
      rw [List.take_of_length_le (by rw [HL.out]; exact Nat.le_refl _)] at hcoll
      have HCo := Lib.hid hcoll
      have HLN := Lib.hid hcoll.len
      clear hcoll
      go_wp2
      go_ret
      rw [HLN.out]
      exact HCo.out.done.lift HB.out

end Go.Proofs.Ytkecpbdgcbgogaa
