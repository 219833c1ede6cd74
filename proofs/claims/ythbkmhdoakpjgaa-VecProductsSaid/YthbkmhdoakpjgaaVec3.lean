/-
  Contracts of vec.Sum and of the reference's Sum; the chapter's example.
-/
import Derived.Test.YthbkmhdoakpjgaaVec2
namespace Go.Proofs.Ythbkmhdoakpjgaa
set_option linter.unusedVariables false
set_option linter.unusedSimpArgs false
open Go.RowKit

/-- A vector and true come back, or nothing and false. -/
def SumRet (w : World) (r : Option (List Int)) (e : Ending) (w' : World) : Prop :=
  match r with
  | none => e = .returned (.tuple #[.slice none 0 0, .bool false]) ∧ Below w.heap.size w w'
  | some z => ∃ A cap, e = .returned (.tuple #[.slice A z.length cap, .bool true]) ∧ w'.ownsRow w.heap.size 2 1 (.slice A z.length cap) z.length (iv z) ∧ Below w.heap.size w w'

theorem sumRet_some {w W : World} {r : Option (List Int)} {z : List Int} {A : Option Addr} {n cap : Nat} (h : r = some z) (hl : Hid (z.length = n)) (ho : Hid (W.ownsRow w.heap.size 2 1 (.slice A n cap) n (iv z))) (hb : Below w.heap.size w W) :
    SumRet w r (.returned (.tuple #[.slice A n cap, .bool true])) W := by
  subst h
  have := hl.out
  subst this
  exact ⟨A, cap, rfl, ho.out, hb⟩
theorem sumRet_none {w W : World} {r : Option (List Int)} (h : r = none) (hb : Below w.heap.size w W) : SumRet w r (.returned (.tuple #[.slice none 0 0, .bool false])) W := by
  subst h
  exact ⟨rfl, hb⟩

set_option maxHeartbeats 400000 in
theorem vecSum_nil (A : Option Addr) (cap : Nat) (w : World) :
    Calls Try.prog 32 #[.slice A 0 cap] w (SumRet w (sumL [])) := by
  go_enter Try.func32, Try.ntmps32
  go_wp2
  go_ret2
  exact ⟨none, 0, rfl, World.ownsRow_nil _ _ _ _, Below.refl _ _⟩

set_option maxHeartbeats 1000000 in
theorem vecSum_any (A : Option Addr) (n cap : Nat) (ss : List (Option Addr × Nat × Nat)) (zs : List (List Int)) (w : World) (hl : ss.length = n) (hn1 : 1 ≤ n) (hn : n ≤ 10000000) (hcap : n ≤ cap) (hcm : cap ≤ 9223372036854775807) (h : Rd w 1 A n (ss.map slv)) (hv : RdV w ss zs) (hz : ∀ z ∈ zs, z.length ≤ 10000000) :
    Calls Try.prog 32 #[.slice A n cap] w (SumRet w (sumL zs)) := by
  have HL := Lib.hid hl
  have HR := Lib.hid h
  have HV := Lib.hid hv
  have HZ := Lib.hid hz
  obtain ⟨b, o, A0, n0, c0, z0, rfl, hbl, hs0, hz0, c1, hzl, hr0⟩ := sv_at hl h hv (show 0 < n by omega)
  have HZ0 := Lib.hid hz0
  have HZL := Lib.hid hzl
  have HR0 := Lib.hid hr0
  have hn0 : n0 ≤ 10000000 := by rw [← hzl]; exact hz z0 (List.mem_of_getElem? hz0)
  have d1 : ((n : Int) == 0) = false := by simp; omega
  clear hl h hv hz hz0 hs0 hzl hr0
  rw [Nat.add_zero] at c1
  go_enter Try.func32, Try.ntmps32
  go_wp2_with fail
  ((with_reducible refine (vecClone_any A0 n0 c0 z0 _ HZL.out HR0.out (by omega)).mono ?_); rintro e W ⟨A', cap', rfl, hown, hbW⟩)
  have HO := Lib.hid hown
  clear hown
  by_cases hcap1 : cap = 1
  · obtain rfl : n = 1 := by omega
    subst hcap1
    go_wp2_with fail
    go_loop [20] (fun i => i = .int .i64 0) (fun _ => 0)
    case atStart => rfl
    case round =>
      obtain rfl := hrel
      go_wp2
      go_ret2
      refine sumRet_some ?_ HZL HO hbW
      rw [sumL_first zs z0 HZ0.out]
      exact sumFrom_end _ _ _ (by rw [← HV.out.1, HL.out]; omega)
  · go_wp2_with fail
    go_loopw [20] (fun i wr => ∃ (k : Nat) (acc : List Int), k + 1 ≤ n ∧ i = .int .i64 k ∧ Hid (acc.length = n0) ∧ Hid (wr.ownsRow w.heap.size 2 1 (.slice A' n0 cap') n0 (iv acc)) ∧ Below w.heap.size w wr ∧ Hid (sumL zs = sumFrom acc (zs.drop (k + 1)))) (fun i _ => n - (intOf i).toNat)
    case atStart => exact ⟨0, z0, by omega, rfl, HZL, HO, hbW, Lib.hid (sumL_first zs z0 HZ0.out)⟩
    case round =>
      clear HO hbW
      obtain ⟨k, acc, hk, rfl, hacc, hO, hb, he⟩ := hrel
      by_cases hlt : k + 1 < n
      · obtain ⟨b', o', As, ns, cs, z, e1, hbl', hss, hzk, c2, hzl, hrz⟩ := sv_at HL.out (HR.out.below hb) (HV.out.below hb) hlt
        injection e1 with e1
        injection e1 with e2 e3
        subst e2 e3
        rw [show o + (k + 1) = o + 1 + k by omega] at c2
        have HZK := Lib.hid hzk
        have HZl := Lib.hid hzl
        have HRZ := Lib.hid hrz
        have hns : ns ≤ 10000000 := by rw [← hzl]; exact HZ.out z (List.mem_of_getElem? hzk)
        have HB : Hid (∀ b o', As = some ⟨b, o', none⟩ → 0 < n0 → ns = n0 → b < w.heap.size) := Lib.hid (fun b o' e h hn => by
          obtain ⟨_, _, As2, ns2, cs2, z2, _, _, hss2, _, _, _, hr2⟩ := sv_at HL.out HR.out HV.out hlt
          rw [hss] at hss2
          injection hss2 with hss2
          injection hss2 with q1 q2
          injection q2 with q2 q3
          subst q1 q2 q3
          obtain ⟨b2, o2, e2, hb2, _⟩ := hr2.2 (by omega)
          rw [e] at e2
          injection e2 with e2
          injection e2 with e2
          omega)
        have i1 : k < n - 1 := by omega
        have hsz := hb.size
        clear hzk hzl hrz hss
        by_cases hnn : ns = n0
        · subst hnn
          go_wp2_with fail
          ((with_reducible refine (add_own A' As ns cap' cs w.heap.size acc z _ (by omega) hacc.out HZl.out hO.out (by omega) HRZ.out (fun b o' e h => HB.out b o' e h (by first | rfl | trivial))).mono ?_); rintro e w2 ⟨rfl, h2, h3⟩)
          have H2 := Lib.hid h2
          have hb2 := hb.trans h3
          clear h2 h3 hb
          go_wp2
          go_roundw
          case rel => exact ⟨k + 1, addL acc z, by omega, by go_num, Lib.hid (by rw [addL_length]; exact hacc.out), H2, hb2, Lib.hid (by rw [he.out]; exact sumFrom_step acc zs (k + 1) z HZK.out (by rw [HZl.out, hacc.out]))⟩
          case measure => simp [intOf]; omega
        · go_wp2_with fail
          ((with_reducible refine (add_not A' As n0 ns cap' cs _ (by omega) (by omega) (Ne.symm hnn)).mono ?_); rintro e w2 ⟨rfl, rfl⟩)
          go_wp2
          go_ret2
          refine sumRet_none ?_ hb
          rw [he.out]
          exact sumFrom_stop acc zs (k + 1) z HZK.out (by rw [HZl.out, hacc.out]; exact hnn)
      · have i1 : ¬ k < n - 1 := by omega
        go_wp2
        go_ret2
        refine sumRet_some ?_ hacc hO hb
        rw [he.out]
        exact sumFrom_end _ _ _ (by rw [← HV.out.1, HL.out]; omega)

end Go.Proofs.Ythbkmhdoakpjgaa
