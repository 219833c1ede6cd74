/-
  PermDraws: the walk.
-/
import Derived.Test.YtncjfijpaheobaaPermRefDraw
namespace Go.Proofs.Ytncjfijpaheobaa
set_option linter.unusedVariables false
set_option linter.unusedSimpArgs false
set_option maxRecDepth 100000
open Go.RowKit

theorem drL_inU {p : List Int} (hp : goodTo p p.length) (hn : p.length ≤ 1000) : InU (drL p) := fun x hx => by
  obtain ⟨k, hk, rfl⟩ := List.mem_map.1 hx
  have hk := List.mem_range.1 hk
  have hb := drJ_bound hp (k := k) (by omega)
  omega

set_option maxHeartbeats 4000000 in
theorem permDraws_any (A : Option Addr) (n c : Nat) (p : List Int) (w : World) (hl : p.length = n) (h : Rd w 1 A n (iv p)) (hn : n ≤ 9223372036854775807) (hw : ∀ x ∈ p, (Lit.int .i64 x).wf = true) :
    Calls Try.prog 11 #[.slice A n c] w fun e w' => e = .returned (.bool true) ∧ Below w.heap.size w w' := by
  by_cases h1 : 200 < n
  · clear hl h hw
    go_enter Try.func11, Try.ntmps11
    go_wp2_with fail
    ((with_reducible refine (alive06_any _).mono ?_); rintro e w1 ⟨rfl, hb1⟩)
    go_wp2
    go_ret
    exact ⟨rfl, hb1⟩
  · have hn' : n ≤ 200 := by omega
    by_cases hg : goodTo p n
    · have C1 := Lib.hid (fun W (r : Rd W 1 A n (iv p)) => draws_some A n c p W hl r (by omega) hw hg)
      have C2 := Lib.hid (fun W (r : Rd W 1 A n (iv p)) => refDraws_some A n c p W hl r (by omega) hg)
      have hg' : goodTo p p.length := by rw [hl]; exact hg
      have HDL : Hid ((drL p).length = n - 1) := Lib.hid (by rw [drL_length, hl])
      have HDU := Lib.hid (drL_inU hg' (by omega))
      have HSH : Hid (shufTo n (manyL (drL p) 0 (bndsL n (n - 1))) (n - 1) = p) := Lib.hid (by
        have h2 := many_dr hg'
        have h3 := shuf_all hg'
        rw [hl] at h2 h3
        rw [h2, h3])
      have HR := Lib.hid h
      have HL := Lib.hid hl
      clear hl h hw hg hg'
      obtain ⟨m, hm⟩ : ∃ m, n - 1 = m := ⟨_, rfl⟩
      rw [hm] at C1 C2 HDL HSH
      have hmn : m ≤ n := by omega
      have HM := Lib.hid hm
      clear hm
      go_enter Try.func11, Try.ntmps11
      go_wp2_with fail
      ((with_reducible refine (C1.out _ HR.out).mono ?_); rintro e w1 ⟨A1, c1, rfl, hown1, hb1⟩)
      have HO1 := Lib.hid hown1
      have HB1 := Lib.hid hb1
      clear hown1 hb1
      go_wp2_with fail
      ((with_reducible refine (C2.out _ (HR.out.below HB1.out)).mono ?_); rintro e w2 ⟨A2, c2, rfl, hown2, hb2⟩)
      have HO2 := Lib.hid (own_below HO1.out hb2)
      have HP2 := Lib.hid hown2
      have HB2 := Lib.hid ((Kept.of HB1.out).call hb2).2.2
      clear hown2 hb2
      go_wp2_with fail
      ((with_reducible refine (equalU_any A1 A2 m m c1 c2 (drL p) (drL p) _ HDL.out HDL.out (Rd.of_own HO2.out) (Rd.of_own HP2.out) (by omega) (by omega)).mono ?_); rintro e w3 ⟨rfl, hb3⟩)
      rw [decide_eq_true (rfl : drL p = drL p)]
      have HO3 := Lib.hid (own_below HO2.out hb3)
      have HB3 := Lib.hid ((Kept.of HB2.out).call hb3).2.2
      clear hb3 HO1 HO2 HP2
      go_wp2_with fail
      ((with_reducible refine (drawNew_any A1 m c1 (drL p) _ HDL.out (Rd.of_own HO3.out) (by omega) HDU.out).mono ?_); rintro e w4 ⟨g, A4, c4, rfl, hst, hg4, _, hb4⟩)
      have HS := Lib.hid hst
      have HB4 := Lib.hid ((Kept.of HB3.out).call hb4).2.2
      have hgw : w.heap.size ≤ g := Nat.le_trans HB3.out.size hg4
      clear hst hb4 hg4
      go_wp2_with fail
      ((with_reducible refine (shuffle_some g m c4 n A4 (drL p) _ HS.out (by omega) (by have := HM.out; omega) (by omega)).mono ?_); rintro e w5 ⟨A5, c5, rfl, hown5, hg5⟩)
      have hown5' := hown5
      rw [HM.out, HSH.out] at hown5'
      have HO5 := Lib.hid hown5'
      have HB5 := Lib.hid (below_gr HB4.out HB4.out.size hg5 hgw)
      clear hown5 hown5' hg5
      go_wp2_with fail
      ((with_reducible refine (alive06_any _).mono ?_); rintro e w6 ⟨rfl, hb6⟩)
      have HO6 := Lib.hid (own_below HO5.out hb6)
      have HB6 := Lib.hid ((Kept.of HB5.out).call hb6).2.2
      clear hb6
      go_wp2_with fail
      ((with_reducible refine (equalInt_any A5 A n n c5 c p p _ HL.out HL.out (Rd.of_own HO6.out) (HR.out.below HB6.out) (by omega) (by omega)).mono ?_); rintro e w7 ⟨rfl, hb7⟩)
      rw [decide_eq_true (rfl : p = p)]
      go_wp2_with fail
      go_ret
      exact ⟨rfl, ((Kept.of HB6.out).call hb7).2.2⟩
    · have C1 := Lib.hid (fun W (r : Rd W 1 A n (iv p)) => draws_none A n c p W hl r (by omega) hw hg)
      have C2 := Lib.hid (fun W (r : Rd W 1 A n (iv p)) => refDraws_none A n c p W hl r (by omega) hg)
      have HR := Lib.hid h
      clear hl h hw hg
      go_enter Try.func11, Try.ntmps11
      go_wp2_with fail
      ((with_reducible refine (C1.out _ HR.out).mono ?_); rintro e w1 ⟨rfl, hb1⟩)
      have HB1 := Lib.hid hb1
      clear hb1
      go_wp2_with fail
      ((with_reducible refine (C2.out _ (HR.out.below HB1.out)).mono ?_); rintro e w2 ⟨rfl, hb2⟩)
      have HB2 := Lib.hid ((Kept.of HB1.out).call hb2).2.2
      clear hb2
      go_wp2_with fail
      ((with_reducible refine (equalU_any none none 0 0 0 0 [] [] _ rfl rfl (Rd.nil _ _ _) (Rd.nil _ _ _) (by omega) (by omega)).mono ?_); rintro e w3 ⟨rfl, hb3⟩)
      rw [decide_eq_true (rfl : ([] : List Int) = [])]
      have HB3 := Lib.hid ((Kept.of HB2.out).call hb3).2.2
      clear hb3
      go_wp2_with fail
      ((with_reducible refine (alive06_any _).mono ?_); rintro e w6 ⟨rfl, hb6⟩)
      go_wp2_with fail
      go_ret
      exact ⟨rfl, ((Kept.of HB3.out).call hb6).2.2⟩

end Go.Proofs.Ytncjfijpaheobaa
