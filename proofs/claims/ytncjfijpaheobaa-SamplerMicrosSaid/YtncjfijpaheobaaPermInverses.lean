/-
  PermInverses: the walk.
-/
import Derived.Test.YtncjfijpaheobaaPermInv
namespace Go.Proofs.Ytncjfijpaheobaa
set_option linter.unusedVariables false
set_option linter.unusedSimpArgs false
set_option maxRecDepth 100000
open Go.RowKit

theorem fits_nat {x : Int} (h0 : 0 ≤ x) (h1 : x ≤ 1000000) : (Lit.int .i64 x).wf = true := by
  have e1 : IntKind.i64.min = -9223372036854775808 := by decide
  have e2 : IntKind.i64.max = 9223372036854775807 := by decide
  simp [Lit.wf]
  omega

set_option maxHeartbeats 4000000 in
theorem permInverses_any (A : Option Addr) (n c : Nat) (p : List Int) (w : World) (hl : p.length = n) (h : Rd w 1 A n (iv p)) (hn : n ≤ 9223372036854775807) (hw : ∀ x ∈ p, (Lit.int .i64 x).wf = true) :
    Calls Try.prog 10 #[.slice A n c] w fun e w' => e = .returned (.bool true) ∧ Below w.heap.size w w' := by
  by_cases h1 : 200 < n
  · clear hl h hw
    go_enter Try.func10, Try.ntmps10
    go_wp2_with fail
    ((with_reducible refine (alive06_any _).mono ?_); rintro e w1 ⟨rfl, hb1⟩)
    go_wp2
    go_ret
    exact ⟨rfl, hb1⟩
  · have hn' : n ≤ 200 := by omega
    obtain ⟨a, ha⟩ := bool_of (goodTo p n)
    have HV := Lib.hid (fun W (r : Rd W 1 A n (iv p)) => valid_good A n c p W hl r (by omega) hw a ha)
    cases a with
    | false =>
      have hno : ¬ goodTo p n := fun h => absurd (ha.2 h) (by simp)
      have hn0 : n ≠ 0 := fun e => hno (fun i x hi _ => absurd hi (by omega))
      have C1 := Lib.hid (fun W (r : Rd W 1 A n (iv p)) => inverse_none A n c p W hl r (by omega) hw hno)
      have C2 := Lib.hid (fun W (r : Rd W 1 A n (iv p)) => refInverse_none A n c p W hl r (by omega) hno)
      have C3 := Lib.hid (fun W (r : Rd W 1 A n (iv p)) => compose_none A none n 0 c 0 p [] W hl rfl r (Rd.nil _ _ _) (by omega) (by omega) hw (by intro x hx; cases hx) false true ha ⟨fun _ => goodTo_zero [], fun _ => rfl⟩ (.inl hn0))
      have HR := Lib.hid h
      clear hl h hw ha hno hn0
      go_enter Try.func10, Try.ntmps10
      go_wp2_with fail
      ((with_reducible refine (C1.out _ HR.out).mono ?_); rintro e w1 ⟨rfl, hb1⟩)
      have HB1 := Lib.hid hb1
      clear hb1
      go_wp2_with fail
      ((with_reducible refine (C2.out _ (HR.out.below HB1.out)).mono ?_); rintro e w2 ⟨rfl, hb2⟩)
      have HB2 := Lib.hid ((Kept.of HB1.out).call hb2).2.2
      clear hb2
      go_wp2_with fail
      ((with_reducible refine (equalInt_any none none 0 0 0 0 [] [] _ rfl rfl (Rd.nil _ _ _) (Rd.nil _ _ _) (by omega) (by omega)).mono ?_); rintro e w3 ⟨rfl, hb3⟩)
      rw [decide_eq_true (rfl : ([] : List Int) = [])]
      have HB3 := Lib.hid ((Kept.of HB2.out).call hb3).2.2
      clear hb3
      go_wp2_with fail
      ((with_reducible refine (HV.out _ (HR.out.below HB3.out)).mono ?_); rintro e w4 ⟨rfl, hb4⟩)
      have HB4 := Lib.hid ((Kept.of HB3.out).call hb4).2.2
      clear hb4
      go_wp2_with fail
      ((with_reducible refine (C3.out _ (HR.out.below HB4.out)).mono ?_); rintro e w5 ⟨rfl, hb5⟩)
      have HB5 := Lib.hid ((Kept.of HB4.out).call hb5).2.2
      clear hb5
      go_wp2_with fail
      ((with_reducible refine (alive06_any _).mono ?_); rintro e w6 ⟨rfl, hb6⟩)
      go_wp2_with fail
      go_ret
      exact ⟨rfl, ((Kept.of HB5.out).call hb6).2.2⟩
    | true =>
      have hg : goodTo p n := ha.1 rfl
      have hg' : goodTo p p.length := by rw [hl]; exact hg
      have hgi : goodTo (invL p) n := by
        have h := invL_good hg'
        rw [invL_length, hl] at h
        exact h
      have hil : (invL p).length = n := by rw [invL_length, hl]
      have hwi : ∀ x ∈ invL p, (Lit.int .i64 x).wf = true := fun x hx => by
        obtain ⟨k, hk, e⟩ := List.getElem_of_mem hx
        have hb := (hgi k x (by omega) (by rw [List.getElem?_eq_getElem hk, e])).1
        exact fits_nat hb.1 (by omega)
      have C1 := Lib.hid (fun W (r : Rd W 1 A n (iv p)) => inverse_some A n c p W hl r (by omega) hw hg)
      have C2 := Lib.hid (fun W (r : Rd W 1 A n (iv p)) => refInverse_some A n c p W hl r (by omega) hg)
      have C3 := fun B d W (r : Rd W 1 A n (iv p)) (s : Rd W 1 B n (iv (invL p))) => compose_some A B n c d p (invL p) W hl hil r s (by omega) hw hwi hg hgi
      rw [comp_inv hg', hl] at C3
      have HC3 := Lib.hid C3
      have HR := Lib.hid h
      have HIL := Lib.hid hil
      clear hl h hw ha hg hg' hgi hil hwi C3
      go_enter Try.func10, Try.ntmps10
      go_wp2_with fail
      ((with_reducible refine (C1.out _ HR.out).mono ?_); rintro e w1 ⟨A1, c1, rfl, hown1, hb1⟩)
      have HO1 := Lib.hid hown1
      have HB1 := Lib.hid hb1
      clear hown1 hb1
      go_wp2_with fail
      ((with_reducible refine (C2.out _ (HR.out.below HB1.out)).mono ?_); rintro e w2 ⟨A2, c2, rfl, hown2, hb2⟩)
      have HO2 := Lib.hid (own_below HO1.out hb2)
      have HP2 := Lib.hid hown2
      have HB2 := Lib.hid ((Kept.of HB1.out).call hb2).2.2
      clear hown2 hb2
      go_wp2_with fail
      ((with_reducible refine (equalInt_any A1 A2 n n c1 c2 (invL p) (invL p) _ HIL.out HIL.out (Rd.of_own HO2.out) (Rd.of_own HP2.out) (by omega) (by omega)).mono ?_); rintro e w3 ⟨rfl, hb3⟩)
      rw [decide_eq_true (rfl : invL p = invL p)]
      have HO3 := Lib.hid (own_below HO2.out hb3)
      have HB3 := Lib.hid ((Kept.of HB2.out).call hb3).2.2
      clear hb3
      go_wp2_with fail
      ((with_reducible refine (HV.out _ (HR.out.below HB3.out)).mono ?_); rintro e w4 ⟨rfl, hb4⟩)
      have HO4 := Lib.hid (own_below HO3.out hb4)
      have HB4 := Lib.hid ((Kept.of HB3.out).call hb4).2.2
      clear hb4
      go_wp2_with fail
      ((with_reducible refine (HC3.out A1 c1 _ (HR.out.below HB4.out) (Rd.of_own HO4.out)).mono ?_); rintro e w5 ⟨A5, c5, rfl, hown5, hb5⟩)
      have HB5 := Lib.hid ((Kept.of HB4.out).call hb5).2.2
      have HO5 := Lib.hid hown5
      have HLI := Lib.hid (iotaL_length n)
      clear hown5 hb5 HO1 HO2 HP2 HO3 HO4 HB1 HB2 HB3 HB4 C1 C2 HC3 HV
      go_wp2_with fail
      go_loopw [60] (fun i wr => ∃ j : Nat, j ≤ n ∧ i = .int .i64 j ∧ wr = w5) (fun i _ => n - (intOf i).toNat)
      case atStart => exact ⟨0, by omega, rfl, rfl⟩
      case round =>
        obtain ⟨j, hj, rfl, hwr⟩ := hrel
        subst hwr
        by_cases hlt : j < n
        · obtain ⟨g, o, x, rfl, hbl, hx, c1⟩ := iv_at HLI.out (Rd.of_own HO5.out) hlt
          obtain rfl : x = (j : Int) := by rw [iotaL_get n j hlt] at hx; injection hx with e; exact e.symm
          clear hx
          go_wp2_with fail
          go_roundw
          case rel => exact ⟨j + 1, by omega, by go_num, trivial⟩
          case measure => simp [intOf]; omega
        · obtain rfl : j = n := by omega
          go_wp2_with fail
          ((with_reducible refine (alive06_any _).mono ?_); rintro e w6 ⟨rfl, hb6⟩)
          go_wp2_with fail
          go_ret
          exact ⟨rfl, ((Kept.of HB5.out).call hb6).2.2⟩

end Go.Proofs.Ytncjfijpaheobaa
