/-
  PermComposes: the walk.
-/
import Derived.Test.YtncjfijpaheobaaPermComp
namespace Go.Proofs.Ytncjfijpaheobaa
set_option linter.unusedVariables false
set_option linter.unusedSimpArgs false
set_option maxRecDepth 100000
open Go.RowKit

theorem bool_of (p : Prop) : ∃ a : Bool, a = true ↔ p := ⟨@decide p (Classical.propDecidable p), by simp⟩

set_option maxHeartbeats 2000000 in
theorem permComposes_any (A : Option Addr) (n c : Nat) (p : List Int) (B : Option Addr) (m d : Nat) (q : List Int) (w : World) (hl : p.length = n) (h : Rd w 1 A n (iv p)) (hn : n ≤ 9223372036854775807) (hw : ∀ x ∈ p, (Lit.int .i64 x).wf = true) (hk : q.length = m) (h' : Rd w 1 B m (iv q)) (hm : m ≤ 9223372036854775807) (hw' : ∀ x ∈ q, (Lit.int .i64 x).wf = true) :
    Calls Try.prog 8 #[.slice A n c, .slice B m d] w fun e w' => e = .returned (.bool true) ∧ Below w.heap.size w w' := by
  by_cases h1 : 200 < n
  · clear hl hk h h' hw hw'
    go_enter Try.func8, Try.ntmps8
    go_wp2_with fail
    ((with_reducible refine (alive06_any _).mono ?_); rintro e w1 ⟨rfl, hb1⟩)
    go_wp2
    go_ret
    exact ⟨rfl, hb1⟩
  · by_cases h2 : 200 < m
    · clear hl hk h h' hw hw'
      go_enter Try.func8, Try.ntmps8
      go_wp2_with fail
      ((with_reducible refine (alive06_any _).mono ?_); rintro e w1 ⟨rfl, hb1⟩)
      go_wp2
      go_ret
      exact ⟨rfl, hb1⟩
    · obtain ⟨a, ha⟩ := bool_of (goodTo p n)
      obtain ⟨b, hb⟩ := bool_of (goodTo q m)
      by_cases hc : n = m ∧ a = true ∧ b = true
      · obtain ⟨rfl, rfl, rfl⟩ := hc
        have hgp : goodTo p n := ha.1 rfl
        have hgq : goodTo q n := hb.1 rfl
        have C1 := Lib.hid (compose_some A B n c d p q w hl hk h h' (by omega) hw hw' hgp hgq)
        have C2 := Lib.hid (fun W (r : Rd W 1 A n (iv p)) (s : Rd W 1 B n (iv q)) => refCompose_some A B n c d p q W hl hk r s (by omega) hgp hgq)
        have HR := Lib.hid h
        have HS := Lib.hid h'
        have HCL : Hid ((compL p q).length = n) := Lib.hid (by rw [compL_length, hk])
        clear hl hk h h' hw hw' ha hb hgp hgq
        go_enter Try.func8, Try.ntmps8
        go_wp2_with fail
        ((with_reducible refine C1.out.mono ?_); rintro e w1 ⟨A1, c1, rfl, hown1, hb1⟩)
        have HO1 := Lib.hid hown1
        have HB1 := Lib.hid hb1
        clear hown1 hb1
        go_wp2_with fail
        ((with_reducible refine (C2.out _ (HR.out.below HB1.out) (HS.out.below HB1.out)).mono ?_); rintro e w2 ⟨A2, c2, rfl, hown2, hb2⟩)
        have HO2 := Lib.hid (own_below HO1.out hb2)
        have HP2 := Lib.hid hown2
        have HB2 := Lib.hid ((Kept.of HB1.out).call hb2).2.2
        clear hown2 hb2
        go_wp2_with fail
        ((with_reducible refine (alive06_any _).mono ?_); rintro e w3 ⟨rfl, hb3⟩)
        have HO3 := Lib.hid (own_below HO2.out hb3)
        have HP3 := Lib.hid (own_below HP2.out hb3)
        have HB3 := Lib.hid ((Kept.of HB2.out).call hb3).2.2
        clear hb3
        go_wp2_with fail
        ((with_reducible refine (equalInt_any A1 A2 n n c1 c2 (compL p q) (compL p q) _ HCL.out HCL.out (Rd.of_own HO3.out) (Rd.of_own HP3.out) (by omega) (by omega)).mono ?_); rintro e w4 ⟨rfl, hb4⟩)
        rw [decide_eq_true (rfl : compL p q = compL p q)]
        go_wp2_with fail
        go_ret
        exact ⟨rfl, ((Kept.of HB3.out).call hb4).2.2⟩
      · have hno : n ≠ m ∨ a = false ∨ b = false := by
          by_cases e : n = m
          · cases a with
            | false => exact .inr (.inl rfl)
            | true =>
              cases b with
              | false => exact .inr (.inr rfl)
              | true => exact absurd ⟨e, rfl, rfl⟩ hc
          · exact .inl e
        have C1 := Lib.hid (compose_none A B n m c d p q w hl hk h h' (by omega) (by omega) hw hw' a b ha hb hno)
        have C2 := Lib.hid (fun W (r : Rd W 1 A n (iv p)) (s : Rd W 1 B m (iv q)) => refCompose_none A B n m c d p q W hl hk r s (by omega) (by omega) a b ha hb hno)
        have HR := Lib.hid h
        have HS := Lib.hid h'
        clear hl hk h h' hw hw' ha hb hc hno
        go_enter Try.func8, Try.ntmps8
        go_wp2_with fail
        ((with_reducible refine C1.out.mono ?_); rintro e w1 ⟨rfl, hb1⟩)
        have HB1 := Lib.hid hb1
        clear hb1
        go_wp2_with fail
        ((with_reducible refine (C2.out _ (HR.out.below HB1.out) (HS.out.below HB1.out)).mono ?_); rintro e w2 ⟨rfl, hb2⟩)
        have HB2 := Lib.hid ((Kept.of HB1.out).call hb2).2.2
        clear hb2
        go_wp2_with fail
        ((with_reducible refine (alive06_any _).mono ?_); rintro e w3 ⟨rfl, hb3⟩)
        have HB3 := Lib.hid ((Kept.of HB2.out).call hb3).2.2
        clear hb3
        go_wp2_with fail
        ((with_reducible refine (equalInt_any none none 0 0 0 0 [] [] _ rfl rfl (Rd.nil _ _ _) (Rd.nil _ _ _) (by omega) (by omega)).mono ?_); rintro e w4 ⟨rfl, hb4⟩)
        rw [decide_eq_true (rfl : ([] : List Int) = [])]
        go_wp2_with fail
        go_ret
        exact ⟨rfl, ((Kept.of HB3.out).call hb4).2.2⟩

end Go.Proofs.Ytncjfijpaheobaa
