/-
  PermCycles: the walk.
-/
import Derived.Test.YtncjfijpaheobaaCycRef
namespace Go.Proofs.Ytncjfijpaheobaa
set_option linter.unusedVariables false
set_option linter.unusedSimpArgs false
set_option maxRecDepth 100000
open Go.RowKit

/-- How many numbers the first j rows have. -/
def rowsLen (ls : List (List Int)) (j : Nat) : Nat := (ls.take j).flatten.length
theorem rowsLen_succ {ls : List (List Int)} {j : Nat} {l : List Int} (h : ls[j]? = some l) : rowsLen ls (j + 1) = rowsLen ls j + l.length := by
  rw [rowsLen, List.take_add_one, h, rowsLen]
  simp
theorem rowsLen_le (ls : List (List Int)) (j : Nat) : rowsLen ls j ≤ ls.flatten.length := by
  conv => rhs; rw [← List.take_append_drop j ls, List.flatten_append, List.length_append]
  exact Nat.le_add_right _ _

set_option maxHeartbeats 4000000 in
theorem permCycles_any (A : Option Addr) (n c : Nat) (p : List Int) (w : World) (hl : p.length = n) (h : Rd w 1 A n (iv p)) (hn : n ≤ 9223372036854775807) (hw : ∀ x ∈ p, (Lit.int .i64 x).wf = true) :
    Calls Try.prog 9 #[.slice A n c] w fun e w' => e = .returned (.bool true) ∧ Below w.heap.size w w' := by
  by_cases h1 : 200 < n
  · clear hl h hw
    go_enter Try.func9, Try.ntmps9
    go_wp2_with fail
    ((with_reducible refine (alive06_any _).mono ?_); rintro e w1 ⟨rfl, hb1⟩)
    go_wp2
    go_ret
    exact ⟨rfl, hb1⟩
  · have hn' : n ≤ 200 := by omega
    by_cases hg : goodTo p n
    · have C1 := Lib.hid (fun W (r : Rd W 1 A n (iv p)) => cycles_some A n c p W hl r (by omega) hw hg)
      have C2 := Lib.hid (fun W (r : Rd W 1 A n (iv p)) => refCycles_some A n c p W hl r (by omega) hg)
      have hg' : goodTo p p.length := by rw [hl]; exact hg
      have HTOT : Hid ((cycs p n).flatten.length = n) := Lib.hid (by have h := cycs_total hg'; rw [hl] at h; exact h)
      have hcn : (cycs p n).length ≤ n := cycs_length p n
      obtain ⟨ls, hls⟩ : ∃ ls, cycs p n = ls := ⟨_, rfl⟩
      rw [hls] at C1 C2 HTOT hcn
      have HR := Lib.hid h
      clear hl h hw hg hg' hls
      go_enter Try.func9, Try.ntmps9
      go_wp2_with fail
      ((with_reducible refine (C1.out _ HR.out).mono ?_); rintro e w1 ⟨A1, c1, m, vs, rfl, hm, hown1, hon1, hb1⟩)
      have HM := Lib.hid hm
      have hmn : m ≤ n := by omega
      have HO1 := Lib.hid hown1
      have HN1 := Lib.hid hon1
      have HB1 := Lib.hid hb1
      clear hown1 hb1 hon1 hm hcn
      go_wp2_with fail
      ((with_reducible refine (C2.out _ (HR.out.below HB1.out)).mono ?_); rintro e w2 ⟨A2, c2, m2, us, rfl, hm2, hown2, hon2, hb2⟩)
      obtain rfl : m = m2 := by rw [HM.out, hm2]
      have HO2 := Lib.hid (own_below HO1.out hb2)
      have HN2 := Lib.hid (HN1.out.below hb2)
      have HP2 := Lib.hid hown2
      have HQ2 := Lib.hid hon2
      have HB2 := Lib.hid ((Kept.of HB1.out).call hb2).2.2
      clear hown2 hb2 hon2 hm2 HO1 HN1 C1 C2
      go_wp2_with fail
      go_loopw [7, 36] (fun s i wr => ∃ j : Nat, j ≤ m ∧ i = .int .i64 j ∧ s = .int .i64 (rowsLen ls j : Nat) ∧ Below w2.heap.size w2 wr) (fun _ i _ => m - (intOf i).toNat)
      case atStart => exact ⟨0, by omega, rfl, by simp [rowsLen], Below.refl _ _⟩
      case round =>
        obtain ⟨j, hj, rfl, rfl, hb⟩ := hrel
        have HBB := Lib.hid hb
        by_cases hlt : j < m
        · obtain ⟨l, hlj⟩ : ∃ l, ls[j]? = some l := ⟨_, List.getElem?_eq_getElem (by have := HM.out; omega)⟩
          obtain ⟨s1, hs1⟩ : ∃ s, vs[j]? = some s := ⟨_, List.getElem?_eq_getElem (by rw [HN2.out.len]; have := HM.out; omega)⟩
          obtain ⟨s2, hs2⟩ : ∃ s, us[j]? = some s := ⟨_, List.getElem?_eq_getElem (by rw [HQ2.out.len]; have := HM.out; omega)⟩
          obtain ⟨X1, n1, d1⟩ := s1
          obtain ⟨X2, n2, d2⟩ := s2
          obtain ⟨hn1, ho1⟩ := HN2.out.row j _ l hs1 hlj
          obtain ⟨hn2, ho2⟩ := HQ2.out.row j _ l hs2 hlj
          have hn1 : n1 = l.length := hn1
          have hn2 : n2 = l.length := hn2
          subst hn2
          subst hn1
          obtain ⟨b1, o1, e1, hb1, c1⟩ := ((Rd.of_own HO2.out).below hb).2 (by omega)
          obtain ⟨b2, o2, e2, hb2, c2⟩ := ((Rd.of_own HP2.out).below hb).2 (by omega)
          subst e1 e2
          have d1 := c1 j _ (slsv_get hs1)
          have d2 := c2 j _ (slsv_get hs2)
          have R1 := Lib.hid ((Rd.of_own ho1).below hb)
          have R2 := Lib.hid ((Rd.of_own ho2).below hb)
          have HSU := Lib.hid (rowsLen_succ hlj)
          have hle := rowsLen_le ls (j + 1)
          rw [HTOT.out, rowsLen_succ hlj] at hle
          obtain ⟨r, hr⟩ : ∃ r, rowsLen ls j = r := ⟨_, rfl⟩
          rw [hr] at HSU hle ⊢
          obtain ⟨q, hq⟩ : ∃ q, l.length = q := ⟨_, rfl⟩
          have HQQ := Lib.hid hq
          rw [hq] at HSU hle R1 R2 d1 d2
          clear hr ho1 ho2 hs1 hs2 hlj c1 c2 hb hq
          go_wp2_with fail
          ((with_reducible refine (equalInt_any X1 X2 q q _ _ l l _ HQQ.out HQQ.out R1.out R2.out (by omega) (by omega)).mono ?_); rintro e w3 ⟨rfl, hb3⟩)
          rw [decide_eq_true (rfl : l = l)]
          have HB3 := Lib.hid (HBB.out.trans (hb3.mono HBB.out.size))
          clear hb3
          go_wp2_with fail
          go_roundw
          case rel => exact ⟨j + 1, by omega, by go_num, by rw [HSU.out]; go_num, HB3.out⟩
          case measure => simp [intOf]; omega
        · obtain rfl : j = m := by omega
          have hre : rowsLen ls j = n := by rw [rowsLen, List.take_of_length_le (by rw [HM.out]; exact Nat.le_refl _), HTOT.out]
          rw [hre]
          have HB9 := Lib.hid (((Kept.of HB2.out).call HBB.out).2.2)
          clear hb hre
          go_wp2_with fail
          ((with_reducible refine (alive06_any _).mono ?_); rintro e w6 ⟨rfl, hb6⟩)
          go_wp2_with fail
          go_ret
          exact ⟨rfl, ((Kept.of HB9.out).call hb6).2.2⟩
    · have C1 := Lib.hid (fun W (r : Rd W 1 A n (iv p)) => cycles_none A n c p W hl r (by omega) hw hg)
      have C2 := Lib.hid (fun W (r : Rd W 1 A n (iv p)) => refCycles_none A n c p W hl r (by omega) hg)
      have HR := Lib.hid h
      clear hl h hw hg
      go_enter Try.func9, Try.ntmps9
      go_wp2_with fail
      ((with_reducible refine (C1.out _ HR.out).mono ?_); rintro e w1 ⟨rfl, hb1⟩)
      have HB1 := Lib.hid hb1
      clear hb1
      go_wp2_with fail
      ((with_reducible refine (C2.out _ (HR.out.below HB1.out)).mono ?_); rintro e w2 ⟨rfl, hb2⟩)
      have HB2 := Lib.hid ((Kept.of HB1.out).call hb2).2.2
      clear hb2
      go_wp2_with fail
      go_loopw [36] (fun i wr => i = .int .i64 0 ∧ wr = w2) (fun i _ => 0)
      case atStart => exact ⟨rfl, rfl⟩
      case round =>
        obtain ⟨rfl, hwr⟩ := hrel
        subst hwr
        go_wp2_with fail
        ((with_reducible refine (alive06_any _).mono ?_); rintro e w6 ⟨rfl, hb6⟩)
        go_wp2_with fail
        go_ret
        exact ⟨rfl, ((Kept.of HB2.out).call hb6).2.2⟩

end Go.Proofs.Ytncjfijpaheobaa
