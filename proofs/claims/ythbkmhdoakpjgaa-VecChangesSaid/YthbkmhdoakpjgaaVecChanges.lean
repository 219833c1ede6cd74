/-
  VecChanges: if one element of a vector is changed, it has another hash: plain laws and the walk.
-/
import Derived.Test.YthbkmhdoakpjgaaVec4
namespace Go.Proofs.Ythbkmhdoakpjgaa
set_option linter.unusedVariables false
set_option linter.unusedSimpArgs false
open Go.RowKit

theorem prime_inj (a b : Int) (h : a * 1099511628211 % 18446744073709551616 = b * 1099511628211 % 18446744073709551616) : a % 18446744073709551616 = b % 18446744073709551616 := by
  have h1 := cong_mul 14886173955864302971 h
  have e : ∀ x : Int, x * 1099511628211 * 14886173955864302971 % 18446744073709551616 = x % 18446744073709551616 := by
    intro x
    rw [Int.mul_assoc, show (1099511628211 : Int) * 14886173955864302971 = 1 + 18446744073709551616 * 887285111055 by decide]
    omega
  rw [e, e] at h1
  exact h1
theorem hs1_range (h x : Int) : 0 ≤ hs1 h x ∧ hs1 h x < 18446744073709551616 := by unfold hs1; rw [wu']; omega
theorem hs1_is (h x : Int) : hs1 h x = ((h + x) % 18446744073709551616) * 1099511628211 % 18446744073709551616 := by
  unfold hs1
  rw [wu', wu', wu', Int.add_emod_emod]
theorem hs1_inj (h k x y : Int) (e : hs1 h x = hs1 k y) : (h + x) % 18446744073709551616 = (k + y) % 18446744073709551616 := by
  rw [hs1_is, hs1_is] at e
  have h1 := prime_inj ((h + x) % 18446744073709551616) ((k + y) % 18446744073709551616) e
  rw [Int.emod_emod, Int.emod_emod] at h1
  exact h1
theorem hashF_ne : ∀ (l : List Int) (h k : Int), 0 ≤ h → h < 18446744073709551616 → 0 ≤ k → k < 18446744073709551616 → h ≠ k → hashF l h ≠ hashF l k
  | [], h, k, _, _, _, _, hne => hne
  | x :: l, h, k, h0, h1, k0, k1, hne => by
    have a := hs1_range h x
    have b := hs1_range k x
    refine hashF_ne l _ _ a.1 a.2 b.1 b.2 fun e => ?_
    have := hs1_inj h k x x e
    omega
theorem hash_set : ∀ (l : List Int) (i : Nat) (x y h : Int), 0 ≤ h → h < 18446744073709551616 → l[i]? = some x → (x - y) % 18446744073709551616 ≠ 0 → hashF (l.set i y) h ≠ hashF l h
  | [], i, x, y, h, _, _, hx, _ => by simp at hx
  | z :: l, 0, x, y, h, h0, h1, hx, hne => by
    simp at hx
    subst hx
    have a := hs1_range h y
    have b := hs1_range h z
    refine hashF_ne l _ _ a.1 a.2 b.1 b.2 fun e => ?_
    have := hs1_inj h h y z e
    omega
  | z :: l, i + 1, x, y, h, h0, h1, hx, hne => by
    have b := hs1_range h z
    exact hash_set l i x y _ b.1 b.2 (by simpa using hx) hne
theorem hash_changes (l : List Int) (i : Nat) (x c : Int) (hx : l[i]? = some x) (hc : c ≠ 0) (hr : -9223372036854775808 ≤ c ∧ c ≤ 9223372036854775807) : (hashL (l.set i (wrap64 (x + c))) != hashL l) = true := by
  rw [bne_iff_ne]
  exact hash_set l i x _ 1 (by omega) (by omega) hx (by unfold wrap64; omega)

set_option maxHeartbeats 1000000 in
theorem vecChanges_not (A : Option Addr) (n cap : Nat) (at_ c : Int) (w : World) (hm : n ≤ 9223372036854775807) (h : 1500 < n ∨ n = 0 ∨ c = 0) :
    Calls Try.prog 8 #[.slice A n cap, .int .u16 at_, .int .i64 c] w fun e w' => e = .returned (.bool true) ∧ Below w.heap.size w w' := by
  by_cases hn : n ≤ 1500
  · have d1 : decide (n ≤ 1500) = true := decide_eq_true hn
    by_cases hn0 : n = 0
    · have d2 : ((n : Int) == 0) = true := by simp [hn0]
      have HN := Lib.hid hn0
      clear hn0 h
      go_enter Try.func8, Try.ntmps8
      go_wp2_with fail
      ((with_reducible refine (few1_any A n cap _ _ hm (rd_new' w #[.slice A n cap] 32 1 1 rfl)).mono ?_); rintro e w1 ⟨rfl, rfl⟩)
      rw [d1]
      go_wp2_with fail
      ((with_reducible refine (alive03_any _).mono ?_); rintro e w2 ⟨rfl, hb2⟩)
      have hb := ((Below.refl w.heap.size w).alloc (Nat.le_refl _) _).trans (hb2.mono (by simp))
      clear hb2
      go_wp2
      go_ret
      exact ⟨rfl, hb⟩
    · have d2 : ((n : Int) == 0) = false := by simp [hn0]
      have hc : c = 0 := by omega
      have d3 : (c == 0) = true := by simp [hc]
      have HC := Lib.hid hc
      clear hc h
      go_enter Try.func8, Try.ntmps8
      go_wp2_with fail
      ((with_reducible refine (few1_any A n cap _ _ hm (rd_new' w #[.slice A n cap] 32 1 1 rfl)).mono ?_); rintro e w1 ⟨rfl, rfl⟩)
      rw [d1]
      go_wp2_with fail
      ((with_reducible refine (alive03_any _).mono ?_); rintro e w2 ⟨rfl, hb2⟩)
      have hb := ((Below.refl w.heap.size w).alloc (Nat.le_refl _) _).trans (hb2.mono (by simp))
      clear hb2
      go_wp2
      go_ret
      exact ⟨rfl, hb⟩
  · have d1 : decide (n ≤ 1500) = false := decide_eq_false hn
    clear h
    go_enter Try.func8, Try.ntmps8
    go_wp2_with fail
    ((with_reducible refine (few1_any A n cap _ _ hm (rd_new' w #[.slice A n cap] 32 1 1 rfl)).mono ?_); rintro e w1 ⟨rfl, rfl⟩)
    rw [d1]
    go_wp2_with fail
    ((with_reducible refine (alive03_any _).mono ?_); rintro e w2 ⟨rfl, hb2⟩)
    have hb := ((Below.refl w.heap.size w).alloc (Nat.le_refl _) _).trans (hb2.mono (by simp))
    clear hb2
    go_wp2
    go_ret
    exact ⟨rfl, hb⟩

set_option maxHeartbeats 1000000 in
theorem vecChanges_some (A : Option Addr) (n cap at_ : Nat) (c : Int) (l : List Int) (w : World) (hn : n ≤ 1500) (hn1 : 1 ≤ n) (hat : at_ ≤ 65535) (hc : c ≠ 0) (hr : -9223372036854775808 ≤ c ∧ c ≤ 9223372036854775807) (hl : l.length = n) (h : Rd w 1 A n (iv l)) :
    Calls Try.prog 8 #[.slice A n cap, .int .u16 at_, .int .i64 c] w fun e w' => e = .returned (.bool true) ∧ Below w.heap.size w w' := by
  have d1 : decide (n ≤ 1500) = true := decide_eq_true hn
  have d2 : ((n : Int) == 0) = false := by simp; omega
  have d3 : (c == 0) = false := by simp [hc]
  have HL := Lib.hid hl
  have HR := Lib.hid h
  have HCR := Lib.hid (And.intro hc hr)
  clear hl h hr hc
  go_enter Try.func8, Try.ntmps8
  go_wp2_with fail
  ((with_reducible refine (few1_any A n cap _ _ (by omega) (rd_new' w #[.slice A n cap] 32 1 1 rfl)).mono ?_); rintro e w1 ⟨rfl, rfl⟩)
  rw [d1]
  go_wp2_with fail
  ((with_reducible refine (refClone_any A n cap l _ HL.out (HR.out.alloc _) (by omega)).mono ?_); rintro e W ⟨A', cap', rfl, hown, hbW⟩)
  obtain ⟨A2, cap2, hv, _, _, hf⟩ := own_form hown
  injection hv with hA _ hC
  subst hA hC
  obtain ⟨g, rfl, hg1, hg2⟩ := hf (by omega)
  have hmod := Nat.mod_lt at_ (show 0 < n by omega)
  obtain ⟨i, hi⟩ : ∃ i, at_ % n = i := ⟨_, rfl⟩
  have hi' : (at_ : Int) % (n : Int) = (i : Int) := by rw [← hi]; simp
  rw [hi] at hmod
  have hil : i < l.length := by rw [HL.out]; exact hmod
  have c1 : W.cell? ⟨g, i, none⟩ = some (.int .i64 l[i]) := (hown.cellAt i (by omega)).trans (iv_get l i hil)
  have f1 := hown.frozenAt i
  have HX := Lib.hid (List.getElem?_eq_getElem hil)
  generalize l[i] = x at *
  obtain ⟨hst, hgr⟩ := hown.stored i (.int .i64 (wrap64 (x + c)))
  rw [iv_set] at hst
  have HST := Lib.hid hst
  have HLS : Hid ((l.set i (wrap64 (x + c))).length = n) := Lib.hid (by rw [List.length_set]; exact HL.out)
  have HCH := Lib.hid (hash_changes l i x c HX.out HCR.out.1 HCR.out.2)
  have hbW2 : Below w.heap.size w (W.setCell ⟨g, i, none⟩ (.int .i64 (wrap64 (x + c)))) := (((Below.refl w.heap.size w).alloc (Nat.le_refl _) _).trans (hbW.mono (by simp))).setCell (p := ⟨g, i, none⟩) (by show w.heap.size ≤ g; simp at hg1; omega) _
  clear hown hf hst hgr hil hi hbW hg1
  have i1 : 0 ≤ (i : Int) := by omega
  have i2 : (i : Int) < (n : Int) := by omega
  go_wp2_with fail
  ((with_reducible refine (alive03_any _).mono ?_); rintro e w2 ⟨rfl, hb2⟩)
  have HST2 := Lib.hid (own_below HST.out hb2)
  have hb := hbW2.trans (hb2.mono hbW2.size)
  clear HST hb2 hbW2 c1 f1 hi'
  go_wp2_with fail
  ((with_reducible refine (hash_any _ n cap' _ _ HLS.out (Rd.of_own HST2.out) (by omega)).mono ?_); rintro e w3 ⟨rfl, rfl⟩)
  go_wp2_with fail
  ((with_reducible refine (hash_any A n cap l _ HL.out (HR.out.below hb) (by omega)).mono ?_); rintro e w3 ⟨rfl, rfl⟩)
  have hch := HCH.out
  go_wp2_with fail
  ((with_reducible refine (hash_any _ n cap' _ _ HLS.out (Rd.of_own HST2.out) (by omega)).mono ?_); rintro e w3 ⟨rfl, rfl⟩)
  go_wp2_with fail
  ((with_reducible refine (refHash_any _ n cap' _ _ HLS.out (Rd.of_own HST2.out) (by omega)).mono ?_); rintro e w3 ⟨rfl, rfl⟩)
  go_wp2
  go_ret
  exact ⟨rfl, hb⟩

theorem vecChanges_any (A : Option Addr) (n cap : Nat) (l : List Int) (at_ c : Int) (w : World) (hm : n ≤ 9223372036854775807) (hl : l.length = n) (h : Rd w 1 A n (iv l)) (hat : 0 ≤ at_ ∧ at_ ≤ 65535) (hr : -9223372036854775808 ≤ c ∧ c ≤ 9223372036854775807) :
    Calls Try.prog 8 #[.slice A n cap, .int .u16 at_, .int .i64 c] w fun e w' => e = .returned (.bool true) ∧ Below w.heap.size w w' := by
  by_cases h1 : 1500 < n ∨ n = 0 ∨ c = 0
  · exact vecChanges_not A n cap at_ c w hm h1
  · obtain ⟨k, rfl⟩ := Int.eq_ofNat_of_zero_le hat.1
    exact vecChanges_some A n cap k c l w (by omega) (by omega) (by omega) (by omega) hr hl h

end Go.Proofs.Ythbkmhdoakpjgaa
