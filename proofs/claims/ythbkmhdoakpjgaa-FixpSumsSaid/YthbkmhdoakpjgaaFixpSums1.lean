/-
  slices.Clone and slices.Reverse at []int64, the reference's Sum; the plain law of sums.
-/
import Derived.Test.YthbkmhdoakpjgaaFixpSum
import Derived.Test.YthbkmhdoakpjgaaRev
namespace Go.Proofs.Ythbkmhdoakpjgaa
set_option linter.unusedVariables false
set_option linter.unusedSimpArgs false
open Go.RowKit

theorem slI64b : Sl Try.prog 32 2 (.int .i64 0) 1 8 := ⟨Try.underlying32, by kernel_rfl, rfl, by omega⟩

set_option maxHeartbeats 400000 in
theorem clone64_any (A : Option Addr) (n cap : Nat) (l : List Int) (w : World) (hl : l.length = n) (h : Rd w 1 A n (iv l)) (hn : n ≤ 10000000) :
    Calls Try.prog 44 #[.slice A n cap] w (OwnRet w 2 1 n (iv l)) := by
  have HR := Lib.hid h
  have HL := Lib.hid hl
  have hq := fun (w : World) (a : Option Addr) (n c : Nat) => Lib.run_eql_slice_nil (P := Try.prog) w 32 2 a n c 0 0 Try.underlying32
  clear h hl
  cases A with
  | none =>
    have hn0 : n = 0 := by
      rcases Nat.eq_zero_or_pos n with h0 | h0
      · exact h0
      · obtain ⟨b, o, h, _⟩ := HR.out.2 h0; cases h
    subst hn0
    have hl0 : l = [] := List.eq_nil_of_length_eq_zero HL.out
    subst hl0
    go_enter Try.func44, Try.ntmps44
    go_wp2
    go_ret
    exact ⟨none, 0, rfl, World.ownsRow_nil _ _ _ _, Below.refl _ _⟩
  | some ad =>
    go_enter Try.func44, Try.ntmps44
    go_wp2_with (at_builtin; go_must (refine wpList_appendAll slI64b rfl _ _ rfl w.heap.size _ 0 [] rfl (World.ownsRow_lit w #[] 0 (Nat.le_refl _) (by unfold maxLen; omega) rfl) (some ad) n cap (iv l) rfl (HR.out.alloc _) (iv_one l) (by unfold maxLen; omega) (by omega) (by simp) ?_); intro A' cap' w1 hown1 hb1)
    go_ret
    exact ⟨A', cap', by simp, by simpa using hown1, ((Below.refl _ _).alloc (Nat.le_refl _) _).trans hb1⟩

set_option maxHeartbeats 1000000 in
theorem reverse64_any (g n cap base : Nat) (ss : List Int) (w : World) (hl : ss.length = n) (hn : n ≤ 10000000) (hown : w.ownsRow base 2 1 (.slice (some ⟨g, 0, none⟩) n cap) n (iv ss)) :
    Calls Try.prog 45 #[.slice (some ⟨g, 0, none⟩) n cap] w fun e w' => e = .returned (.tuple #[]) ∧ w'.ownsRow base 2 1 (.slice (some ⟨g, 0, none⟩) n cap) n (iv ss.reverse) ∧ w.grownBy w' (some g) := by
  have HL := Lib.hid hl
  have HO := Lib.hid hown
  clear hl hown
  go_enter Try.func45, Try.ntmps45
  go_wp2_with fail
  go_loopw [2, 3] (fun x y wr => ∃ k : Nat, k * 2 ≤ n ∧ x = .int .i64 k ∧ y = .int .i64 ((n : Int) - 1 - k) ∧ wr.ownsRow base 2 1 (.slice (some ⟨g, 0, none⟩) n cap) n (iv (revK ss k)) ∧ w.grownBy wr (some g)) (fun x _ _ => n - (intOf x).toNat)
  case atStart => exact ⟨0, by omega, rfl, by simp, by rw [revK_zero]; exact HO.out, World.grownBy.refl _ _⟩
  case round =>
    obtain ⟨k, hk, rfl, rfl, hown, hg⟩ := hrel
    by_cases hlt : k * 2 + 1 < n
    · obtain ⟨j, hj⟩ : ∃ j, k + j + 1 = n := ⟨n - 1 - k, by omega⟩
      have HLn := HL.out
      rw [show (n : Int) - 1 - (k : Int) = (j : Int) by omega]
      have hkl : k < (revK ss k).length := by rw [revK_length]; omega
      have hjl : j < (revK ss k).length := by rw [revK_length]; omega
      have a1 : (iv (revK ss k))[k]? = some (.int .i64 (revK ss k)[k]) := iv_get _ k hkl
      have b1 : (iv (revK ss k))[j]? = some (.int .i64 (revK ss k)[j]) := iv_get _ j hjl
      have HN := Lib.hid (revK_next ss k j _ _ (by omega) (by omega) (List.getElem?_eq_getElem hkl) (List.getElem?_eq_getElem hjl))
      generalize (revK ss k)[k] = ra at *
      generalize (revK ss k)[j] = rb at *
      have c1 : wr.cell? ⟨g, k, none⟩ = some (.int .i64 ra) := (hown.cellAt k (by omega)).trans a1
      have c3 : wr.cell? ⟨g, j, none⟩ = some (.int .i64 rb) := (hown.cellAt j (by omega)).trans b1
      have f1 := hown.frozenAt k
      have f3 := hown.frozenAt j
      have HOw := Lib.hid hown
      have HJ := Lib.hid hj
      have i1 : (k : Int) < (n : Int) := by omega
      have i2 : (j : Int) < (n : Int) := by omega
      have i3 : (0 : Int) ≤ (k : Int) := by omega
      have i4 : (0 : Int) ≤ (j : Int) := by omega
      have hkj : k < j := by omega
      clear a1 b1 hown hj hkl hjl HLn
      go_wp2_with fail
      go_region
      go_wp2
      go_roundw
      case rel => exact ⟨k + 1, by omega, by go_num, by have := HJ.out; congr 1; omega, by rw [← HN.out, ← iv_set, ← iv_set]; exact (own_swap1 HOw.out k j _ _).1, (hg.trans (own_swap1 HOw.out k j _ _).2)⟩
      case measure => simp [intOf]; omega
    · go_wp2
      go_end0
      exact ⟨rfl, by rw [← revK_done ss k (by have := HL.out; omega)]; exact hown, hg⟩

set_option maxHeartbeats 400000 in
theorem refSum01_any (A : Option Addr) (n cap : Nat) (l : List Int) (w : World) (hl : l.length = n) (h : Rd w 1 A n (iv l)) (hn : n ≤ 10000000) :
    Calls Try.prog 46 #[.slice A n cap] w fun e w' => e = .returned (.int .i64 (sumW l)) ∧ w = w' := by
  have HL := Lib.hid hl
  have HR := Lib.hid h
  clear hl h
  go_enter Try.func46, Try.ntmps46
  go_wp2_with fail
  go_loop [3, 4] (fun v c => ∃ k : Nat, k ≤ n ∧ c = .int .i64 k ∧ v = .int .i64 (sumW (l.take k))) (fun _ c => n - (intOf c).toNat)
  case atStart => exact ⟨0, by omega, rfl, rfl⟩
  case round =>
    obtain ⟨k, hk, rfl, rfl⟩ := hrel
    by_cases hlt : k < n
    · obtain ⟨b, o, x, rfl, hbl, hx, c1⟩ := iv_at HL.out HR.out hlt
      have HX : Hid (sumW (l.take (k + 1)) = wrap64 (sumW (l.take k) + x)) := Lib.hid (by
        obtain ⟨hk', hx'⟩ := List.getElem?_eq_some_iff.1 hx
        rw [List.take_succ_eq_append_getElem hk', hx', sumW_snoc])
      clear hx
      go_wp2
      go_round
      case rel => exact ⟨k + 1, by omega, by go_num, by rw [HX.out]⟩
      case measure => simp [intOf]; omega
    · go_wp2
      go_ret
      exact ⟨ret_int (by rw [List.take_of_length_le (by have := HL.out; omega)]), rfl⟩

theorem foldW (l : List Int) : ∀ s : Int, l.foldl (fun s v => wrap64 (s + v)) (wrap64 s) = wrap64 (s + l.sum) := by
  induction l with
  | nil => intro s; simp
  | cons x l ih =>
    intro s
    have e : wrap64 (wrap64 s + x) = wrap64 (s + x) := by unfold wrap64; omega
    rw [List.foldl_cons, e, ih, List.sum_cons, Int.add_assoc]
theorem sumW_is (l : List Int) : sumW l = wrap64 l.sum := by
  have h := foldW l 0
  rw [show wrap64 0 = 0 by simp [wrap64], Int.zero_add] at h
  exact h
theorem sum_rev (l : List Int) : l.reverse.sum = l.sum := by
  induction l with
  | nil => rfl
  | cons x l ih => rw [List.reverse_cons, List.sum_append, ih]; simp; omega
theorem sumW_rev (l : List Int) : sumW l.reverse = sumW l := by rw [sumW_is, sumW_is, sum_rev]
theorem sumW_groups (l : List Int) (k : Nat) : sumW [sumW (l.take k), sumW (l.drop k)] = sumW l := by
  rw [sumW_is (l.take k), sumW_is (l.drop k), sumW_is l]
  have h : l.sum = (l.take k).sum + (l.drop k).sum := by rw [← List.sum_append, List.take_append_drop]
  rw [h]
  simp only [sumW, List.foldl_cons, List.foldl_nil]
  unfold wrap64
  omega

end Go.Proofs.Ythbkmhdoakpjgaa
