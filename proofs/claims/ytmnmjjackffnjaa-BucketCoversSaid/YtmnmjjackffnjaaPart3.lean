/-
  Contracts of package part and of its reference: Blocks and Covers.
-/
import Derived.Test.YtmnmjjackffnjaaPart2
namespace Go.Proofs.Ytmnmjjackffnjaa
set_option linter.unusedVariables false
set_option linter.unusedSimpArgs false
open Go.RowKit

theorem count_nat (a b : Nat) (w : World) (ha : a ≤ 1000000000) (hb : b ≤ 9223372036854775807) :
    Calls Try.prog 42 #[.int .i64 a, .int .i64 b] w fun e w' => e = .returned (.int .i64 (cnt a b)) ∧ w = w' := by
  have h := count_any a b w (by omega) (by omega) (by omega)
  simpa using h

set_option maxHeartbeats 400000 in
theorem blocks_none (n s : Int) (w : World) (hn : -9223372036854775808 ≤ n) (hn2 : n ≤ 1000000000) (hs : s ≤ 9223372036854775807) (h : n < 1 ∨ s < 1) :
    Calls Try.prog 40 #[.int .i64 n, .int .i64 s] w (OwnRet w 30 2 0 (rv [])) := by
  have H := Lib.hid h
  clear h
  go_enter Try.func40, Try.ntmps40
  go_wp2_with fail
  ((with_reducible refine (count_any n s _ (by omega) (by omega) (by omega)).mono ?_); rintro e w1 ⟨rfl, rfl⟩)
  rw [← cnt_zero n s H.out]
  go_wp2_with fail
  go_loop [5, 11] (fun v c => v = .slice none 0 0 ∧ c = .int .i64 0) (fun _ c => 0)
  case atStart => exact ⟨rfl, rfl⟩
  case round =>
    obtain ⟨rfl, rfl⟩ := hrel
    go_wp2
    go_ret
    exact ⟨none, 0, rfl, World.ownsRow_nil _ _ _ _, Below.refl _ _⟩

set_option maxHeartbeats 1000000 in
theorem blocks_any (a b : Nat) (w : World) (ha1 : 1 ≤ a) (ha : a ≤ 10000000) (hb1 : 1 ≤ b) (hb : b ≤ 9223372036854775807) :
    Calls Try.prog 40 #[.int .i64 a, .int .i64 b] w (OwnRet w 30 2 (cnt a b) (rv (blocksL a b))) := by
  go_enter Try.func40, Try.ntmps40
  go_wp2_with fail
  ((with_reducible refine (count_nat a b _ (by omega) (by omega)).mono ?_); rintro e w1 ⟨rfl, rfl⟩)
  have hc := cnt_le a b
  go_wp2_with fail
  go_loopw [5, 11] (fun v c wr => ∃ i : Nat, i ≤ cnt a b ∧ c = .int .i64 i ∧ Coll w 30 (blocksL a b) i v wr) (fun _ c _ => cnt a b - (intOf c).toNat)
  case atStart => exact ⟨0, by omega, rfl, Coll.start _ _ _⟩
  case round =>
    obtain ⟨i, hi, rfl, hcoll⟩ := hrel
    by_cases hlt : i < cnt a b
    · have hin := (lt_cnt a b i ha1 hb1).1 hlt
      have HX := Lib.hid (blocks_at a b i hlt)
      obtain ⟨q, hq⟩ : ∃ q, i * b = q := ⟨_, rfl⟩
      have hq' : (i : Int) * (b : Int) = (q : Int) := by rw [← hq]; simp
      rw [hq] at HX hin
      clear hq
      by_cases hm : b ≤ a - q
      all_goals
        go_wp2_with (at_builtin; refine wpList_push slPart rfl _ _ rfl w.heap.size _ i (rv ((blocksL a b).take i)) rfl hcoll.2.1 _ _ rfl (by simp) rfl (two_cells _ _) (by unfold maxLen; omega) (by omega) hcoll.2.2.size ?_; intro A' cap' w1 hown1 hb1)
        go_roundw
        case rel => exact ⟨i + 1, by omega, by go_num, hcoll.next (by first | (have := HX.out; rw [Nat.min_eq_left hm] at this; exact Lib.hid this) | (have := HX.out; rw [Nat.min_eq_right (by omega), show ((q + (a - q) : Nat) : Int) = (q : Int) + ((a : Int) - (q : Int)) by omega] at this; exact Lib.hid this)) hown1 hb1⟩
        case measure => simp [intOf]; omega
    · go_wp2
      go_ret
      exact hcoll.done (Lib.hid (blocksL_length a b)) hi hlt

theorem covers_step (n : Int) (l : List (Int × Int)) (k : Nat) (x y at_ : Int) (h : l[k]? = some (x, y)) : coversFrom n (l.drop k) at_ = if x ≠ at_ ∨ y < at_ then false else coversFrom n (l.drop (k + 1)) y := by
  obtain ⟨hk, h⟩ := List.getElem?_eq_some_iff.1 h
  rw [List.drop_eq_getElem_cons hk, h]
  rfl
theorem covers_no {n : Int} {l : List (Int × Int)} {k : Nat} {x y at_ : Int} {v : Bool} (hv : Hid (v = coversFrom n (l.drop k) at_)) (h : Hid (l[k]? = some (x, y))) (h1 : x ≠ at_ ∨ y < at_) : false = v := by
  rw [hv.out, covers_step n l k x y at_ h.out, if_pos h1]
theorem covers_on {n : Int} {l : List (Int × Int)} {k : Nat} {x y at_ : Int} {v : Bool} (hv : Hid (v = coversFrom n (l.drop k) at_)) (h : Hid (l[k]? = some (x, y))) (h1 : x = at_) (h2 : at_ ≤ y) : Hid (v = coversFrom n (l.drop (k + 1)) y) := by
  refine Lib.hid ?_
  rw [hv.out, covers_step n l k x y at_ h.out, if_neg (by omega)]
theorem covers_end {n : Int} {l : List (Int × Int)} {k m : Nat} {at_ : Int} {v : Bool} (hv : Hid (v = coversFrom n (l.drop k) at_)) (h : Hid (l.length = m)) (h1 : ¬ k < m) : (at_ == n) = v := by
  rw [hv.out, List.drop_eq_nil_of_le (by have := h.out; omega)]
  rfl

set_option maxHeartbeats 400000 in
theorem covers_any (i : Int) (A : Option Addr) (n cap : Nat) (l : List (Int × Int)) (w : World) (hl : l.length = n) (h : Rd w 2 A n (rv l)) (hn : n ≤ 1000000) :
    Calls Try.prog 39 #[.int .i64 i, .slice A n cap] w fun e w' => e = .returned (.bool (coversL i l)) ∧ Below w.heap.size w w' := by
  have HL := Lib.hid hl
  have HR := Lib.hid h
  clear hl h
  go_enter Try.func39, Try.ntmps39
  go_wp2_with fail
  go_loopw [5, 10] (fun v c wr => ∃ (k : Nat) (at_ : Int), k ≤ n ∧ c = .int .i64 k ∧ v = .int .i64 at_ ∧ Below w.heap.size w wr ∧ Hid (coversL i l = coversFrom i (l.drop k) at_)) (fun _ c _ => n - (intOf c).toNat)
  case atStart => exact ⟨0, 0, by omega, rfl, rfl, Below.refl _ _, Lib.hid rfl⟩
  case round =>
    obtain ⟨k, at_, hk, rfl, rfl, hb, he⟩ := hrel
    by_cases hlt : k < n
    · obtain ⟨b, o, x, y, rfl, hbl, hx, c1, c2⟩ := rd_at HL.out (HR.out.below hb) hlt
      have HX := Lib.hid hx
      clear hx
      by_cases e1 : x = at_
      · subst e1
        by_cases e2 : x ≤ y
        · go_wp2
          go_roundw
          case rel => exact ⟨k + 1, y, by omega, by go_num, rfl, hb.alloc hb.size _, covers_on he HX rfl e2⟩
          case measure => simp [intOf]; omega
        · have e3 : ¬ y = x := by omega
          go_wp2
          go_ret
          exact ⟨ret_bool (covers_no he HX (by omega)), hb.alloc hb.size _⟩
      · go_wp2
        all_goals (go_ret; exact ⟨ret_bool (covers_no he HX (by omega)), hb.alloc hb.size _⟩)
    · go_wp2
      go_ret
      exact ⟨ret_bool (covers_end he HL hlt), hb⟩

set_option maxHeartbeats 400000 in
theorem refCovers_any (i : Int) (A : Option Addr) (n cap : Nat) (l : List (Int × Int)) (w : World) (hl : l.length = n) (h : Rd w 2 A n (rv l)) (hn : n ≤ 1000000) :
    Calls Try.prog 36 #[.int .i64 i, .slice A n cap] w fun e w' => e = .returned (.bool (coversL i l)) ∧ Below w.heap.size w w' := by
  have HL := Lib.hid hl
  have HR := Lib.hid h
  clear hl h
  go_enter Try.func36, Try.ntmps36
  go_wp2_with fail
  go_loop [5, 6] (fun v c => ∃ (k : Nat) (at_ : Int), k ≤ n ∧ c = .int .i64 k ∧ v = .int .i64 at_ ∧ Hid (coversL i l = coversFrom i (l.drop k) at_)) (fun _ c => n - (intOf c).toNat)
  case atStart => exact ⟨0, 0, by omega, rfl, rfl, Lib.hid rfl⟩
  case round =>
    obtain ⟨k, at_, hk, rfl, rfl, he⟩ := hrel
    by_cases hlt : k < n
    · obtain ⟨b, o, x, y, rfl, hbl, hx, c1, c2⟩ := rd_at HL.out HR.out hlt
      have HX := Lib.hid hx
      clear hx
      by_cases e1 : x = at_
      · subst e1
        by_cases e2 : x ≤ y
        · go_wp2
          go_round
          case rel => exact ⟨k + 1, y, by omega, by go_num, rfl, covers_on he HX rfl e2⟩
          case measure => simp [intOf]; omega
        · go_wp2
          go_ret
          exact ⟨ret_bool (covers_no he HX (by omega)), Below.refl _ _⟩
      · go_wp2
        all_goals (go_ret; exact ⟨ret_bool (covers_no he HX (by omega)), Below.refl _ _⟩)
    · go_wp2
      go_ret
      exact ⟨ret_bool (covers_end he HL hlt), Below.refl _ _⟩

end Go.Proofs.Ytmnmjjackffnjaa
