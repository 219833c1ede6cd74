/-
  Contracts of the reference of package part: Blocks and Even; the chapter's example.
-/
import Derived.Test.YtmnmjjackffnjaaPart3
namespace Go.Proofs.Ytmnmjjackffnjaa
set_option linter.unusedVariables false
set_option linter.unusedSimpArgs false
open Go.RowKit

set_option maxHeartbeats 400000 in
theorem refBlocks_none (n s : Int) (w : World) (h : n < 1 ∨ s < 1) :
    Calls Try.prog 41 #[.int .i64 n, .int .i64 s] w (OwnRet w 23 2 0 (rv [])) := by
  go_enter Try.func41, Try.ntmps41
  go_wp2
  all_goals (go_ret; exact ⟨none, 0, rfl, World.ownsRow_nil _ _ _ _, Below.refl _ _⟩)

set_option maxHeartbeats 1000000 in
theorem refBlocks_any (a b : Nat) (w : World) (ha1 : 1 ≤ a) (ha : a ≤ 10000000) (hb1 : 1 ≤ b) (hb : b ≤ 9223372036854775807) :
    Calls Try.prog 41 #[.int .i64 a, .int .i64 b] w (OwnRet w 23 2 (cnt a b) (rv (blocksL a b))) := by
  have hc := cnt_le a b
  have d1 : decide ((a : Int) < 1) = false := decide_eq_false (by omega)
  have d2 : decide ((b : Int) < 1) = false := decide_eq_false (by omega)
  go_enter Try.func41, Try.ntmps41
  go_wp2_with fail
  go_loopw [5, 6] (fun v c wr => ∃ i q : Nat, i ≤ cnt a b ∧ Hid (q = min (i * b) a) ∧ c = .int .i64 q ∧ Coll w 23 (blocksL a b) i v wr) (fun _ c _ => a - (intOf c).toNat)
  case atStart => exact ⟨0, 0, by omega, Lib.hid (by simp), rfl, Coll.start _ _ _⟩
  case round =>
    obtain ⟨i, q, hi, hq, rfl, hcoll⟩ := hrel
    by_cases hlt : q < a
    · have hqi : i * b = q := by have := hq.out; omega
      have hic : i < cnt a b := (lt_cnt a b i ha1 hb1).2 (by omega)
      have HX := Lib.hid (blocks_at a b i hic)
      rw [hqi] at HX
      have hnext : (i + 1) * b = q + b := by rw [Nat.add_mul, hqi]; omega
      have HN := Lib.hid hnext
      clear hnext hqi
      by_cases hm : b < a - q
      · go_wp2_with (at_builtin; refine wpList_push slRef rfl _ _ rfl w.heap.size _ i (rv ((blocksL a b).take i)) rfl hcoll.2.1 _ _ rfl (by simp) rfl (two_cells _ _) (by unfold maxLen; omega) (by omega) hcoll.2.2.size ?_; intro A' cap' w1 hown1 hb1)
        go_roundw
        case rel => exact ⟨i + 1, q + b, by omega, Lib.hid (by rw [HN.out]; omega), by go_num, hcoll.next (by have := HX.out; rw [Nat.min_eq_left (by omega)] at this; exact Lib.hid this) hown1 hb1⟩
        case measure => simp [intOf]; omega
      · go_wp2_with (at_builtin; refine wpList_push slRef rfl _ _ rfl w.heap.size _ i (rv ((blocksL a b).take i)) rfl hcoll.2.1 _ _ rfl (by simp) rfl (two_cells _ _) (by unfold maxLen; omega) (by omega) hcoll.2.2.size ?_; intro A' cap' w1 hown1 hb1)
        go_roundw
        case rel => exact ⟨i + 1, a, by omega, Lib.hid (by rw [HN.out]; omega), rfl, hcoll.next (by have := HX.out; rw [Nat.min_eq_right (by omega), show q + (a - q) = a by omega] at this; exact Lib.hid this) hown1 hb1⟩
        case measure => simp [intOf]; omega
    · have hnc : ¬ i < cnt a b := fun h => by have := (lt_cnt a b i ha1 hb1).1 h; have := hq.out; omega
      go_wp2
      go_ret
      exact hcoll.done (Lib.hid (blocksL_length a b)) hi hnc

/-- The numbers that are dealt, as cells. -/
def dealtV (n k : Nat) : List Value := (List.range k).map fun j => .int .i64 (dealt n k j)
theorem dealtV_zero (k : Nat) : dealtV 0 k = List.replicate k (.int .i64 0) := by
  unfold dealtV
  simp only [dealt_zero]
  apply List.ext_getElem?
  intro i
  by_cases h : i < k <;> simp [h]
theorem dealtV_get (n k j : Nat) (h : j < k) : (dealtV n k)[j]? = some (.int .i64 (dealt n k j)) := by simp [dealtV, h]
theorem dealtV_set (n k : Nat) (hk : 1 ≤ k) : (dealtV n k).set (n % k) (.int .i64 ((dealt n k (n % k) : Int) + 1)) = dealtV (n + 1) k := by
  apply List.ext_getElem?
  intro i
  rw [List.getElem?_set]
  by_cases h : i < k
  · rw [dealtV_get _ _ _ h, dealtV_get _ _ _ h]
    by_cases e : n % k = i
    · rw [if_pos e, if_pos (by simp [dealtV]; omega), ← e, dealt_here n k hk]
      simp
    · rw [if_neg e, dealt_there n k i hk h (fun h => e h.symm)]
  · rw [List.getElem?_eq_none (by simp [dealtV]; omega), List.getElem?_eq_none (by simp [dealtV]; omega)]
    rw [if_neg (by have := Nat.mod_lt n (show 0 < k by omega); omega)]

set_option maxHeartbeats 400000 in
theorem refEven_none (n k : Int) (w : World) (h : n < 0 ∨ k < 1) :
    Calls Try.prog 38 #[.int .i64 n, .int .i64 k] w (OwnRet w 23 2 0 (rv [])) := by
  go_enter Try.func38, Try.ntmps38
  go_wp2
  all_goals (go_ret; exact ⟨none, 0, rfl, World.ownsRow_nil _ _ _ _, Below.refl _ _⟩)

theorem slInt : Sl Try.prog 74 3 (.int .i64 0) 1 8 := ⟨Try.underlying74, by kernel_rfl, rfl, by omega⟩

set_option maxHeartbeats 1000000 in
theorem refEven_any (n k : Nat) (w : World) (hn : n ≤ 1000000000) (hk1 : 1 ≤ k) (hk : k ≤ 10000000) :
    Calls Try.prog 38 #[.int .i64 n, .int .i64 k] w (OwnRet w 23 2 k (rv (evenL n k))) := by
  have d1 : decide ((n : Int) < 0) = false := decide_eq_false (by omega)
  have d2 : decide ((k : Int) < 1) = false := decide_eq_false (by omega)
  obtain ⟨i0, hi0, hz0, hz1, hz2⟩ := info_parts slInt.info
  go_enter Try.func38, Try.ntmps38
  go_wp2_with (at_make; go_must (refine wpList_make_full w rfl _ _ _ rfl w.heap.size 3 i0 (.int .i64 0) 1 slInt.slice hi0 hz0 hz1 .i64 .i64 _ _ k rfl rfl rfl rfl (by rw [hz2]; omega) (by unfold maxLen; omega) (Nat.le_refl _) ?_); intro w1 hown1 hg1)
  have hb1 : Below w.heap.size w w1 := (Below.refl _ _).grown hg1 (Nat.le_refl _) (by simp)
  have hown : w1.ownsRow w.heap.size 3 1 (.slice (some ⟨w.heap.size, 0, none⟩) k k) k (dealtV 0 k) := by
    rw [dealtV_zero]
    have e : (madeCells (Value.int .i64 0).cells (k * 1)).toList = List.replicate k (.int .i64 0) := by
      rw [Nat.mul_one]; exact toList_madeCells_one _ _
    rw [← e]; exact hown1
  have hlt1 := (hown.lt w.heap.size rfl).2
  clear hown1 hg1
  go_loopw [6] (fun c wr => ∃ i : Nat, i ≤ n ∧ c = .int .i64 i ∧ wr.ownsRow w.heap.size 3 1 (.slice (some ⟨w.heap.size, 0, none⟩) k k) k (dealtV i k) ∧ Below w.heap.size w wr) (fun c _ => n - (intOf c).toNat)
  case atStart => exact ⟨0, by omega, rfl, hown, hb1⟩
  case round =>
    clear hown hb1 hlt1
    obtain ⟨i, hi, rfl, hown, hb⟩ := hrel
    by_cases hlt : i < n
    · have hmod := Nat.mod_lt i (show 0 < k by omega)
      have hdl := dealt_le i k (i % k)
      have c1 : wr.cell? ⟨w.heap.size, i % k, none⟩ = some (.int .i64 (dealt i k (i % k))) := by
        rw [hown.cellAt (i % k) (by omega), dealtV_get _ _ _ hmod]
      have f1 := hown.frozenAt (i % k)
      obtain ⟨hst, _⟩ := hown.stored (i % k) (.int .i64 ((dealt i k (i % k) : Int) + 1))
      rw [dealtV_set i k hk1] at hst
      have HS := Lib.hid hst
      have HO := Lib.hid hown
      clear hst hown
      go_wp2
      go_roundw
      case rel => exact ⟨i + 1, by omega, by go_num, HS.out, hb.setCell (p := ⟨w.heap.size, i % k, none⟩) (Nat.le_refl _) _⟩
      case measure => simp [intOf]; omega
    · obtain rfl : i = n := by omega
      obtain ⟨W1, rfl⟩ : ∃ W1 : World, W1 = wr := ⟨_, rfl⟩
      have hlt1 := (hown.lt w.heap.size rfl).2
      have HO := Lib.hid hown
      clear hown
      go_wp2_with fail
      go_loopw [7, 8, 9] (fun v p c wr => ∃ j : Nat, j ≤ k ∧ c = .int .i64 j ∧ p = .int .i64 (bnd i k j) ∧ Coll W1 23 (evenL i k) j v wr) (fun _ _ c _ => k - (intOf c).toNat)
      case atStart => exact ⟨0, by omega, rfl, by rw [bnd_zero]; rfl, Coll.start _ _ _⟩
      case round =>
        obtain ⟨j, hj, rfl, rfl, hcoll⟩ := hrel
        by_cases hlt2 : j < k
        · have c1 : wr.cell? ⟨w.heap.size, j, none⟩ = some (.int .i64 (dealt i k j)) := by
            rw [hcoll.2.2.cell (p := ⟨w.heap.size, j, none⟩) hlt1, HO.out.cellAt j (by omega), dealtV_get _ _ _ hlt2]
          have hbs := bnd_succ i k j
          have hbl := bnd_le i k (j + 1) hk1 (by omega)
          have HX := Lib.hid (even_at i k j hlt2)
          rw [hbs] at hbl HX
          have HB := Lib.hid hbs
          clear hbs
          generalize bnd i k j = x at *
          generalize dealt i k j = y at *
          go_wp2_with (at_builtin; go_must (refine wpList_push slRef rfl _ _ rfl W1.heap.size _ j (rv ((evenL i k).take j)) rfl hcoll.2.1 _ _ rfl (by simp) rfl (two_cells _ _) (by unfold maxLen; omega) (by omega) hcoll.2.2.size ?_); intro A' cap' w2 hown2 hb2; have c2 : w2.cell? ⟨w.heap.size, j, none⟩ = some (.int .i64 y) := (hb2.cell (p := ⟨w.heap.size, j, none⟩) hlt1).trans c1)
          go_roundw
          case rel => exact ⟨j + 1, by omega, by go_num, by rw [HB.out]; simp, hcoll.next HX hown2 hb2⟩
          case measure => simp [intOf]; omega
        · obtain rfl : j = k := by omega
          go_wp2
          go_ret
          exact (hcoll.done (Lib.hid (evenL_length _ _)) hj hlt2).lift hb

theorem even52 : evenL 5 2 = [(0, 3), (3, 5)] := by decide

theorem even52_any (w : World) : Calls Try.prog 34 #[.int .i64 5, .int .i64 2] w (OwnRet w 30 2 2 (rv [(0, 3), (3, 5)])) := by
  have h := even_any 5 2 w (by omega) (by omega) (by omega)
  rw [even52] at h
  exact h
theorem count52_any (w : World) : Calls Try.prog 42 #[.int .i64 5, .int .i64 2] w fun e w' => e = .returned (.int .i64 3) ∧ w = w' := count_nat 5 2 w (by omega) (by omega)
theorem rd_lit {w : World} {g : Nat} {t : TypeId} {size n : Nat} {cs : Array Value} (h : w.heap[g]? = some (.cells cs t (0, 0))) (hl : cs.size = n * size) : Rd w size (some ⟨g, 0, none⟩) n cs.toList := by
  refine ⟨by simpa using hl, fun _ => ⟨g, 0, rfl, ?_, fun j u hu => ?_⟩⟩
  · rcases Nat.lt_or_ge g w.heap.size with h1 | h1
    · exact h1
    · rw [Array.getElem?_eq_none h1] at h; cases h
  · rw [cell_of_row _ _ _ _ _ _ h, ← hu]; simp
theorem rd_new (w : World) (cs : Array Value) (t : TypeId) (size n : Nat) (hl : cs.size = n * size) : Rd (w.alloc (.cells cs t)) size (some ⟨w.heap.size, 0, none⟩) n cs.toList :=
  rd_lit (t := t) (by show (w.heap.push _)[w.heap.size]? = _; simp) hl

set_option maxHeartbeats 1000000 in
theorem alive04_any (w : World) : Calls Try.prog 23 #[] w fun e w' => e = .returned (.bool true) ∧ Below w.heap.size w w' := by
  go_enter Try.func23, Try.ntmps23
  go_wp2_with fail
  ((with_reducible refine (even52_any _).mono ?_); rintro e w1 ⟨A, cap, rfl, hown, hb1⟩)
  go_wp2_with fail
  have hr := (Rd.of_own hown).alloc (.cells #[.int .i64 0, .int .i64 3, .int .i64 3, .int .i64 5] 30)
  have hr2 : Rd (w1.alloc (.cells #[.int .i64 0, .int .i64 3, .int .i64 3, .int .i64 5] 30)) 2 (some ⟨w1.heap.size, 0, none⟩) 2 (rv [(0, 3), (3, 5)]) := rd_new _ _ _ _ _ rfl
  ((with_reducible refine (equalPart_any A _ 2 2 cap 2 [(0, 3), (3, 5)] [(0, 3), (3, 5)] _ rfl rfl hr hr2 (by omega) (by omega)).mono ?_); rintro e w2 ⟨rfl, hb2⟩)
  go_wp2_with fail
  ((with_reducible refine (count52_any _).mono ?_); rintro e w3 ⟨rfl, rfl⟩)
  go_wp2
  go_ret
  exact ⟨by simp, hb1.trans (((Below.refl _ _).alloc hb1.size _).trans (hb2.mono (by simp; have := hb1.size; omega)))⟩

end Go.Proofs.Ytmnmjjackffnjaa
