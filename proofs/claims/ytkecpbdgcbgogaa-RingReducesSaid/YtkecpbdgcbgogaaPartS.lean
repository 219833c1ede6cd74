/-
  Contracts and lemmas that stand in other texts too, laid for this seat.
-/
import Derived.Test.YtkecpbdgcbgogaaProg
import Derived.Test.YtkecpbdgcbgogaaOpen
import Derived.Test.YtkecpbdgcbgogaaPartPlain
namespace Go.Proofs.Ytkecpbdgcbgogaa
set_option linter.unusedVariables false
set_option linter.unusedSimpArgs false
open Go.RowKit

/-- The two cells of a range in a slice. -/
theorem rd_at {w : World} {A : Option Addr} {n k : Nat} {l : List (Int × Int)} (hl : l.length = n) (h : Rd w 2 A n (rv l)) (hk : k < n) : ∃ b o x y, A = some ⟨b, o, none⟩ ∧ b < w.heap.size ∧ l[k]? = some (x, y) ∧
    w.cell? ⟨b, o + k * 2, none⟩ = some (.int .i64 x) ∧ w.cell? ⟨b, o + k * 2 + 1, none⟩ = some (.int .i64 y) := by
  obtain ⟨b, o, e, hb, hc⟩ := h.2 (by omega)
  have hk' : k < l.length := by omega
  obtain ⟨h1, h2⟩ := rv_get l k hk'
  exact ⟨b, o, l[k].1, l[k].2, e, hb, List.getElem?_eq_getElem hk', hc _ _ h1, by rw [Nat.add_assoc]; exact hc _ _ h2⟩

theorem slPart : Sl Try.prog 89 33 (.agg #[.int .i64 0, .int .i64 0]) 2 16 := ⟨Try.underlying89, by kernel_rfl, rfl, by omega⟩

theorem slRef : Sl Try.prog 79 23 (.agg #[.int .i64 0, .int .i64 0]) 2 16 := ⟨Try.underlying79, by kernel_rfl, rfl, by omega⟩

/-- What a loop that collects ranges has at its head. -/
def Coll (w : World) (e : TypeId) (l : List (Int × Int)) (k : Nat) (v : Value) (wr : World) : Prop :=
  (∃ A cap, v = .slice A k cap) ∧ wr.ownsRow w.heap.size e 2 v k (rv (l.take k)) ∧ Below w.heap.size w wr

theorem Coll.start (w : World) (e : TypeId) (l : List (Int × Int)) : Coll w e l 0 (.slice none 0 0) w := ⟨⟨_, _, rfl⟩, by simpa [rv_nil] using World.ownsRow_nil w w.heap.size e 2, Below.refl _ _⟩

theorem Coll.next {w wr w1 : World} {e : TypeId} {l : List (Int × Int)} {k : Nat} {v : Value} {A : Option Addr} {cap : Nat} {x y : Int} (h : Coll w e l k v wr) (hx : Hid (l[k]? = some (x, y)))
    (hown : w1.ownsRow w.heap.size e 2 (.slice A (k + 1) cap) (k + 1) (rv (l.take k) ++ [.int .i64 x, .int .i64 y])) (hb : Below w.heap.size wr w1) : Coll w e l (k + 1) (.slice A (k + 1) cap) w1 := by
  obtain ⟨hk, hx⟩ := List.getElem?_eq_some_iff.1 hx.out
  refine ⟨⟨_, _, rfl⟩, ?_, h.2.2.trans hb⟩
  rw [rv_take_snoc l k hk, hx]
  exact hown

theorem Coll.done {w wr : World} {e : TypeId} {l : List (Int × Int)} {k n : Nat} {v : Value} (h : Coll w e l k v wr) (hl : Hid (l.length = n)) (hk : k ≤ n) (hlt : ¬ k < n) : OwnRet w e 2 n (rv l) (.returned v) wr := by
  obtain rfl : k = n := by omega
  obtain ⟨A, cap, rfl⟩ := h.1
  have hown := h.2.1
  rw [List.take_of_length_le (by have := hl.out; omega)] at hown
  exact ⟨A, cap, rfl, hown, h.2.2⟩

theorem two_cells (x y : Int) : ∀ u ∈ (#[Value.int .i64 x, Value.int .i64 y] : Array Value).toList, u.oneCell' = true := by
  intro u hu
  simp at hu
  rcases hu with rfl | rfl <;> rfl

set_option maxHeartbeats 400000 in
theorem size_any (x y : Int) (w : World) (hx : -2000000000000 ≤ x) (hx' : x ≤ 2000000000000) (hy : -2000000000000 ≤ y) (hy' : y ≤ 2000000000000) :
    Calls Try.prog 74 #[.agg #[.int .i64 x, .int .i64 y]] w fun e w' => e = .returned (.int .i64 (max (y - x) 0)) ∧ Below w.heap.size w w' := by
  go_enter Try.func74, Try.ntmps74
  go_wp2
  all_goals (go_ret; exact ⟨ret_int (by first | (show (0 : Int) = _; omega) | (show y - x = _; omega)), (Below.refl _ _).alloc (Nat.le_refl _) _⟩)

theorem cnt_zero (a b : Int) (h : a < 1 ∨ b < 1) : (0 : Int) = (cnt a.toNat b.toNat : Nat) := by
  unfold cnt
  rw [if_pos (by omega)]
  rfl

set_option maxHeartbeats 400000 in
theorem count_any (n s : Int) (w : World) (hn : -9223372036854775808 ≤ n) (hn2 : n ≤ 1000000000) (hs : s ≤ 9223372036854775807) :
    Calls Try.prog 88 #[.int .i64 n, .int .i64 s] w fun e w' => e = .returned (.int .i64 (cnt n.toNat s.toNat)) ∧ w = w' := by
  by_cases h1 : n < 1
  · go_enter Try.func88, Try.ntmps88
    go_wp2
    go_ret
    exact ⟨ret_int (cnt_zero _ _ (by omega)), rfl⟩
  · by_cases h2 : s < 1
    · go_enter Try.func88, Try.ntmps88
      go_wp2
      go_ret
      exact ⟨ret_int (cnt_zero _ _ (by omega)), rfl⟩
    · have q1 : 0 ≤ (n - 1) / s := Int.ediv_nonneg (by omega) (by omega)
      have q2 : (n - 1) / s ≤ n - 1 := Int.ediv_le_self _ (by omega)
      go_enter Try.func88, Try.ntmps88
      go_wp2
      go_ret
      refine ⟨ret_int ?_, rfl⟩
      obtain ⟨a, rfl⟩ := Int.eq_ofNat_of_zero_le (show 0 ≤ n by omega)
      obtain ⟨b, rfl⟩ := Int.eq_ofNat_of_zero_le (show 0 ≤ s by omega)
      simp only [cnt, Int.toNat_natCast]
      rw [if_neg (by omega), show ((a : Int) - 1) = ((a - 1 : Nat) : Int) by omega]
      simp

theorem bound_val (i n k m : Nat) (hi : i ≤ 100000000) (hn : n ≤ 1000000000) (hk1 : 1 ≤ k) (hik : i ≤ k) (hm : m ≤ i) : wrap64 (wrap64 ((i : Int) * wrap64 ((n : Int) / (k : Int))) + (m : Int)) = ((i * (n / k) + m : Nat) : Int) := by
  have h1 : n / k ≤ n := Nat.div_le_self _ _
  have h2 : i * (n / k) ≤ n := Nat.le_trans (Nat.mul_le_mul_right _ hik) (Nat.mul_div_le n k)
  have e0 : wrap64 ((n : Int) / (k : Int)) = ((n / k : Nat) : Int) := by
    rw [show ((n : Int) / (k : Int)) = ((n / k : Nat) : Int) by simp]
    generalize n / k = q at *
    exact IntWalk.wrap64_in _ (by omega)
  have e1 : wrap64 ((i : Int) * ((n / k : Nat) : Int)) = ((i * (n / k) : Nat) : Int) := by
    rw [show (i : Int) * ((n / k : Nat) : Int) = ((i * (n / k) : Nat) : Int) by simp]
    generalize i * (n / k) = q at *
    exact IntWalk.wrap64_in _ (by omega)
  rw [e0, e1]
  generalize i * (n / k) = q at *
  rw [IntWalk.wrap64_in _ (by omega)]
  omega

theorem bnd_le (n k i : Nat) (hk : 1 ≤ k) (h : i ≤ k) : bnd n k i ≤ n := by
  unfold bnd
  have h1 : k * (n / k) + n % k = n := Nat.div_add_mod n k
  have h2 : i * (n / k) ≤ k * (n / k) := Nat.mul_le_mul_right _ h
  omega

set_option maxHeartbeats 400000 in
theorem bound_any (i n k bn bk : Nat) (w : World) (hi : i ≤ 100000000) (hn : n ≤ 1000000000) (hk1 : 1 ≤ k) (hk : k ≤ 100000000) (hik : i ≤ k) (c1 : w.cell? ⟨bn, 0, none⟩ = some (.int .i64 n)) (c2 : w.cell? ⟨bk, 0, none⟩ = some (.int .i64 k)) :
    Calls Try.prog 92 #[.int .i64 i, .pointer (some ⟨bn, 0, none⟩), .pointer (some ⟨bk, 0, none⟩)] w fun e w' => e = .returned (.int .i64 (bnd n k i)) ∧ ∃ nq, w' = w.drewN nq := by
  go_enter Try.func92, Try.ntmps92
  go_wp2_with fail
  go_quiet (fail)
  go_wp2
  all_goals go_ret
  · have h' : n % k ≤ i := by
      have : ((n % k : Nat) : Int) = (n : Int) % (k : Int) := by simp
      omega
    refine ⟨ret_int ?_, _, rfl⟩
    show wrap64 (wrap64 ((i : Int) * wrap64 ((n : Int) / (k : Int))) + (n : Int) % (k : Int)) = _
    have e : (n : Int) % (k : Int) = ((n % k : Nat) : Int) := by simp
    rw [e, bound_val i n k (n % k) hi hn hk1 hik h']
    unfold bnd
    rw [Nat.min_eq_right h']
  · have h' : i ≤ n % k := by
      have : ((n % k : Nat) : Int) = (n : Int) % (k : Int) := by simp
      omega
    refine ⟨ret_int ?_, _, rfl⟩
    show wrap64 (wrap64 ((i : Int) * wrap64 ((n : Int) / (k : Int))) + (i : Int)) = _
    rw [bound_val i n k i hi hn hk1 hik (Nat.le_refl _)]
    unfold bnd
    rw [Nat.min_eq_left h']

theorem even_at (n k i : Nat) (h : i < k) : (evenL n k)[i]? = some ((bnd n k i : Int), (bnd n k (i + 1) : Int)) := by
  simp [evenL, h]

theorem blocks_at (n s i : Nat) (h : i < cnt n s) : (blocksL n s)[i]? = some (((i * s : Nat) : Int), ((i * s + min s (n - i * s) : Nat) : Int)) := by
  simp [blocksL, h]

set_option maxHeartbeats 400000 in
theorem even_none (n k : Int) (w : World) (h : n < 0 ∨ k < 1) :
    Calls Try.prog 73 #[.int .i64 n, .int .i64 k] w (OwnRet w 33 2 0 (rv [])) := by
  go_enter Try.func73, Try.ntmps73
  go_wp2
  all_goals (go_ret; exact ⟨none, 0, rfl, World.ownsRow_nil _ _ _ _, ((Below.refl _ _).alloc (Nat.le_refl _) _).alloc (by simp) _⟩)

set_option maxHeartbeats 1000000 in
theorem even_any (n k : Nat) (w : World) (hn : n ≤ 1000000000) (hk1 : 1 ≤ k) (hk : k ≤ 10000000) :
    Calls Try.prog 73 #[.int .i64 n, .int .i64 k] w (OwnRet w 33 2 k (rv (evenL n k))) := by
  have d1 : decide ((n : Int) < 0) = false := decide_eq_false (by omega)
  have d2 : decide ((k : Int) < 1) = false := decide_eq_false (by omega)
  go_enter Try.func73, Try.ntmps73
  go_wp2_with fail
  have hW0 : Below w.heap.size w ((w.alloc (.cells #[.int .i64 n] 3)).alloc (.cells #[.int .i64 k] 3)) := ((Below.refl _ _).alloc (Nat.le_refl _) _).alloc (by simp) _
  go_loopw [6, 16] (fun v c wr => ∃ i : Nat, i ≤ k ∧ c = .int .i64 i ∧ Coll ((w.alloc (.cells #[.int .i64 n] 3)).alloc (.cells #[.int .i64 k] 3)) 33 (evenL n k) i v wr) (fun _ c _ => k - (intOf c).toNat)
  case atStart => exact ⟨0, by omega, rfl, Coll.start _ _ _⟩
  case round =>
    obtain ⟨i, hi, rfl, hcoll⟩ := hrel
    by_cases hlt : i < k
    · have k0 := Kept.of hcoll.2.2
      have b1 : wr.cell? ⟨w.heap.size, 0, none⟩ = some (.int .i64 n) := by rw [k0.1 _ _ (by simp; omega)]; simp
      have b2 : wr.cell? ⟨w.heap.size + 1, 0, none⟩ = some (.int .i64 k) := by rw [k0.1 _ _ (by simp)]; simp
      have HX := Lib.hid (even_at n k i hlt)
      have hsz := k0.2.1
      clear k0
      go_wp2_with fail
      ((with_reducible refine (bound_any i n k _ _ _ (by omega) (by omega) (by omega) (by omega) (by omega) (by exact b1) (by exact b2)).mono ?_); rintro e w1 ⟨rfl, nq, rfl⟩)
      go_wp2_with fail
      rw [show ((i : Int) + 1) = ((i + 1 : Nat) : Int) by omega]
      ((with_reducible refine (bound_any (i + 1) n k _ _ _ (by omega) (by omega) (by omega) (by omega) (by omega) (cell_drewN b1 _) (cell_drewN b2 _)).mono ?_); rintro e w1 ⟨rfl, nq2, rfl⟩)
      go_wp2_with (at_builtin; go_must (refine wpList_push slPart rfl _ _ rfl ((w.alloc (.cells #[.int .i64 n] 3)).alloc (.cells #[.int .i64 k] 3)).heap.size _ i (rv ((evenL n k).take i)) rfl (by exact hcoll.2.1) #[.int .i64 (bnd n k i), .int .i64 (bnd n k (i + 1))] _ rfl (by simp) rfl (two_cells _ _) (by unfold maxLen; omega) (by omega) hsz ?_); intro A' cap' w1 hown1 hb1)
      go_roundw
      case rel => exact ⟨i + 1, by omega, by go_num, hcoll.next HX hown1 ((below_drewN (Below.refl _ _) _).trans hb1)⟩
      case measure => simp [intOf]; omega
    · go_wp2
      go_ret
      exact (hcoll.done (Lib.hid (evenL_length n k)) hi hlt).lift hW0

theorem count_nat (a b : Nat) (w : World) (ha : a ≤ 1000000000) (hb : b ≤ 9223372036854775807) :
    Calls Try.prog 88 #[.int .i64 a, .int .i64 b] w fun e w' => e = .returned (.int .i64 (cnt a b)) ∧ w = w' := by
  have h := count_any a b w (by omega) (by omega) (by omega)
  simpa using h

set_option maxHeartbeats 400000 in
theorem blocks_none (n s : Int) (w : World) (hn : -9223372036854775808 ≤ n) (hn2 : n ≤ 1000000000) (hs : s ≤ 9223372036854775807) (h : n < 1 ∨ s < 1) :
    Calls Try.prog 75 #[.int .i64 n, .int .i64 s] w (OwnRet w 33 2 0 (rv [])) := by
  have H := Lib.hid h
  clear h
  go_enter Try.func75, Try.ntmps75
  go_wp2_with fail
  ((with_reducible refine (count_any n s _ (by omega) (by omega) (by omega)).mono ?_); rintro e w1 ⟨rfl, rfl⟩)
  rw [← cnt_zero n s H.out]
  go_wp2_with fail
  go_loop [5, 11] (fun v c => v = .slice none 0 0 ∧ c = .int .i64 0) (fun _ c => 0)
  case atStart => exact ⟨rfl, rfl⟩
  case round =>
    obtain ⟨rfl, rfl⟩ := hrel
    go_wp2
    go_ret
    exact ⟨none, 0, rfl, World.ownsRow_nil _ _ _ _, Below.refl _ _⟩

set_option maxHeartbeats 1000000 in
theorem blocks_any (a b : Nat) (w : World) (ha1 : 1 ≤ a) (ha : a ≤ 10000000) (hb1 : 1 ≤ b) (hb : b ≤ 9223372036854775807) :
    Calls Try.prog 75 #[.int .i64 a, .int .i64 b] w (OwnRet w 33 2 (cnt a b) (rv (blocksL a b))) := by
  go_enter Try.func75, Try.ntmps75
  go_wp2_with fail
  ((with_reducible refine (count_nat a b _ (by omega) (by omega)).mono ?_); rintro e w1 ⟨rfl, rfl⟩)
  have hc := cnt_le a b
  go_wp2_with fail
  go_loopw [5, 11] (fun v c wr => ∃ i : Nat, i ≤ cnt a b ∧ c = .int .i64 i ∧ Coll w 33 (blocksL a b) i v wr) (fun _ c _ => cnt a b - (intOf c).toNat)
  case atStart => exact ⟨0, by omega, rfl, Coll.start _ _ _⟩
  case round =>
    obtain ⟨i, hi, rfl, hcoll⟩ := hrel
    by_cases hlt : i < cnt a b
    · have hin := (lt_cnt a b i ha1 hb1).1 hlt
      have HX := Lib.hid (blocks_at a b i hlt)
      obtain ⟨q, hq⟩ : ∃ q, i * b = q := ⟨_, rfl⟩
      have hq' : (i : Int) * (b : Int) = (q : Int) := by rw [← hq]; simp
      rw [hq] at HX hin
      clear hq
      by_cases hm : b ≤ a - q
      all_goals
        go_wp2_with (at_builtin; refine wpList_push slPart rfl _ _ rfl w.heap.size _ i (rv ((blocksL a b).take i)) rfl hcoll.2.1 _ _ rfl (by simp) rfl (two_cells _ _) (by unfold maxLen; omega) (by omega) hcoll.2.2.size ?_; intro A' cap' w1 hown1 hb1)
        go_roundw
        case rel => exact ⟨i + 1, by omega, by go_num, hcoll.next (by first | (have := HX.out; rw [Nat.min_eq_left hm] at this; exact Lib.hid this) | (have := HX.out; rw [Nat.min_eq_right (by omega), show ((q + (a - q) : Nat) : Int) = (q : Int) + ((a : Int) - (q : Int)) by omega] at this; exact Lib.hid this)) hown1 hb1⟩
        case measure => simp [intOf]; omega
    · go_wp2
      go_ret
      exact hcoll.done (Lib.hid (blocksL_length a b)) hi hlt

set_option maxHeartbeats 400000 in
theorem refBlocks_none (n s : Int) (w : World) (h : n < 1 ∨ s < 1) :
    Calls Try.prog 78 #[.int .i64 n, .int .i64 s] w (OwnRet w 23 2 0 (rv [])) := by
  go_enter Try.func78, Try.ntmps78
  go_wp2
  all_goals (go_ret; exact ⟨none, 0, rfl, World.ownsRow_nil _ _ _ _, Below.refl _ _⟩)

set_option maxHeartbeats 1000000 in
theorem refBlocks_any (a b : Nat) (w : World) (ha1 : 1 ≤ a) (ha : a ≤ 10000000) (hb1 : 1 ≤ b) (hb : b ≤ 9223372036854775807) :
    Calls Try.prog 78 #[.int .i64 a, .int .i64 b] w (OwnRet w 23 2 (cnt a b) (rv (blocksL a b))) := by
  have hc := cnt_le a b
  have d1 : decide ((a : Int) < 1) = false := decide_eq_false (by omega)
  have d2 : decide ((b : Int) < 1) = false := decide_eq_false (by omega)
  go_enter Try.func78, Try.ntmps78
  go_wp2_with fail
  go_loopw [5, 6] (fun v c wr => ∃ i q : Nat, i ≤ cnt a b ∧ Hid (q = min (i * b) a) ∧ c = .int .i64 q ∧ Coll w 23 (blocksL a b) i v wr) (fun _ c _ => a - (intOf c).toNat)
  case atStart => exact ⟨0, 0, by omega, Lib.hid (by simp), rfl, Coll.start _ _ _⟩
  case round =>
    obtain ⟨i, q, hi, hq, rfl, hcoll⟩ := hrel
    by_cases hlt : q < a
    · have hqi : i * b = q := by have := hq.out; omega
      have hic : i < cnt a b := (lt_cnt a b i ha1 hb1).2 (by omega)
      have HX := Lib.hid (blocks_at a b i hic)
      rw [hqi] at HX
      have hnext : (i + 1) * b = q + b := by rw [Nat.add_mul, hqi]; omega
      have HN := Lib.hid hnext
      clear hnext hqi
      by_cases hm : b < a - q
      · go_wp2_with (at_builtin; refine wpList_push slRef rfl _ _ rfl w.heap.size _ i (rv ((blocksL a b).take i)) rfl hcoll.2.1 _ _ rfl (by simp) rfl (two_cells _ _) (by unfold maxLen; omega) (by omega) hcoll.2.2.size ?_; intro A' cap' w1 hown1 hb1)
        go_roundw
        case rel => exact ⟨i + 1, q + b, by omega, Lib.hid (by rw [HN.out]; omega), by go_num, hcoll.next (by have := HX.out; rw [Nat.min_eq_left (by omega)] at this; exact Lib.hid this) hown1 hb1⟩
        case measure => simp [intOf]; omega
      · go_wp2_with (at_builtin; refine wpList_push slRef rfl _ _ rfl w.heap.size _ i (rv ((blocksL a b).take i)) rfl hcoll.2.1 _ _ rfl (by simp) rfl (two_cells _ _) (by unfold maxLen; omega) (by omega) hcoll.2.2.size ?_; intro A' cap' w1 hown1 hb1)
        go_roundw
        case rel => exact ⟨i + 1, a, by omega, Lib.hid (by rw [HN.out]; omega), rfl, hcoll.next (by have := HX.out; rw [Nat.min_eq_right (by omega), show q + (a - q) = a by omega] at this; exact Lib.hid this) hown1 hb1⟩
        case measure => simp [intOf]; omega
    · have hnc : ¬ i < cnt a b := fun h => by have := (lt_cnt a b i ha1 hb1).1 h; have := hq.out; omega
      go_wp2
      go_ret
      exact hcoll.done (Lib.hid (blocksL_length a b)) hi hnc

/-- The numbers that are dealt, as cells. -/
def dealtV (n k : Nat) : List Value := (List.range k).map fun j => .int .i64 (dealt n k j)

theorem dealtV_zero (k : Nat) : dealtV 0 k = List.replicate k (.int .i64 0) := by
  unfold dealtV
  simp only [dealt_zero]
  apply List.ext_getElem?
  intro i
  by_cases h : i < k <;> simp [h]

theorem dealtV_get (n k j : Nat) (h : j < k) : (dealtV n k)[j]? = some (.int .i64 (dealt n k j)) := by simp [dealtV, h]

theorem dealtV_set (n k : Nat) (hk : 1 ≤ k) : (dealtV n k).set (n % k) (.int .i64 ((dealt n k (n % k) : Int) + 1)) = dealtV (n + 1) k := by
  apply List.ext_getElem?
  intro i
  rw [List.getElem?_set]
  by_cases h : i < k
  · rw [dealtV_get _ _ _ h, dealtV_get _ _ _ h]
    by_cases e : n % k = i
    · rw [if_pos e, if_pos (by simp [dealtV]; omega), ← e, dealt_here n k hk]
      simp
    · rw [if_neg e, dealt_there n k i hk h (fun h => e h.symm)]
  · rw [List.getElem?_eq_none (by simp [dealtV]; omega), List.getElem?_eq_none (by simp [dealtV]; omega)]
    rw [if_neg (by have := Nat.mod_lt n (show 0 < k by omega); omega)]

set_option maxHeartbeats 400000 in
theorem refEven_none (n k : Int) (w : World) (h : n < 0 ∨ k < 1) :
    Calls Try.prog 77 #[.int .i64 n, .int .i64 k] w (OwnRet w 23 2 0 (rv [])) := by
  go_enter Try.func77, Try.ntmps77
  go_wp2
  all_goals (go_ret; exact ⟨none, 0, rfl, World.ownsRow_nil _ _ _ _, Below.refl _ _⟩)

theorem slInt : Sl Try.prog 56 3 (.int .i64 0) 1 8 := ⟨Try.underlying56, by kernel_rfl, rfl, by omega⟩

set_option maxHeartbeats 1000000 in
theorem refEven_any (n k : Nat) (w : World) (hn : n ≤ 1000000000) (hk1 : 1 ≤ k) (hk : k ≤ 10000000) :
    Calls Try.prog 77 #[.int .i64 n, .int .i64 k] w (OwnRet w 23 2 k (rv (evenL n k))) := by
  have d1 : decide ((n : Int) < 0) = false := decide_eq_false (by omega)
  have d2 : decide ((k : Int) < 1) = false := decide_eq_false (by omega)
  obtain ⟨i0, hi0, hz0, hz1, hz2⟩ := info_parts slInt.info
  go_enter Try.func77, Try.ntmps77
  go_wp2_with (at_make; go_must (refine wpList_make_full w rfl _ _ _ rfl w.heap.size 3 i0 (.int .i64 0) 1 slInt.slice hi0 hz0 hz1 .i64 .i64 _ _ k rfl rfl rfl rfl (by rw [hz2]; omega) (by unfold maxLen; omega) (Nat.le_refl _) ?_); intro w1 hown1 hg1)
  have hb1 : Below w.heap.size w w1 := (Below.refl _ _).grown hg1 (Nat.le_refl _) (by simp)
  have hown : w1.ownsRow w.heap.size 3 1 (.slice (some ⟨w.heap.size, 0, none⟩) k k) k (dealtV 0 k) := by
    rw [dealtV_zero]
    have e : (madeCells (Value.int .i64 0).cells (k * 1)).toList = List.replicate k (.int .i64 0) := by
      rw [Nat.mul_one]; exact toList_madeCells_one _ _
    rw [← e]; exact hown1
  have hlt1 := (hown.lt w.heap.size rfl).2
  clear hown1 hg1
  go_loopw [6] (fun c wr => ∃ i : Nat, i ≤ n ∧ c = .int .i64 i ∧ wr.ownsRow w.heap.size 3 1 (.slice (some ⟨w.heap.size, 0, none⟩) k k) k (dealtV i k) ∧ Below w.heap.size w wr) (fun c _ => n - (intOf c).toNat)
  case atStart => exact ⟨0, by omega, rfl, hown, hb1⟩
  case round =>
    clear hown hb1 hlt1
    obtain ⟨i, hi, rfl, hown, hb⟩ := hrel
    by_cases hlt : i < n
    · have hmod := Nat.mod_lt i (show 0 < k by omega)
      have hdl := dealt_le i k (i % k)
      have c1 : wr.cell? ⟨w.heap.size, i % k, none⟩ = some (.int .i64 (dealt i k (i % k))) := by
        rw [hown.cellAt (i % k) (by omega), dealtV_get _ _ _ hmod]
      have f1 := hown.frozenAt (i % k)
      obtain ⟨hst, _⟩ := hown.stored (i % k) (.int .i64 ((dealt i k (i % k) : Int) + 1))
      rw [dealtV_set i k hk1] at hst
      have HS := Lib.hid hst
      have HO := Lib.hid hown
      clear hst hown
      go_wp2
      go_roundw
      case rel => exact ⟨i + 1, by omega, by go_num, HS.out, hb.setCell (p := ⟨w.heap.size, i % k, none⟩) (Nat.le_refl _) _⟩
      case measure => simp [intOf]; omega
    · obtain rfl : i = n := by omega
      obtain ⟨W1, rfl⟩ : ∃ W1 : World, W1 = wr := ⟨_, rfl⟩
      have hlt1 := (hown.lt w.heap.size rfl).2
      have HO := Lib.hid hown
      clear hown
      go_wp2_with fail
      go_loopw [7, 8, 9] (fun v p c wr => ∃ j : Nat, j ≤ k ∧ c = .int .i64 j ∧ p = .int .i64 (bnd i k j) ∧ Coll W1 23 (evenL i k) j v wr) (fun _ _ c _ => k - (intOf c).toNat)
      case atStart => exact ⟨0, by omega, rfl, by rw [bnd_zero]; rfl, Coll.start _ _ _⟩
      case round =>
        obtain ⟨j, hj, rfl, rfl, hcoll⟩ := hrel
        by_cases hlt2 : j < k
        · have c1 : wr.cell? ⟨w.heap.size, j, none⟩ = some (.int .i64 (dealt i k j)) := by
            rw [hcoll.2.2.cell (p := ⟨w.heap.size, j, none⟩) hlt1, HO.out.cellAt j (by omega), dealtV_get _ _ _ hlt2]
          have hbs := bnd_succ i k j
          have hbl := bnd_le i k (j + 1) hk1 (by omega)
          have HX := Lib.hid (even_at i k j hlt2)
          rw [hbs] at hbl HX
          have HB := Lib.hid hbs
          clear hbs
          generalize bnd i k j = x at *
          generalize dealt i k j = y at *
          go_wp2_with (at_builtin; go_must (refine wpList_push slRef rfl _ _ rfl W1.heap.size _ j (rv ((evenL i k).take j)) rfl hcoll.2.1 _ _ rfl (by simp) rfl (two_cells _ _) (by unfold maxLen; omega) (by omega) hcoll.2.2.size ?_); intro A' cap' w2 hown2 hb2; have c2 : w2.cell? ⟨w.heap.size, j, none⟩ = some (.int .i64 y) := (hb2.cell (p := ⟨w.heap.size, j, none⟩) hlt1).trans c1)
          go_roundw
          case rel => exact ⟨j + 1, by omega, by go_num, by rw [HB.out]; simp, hcoll.next HX hown2 hb2⟩
          case measure => simp [intOf]; omega
        · obtain rfl : j = k := by omega
          go_wp2
          go_ret
          exact (hcoll.done (Lib.hid (evenL_length _ _)) hj hlt2).lift hb

end Go.Proofs.Ytkecpbdgcbgogaa
