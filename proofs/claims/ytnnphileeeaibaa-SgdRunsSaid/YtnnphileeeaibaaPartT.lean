/-
  Contracts and lemmas that stand in other texts too, laid for this seat.
-/
import Derived.Test.YtnnphileeeaibaaSgdCopC
import Derived.Test.YtnnphileeeaibaaPartPlain
import Derived.Test.YtnnphileeeaibaaSgdNexts
import Derived.Test.YtnnphileeeaibaaSgd7
namespace Go.Proofs.Ytnnphileeeaibaa
set_option linter.unusedVariables false
set_option linter.unusedSimpArgs false
open Go.RowKit

theorem slRef : Sl Try.prog 72 43 (.agg #[.int .i64 0, .int .i64 0]) 2 16 := ⟨Try.underlying72, by kernel_rfl, rfl, by omega⟩

/-- What a loop that collects ranges has at its head. -/
def Coll (w : World) (e : TypeId) (l : List (Int × Int)) (k : Nat) (v : Value) (wr : World) : Prop :=
  (∃ A cap, v = .slice A k cap) ∧ wr.ownsRow w.heap.size e 2 v k (rv (l.take k)) ∧ Below w.heap.size w wr

theorem Coll.start (w : World) (e : TypeId) (l : List (Int × Int)) : Coll w e l 0 (.slice none 0 0) w := ⟨⟨_, _, rfl⟩, by simpa [rv_nil] using World.ownsRow_nil w w.heap.size e 2, Below.refl _ _⟩

theorem Coll.next {w wr w1 : World} {e : TypeId} {l : List (Int × Int)} {k : Nat} {v : Value} {A : Option Addr} {cap : Nat} {x y : Int} (h : Coll w e l k v wr) (hx : Hid (l[k]? = some (x, y)))
    (hown : w1.ownsRow w.heap.size e 2 (.slice A (k + 1) cap) (k + 1) (rv (l.take k) ++ [.int .i64 x, .int .i64 y])) (hb : Below w.heap.size wr w1) : Coll w e l (k + 1) (.slice A (k + 1) cap) w1 := by
  obtain ⟨hk, hx⟩ := List.getElem?_eq_some_iff.1 hx.out
  refine ⟨⟨_, _, rfl⟩, ?_, h.2.2.trans hb⟩
  rw [rv_take_snoc l k hk, hx]
  exact hown

theorem Coll.done {w wr : World} {e : TypeId} {l : List (Int × Int)} {k n : Nat} {v : Value} (h : Coll w e l k v wr) (hl : Hid (l.length = n)) (hk : k ≤ n) (hlt : ¬ k < n) : OwnRet w e 2 n (rv l) (.returned v) wr := by
  obtain rfl : k = n := by omega
  obtain ⟨A, cap, rfl⟩ := h.1
  have hown := h.2.1
  rw [List.take_of_length_le (by have := hl.out; omega)] at hown
  exact ⟨A, cap, rfl, hown, h.2.2⟩

theorem two_cells (x y : Int) : ∀ u ∈ (#[Value.int .i64 x, Value.int .i64 y] : Array Value).toList, u.oneCell' = true := by
  intro u hu
  simp at hu
  rcases hu with rfl | rfl <;> rfl

theorem blocks_at (n s i : Nat) (h : i < cnt n s) : (blocksL n s)[i]? = some (((i * s : Nat) : Int), ((i * s + min s (n - i * s) : Nat) : Int)) := by
  simp [blocksL, h]

set_option maxHeartbeats 400000 in
theorem refBlocks_none (n s : Int) (w : World) (h : n < 1 ∨ s < 1) :
    Calls Try.prog 34 #[.int .i64 n, .int .i64 s] w (OwnRet w 43 2 0 (rv [])) := by
  go_enter Try.func34, Try.ntmps34
  go_wp2
  all_goals (go_ret; exact ⟨none, 0, rfl, World.ownsRow_nil _ _ _ _, Below.refl _ _⟩)

set_option maxHeartbeats 1000000 in
theorem refBlocks_any (a b : Nat) (w : World) (ha1 : 1 ≤ a) (ha : a ≤ 10000000) (hb1 : 1 ≤ b) (hb : b ≤ 9223372036854775807) :
    Calls Try.prog 34 #[.int .i64 a, .int .i64 b] w (OwnRet w 43 2 (cnt a b) (rv (blocksL a b))) := by
  have hc := cnt_le a b
  have d1 : decide ((a : Int) < 1) = false := decide_eq_false (by omega)
  have d2 : decide ((b : Int) < 1) = false := decide_eq_false (by omega)
  go_enter Try.func34, Try.ntmps34
  go_wp2_with fail
  go_loopw [5, 6] (fun v c wr => ∃ i q : Nat, i ≤ cnt a b ∧ Hid (q = min (i * b) a) ∧ c = .int .i64 q ∧ Coll w 43 (blocksL a b) i v wr) (fun _ c _ => a - (intOf c).toNat)
  case atStart => exact ⟨0, 0, by omega, Lib.hid (by simp), rfl, Coll.start _ _ _⟩
  case round =>
    obtain ⟨i, q, hi, hq, rfl, hcoll⟩ := hrel
    by_cases hlt : q < a
    · have hqi : i * b = q := by have := hq.out; omega
      have hic : i < cnt a b := (lt_cnt a b i ha1 hb1).2 (by omega)
      have HX := Lib.hid (blocks_at a b i hic)
      rw [hqi] at HX
      have hnext : (i + 1) * b = q + b := by rw [Nat.add_mul, hqi]; omega
      have HN := Lib.hid hnext
      clear hnext hqi
      by_cases hm : b < a - q
      · go_wp2_with (at_builtin; refine wpList_push slRef rfl _ _ rfl w.heap.size _ i (rv ((blocksL a b).take i)) rfl hcoll.2.1 _ _ rfl (by simp) rfl (two_cells _ _) (by unfold maxLen; omega) (by omega) hcoll.2.2.size ?_; intro A' cap' w1 hown1 hb1)
        go_roundw
        case rel => exact ⟨i + 1, q + b, by omega, Lib.hid (by rw [HN.out]; omega), by go_num, hcoll.next (by have := HX.out; rw [Nat.min_eq_left (by omega)] at this; exact Lib.hid this) hown1 hb1⟩
        case measure => simp [intOf]; omega
      · go_wp2_with (at_builtin; refine wpList_push slRef rfl _ _ rfl w.heap.size _ i (rv ((blocksL a b).take i)) rfl hcoll.2.1 _ _ rfl (by simp) rfl (two_cells _ _) (by unfold maxLen; omega) (by omega) hcoll.2.2.size ?_; intro A' cap' w1 hown1 hb1)
        go_roundw
        case rel => exact ⟨i + 1, a, by omega, Lib.hid (by rw [HN.out]; omega), rfl, hcoll.next (by have := HX.out; rw [Nat.min_eq_right (by omega), show q + (a - q) = a by omega] at this; exact Lib.hid this) hown1 hb1⟩
        case measure => simp [intOf]; omega
    · have hnc : ¬ i < cnt a b := fun h => by have := (lt_cnt a b i ha1 hb1).1 h; have := hq.out; omega
      go_wp2
      go_ret
      exact hcoll.done (Lib.hid (blocksL_length a b)) hi hnc


/-- Blocks at any count. -/
theorem refBlocks_nat (a b : Nat) (w : World) (ha : a ≤ 10000000) (hb1 : 1 ≤ b) (hb : b ≤ 9223372036854775807) :
    Calls Try.prog 34 #[.int .i64 a, .int .i64 b] w (OwnRet w 43 2 (cnt a b) (rv (blocksL a b))) := by
  rcases Nat.eq_zero_or_pos a with rfl | h0
  · have := refBlocks_none ((0 : Nat) : Int) b w (.inl (by omega))
    simpa [cnt, blocksL] using this
  · exact refBlocks_any a b w h0 ha hb1 hb

/-- What is left of a step when the blocks from k on have been applied. -/
def pieceM (mo sh : Int) (Ms gs : List Int) (k : Nat) : List Int := Ms.mapIdx fun j m => if k ≤ j then updM mo sh m (gs.getD j 0) else m
def pieceP (ra mo sh : Int) (Ps Ms gs : List Int) (k : Nat) : List Int := Ps.mapIdx fun j p => if k ≤ j then updP ra sh p (updM mo sh (Ms.getD j 0) (gs.getD j 0)) else p
theorem pieceM_length (mo sh : Int) (Ms gs : List Int) (k : Nat) : (pieceM mo sh Ms gs k).length = Ms.length := by simp [pieceM]
theorem pieceP_length (ra mo sh : Int) (Ps Ms gs : List Int) (k : Nat) : (pieceP ra mo sh Ps Ms gs k).length = Ps.length := by simp [pieceP]
theorem pieceM_get (mo sh : Int) (Ms gs : List Int) (k i : Nat) : (pieceM mo sh Ms gs k)[i]? = Ms[i]?.map fun m => if k ≤ i then updM mo sh m (gs.getD i 0) else m := by simp [pieceM]
theorem pieceP_get (ra mo sh : Int) (Ps Ms gs : List Int) (k i : Nat) : (pieceP ra mo sh Ps Ms gs k)[i]? = Ps[i]?.map fun p => if k ≤ i then updP ra sh p (updM mo sh (Ms.getD i 0) (gs.getD i 0)) else p := by simp [pieceP]
theorem pieceM_in (mo sh : Int) (Ms gs : List Int) (k : Nat) (h : AllIn Ms) : AllIn (pieceM mo sh Ms gs k) := by
  intro x hx
  obtain ⟨j, hj, rfl⟩ := List.mem_mapIdx.1 hx
  split
  · exact updM_in _ _ _ _
  · exact h _ (List.getElem_mem _)
theorem pieceP_in (ra mo sh : Int) (Ps Ms gs : List Int) (k : Nat) (h : AllIn Ps) : AllIn (pieceP ra mo sh Ps Ms gs k) := by
  intro x hx
  obtain ⟨j, hj, rfl⟩ := List.mem_mapIdx.1 hx
  split
  · exact updP_in _ _ _ _
  · exact h _ (List.getElem_mem _)
theorem pieceM_end (mo sh : Int) (Ms gs : List Int) (k : Nat) (h : Ms.length ≤ k) : pieceM mo sh Ms gs k = Ms := by
  apply List.ext_getElem?
  intro i
  rw [pieceM_get]
  cases e : Ms[i]? with
  | none => rfl
  | some m =>
    have := (List.getElem?_eq_some_iff.1 e).1
    rw [Option.map_some, if_neg (by omega)]
theorem pieceP_end (ra mo sh : Int) (Ps Ms gs : List Int) (k : Nat) (h : Ps.length ≤ k) : pieceP ra mo sh Ps Ms gs k = Ps := by
  apply List.ext_getElem?
  intro i
  rw [pieceP_get]
  cases e : Ps[i]? with
  | none => rfl
  | some m =>
    have := (List.getElem?_eq_some_iff.1 e).1
    rw [Option.map_some, if_neg (by omega)]
theorem pieceM_zero (mo sh : Int) (Ms gs : List Int) : pieceM mo sh Ms gs 0 = nextM mo sh Ms gs := by
  apply List.ext_getElem?
  intro i
  rw [pieceM_get, nextM, applyM_get]
  cases e : Ms[i]? with
  | none => rfl
  | some m =>
    have := (List.getElem?_eq_some_iff.1 e).1
    rw [Option.map_some, Option.map_some, if_pos (by omega), if_pos (by omega), Nat.sub_zero]
theorem pieceP_zero (ra mo sh : Int) (Ps Ms gs : List Int) : pieceP ra mo sh Ps Ms gs 0 = nextP ra mo sh Ps Ms gs := by
  apply List.ext_getElem?
  intro i
  rw [pieceP_get, nextP, applyP_get]
  cases e : Ps[i]? with
  | none => rfl
  | some m =>
    have := (List.getElem?_eq_some_iff.1 e).1
    rw [Option.map_some, Option.map_some, if_pos (by omega), if_pos (by omega), Nat.sub_zero]
theorem getD_part (gs : List Int) (lo n i : Nat) (h : lo ≤ i) (h' : i < lo + n) : ((gs.drop lo).take n).getD (i - lo) 0 = gs.getD i 0 := by
  rw [List.getD_eq_getElem?_getD, List.getD_eq_getElem?_getD, List.getElem?_take, if_pos (by omega), List.getElem?_drop, show lo + (i - lo) = i by omega]
theorem pieceM_step (mo sh : Int) (Ms gs : List Int) (lo n : Nat) : applyM mo sh (pieceM mo sh Ms gs (lo + n)) ((gs.drop lo).take n) lo n = pieceM mo sh Ms gs lo := by
  apply List.ext_getElem?
  intro i
  rw [applyM_get, pieceM_get, pieceM_get]
  cases e : Ms[i]? with
  | none => rfl
  | some m =>
    simp only [Option.map_some]
    by_cases h1 : lo ≤ i
    · by_cases h2 : i < lo + n
      · rw [if_pos ⟨h1, h2⟩, if_neg (by omega), if_pos h1, getD_part gs lo n i h1 h2]
      · rw [if_neg (by omega), if_pos (by omega), if_pos h1]
    · rw [if_neg (by omega), if_neg (by omega), if_neg h1]
theorem pieceP_step (ra mo sh : Int) (Ps Ms gs : List Int) (lo n : Nat) : applyP ra mo sh (pieceP ra mo sh Ps Ms gs (lo + n)) (pieceM mo sh Ms gs (lo + n)) ((gs.drop lo).take n) lo n = pieceP ra mo sh Ps Ms gs lo := by
  apply List.ext_getElem?
  intro i
  rw [applyP_get, pieceP_get, pieceP_get]
  cases e : Ps[i]? with
  | none => rfl
  | some m =>
    simp only [Option.map_some]
    by_cases h1 : lo ≤ i
    · by_cases h2 : i < lo + n
      · have hM : (pieceM mo sh Ms gs (lo + n)).getD i 0 = Ms.getD i 0 := by
          rw [List.getD_eq_getElem?_getD, List.getD_eq_getElem?_getD, pieceM_get]
          cases Ms[i]? with
          | none => rfl
          | some x => rw [Option.map_some, if_neg (by omega)]
        rw [if_pos ⟨h1, h2⟩, if_neg (by omega), if_pos h1, getD_part gs lo n i h1 h2, hM]
      · rw [if_neg (by omega), if_pos (by omega), if_pos h1]
    · rw [if_neg (by omega), if_neg (by omega), if_neg h1]

end Go.Proofs.Ytnnphileeeaibaa
