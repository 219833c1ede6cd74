/-
  Contracts of slices.Values, of fixp's total and Sum, and of the reference's Sum.
-/
import Derived.RangeFuncBox
import Derived.RangeFuncLeaves
import Derived.Shelf.Abstract
import Derived.OwnWalkIn
import Derived.TacticsInMore
import Derived.LoopNIn
import Derived.LoopIn
import Derived.Test.YtnnphileeeaibaaFixp2s
import Derived.Test.YtnnphileeeaibaaVecPlain
namespace Go.Proofs.Ytnnphileeeaibaa
set_option linter.unusedVariables false
set_option linter.unusedSimpArgs false
open Go.RowKit Go.Shelf

attribute [local go_sem] Oper.semAt_some

/-- The sum of the numbers, wrapped at each step. -/
def sumW (l : List Int) : Int := l.foldl (fun s v => wrap64 (s + v)) 0
theorem sumW_snoc (pre : List Int) (x : Int) : sumW (pre ++ [x]) = wrap64 (sumW pre + x) := by simp [sumW]

set_option maxRecDepth 100000 in
set_option maxHeartbeats 2000000 in
/-- slices.Values's closure: the elements come in order, for every loop body that keeps what lay below n₀. -/
theorem values1_in (F : Fence) (n : Nat) (hf : F.fn 79) (hro : F.round = none) (hn : 1 ≤ n) (l Bs n₀ len cap : Nat) (A : Option Addr) (zs : List Int) (hreach : len ≤ 10000000) (hzl : zs.length = len) (J Jx : List Int → World → Prop)
    (hY : ∀ pre x W, J pre W → pre.length < len → YieldAt F (n - 1) Try.prog l #[.int .i64 x] W fun e W' =>
      (e = .returned (.bool true) ∧ J (pre ++ [x]) W' ∧ Below n₀ W W') ∨ (e = .returned (.bool false) ∧ Jx (pre ++ [x]) W'))
    (W : World) (hBs : W.cell? ⟨Bs, 0, none⟩ = some (.slice A len cap)) (hc : 0 < len → ∃ b off, A = some ⟨b, off, none⟩ ∧ b < n₀ ∧ ∀ j u, (iv zs)[j]? = some u → W.cell? ⟨b, off + j, none⟩ = some u) (h0 : J [] W) :
    CallsIn F n Try.prog 79 #[.func (.yield l) #[] #[], .pointer (some ⟨Bs, 0, none⟩)] W fun e W' => (∃ v, e = .returned v) ∧
      ((∃ ys, ys = zs ∧ J ys W') ∨ (∃ pre, pre <+: zs ∧ Jx pre W')) := by
  refine callsIn_of_wp Try.func79 rfl hf ?_ hro
  simp only [Try.ntmps79, List.size_toArray, List.length_cons, List.length_nil, Nat.reduceAdd, Nat.reduceSub, Array.replicate_succ, Array.replicate_zero, List.push_toArray, List.append_toArray, List.nil_append, List.cons_append]
  gi_wp2
  gi_loopw [7] (fun i wr => ∃ k : Nat, k ≤ len ∧ i = .int .i64 k ∧ J (zs.take k) wr ∧ Below n₀ W wr)
    (fun i _ => len - (intOf i).toNat)
  case atStart => exact ⟨0, Nat.zero_le _, rfl, by simpa using h0, Below.refl _ _⟩
  case round =>
    obtain ⟨k, hk, rfl, hJs, hnx⟩ := hrel
    by_cases hlt : k < len
    · obtain ⟨b, off, rfl, hb, hcc⟩ := hc (by omega)
      have hkl : k < zs.length := by omega
      obtain ⟨fn, tmps, assign, body, hy, hR⟩ := hY _ zs[k] wr hJs (by rw [List.length_take]; omega)
      have hcx' : wr.cell? ⟨b, off + k, none⟩ = some (.int .i64 zs[k]) := (hnx.cell (p := ⟨b, off + k, none⟩) hb).trans (hcc k _ (iv_get zs k hkl))
      have hsn := List.take_succ_eq_append_getElem hkl
      generalize zs[k] = x at *
      gi_wp2
      refine hR.mono ?_
      rintro e W3 (⟨rfl, hJ3, hk3⟩ | ⟨rfl, hJx3⟩)
      · gi_wp2
        go_roundw
        case rel => exact ⟨k + 1, by omega, by simp, by rw [hsn]; exact hJ3, hnx.trans hk3⟩
        case measure => simp [intOf]; omega
      · gi_wp2
        refine bodyPost_ret (results_none rfl _ _ _) rfl ?_
        exact ⟨⟨_, rfl⟩, .inr ⟨_, by rw [← hsn]; exact List.take_prefix _ _, hJx3⟩⟩
    · obtain rfl : k = len := by omega
      rw [List.take_of_length_le (by omega)] at hJs
      gi_wp2
      go_end0
      exact ⟨⟨_, rfl⟩, .inl ⟨_, rfl, hJs⟩⟩

set_option maxHeartbeats 1000000 in
/-- slices.Values boxes the slice. -/
theorem values_in (F : Fence) (n : Nat) (hf : F.fn 77) (hro : F.round = none) (a : Option Addr) (len cap : Nat) (w : World) :
    CallsIn F n Try.prog 77 #[.slice a len cap] w fun e w' => e = .returned (.func (.func 79) #[] #[.pointer (some ⟨w.heap.size, 0, none⟩)]) ∧ w' = w.alloc (.cells #[.slice a len cap] 24) := by
  refine callsIn_of_wp Try.func77 rfl hf ?_ hro
  simp only [Try.ntmps77, List.size_toArray, List.length_cons, List.length_nil, Nat.reduceAdd, Nat.reduceSub, Array.replicate_succ, Array.replicate_zero, List.push_toArray, List.append_toArray, List.nil_append, List.cons_append]
  gi_wp2
  go_ret
  exact ⟨rfl, rfl⟩

theorem values_stops (F : Fence) (n : Nat) (hf : F.fn 79) (hro : F.round = none) (hn : 1 ≤ n) (Bs n₀ len cap : Nat) (A : Option Addr) (zs : List Int) (hreach : len ≤ 10000000) (hzl : zs.length = len) (w : World) (hBs : Bs < w.heap.size) (hn₀ : n₀ ≤ w.heap.size)
    (hcell : w.cell? ⟨Bs, 0, none⟩ = some (.slice A len cap)) (hc : 0 < len → ∃ b off, A = some ⟨b, off, none⟩ ∧ b < n₀ ∧ ∀ j u, (iv zs)[j]? = some u → w.cell? ⟨b, off + j, none⟩ = some u) :
    SeqStopsK F n Try.prog 79 #[.pointer (some ⟨Bs, 0, none⟩)] (fun x : Int => #[Value.int .i64 x]) (Below n₀) (fun ys => ys = zs) (fun pre => pre <+: zs) len w := fun l J Jx W hW _ _ hY h0 =>
  values1_in F n hf hro hn l Bs n₀ len cap A zs hreach hzl J Jx hY W ((hW.cell (p := ⟨Bs, 0, none⟩) hBs).trans hcell)
    (fun h => by
      obtain ⟨b, off, e, hb, hcc⟩ := hc h
      exact ⟨b, off, e, hb, fun j u hu => (hW.cell (p := ⟨b, off + j, none⟩) (show b < _ by omega)).trans (hcc j u hu)⟩) h0

set_option maxRecDepth 100000 in
set_option maxHeartbeats 2000000 in
/-- total of what slices.Values yields. -/
theorem total_in (F : Fence) (n : Nat) (hf : F.fn 76) (hf1 : F.fn 79) (hro : F.round = none) (hn : 3 ≤ n) (Bs n₀ len cap : Nat) (A : Option Addr) (zs : List Int) (hreach : len ≤ 10000000) (hzl : zs.length = len) (w : World) (hBs : Bs < w.heap.size) (hn₀ : n₀ ≤ w.heap.size)
    (hcell : w.cell? ⟨Bs, 0, none⟩ = some (.slice A len cap)) (hc : 0 < len → ∃ b off, A = some ⟨b, off, none⟩ ∧ b < n₀ ∧ ∀ j u, (iv zs)[j]? = some u → w.cell? ⟨b, off + j, none⟩ = some u) :
    CallsIn F n Try.prog 76 #[.func (.func 79) #[] #[.pointer (some ⟨Bs, 0, none⟩)]] w fun e W' => e = .returned (.int .i64 (sumW zs)) ∧ Below w.heap.size w W' := by
  have h1 : 1 ≤ n := by omega
  refine callsIn_of_wp_marks Try.func76 rfl hf ?_ hro
  simp only [Try.ntmps76, List.size_toArray, List.length_cons, List.length_nil, Nat.reduceAdd, Nat.reduceSub, Array.replicate_succ, Array.replicate_zero, List.push_toArray, List.append_toArray, List.nil_append, List.cons_append]
  gi_wp2
  have bS := Boxed.new w 2 (.int .i64 0)
  have hB0 : Below w.heap.size w (w.alloc (.cells #[.int .i64 0] 2)) := (Below.refl _ w).alloc (Nat.le_refl _) _
  refine wpIn_rangeFunc_ownG hro h1 (gf := 79) (lb := #[.pointer (some ⟨Bs, 0, none⟩)]) rfl hf1 (enters_of Try.func79 (by kernel_rfl) rfl)
    (values_stops F (n - 1) hf1 hro (by omega) Bs w.heap.size len cap A zs hreach hzl _ (by simp; omega) (by simp) ((hB0.cell (p := ⟨Bs, 0, none⟩) hBs).trans hcell) (fun h => by
      obtain ⟨b, off, e, hb, hcc⟩ := hc h
      exact ⟨b, off, e, by omega, fun j u hu => (hB0.cell (p := ⟨b, off + j, none⟩) (show b < _ by omega)).trans (hcc j u hu)⟩)) belowK_t (belowK_b (by simp)) (Below.refl _ _) (fun _ => rfl)
    (fun pre W => (W.cell? ⟨w.heap.size, 0, none⟩ = some (.int .i64 (sumW pre)) ∧ W.frozen? ⟨w.heap.size, 0, none⟩ = false) ∧ Below w.heap.size w W)
    (fun _ _ _ => False)
    (OwnFrom.and (Own.from (fun s A B row hs hg hr => ⟨cell_kept hs.1 hg hr, (frozen_kept hs.1 hg hr).trans hs.2⟩) _) (ownFrom_below (Nat.le_refl _) (by simp)))
    (fun _ _ _ _ _ hs _ _ => hs)
    ⟨⟨bS.cell, bS.frozen⟩, hB0⟩
    (fun x => { tmps := #[.func (.func 79) #[] #[.pointer (some ⟨Bs, 0, none⟩)], undef, .int .i64 0, .pointer (some ⟨w.heap.size, 0, none⟩), .int .i64 x, .func (.func 79) #[] #[.pointer (some ⟨Bs, 0, none⟩)], .int .i64 x, undef, undef, undef, undef], defers := [] }) ?assign ?body ?done ?stop
  case assign =>
    intro l x W K hK
    gi_wp2
    exact hK
  case body =>
    rintro l pre x W ⟨⟨hc, hf⟩, hB⟩ _
    gi_wp2
    exact ⟨(KeepsOthers.setCell _ _ _).from _, (Below.refl w.heap.size W).setCell (p := ⟨w.heap.size, 0, none⟩) (Nat.le_refl _) _, ⟨by rw [sumW_snoc]; exact World.cell?_setCell_same' _ _ _ (by rw [hc]; rfl), by rw [World.frozen?_setCell]; exact hf⟩, hB.setCell (p := ⟨w.heap.size, 0, none⟩) (Nat.le_refl _) _⟩
  case done =>
    rintro D ys W hD rfl ⟨⟨hc, _⟩, hB⟩ hK
    gi_wp2
    refine ⟨by simp, .inl ⟨_, _, rfl, run_takeDeferred hK, ?_⟩⟩
    exact ⟨_, results_tmp rfl _ _ _, rfl, hB.trans (belowK_b (w := w) (Nat.le_refl _) W D _ _ (by simp at hD; omega) hK rfl rfl)⟩
  case stop =>
    rintro D c pre W _ _ h _
    exact h.elim

set_option maxHeartbeats 400000 in
theorem fixpSum_any (A : Option Addr) (n cap : Nat) (l : List Int) (w : World) (hl : l.length = n) (h : Rd w 1 A n (iv l)) (hn : n ≤ 10000000) :
    Calls Try.prog 69 #[.slice A n cap] w fun e w' => e = .returned (.int .i64 (sumW l)) ∧ Below w.heap.size w w' := by
  have HL := Lib.hid hl
  have HR := Lib.hid h
  clear hl h
  have HV := Lib.hid ((callsIn_wide (n := 3)).1 (values_in Fence.wide 3 trivial rfl A n cap w))
  go_enter Try.func69, Try.ntmps69
  go_wp2_with fail
  ((with_reducible refine HV.out.mono ?_); rintro e w1 ⟨rfl, rfl⟩)
  have bN := Boxed.new w 24 (.slice A n cap)
  have hb0 : Below w.heap.size w (w.alloc (.cells #[.slice A n cap] 24)) := (Below.refl _ _).alloc (Nat.le_refl _) _
  have hT := (callsIn_wide (n := 3)).1 (total_in Fence.wide 3 trivial trivial rfl (by omega) w.heap.size w.heap.size n cap A l hn HL.out (w.alloc (.cells #[.slice A n cap] 24)) (by simp) (by simp) bN.cell (fun h => by
    obtain ⟨b, o, e, hlt, hcc⟩ := HR.out.2 h
    exact ⟨b, o, e, hlt, fun j u hu => (hb0.cell (p := ⟨b, o + j, none⟩) hlt).trans (hcc j u hu)⟩))
  have HT := Lib.hid hT
  clear hT bN
  go_wp2_with fail
  ((with_reducible refine HT.out.mono ?_); rintro e w2 ⟨rfl, hb2⟩)
  go_wp2
  go_ret
  exact ⟨rfl, hb0.trans (hb2.mono (by simp))⟩

end Go.Proofs.Ytnnphileeeaibaa
