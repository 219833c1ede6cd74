/-
  Ranges that begin later: bucket.later, what it yields, and what slices.Collect makes of it.
-/
import Derived.Laws.EntriesVeiled
import Derived.RangeFuncNested
import Derived.RangeFuncBox
import Derived.RangeFuncLeaves
import Derived.Shelf.Abstract
import Derived.OwnWalkIn
import Derived.TacticsInMore
import Derived.LoopNIn
import Derived.LoopIn
import Derived.Test.YtkecpbdgcbgogaaPartS
import Derived.Test.YtkecpbdgcbgogaaBut
namespace Go.Proofs.Ytkecpbdgcbgogaa
set_option linter.unusedVariables false
set_option linter.unusedSimpArgs false
open Go.RowKit Go.Shelf

attribute [local go_sem] Oper.semAt_some

/-- Ranges, moved. -/
def shiftL (l : List (Int × Int)) (b : Int) : List (Int × Int) := l.map fun r => (r.1 + b, r.2 + b)
theorem shiftL_length (l : List (Int × Int)) (b : Int) : (shiftL l b).length = l.length := by simp [shiftL]
theorem shiftL_get (l : List (Int × Int)) (b : Int) (k : Nat) (x y : Int) (h : l[k]? = some (x, y)) : (shiftL l b)[k]? = some (x + b, y + b) := by simp [shiftL, h]
/-- Ranges of small numbers. -/
def SmallR (l : List (Int × Int)) : Prop := ∀ r ∈ l, (0 ≤ r.1 ∧ r.1 ≤ 1000000000) ∧ 0 ≤ r.2 ∧ r.2 ≤ 1000000000
theorem SmallR.at {l : List (Int × Int)} (h : SmallR l) {k : Nat} {x y : Int} (hx : l[k]? = some (x, y)) : (0 ≤ x ∧ x ≤ 1000000000) ∧ 0 ≤ y ∧ y ≤ 1000000000 := h (x, y) (List.mem_of_getElem? hx)

/-- A block that holds cells stays where a block without cells turns. -/
theorem Blk.turn {X Y : World} {row : Option Nat} {B g : Nat} {t : TypeId} {cs : Array Value} (h : Blk X g t cs) (hg : X.grownBy Y row) (hr : ∀ r, row = some r → B ≤ r ∧ ∃ o : Obj, X.heap[r]? = some o ∧ o.isCells = false) : Blk Y g t cs :=
  h.grown hg (fun e => by
    obtain ⟨_, o, ho, hc⟩ := hr g e.symm
    unfold Blk at h
    rw [h] at ho
    cases ho
    cases hc)

/-- But as what a round keeps. -/
theorem But.below' {S : Nat → Prop} {B : Nat} {a b : World} (h : Below B a b) (hS : ∀ i, ¬ S i → i < B) : But S a b := ⟨h.os, h.tape, h.output, h.size, fun i _ hn => h.block i (hS i hn)⟩
theorem butK_b {S : Nat → Prop} {w : World} (hS : ∀ i, w.heap.size ≤ i → S i) (W : World) (l : Nat) (o o' : Obj) (hl : w.heap.size ≤ l) (h : W.heap[l]? = some o) (_ : o.isCells = false) (_ : o.isWalk = false) : But S W (W.putObj l o') :=
  But.of_gr (grownBy_putObj' W l o') (hS l hl)
theorem But.cell {S : Nat → Prop} {a b : World} (h : But S a b) {g o : Nat} (hg : g < a.heap.size) (hn : ¬ S g) : b.cell? ⟨g, o, none⟩ = a.cell? ⟨g, o, none⟩ := World.cell?_of_block (a := ⟨g, o, none⟩) (h.block g hg hn)

/-- What an element of a sequence of ranges is as a value. -/
def encR (r : Int × Int) : Array Value := #[.agg #[.int .i64 r.1, .int .i64 r.2]]

set_option maxHeartbeats 1000000 in
/-- shift. -/
theorem shift_in (F : Fence) (n : Nat) (hf : F.fn 90) (hro : F.round = none) (Bb : Nat) (x y b : Int) (W : World) (hb : W.cell? ⟨Bb, 0, none⟩ = some (.int .i64 b)) (hBb : Bb < W.heap.size) (hx : 0 ≤ x ∧ x ≤ 1000000000) (hy : 0 ≤ y ∧ y ≤ 1000000000) (hb0 : 0 ≤ b ∧ b ≤ 1000000000) :
    CallsIn F n Try.prog 90 #[.agg #[.int .i64 x, .int .i64 y], .pointer (some ⟨Bb, 0, none⟩)] W fun e w' => e = .returned (.agg #[.int .i64 (x + b), .int .i64 (y + b)]) ∧ Below W.heap.size W w' := by
  obtain ⟨hx0, hx1⟩ := hx
  obtain ⟨hy0, hy1⟩ := hy
  obtain ⟨hb0, hb1⟩ := hb0
  refine callsIn_of_wp Try.func90 rfl hf ?_ hro
  simp only [Try.ntmps90, List.size_toArray, List.length_cons, List.length_nil, Nat.reduceAdd, Nat.reduceSub, Array.replicate_succ, Array.replicate_zero, List.push_toArray, List.append_toArray, List.nil_append, List.cons_append]
  gi_wp2
  refine bodyPost_ret (v := .agg #[.int .i64 (x + b), .int .i64 (y + b)]) (by simp [results, Try.results90, go_sem]) rfl ⟨rfl, ?_⟩
  first
    | exact ((((Below.refl _ _).alloc (Nat.le_refl _) _).alloc (by simp) _).setCell (by simp) _).setCell (by simp) _
    | exact ((Below.refl _ _).alloc (Nat.le_refl _) _).alloc (by simp) _

set_option maxRecDepth 100000 in
set_option maxHeartbeats 2000000 in
/-- The sequence that later hands back: the ranges come in order, moved, for every loop body that keeps what lay below n₀. -/
theorem later2_in {β : Type} (f : β → Int × Int) (ls : List β) (F : Fence) (n : Nat) (hf : F.fn 91) (hf1 : F.fn 90) (hro : F.round = none) (hn : 1 ≤ n) (ly Bl Bf Bb len cap : Nat) (A : Option Addr) (rs : List (Int × Int)) (b : Int) (hreach : len ≤ 10000000) (hrl : rs.length = len) (hsm : SmallR rs) (hb : 0 ≤ b ∧ b ≤ 1000000000)
    (hls : ls.map f = shiftL rs b) (S : Nat → Prop) (hBf : ¬ S Bf) (hBb : ¬ S Bb) (W : World) (hBf0 : Bf < W.heap.size) (hBb0 : Bb < W.heap.size) (J Jx : List β → World → Prop)
    (hY : ∀ pre x W, J pre W → pre.length < len → YieldAt F (n - 1) Try.prog ly (encR (f x)) W fun e W' =>
      (e = .returned (.bool true) ∧ J (pre ++ [x]) W' ∧ But S W W') ∨ (e = .returned (.bool false) ∧ Jx (pre ++ [x]) W'))
    (hJ : AbidesFrom W.heap.size J) (hBl : W.cell? ⟨Bl, 0, none⟩ = some (.slice A len cap)) (hcf : W.cell? ⟨Bf, 0, none⟩ = some (.func (.func 90) #[] #[.pointer (some ⟨Bb, 0, none⟩)])) (hcb : W.cell? ⟨Bb, 0, none⟩ = some (.int .i64 b))
    (hc : 0 < len → ∃ g off, A = some ⟨g, off, none⟩ ∧ (g < W.heap.size ∧ ¬ S g) ∧ ∀ j u, (rv rs)[j]? = some u → W.cell? ⟨g, off + j, none⟩ = some u) (h0 : J [] W) :
    CallsIn F n Try.prog 91 #[.func (.yield ly) #[] #[], .pointer (some ⟨Bl, 0, none⟩), .pointer (some ⟨Bf, 0, none⟩)] W fun e W' => (∃ v, e = .returned v) ∧
      ((∃ ys, ys = ls ∧ J ys W') ∨ (∃ pre, pre <+: ls ∧ Jx pre W')) := by
  have hyl : ls.length = len := by have := congrArg List.length hls; rw [List.length_map, shiftL_length, hrl] at this; exact this
  have HLS := Lib.hid hls
  have HYL := Lib.hid hyl
  have HRL := Lib.hid hrl
  have HB := Lib.hid hb
  clear hyl hrl hb hls
  refine callsIn_of_wp Try.func91 rfl hf ?_ hro
  simp only [Try.ntmps91, List.size_toArray, List.length_cons, List.length_nil, Nat.reduceAdd, Nat.reduceSub, Array.replicate_succ, Array.replicate_zero, List.push_toArray, List.append_toArray, List.nil_append, List.cons_append]
  gi_wp2_with fail
  gi_loopw [8] (fun i wr => ∃ k : Nat, k ≤ len ∧ i = .int .i64 k ∧ J (ls.take k) wr ∧ But S W wr)
    (fun i _ => len - (intOf i).toNat)
  case atStart => exact ⟨0, Nat.zero_le _, rfl, by simpa using h0, But.refl _ _⟩
  case round =>
    obtain ⟨k, hk, rfl, hJs, hnx⟩ := hrel
    by_cases hlt : k < len
    · obtain ⟨g, off, rfl, hg, hcc⟩ := hc (by omega)
      have hkl : k < rs.length := by rw [HRL.out]; omega
      obtain ⟨x, y, hxy⟩ : ∃ x y, rs[k]? = some (x, y) := ⟨_, _, List.getElem?_eq_getElem hkl⟩
      obtain ⟨s1, s2⟩ := hsm.at hxy
      have gx := rv_get rs k hkl
      rw [List.getElem?_eq_getElem hkl] at hxy
      injection hxy with hxy
      rw [hxy] at gx
      have c1 : wr.cell? ⟨g, off + k * 2, none⟩ = some (.int .i64 x) := (hnx.cell hg.1 hg.2).trans (hcc _ _ gx.1)
      have c2 : wr.cell? ⟨g, off + k * 2 + 1, none⟩ = some (.int .i64 y) := (hnx.cell hg.1 hg.2).trans (by rw [Nat.add_assoc]; exact hcc _ _ gx.2)
      have cf : wr.cell? ⟨Bf, 0, none⟩ = some (.func (.func 90) #[] #[.pointer (some ⟨Bb, 0, none⟩)]) := (hnx.cell hBf0 hBf).trans hcf
      have cb : wr.cell? ⟨Bb, 0, none⟩ = some (.int .i64 b) := (hnx.cell hBb0 hBb).trans hcb
      have hws : W.heap.size ≤ wr.heap.size := hnx.size
      have hg0 := hg.1
      obtain ⟨z, hz⟩ : ∃ z, ls[k]? = some z := ⟨_, List.getElem?_eq_getElem (by rw [HYL.out]; exact hlt)⟩
      have hsn : Hid (ls.take (k + 1) = ls.take k ++ [z]) := Lib.hid (by
        obtain ⟨h1, h2⟩ := List.getElem?_eq_some_iff.1 hz
        rw [List.take_succ_eq_append_getElem h1, h2])
      have hfz : f z = (x + b, y + b) := by
        have h1 := congrArg (fun l => l[k]?) HLS.out
        simp only [List.getElem?_map, hz, Option.map_some] at h1
        rw [shiftL_get rs b k x y (by rw [List.getElem?_eq_getElem hkl, hxy])] at h1
        injection h1
      have HJS := Lib.hid hJs
      have HN := Lib.hid hnx
      have cb2 : (wr.alloc (.cells #[.int .i64 x, .int .i64 y] 33)).cell? ⟨Bb, 0, none⟩ = some (.int .i64 b) := (((Below.refl wr.heap.size wr).alloc (Nat.le_refl _) _).cell (p := ⟨Bb, 0, none⟩) (show Bb < wr.heap.size by omega)).trans cb
      have HS := Lib.hid (shift_in F (n - 1) hf1 hro Bb x y b (wr.alloc (.cells #[.int .i64 x, .int .i64 y] 33)) cb2 (by simp; omega) s1 s2 HB.out)
      have hBf' : Bf < wr.heap.size := by omega
      have hg' : g < wr.heap.size := by omega
      clear hJs hnx hcc gx hxy hkl s1 s2 cb2 cb
      gi_wp2_with fail
      refine HS.out.mono ?_
      rintro e w1 ⟨rfl, hb1⟩
      have hb2 : Below wr.heap.size wr w1 := ((Below.refl _ _).alloc (Nat.le_refl _) _).trans (hb1.mono (by simp))
      obtain ⟨fn, tmps, assign, body, hy, hR⟩ := hY _ z w1 (hJ _ _ _ none HJS.out (gr_of_below hb2 none) (fun r e => by cases e)) (by rw [List.length_take, HYL.out]; omega)
      have HR := Lib.hid hR
      have HN2 := Lib.hid (HN.out.call hb2)
      clear hb1 hb2 c1 c2 cf HS hR HJS HN
      rw [hfz] at hy
      dsimp only [encR] at hy
      clear hfz hz
      gi_wp2_with fail
      refine HR.out.mono ?_
      rintro e W3 (⟨rfl, hJ3, hk3⟩ | ⟨rfl, hJx3⟩)
      · gi_wp2
        go_roundw
        case rel => exact ⟨k + 1, by omega, by simp, by rw [hsn.out]; exact hJ3, HN2.out.trans hk3⟩
        case measure => simp [intOf]; omega
      · gi_wp2
        refine bodyPost_ret (results_none rfl _ _ _) rfl ?_
        exact ⟨⟨_, rfl⟩, .inr ⟨_, by rw [← hsn.out]; exact List.take_prefix _ _, hJx3⟩⟩
    · obtain rfl : k = len := by omega
      rw [List.take_of_length_le (by rw [HYL.out]; omega)] at hJs
      gi_wp2
      go_end0
      exact ⟨⟨_, rfl⟩, .inl ⟨_, rfl, hJs⟩⟩

/-- What later hands back. -/
def LaterRet (w : World) (A : Option Addr) (n c : Nat) (b : Int) (e : Ending) (w' : World) : Prop :=
  e = .returned (.func (.func 91) #[] #[.pointer (some ⟨w.heap.size, 0, none⟩), .pointer (some ⟨w.heap.size + 1 + 1, 0, none⟩)]) ∧ w'.cell? ⟨w.heap.size, 0, none⟩ = some (.slice A n c) ∧ w'.cell? ⟨w.heap.size + 1, 0, none⟩ = some (.int .i64 b) ∧
    w'.cell? ⟨w.heap.size + 1 + 1, 0, none⟩ = some (.func (.func 90) #[] #[.pointer (some ⟨w.heap.size + 1, 0, none⟩)]) ∧ w.heap.size + 3 ≤ w'.heap.size ∧ Below w.heap.size w w'

set_option maxHeartbeats 1000000 in
theorem later_in (F : Fence) (nF : Nat) (hf : F.fn 72) (hro : F.round = none) (A : Option Addr) (n c : Nat) (b : Int) (w : World) :
    CallsIn F nF Try.prog 72 #[.slice A n c, .int .i64 b] w (LaterRet w A n c b) := by
  refine callsIn_of_wp Try.func72 rfl hf ?_ hro
  simp only [Try.ntmps72, List.size_toArray, List.length_cons, List.length_nil, Nat.reduceAdd, Nat.reduceSub, Array.replicate_succ, Array.replicate_zero, List.push_toArray, List.append_toArray, List.nil_append, List.cons_append]
  gi_wp2
  go_ret
  refine ⟨rfl, ?_, ?_, ?_, ?_, ?_⟩
  · go_simp
  · go_simp
  · go_simp
  · simp
  · exact (((Below.refl _ _).alloc (Nat.le_refl _) _).alloc (by simp) _).alloc (by simp <;> omega) _

theorem later_stops {β : Type} (f : β → Int × Int) (ls : List β) (F : Fence) (n : Nat) (hf : F.fn 91) (hf1 : F.fn 90) (hro : F.round = none) (hn : 1 ≤ n) (Bl Bf Bb len cap : Nat) (A : Option Addr) (rs : List (Int × Int)) (b : Int) (hreach : len ≤ 10000000) (hrl : rs.length = len) (hsm : SmallR rs) (hb : 0 ≤ b ∧ b ≤ 1000000000)
    (hls : ls.map f = shiftL rs b) (S : Nat → Prop) (w : World) (hBl : Bl < w.heap.size) (hBf : Bf < w.heap.size ∧ ¬ S Bf) (hBb : Bb < w.heap.size ∧ ¬ S Bb) (hl : w.cell? ⟨Bl, 0, none⟩ = some (.slice A len cap)) (hcf : w.cell? ⟨Bf, 0, none⟩ = some (.func (.func 90) #[] #[.pointer (some ⟨Bb, 0, none⟩)])) (hcb : w.cell? ⟨Bb, 0, none⟩ = some (.int .i64 b))
    (hc : 0 < len → ∃ g off, A = some ⟨g, off, none⟩ ∧ (g < w.heap.size ∧ ¬ S g) ∧ ∀ j u, (rv rs)[j]? = some u → w.cell? ⟨g, off + j, none⟩ = some u) :
    SeqStopsK F n Try.prog 91 #[.pointer (some ⟨Bl, 0, none⟩), .pointer (some ⟨Bf, 0, none⟩)] (fun x => encR (f x)) (But S) (fun ys => ys = ls) (fun pre => pre <+: ls) len w := fun l J Jx W hW hJ _ hY h0 =>
  later2_in f ls F n hf hf1 hro hn l Bl Bf Bb len cap A rs b hreach hrl hsm hb hls S hBf.2 hBb.2 W (Nat.lt_of_lt_of_le hBf.1 hW.size) (Nat.lt_of_lt_of_le hBb.1 hW.size) J Jx hY hJ ((hW.cell (p := ⟨Bl, 0, none⟩) hBl).trans hl) ((hW.cell (p := ⟨Bf, 0, none⟩) hBf.1).trans hcf) ((hW.cell (p := ⟨Bb, 0, none⟩) hBb.1).trans hcb)
    (fun h => by
      obtain ⟨g, off, e, hg, hcc⟩ := hc h
      exact ⟨g, off, e, ⟨Nat.lt_of_lt_of_le hg.1 hW.size, hg.2⟩, fun j u hu => (hW.cell (p := ⟨g, off + j, none⟩) hg.1).trans (hcc j u hu)⟩) h0

end Go.Proofs.Ytkecpbdgcbgogaa
