/-
  slices.Collect over a sequence of ranges.
-/
import Derived.Test.YtkecpbdgcbgogaaLater
namespace Go.Proofs.Ytkecpbdgcbgogaa
set_option linter.unusedVariables false
set_option linter.unusedSimpArgs false
open Go.RowKit Go.Shelf

attribute [local go_sem] Oper.semAt_some

/-- The frame of AppendSeq behind the assignment of the loop's variable. -/
def AxR (fv : Value) (B0 : Nat) (x : Int × Int) (a' : Act) (W : World) : Prop :=
  ∃ g, B0 < g ∧ a' = { tmps := #[.slice none 0 0, fv, .pointer (some ⟨B0, 0, none⟩), undef, .slice none 0 0, .pointer (some ⟨g, 0, none⟩), fv, .agg #[.int .i64 x.1, .int .i64 x.2], undef, undef, undef, undef, undef], defers := [] } ∧ Blk W g 33 #[.int .i64 x.1, .int .i64 x.2]

set_option maxRecDepth 100000 in
set_option maxHeartbeats 2000000 in
theorem appendSeq_in (F : Fence) (n : Nat) (hf : F.fn 89) (hro : F.round = none) (hn : 3 ≤ n) (gf : Nat) (lb : Array Value) (hFg : F.fn gf) (eg : ∀ args w, (callFunc gf args).run Try.prog w = .ok (.enter gf args) w)
    (l : List (Int × Int)) (len : Nat) (S : Nat → Prop) (hll : l.length = len) (hl : len ≤ 10000000) (w : World) (hS : ∀ i, S i ↔ w.heap.size ≤ i) (hseq : ∀ W, Below w.heap.size w W → SeqStopsK F (n - 1) Try.prog gf lb encR (But S) (fun ys => ys = l) (fun pre => pre <+: l) len W) :
    CallsIn F n Try.prog 89 #[.slice none 0 0, .func (.func gf) #[] lb] w (OwnRet w 33 2 len (rv l)) := by
  have h1 : 1 ≤ n := by omega
  have HLL := Lib.hid hll
  clear hll
  obtain ⟨i0, hi, hz0, hz1, hz2⟩ := info_parts slPart.info
  refine callsIn_of_wp_marks Try.func89 rfl hf ?_ hro
  simp only [Try.ntmps89, List.size_toArray, List.length_cons, List.length_nil, Nat.reduceAdd, Nat.reduceSub, Array.replicate_succ, Array.replicate_zero, List.push_toArray, List.append_toArray, List.nil_append, List.cons_append]
  gi_wp2_with fail
  have bO := Boxed.new w 89 (.slice none 0 0)
  have hB0 : Below w.heap.size w (w.alloc (.cells #[.slice none 0 0] 89)) := (Below.refl _ w).alloc (Nat.le_refl _) _
  refine wpIn_rangeFunc_ownH hro h1 (gf := gf) (lb := lb) rfl hFg eg (hseq _ hB0) (fun h k => h.trans k) (butK_b (fun i hi => (hS i).2 (by simp at hi; omega))) (Below.refl _ _) (fun _ => rfl)
    (fun pre W => (∃ v, Boxed W w.heap.size 89 v ∧ W.ownsRow w.heap.size 33 2 v pre.length (rv pre) ∧ True) ∧ Below w.heap.size w W)
    (fun _ _ _ => False)
    (OwnFrom.and (Own.from (holdsRow_own w.heap.size w.heap.size 89 33 2 (fun pre : List (Int × Int) => pre.length) (fun pre => rv pre) (fun _ _ => True)) _) (ownFrom_below (Nat.le_refl _) (by simp)))
    (fun _ _ _ _ _ hs _ _ => hs)
    ⟨⟨_, bO, World.ownsRow_nil _ _ _ _, trivial⟩, hB0⟩
    (AxR (.func (.func gf) #[] lb) w.heap.size)
    (fun x a' s X Y row hs hg hr => by
      obtain ⟨g, hg0, ha, hb⟩ := hs
      exact ⟨g, hg0, ha, hb.turn hg hr⟩) ?assign ?body ?done ?stop
  case assign =>
    rintro l' pre ⟨x, y⟩ W K ⟨⟨v, hv, hrow, _⟩, hB⟩ hK
    simp only [encR]
    gi_wp2_with fail
    refine hK _ _ ((KeepsOthers.alloc _ _).from _) (But.of_below _ ((Below.refl _ _).alloc (Nat.le_refl _) _)) ⟨⟨v, hv.alloc _, hrow.alloc _, trivial⟩, hB.alloc hB.size _⟩ ⟨W.heap.size, hv.lt, rfl, Blk.new _ _ _⟩
  case body =>
    rintro l' pre ⟨x, y⟩ a' W _ _ ⟨⟨v, hv, hrow, _⟩, hB⟩ ⟨g, hg0, rfl, hblk⟩ hlt
    have hc := hv.cell
    have x1 : W.cell? ⟨g, 0, none⟩ = some (.int .i64 x) := hblk.cell 0
    have x2 : W.cell? ⟨g, 1, none⟩ = some (.int .i64 y) := hblk.cell 1
    gi_wp2_with (gi_at_builtin; refine wpListIn_append_own _ rfl _ _ 89 rfl w.heap.size 33 i0 (.agg #[.int .i64 0, .int .i64 0]) 2 16 Try.underlying89 hi hz0 hz1 hz2 rfl (by decide) _ _ _ rfl (hrow.alloc _) ⟨W.heap.size, 0, none⟩ 1 1 [.int .i64 x, .int .i64 y] rfl rfl (cells_new W #[.int .i64 x, .int .i64 y] 33) (two_cells x y) (by unfold maxLen; omega) (by omega) (by have := hB.size; simp; omega) ?_; intro v' w1 hown' hgrow _; obtain ⟨g', cap', rfl⟩ := ownsRow_succ hown'; obtain ⟨hv1, hv2, hr2, hk2, hb2⟩ := hv.appended (by decide) hrow hB.size (Nat.le_refl _) hown' hgrow; have hc1 := hv1.cell; have hf1 := hv1.frozen)
    exact ⟨hk2.from _, But.below' hb2 (fun i hi => by have := mt (hS i).2 hi; omega), ⟨_, hv2, by rw [List.length_append, rv_append]; exact hr2⟩, hB.trans hb2⟩
  case done =>
    rintro D ys W hD rfl ⟨⟨v, hv, hrow, _⟩, hB⟩ hK
    have hc := hv.cell
    gi_wp2_with fail
    refine ⟨by simp, .inl ⟨_, _, rfl, run_takeDeferred hK, ?_⟩⟩
    obtain ⟨A, cap, rfl, _⟩ := own_form hrow
    have hrow' := hrow
    rw [HLL.out] at hrow' ⊢
    exact ⟨_, results_tmp rfl _ _ _, A, cap, rfl, ownsRow_putObj hrow' _ hK rfl, hB.trans (belowK_b (w := w) (Nat.le_refl _) W D _ _ (by simp at hD; omega) hK rfl rfl)⟩
  case stop =>
    rintro D c pre W _ _ h _
    exact h.elim

set_option maxHeartbeats 1000000 in
theorem collect_in (F : Fence) (n : Nat) (hf : F.fn 71) (hf2 : F.fn 89) (hro : F.round = none) (hn : 4 ≤ n) (gf : Nat) (lb : Array Value) (hFg : F.fn gf) (eg : ∀ args w, (callFunc gf args).run Try.prog w = .ok (.enter gf args) w)
    (l : List (Int × Int)) (len : Nat) (S : Nat → Prop) (hll : l.length = len) (hl : len ≤ 10000000) (w : World) (hS : ∀ i, S i ↔ w.heap.size ≤ i) (hseq : ∀ W, Below w.heap.size w W → SeqStopsK F (n - 1 - 1) Try.prog gf lb encR (But S) (fun ys => ys = l) (fun pre => pre <+: l) len W) :
    CallsIn F n Try.prog 71 #[.func (.func gf) #[] lb] w (OwnRet w 33 2 len (rv l)) := by
  have HC := Lib.hid (appendSeq_in F (n - 1) hf2 hro (by omega) gf lb hFg eg l len S hll hl w hS hseq)
  have h1 : 1 ≤ n := by omega
  clear hll hseq
  refine callsIn_of_wp Try.func71 rfl hf ?_ hro
  simp only [Try.ntmps71, List.size_toArray, List.length_cons, List.length_nil, Nat.reduceAdd, Nat.reduceSub, Array.replicate_succ, Array.replicate_zero, List.push_toArray, List.append_toArray, List.nil_append, List.cons_append]
  gi_wp2_with fail
  refine HC.out.mono ?_
  rintro e w1 ⟨A, cap, rfl, hown, hb⟩
  have HO := Lib.hid hown
  clear hown HC
  gi_wp2_with fail
  go_ret
  exact ⟨A, cap, rfl, HO.out, hb⟩

theorem later_any (A : Option Addr) (n c : Nat) (b : Int) (w : World) : Calls Try.prog 72 #[.slice A n c, .int .i64 b] w (LaterRet w A n c b) :=
  (callsIn_wide (n := 5)).1 (later_in Fence.wide 5 trivial rfl A n c b w)

/-- slices.Collect(later(l, b)), in two calls. -/
theorem collectLater (A : Option Addr) (n c : Nat) (rs : List (Int × Int)) (b : Int) (w w1 : World) (hn : n ≤ 10000000) (hrl : rs.length = n) (hsm : SmallR rs) (hb0 : 0 ≤ b ∧ b ≤ 1000000000) (hr : Rd w 2 A n (rv rs))
    (hb1 : Below w.heap.size w w1) (h1 : w1.cell? ⟨w.heap.size, 0, none⟩ = some (.slice A n c)) (h2 : w1.cell? ⟨w.heap.size + 1, 0, none⟩ = some (.int .i64 b)) (h3 : w1.cell? ⟨w.heap.size + 1 + 1, 0, none⟩ = some (.func (.func 90) #[] #[.pointer (some ⟨w.heap.size + 1, 0, none⟩)])) (hs : w.heap.size + 3 ≤ w1.heap.size) (W : World) (hW : Below w1.heap.size w1 W) :
    Calls Try.prog 71 #[.func (.func 91) #[] #[.pointer (some ⟨w.heap.size, 0, none⟩), .pointer (some ⟨w.heap.size + 1 + 1, 0, none⟩)]] W (OwnRet W 33 2 n (rv (shiftL rs b))) :=
  (callsIn_wide (n := 5)).1 (collect_in Fence.wide 5 trivial trivial rfl (by omega) 91 _ trivial (enters_of Try.func91 (by kernel_rfl) rfl) (shiftL rs b) n (fun i => W.heap.size ≤ i) (by rw [shiftL_length, hrl]) hn W (fun i => Iff.rfl) (fun W' hW' => by
    have hz := hW.size
    have hz' := hW'.size
    have hb := hb1.size
    exact later_stops id (shiftL rs b) Fence.wide (5 - 1 - 1) trivial trivial rfl (by omega) w.heap.size (w.heap.size + 1 + 1) (w.heap.size + 1) n c A rs b hn hrl hsm hb0 (List.map_id _) (fun i => W.heap.size ≤ i) W' (by omega) ⟨by omega, by omega⟩ ⟨by omega, by omega⟩
      (by rw [(hW.trans (hW'.mono hW.size)).cell (p := ⟨w.heap.size, 0, none⟩) (show w.heap.size < _ by omega)]; exact h1)
      (by rw [(hW.trans (hW'.mono hW.size)).cell (p := ⟨w.heap.size + 1 + 1, 0, none⟩) (show w.heap.size + 1 + 1 < _ by omega)]; exact h3)
      (by rw [(hW.trans (hW'.mono hW.size)).cell (p := ⟨w.heap.size + 1, 0, none⟩) (show w.heap.size + 1 < _ by omega)]; exact h2)
      (fun h0 => by
        obtain ⟨g, off, e, hg, hcc⟩ := hr.2 h0
        refine ⟨g, off, e, ⟨by omega, by omega⟩, fun j u hu => ?_⟩
        rw [(hW.trans (hW'.mono hW.size)).cell (p := ⟨g, off + j, none⟩) (show g < _ by omega), hb1.cell (p := ⟨g, off + j, none⟩) hg]
        exact hcc j u hu)))

end Go.Proofs.Ytkecpbdgcbgogaa
