/-
  Lemmas and contracts (9 of 44): MatMul, PartSizes, FixpSum.
-/
import Derived.WalkKit
import Derived.WalkSpells
import Derived.WalkLawsBesides
import Derived.Lib.Hide
import Derived.Deep.QuietTactic
import Derived.BigQuiet
import Derived.IntWalk
import Derived.Deep.RegionHeld3
import Derived.Maps.AppendAt
import Derived.ProofKit
import Derived.OpenShut
import Derived.Deep.Slices
import Derived.Deep.Fields
import Derived.Laws.OwnMore
import Derived.Deep.Draws
import Derived.Laws.Rows
import Derived.Test.YtkmaeipoaoikpaaGreatProg
import Derived.Laws.EntriesVeiled
import Derived.RangeFuncNested
import Derived.RangeFuncBox
import Derived.RangeFuncLeaves
import Derived.Shelf.Abstract
import Derived.OwnWalkIn
import Derived.TacticsInMore
import Derived.LoopNIn
import Derived.LoopIn
import Derived.StillTail
import Derived.Laws.Bits64
import Derived.Laws.BitsAllLaws
import Derived.Test.YtkmaeipoaoikpaaGreatShelf
import Derived.Deep.DeepCutAuto
import Derived.OrdersIn
import Derived.RangeFuncCalls
import Derived.RangeFuncFrom
import Derived.Test.YtkmaeipoaoikpaaGreatEA01
import Derived.Test.YtkmaeipoaoikpaaGreatEA02
import Derived.Test.YtkmaeipoaoikpaaGreatEA03
import Derived.Test.YtkmaeipoaoikpaaGreatEA04
import Derived.Test.YtkmaeipoaoikpaaGreatEA07
import Derived.Test.YtkmaeipoaoikpaaGreatEA08
namespace Go.Proofs.YtkmaeipoaoikpaaGreat
set_option linter.unusedVariables false
set_option linter.unusedSimpArgs false
set_option maxRecDepth 100000
section
open Go.RowKit Go.Shelf
attribute [local go_sem] Oper.semAt_some
def rowL (l : List Int) (C k : Nat) : List Int := (l.drop (k * C)).take C
def mulN (l x : List Int) (q : Int) (R : Nat) : List Int := natL R fun k => dotL q (rowL l x.length k) x
theorem rowL_length {l : List Int} {R C k m : Nat} (hm : R * C = m) (hl : l.length = m) (hk : k < R) : (rowL l C k).length = C := by
  have h1 : k * C + C ≤ m := by
    rw [← hm]
    calc k * C + C = (k + 1) * C := by rw [Nat.add_mul, Nat.one_mul]
      _ ≤ R * C := Nat.mul_le_mul_right _ hk
  unfold rowL
  rw [List.length_take, List.length_drop, hl]
  omega
theorem rowL_in {l : List Int} {p : Int → Prop} (h : ∀ x ∈ l, p x) (C k : Nat) : ∀ x ∈ rowL l C k, p x := fun x hx => h x (List.mem_of_mem_drop (List.mem_of_mem_take hx))
theorem rowL_get {l : List Int} {C k j : Nat} (hj : j < C) : (rowL l C k)[j]? = l[k * C + j]? := by
  unfold rowL
  rw [List.getElem?_take_of_lt hj, List.getElem?_drop]
theorem Rd.row {w : World} {l : List Int} {R C k m g o : Nat} (hm : R * C = m) (hl : l.length = m) (hk : k < R) (hC : 1 ≤ C) (h : Rd w 1 (some ⟨g, o, none⟩) m (iv l)) : Rd w 1 (some ⟨g, o + k * C, none⟩) C (iv (rowL l C k)) := by
  refine ⟨by rw [iv_length, rowL_length hm hl hk, Nat.mul_one], fun _ => ?_⟩
  have hm0 : 0 < m := by rw [← hm]; exact Nat.mul_pos (by omega) hC
  obtain ⟨b, o', e, hb, hc⟩ := h.2 hm0
  cases e
  refine ⟨_, _, rfl, hb, fun j u hu => ?_⟩
  have hj : j < C := by
    have := (List.getElem?_eq_some_iff.1 hu).1
    rwa [iv_length, rowL_length hm hl hk] at this
  rw [Nat.add_assoc]
  refine hc _ _ ?_
  rw [iv, List.getElem?_map] at hu ⊢
  rw [← rowL_get hj]
  exact hu
theorem Boxed.appendedS {S : Nat → Prop} {W w1 : World} {n₀ B : Nat} {t e : TypeId} {size : Nat} {v v' : Value} {k m : Nat} {xs ys : List Value} {tmp : Obj}
    (hv : Boxed W B t v) (hte : t ≠ e) (hrow : W.ownsRow n₀ e size v k xs) (hSB : S B) (hSn : ∀ i, n₀ ≤ i → S i)
    (hown' : w1.ownsRow n₀ e size v' m ys) (hgrow : (W.alloc tmp).grownBy w1 v.ownBlock) :
    Boxed w1 B t v ∧ Boxed (w1.setCell ⟨B, 0, none⟩ v') B t v' ∧ (w1.setCell ⟨B, 0, none⟩ v').ownsRow n₀ e size v' m ys ∧ KeepsOthers W (w1.setCell ⟨B, 0, none⟩ v') ∧ But S W (w1.setCell ⟨B, 0, none⟩ v') := by
  have hv1 : Boxed w1 B t v := (hv.alloc tmp).kept hgrow (hv.not_row hte hrow)
  refine ⟨hv1, hv1.set v', hown'.kept (grownBy_setCell' w1 B v') (.inr (hv1.not_row hte hown').symm), ?_, ?_⟩
  · refine ((KeepsOthers.alloc W tmp).trans (KeepsOthers.of_grownBy hgrow fun j o ej hj => ?_)).trans (KeepsOthers.setCell _ _ _)
    rcases (hrow.alloc tmp).2 with ⟨rfl, _⟩ | ⟨g, cap, cur, rfl, _, hgb, _⟩
    · simp [Value.ownBlock] at ej
    · obtain rfl : g = j := by simpa [Value.ownBlock] using ej
      rw [hgb] at hj; cases hj; rfl
  · refine ((But.of_below S ((Below.refl _ W).alloc (Nat.le_refl _) tmp)).trans (But.of_own hgrow fun j ej => ?_)).trans (But.of_gr (grownBy_setCell' _ _ _) hSB)
    rcases hrow.2 with ⟨rfl, _⟩ | ⟨g, cap, cur, rfl, hb, _, _⟩
    · simp [Value.ownBlock] at ej
    · obtain rfl : g = j := by simpa [Value.ownBlock] using ej
      exact hSn _ hb
theorem one_cells (x : Int) : ∀ u ∈ (#[Value.int .i64 x] : Array Value).toList, u.oneCell' = true := by
  intro u hu
  simp at hu
  subst hu
  rfl
theorem mulN_fin (l x : List Int) (q : Int) (R : Nat) : (List.finRange R).map (fun k => dotL q (rowL l x.length k.val) x) = mulN l x q R := fin_map R fun k => dotL q (rowL l x.length k) x
set_option maxHeartbeats 4000000 in
theorem mul_good (R C m cap g o : Nat) (B : Option Addr) (d : Nat) (l x : List Int) (q : Int) (w : World) (hR : 1 ≤ R ∧ R ≤ 1048576) (hC : 1 ≤ C ∧ C ≤ 1048576) (hm : R * C = m) (hm' : m ≤ 1048576) (hcap : m ≤ cap) (hcm : cap ≤ 9223372036854775807) (hl : l.length = m) (hxl : x.length = C)
    (h : Rd w 1 (some ⟨g, o, none⟩) m (iv l)) (hx : Rd w 1 B C (iv x)) (h1 : ∀ v ∈ l, In1 v) (h2 : ∀ v ∈ x, In1 v) :
    Calls Tryz.prog 247 #[.agg #[.int .i64 R, .int .i64 C, .slice (some ⟨g, o, none⟩) m cap], .slice B C d, .int .i64 q] w fun e w' => ∃ A c, e = .returned (.tuple #[.slice A R c, .bool true]) ∧ w'.ownsRow w.heap.size 2 1 (.slice A R c) R (iv (mulN l x q R)) ∧ Below w.heap.size w w' := by
  obtain ⟨i0, hi, hz0, hz1, hz2⟩ := info_parts slVec.info
  obtain ⟨W0, hW0⟩ : ∃ W0, ((w.alloc (.cells #[.int .i64 R, .int .i64 C, .slice (some ⟨g, o, none⟩) m cap] 271)).alloc (.cells #[.slice B C d] 74)).alloc (.cells #[.int .i64 q] 3) = W0 := ⟨_, rfl⟩
  have k0 : Below w.heap.size w W0 := by rw [← hW0]; exact (((Below.refl _ _).alloc (Nat.le_refl _) _).alloc (by simp) _).alloc (by simp <;> omega) _
  have b0 : Blk W0 w.heap.size 271 #[.int .i64 R, .int .i64 C, .slice (some ⟨g, o, none⟩) m cap] := by rw [← hW0]; exact ((Blk.new _ _ _).alloc _).alloc _
  have b1 : Blk W0 (w.heap.size + 1) 74 #[.slice B C d] := by rw [← hW0]; exact (Blk.new' _ _ (by simp)).alloc _
  have b2 : Blk W0 (w.heap.size + 1 + 1) 3 #[.int .i64 q] := by rw [← hW0]; exact Blk.new' _ _ (by simp)
  have hrt : decide (RightP R C m) = true := decide_eq_true ⟨⟨by omega, by omega, by omega, by omega⟩, by rw [← hm]; exact Int.natCast_mul R C⟩
  have C1 := fun W => right_any R C (some ⟨g, o, none⟩) m cap W (by omega)
  rw [hrt] at C1
  have HC1 := Lib.hid C1
  have HR0 := Lib.hid (h.below k0)
  have HX0 := Lib.hid (hx.below k0)
  have HK0 := Lib.hid k0
  have HB0 := Lib.hid b0
  have HB1 := Lib.hid b1
  have HB2 := Lib.hid b2
  have HL := Lib.hid (And.intro hl hxl)
  have HIN := Lib.hid (And.intro h1 h2)
  have HM := Lib.hid hm
  have HR := Lib.hid hR
  have HC := Lib.hid hC
  have a0 : W0.cell? ⟨w.heap.size, 0, none⟩ = some (.int .i64 R) := b0.cell 0
  have a1 : W0.cell? ⟨w.heap.size, 1, none⟩ = some (.int .i64 C) := b0.cell 1
  have a2 : W0.cell? ⟨w.heap.size, 2, none⟩ = some (.slice (some ⟨g, o, none⟩) m cap) := b0.cell 2
  have lt0 := b0.lt
  have HW0 := Lib.hid hW0
  clear C1 k0 b0 b1 b2 hrt h hx hl hxl h1 h2 hm hW0 hR hC
  refine (callsIn_wide (n := 9)).1 (callsIn_of_wp_marks Tryz.func247 rfl trivial (wpIn_wide.2 ?_) rfl)
  simp only [Tryz.ntmps247, List.size_toArray, List.length_cons, List.length_nil, Nat.reduceAdd, Nat.reduceSub, Array.replicate_succ, Array.replicate_zero, List.push_toArray, List.append_toArray, List.nil_append, List.cons_append]
  go_wp2_with fail
  rw [HW0.out]
  clear HW0
  go_wp2_with fail
  ((with_reducible refine (HC1.out _).mono ?_); rintro e w1 ⟨rfl, hb1⟩)
  have m0 : Blk w1 w.heap.size 271 #[.int .i64 R, .int .i64 C, .slice (some ⟨g, o, none⟩) m cap] := HB0.out.kept hb1
  have m1 : Blk w1 (w.heap.size + 1) 74 #[.slice B C d] := HB1.out.kept hb1
  have m2 : Blk w1 (w.heap.size + 1 + 1) 3 #[.int .i64 q] := HB2.out.kept hb1
  have hr1 := HR0.out.below hb1
  have hx1 := HX0.out.below hb1
  have hk1 := ((Kept.of HK0.out).call hb1).2.2
  have d1 : ((C : Int) != (C : Int)) = false := by simp
  have y1 : w1.cell? ⟨w.heap.size, 1, none⟩ = some (.int .i64 C) := m0.cell 1
  have y2 : w1.cell? ⟨w.heap.size + 1, 0, none⟩ = some (.slice B C d) := m1.cell 0
  have y3 : w1.cell? ⟨w.heap.size, 0, none⟩ = some (.int .i64 R) := m0.cell 0
  have y4 : w1.cell? ⟨w.heap.size, 2, none⟩ = some (.slice (some ⟨g, o, none⟩) m cap) := m0.cell 2
  have ly1 := m0.lt
  have ly2 := m1.lt
  have HM0 := Lib.hid m0
  have HM1 := Lib.hid m1
  have HM2 := Lib.hid m2
  have HR1 := Lib.hid hr1
  have HX1 := Lib.hid hx1
  have HK1 := Lib.hid hk1
  clear m0 m1 m2 hr1 hx1 hk1 hb1 a0 a1 a2 lt0 HB0 HB1 HB2 HR0 HX0 HK0 HC1
  go_wp2_with fail
  obtain ⟨W2, hW2⟩ : ∃ W2, w1.alloc (.cells #[.slice none 0 0] 74) = W2 := ⟨_, rfl⟩
  rw [hW2]
  have k2 : Below w1.heap.size w1 W2 := by rw [← hW2]; exact (Below.refl _ _).alloc (Nat.le_refl _) _
  have o2 : Boxed W2 w1.heap.size 74 (.slice none 0 0) := by rw [← hW2]; exact Boxed.new _ _ _
  clear hW2
  ((with_reducible refine (rows_any R C _ m cap _).mono ?_); rintro e w3 ⟨rfl, hbm, hb3⟩)
  clear y1 y2 y3 y4 d1
  go_wp2_with fail
  have z2 : w1.heap.size < W2.heap.size := o2.lt
  have z3 : W2.heap.size < w3.heap.size := hbm.lt
  have K13 : Below w1.heap.size w1 w3 := k2.trans (hb3.mono k2.size)
  have o3 : Boxed w3 w1.heap.size 74 (.slice none 0 0) := o2.kept (gr_of_below hb3 none) (by simp)
  have hseq := rows_stops (9 - 1) W2.heap.size R C m cap g o (by omega) HR.out.2 HC.out.1 HM.out hcap hcm (fun b => b = w1.heap.size ∨ w3.heap.size ≤ b) (by omega) _ w3 hbm
  clear hb3 k2 o2 hbm
  refine wpIn_wide.1 (wpIn_rangeFunc_ownH (F := Fence.wide) (n := 9) rfl (by omega) (gf := 255) (lb := #[.pointer (some ⟨W2.heap.size, 0, none⟩)]) rfl trivial (enters_of Tryz.func255 (by kernel_rfl) rfl) hseq (fun h k => h.trans k) (butK_b (w := w3) (fun i hi => .inr hi)) (Below.refl _ _) (fun _ => rfl)
    (fun pre W => (∃ v, Boxed W w1.heap.size 74 v ∧ W.ownsRow w3.heap.size 2 1 v pre.length (iv (pre.map fun k => dotL q (rowL l C k.val) x)) ∧ True) ∧ Below w1.heap.size w1 W)
    (fun _ _ _ => False)
    (OwnFrom.and (Own.from (holdsRow_own w3.heap.size w1.heap.size 74 2 1 (fun pre : List (Fin R) => pre.length) (fun pre => iv (pre.map fun k => dotL q (rowL l C k.val) x)) (fun _ _ => True)) _) (ownFrom_below (Nat.le_refl _) K13.size))
    (fun _ _ _ _ _ hs _ _ => hs)
    ⟨⟨_, o3, World.ownsRow_nil _ _ _ _, trivial⟩, K13⟩
    (fun k a' W => a' = { tmps := #[.agg #[.int .i64 R, .int .i64 C, .slice (some ⟨g, o, none⟩) m cap], .slice B C d, .int .i64 q, .pointer (some ⟨w.heap.size, 0, none⟩), .pointer (some ⟨w.heap.size + 1, 0, none⟩), .pointer (some ⟨w.heap.size + 1 + 1, 0, none⟩), .slice none 0 0, .bool false, .pointer (some ⟨w1.heap.size, 0, none⟩), undef, .slice (some ⟨g, o + k.val * C, none⟩) C C, undef, undef, .agg #[.int .i64 R, .int .i64 C, .slice (some ⟨g, o, none⟩) m cap], .bool true, .bool false, .bool false, .slice B C d, .int .i64 C, .pointer (some ⟨w.heap.size, 1, none⟩), .int .i64 C, .bool false, .bool false, .agg #[.int .i64 R, .int .i64 C, .slice (some ⟨g, o, none⟩) m cap], .func (.func 255) #[] #[.pointer (some ⟨W2.heap.size, 0, none⟩)], .int .i64 k.val, .slice (some ⟨g, o + k.val * C, none⟩) C C, undef, undef, undef, undef, undef, undef, undef, undef, undef, undef, undef, undef], defers := [] })
    (fun x a' s X Y row hs hg hr => hs) ?assign ?body ?done ?stop)
  case assign =>
    rintro l' pre k W K hI hK
    simp only [encRow]
    gi_wp2_with fail
    exact hK _ _ ((KeepsOthers.refl _).from _) (But.refl _ _) hI rfl
  case body =>
    rintro l' pre k a' W hl3 ⟨r0, hr0⟩ ⟨⟨v, hv, hrow, _⟩, hB⟩ rfl hlt
    have hW3 : w3.heap.size ≤ W.heap.size := Nat.le_trans hl3 (Nat.le_of_lt (Array.getElem?_eq_some_iff.1 hr0).1)
    clear hl3 hr0
    have hc := hv.cell
    have x1 : W.cell? ⟨w.heap.size + 1, 0, none⟩ = some (.slice B C d) := (HM1.out.kept hB).cell 0
    have x2 : W.cell? ⟨w.heap.size + 1 + 1, 0, none⟩ = some (.int .i64 q) := (HM2.out.kept hB).cell 0
    have HD := Lib.hid (dot_any (some ⟨g, o + k.val * C, none⟩) B C C d q (rowL l C k.val) x W (by have := HC.out; omega) (rowL_length HM.out HL.out.1 k.isLt) HL.out.2 (Rd.row HM.out HL.out.1 k.isLt HC.out.1 (HR1.out.below hB)) (HX1.out.below hB) (rowL_in HIN.out.1 C k.val) HIN.out.2)
    have HV := Lib.hid hv
    have HRW := Lib.hid hrow
    have HBB := Lib.hid hB
    clear hv hrow hB
    gi_wp2_with fail
    refine ⟨trivial, (callsIn_wide.2 (HD.out.mono ?_)).inRound _⟩
    rintro e w4 ⟨rfl, hb4⟩
    have hv4 : Boxed w4 w1.heap.size 74 v := HV.out.kept (gr_of_below hb4 none) (by simp)
    have hrow4 := own_below HRW.out hb4
    have hB4 := HBB.out.trans (hb4.mono HBB.out.size)
    have hc4 := hv4.cell
    have HK4 := Lib.hid hb4
    have hRR := HR.out.2
    have HW34 := Lib.hid (Nat.le_trans hW3 hb4.size)
    clear hc x1 x2 HD hb4 hW3
    gi_wp2_with (gi_at_builtin; go_must (refine wpListIn_append_own _ rfl _ _ 74 rfl w3.heap.size 2 i0 (.int .i64 0) 1 8 Tryz.underlying74 hi hz0 hz1 hz2 rfl (by decide) _ _ _ rfl (hrow4.alloc _) ⟨w4.heap.size, 0, none⟩ 1 1 [.int .i64 (dotL q (rowL l C k.val) x)] rfl rfl (cells_new w4 #[.int .i64 (dotL q (rowL l C k.val) x)] 2) (one_cells _) (by unfold maxLen; omega) (by omega) (by have := HW34.out; simp; omega) ?_); go_must (intro v' w5 hown' hgrow hxx); go_must (have hsu := ownsRow_succ hown'); go_must (obtain ⟨g', cap', rfl⟩ := hsu); go_must (obtain ⟨hv1, hv2, hr2, hk2, hb2⟩ := Boxed.appendedS (S := fun b => b = w1.heap.size ∨ w3.heap.size ≤ b) hv4 (by decide) hrow4 (.inl rfl) (fun i hi => .inr hi) hown' hgrow); have hc1 := hv1.cell; have hf1 := hv1.frozen)
    exact ⟨((KeepsOthers.of_grownBy (row := none) (gr_of_below HK4.out none) (fun j o e => by cases e)).trans hk2).from _, (But.of_below _ HK4.out).trans hb2, ⟨_, hv2, by rw [List.length_append, List.map_append, iv_append]; exact hr2, trivial⟩, hB4.trans (hb2.below hB4.size (fun i hi => by have := K13.size; omega))⟩
  case done =>
    rintro D ys W hD rfl ⟨⟨v, hv, hrow, _⟩, hB⟩ hK
    have hc := hv.cell
    go_wp2_with fail
    refine ⟨by simp, .inl ⟨_, _, rfl, run_takeDeferred hK, ?_⟩⟩
    obtain ⟨A, cap, rfl, _⟩ := own_form hrow
    have hrow' := hrow
    rw [List.length_finRange, ← HL.out.2, mulN_fin] at hrow'
    rw [List.length_finRange]
    have hz := HK1.out.size
    exact ⟨.tuple #[.slice A R cap, .bool true], by simp [results, Tryz.results247, go_sem], A, cap, rfl, own_base (ownsRow_putObj hrow' _ hK rfl) (Nat.le_trans hz K13.size), (HK1.out.trans (hB.mono hz)).trans (belowK_b (w := w) (Nat.le_refl _) W D _ _ (by have := K13.size; omega) hK rfl rfl)⟩
  case stop =>
    rintro D c pre W _ _ h _
    exact h.elim
end
section
open Go.RowKit
theorem size_of (x y d : Nat) (w : World) (hy : y = x + d) (hx : x ≤ 1000000) (hd : d ≤ 1000000) :
    Calls Tryz.prog 230 #[.agg #[.int .i64 x, .int .i64 y]] w fun e w' => e = .returned (.int .i64 d) ∧ Below w.heap.size w w' := by
  have h1 := size_any x y w (by omega) (by omega) (by omega) (by omega)
  rwa [show max ((y : Int) - (x : Int)) 0 = (d : Int) by omega] at h1
end
section
open Go.RowKit Go.Shelf
attribute [local go_sem] Oper.semAt_some
def sumW (l : List Int) : Int := l.foldl (fun s v => wrap64 (s + v)) 0
theorem sumW_snoc (pre : List Int) (x : Int) : sumW (pre ++ [x]) = wrap64 (sumW pre + x) := by simp [sumW]
set_option maxRecDepth 100000 in
set_option maxHeartbeats 2000000 in
theorem values1_in (F : Fence) (n : Nat) (hf : F.fn 206) (hro : F.round = none) (hn : 1 ≤ n) (l Bs n₀ len cap : Nat) (A : Option Addr) (zs : List Int) (hreach : len ≤ 10000000) (hzl : zs.length = len) (J Jx : List Int → World → Prop)
    (hY : ∀ pre x W, J pre W → pre.length < len → YieldAt F (n - 1) Tryz.prog l #[.int .i64 x] W fun e W' =>
      (e = .returned (.bool true) ∧ J (pre ++ [x]) W' ∧ Below n₀ W W') ∨ (e = .returned (.bool false) ∧ Jx (pre ++ [x]) W'))
    (W : World) (hBs : W.cell? ⟨Bs, 0, none⟩ = some (.slice A len cap)) (hc : 0 < len → ∃ b off, A = some ⟨b, off, none⟩ ∧ b < n₀ ∧ ∀ j u, (iv zs)[j]? = some u → W.cell? ⟨b, off + j, none⟩ = some u) (h0 : J [] W) :
    CallsIn F n Tryz.prog 206 #[.func (.yield l) #[] #[], .pointer (some ⟨Bs, 0, none⟩)] W fun e W' => (∃ v, e = .returned v) ∧
      ((∃ ys, ys = zs ∧ J ys W') ∨ (∃ pre, pre <+: zs ∧ Jx pre W')) := by
  refine callsIn_of_wp Tryz.func206 rfl hf ?_ hro
  simp only [Tryz.ntmps206, List.size_toArray, List.length_cons, List.length_nil, Nat.reduceAdd, Nat.reduceSub, Array.replicate_succ, Array.replicate_zero, List.push_toArray, List.append_toArray, List.nil_append, List.cons_append]
  gi_wp2
  gi_loopw [7] (fun i wr => ∃ k : Nat, k ≤ len ∧ i = .int .i64 k ∧ J (zs.take k) wr ∧ Below n₀ W wr)
    (fun i _ => len - (intOf i).toNat)
  case atStart => exact ⟨0, Nat.zero_le _, rfl, by simpa using h0, Below.refl _ _⟩
  case round =>
    obtain ⟨k, hk, rfl, hJs, hnx⟩ := hrel
    by_cases hlt : k < len
    · obtain ⟨b, off, rfl, hb, hcc⟩ := hc (by omega)
      have hkl : k < zs.length := by omega
      obtain ⟨fn, tmps, assign, body, hy, hR⟩ := hY _ zs[k] wr hJs (by rw [List.length_take]; omega)
      have hcx' : wr.cell? ⟨b, off + k, none⟩ = some (.int .i64 zs[k]) := (hnx.cell (p := ⟨b, off + k, none⟩) hb).trans (hcc k _ (iv_get zs k hkl))
      have hsn := List.take_succ_eq_append_getElem hkl
      generalize zs[k] = x at *
      gi_wp2
      refine hR.mono ?_
      rintro e W3 (⟨rfl, hJ3, hk3⟩ | ⟨rfl, hJx3⟩)
      · gi_wp2
        go_roundw
        case rel => exact ⟨k + 1, by omega, by simp, by rw [hsn]; exact hJ3, hnx.trans hk3⟩
        case measure => simp [intOf]; omega
      · gi_wp2
        refine bodyPost_ret (results_none rfl _ _ _) rfl ?_
        exact ⟨⟨_, rfl⟩, .inr ⟨_, by rw [← hsn]; exact List.take_prefix _ _, hJx3⟩⟩
    · obtain rfl : k = len := by omega
      rw [List.take_of_length_le (by omega)] at hJs
      gi_wp2
      go_end0
      exact ⟨⟨_, rfl⟩, .inl ⟨_, rfl, hJs⟩⟩
set_option maxHeartbeats 1000000 in
theorem values_in (F : Fence) (n : Nat) (hf : F.fn 149) (hro : F.round = none) (a : Option Addr) (len cap : Nat) (w : World) :
    CallsIn F n Tryz.prog 149 #[.slice a len cap] w fun e w' => e = .returned (.func (.func 206) #[] #[.pointer (some ⟨w.heap.size, 0, none⟩)]) ∧ w' = w.alloc (.cells #[.slice a len cap] 26) := by
  refine callsIn_of_wp Tryz.func149 rfl hf ?_ hro
  simp only [Tryz.ntmps149, List.size_toArray, List.length_cons, List.length_nil, Nat.reduceAdd, Nat.reduceSub, Array.replicate_succ, Array.replicate_zero, List.push_toArray, List.append_toArray, List.nil_append, List.cons_append]
  gi_wp2
  go_ret
  exact ⟨rfl, rfl⟩
theorem values_stops (F : Fence) (n : Nat) (hf : F.fn 206) (hro : F.round = none) (hn : 1 ≤ n) (Bs n₀ len cap : Nat) (A : Option Addr) (zs : List Int) (hreach : len ≤ 10000000) (hzl : zs.length = len) (w : World) (hBs : Bs < w.heap.size) (hn₀ : n₀ ≤ w.heap.size)
    (hcell : w.cell? ⟨Bs, 0, none⟩ = some (.slice A len cap)) (hc : 0 < len → ∃ b off, A = some ⟨b, off, none⟩ ∧ b < n₀ ∧ ∀ j u, (iv zs)[j]? = some u → w.cell? ⟨b, off + j, none⟩ = some u) :
    SeqStopsK F n Tryz.prog 206 #[.pointer (some ⟨Bs, 0, none⟩)] (fun x : Int => #[Value.int .i64 x]) (Below n₀) (fun ys => ys = zs) (fun pre => pre <+: zs) len w := fun l J Jx W hW _ _ hY h0 =>
  values1_in F n hf hro hn l Bs n₀ len cap A zs hreach hzl J Jx hY W ((hW.cell (p := ⟨Bs, 0, none⟩) hBs).trans hcell)
    (fun h => by
      obtain ⟨b, off, e, hb, hcc⟩ := hc h
      exact ⟨b, off, e, hb, fun j u hu => (hW.cell (p := ⟨b, off + j, none⟩) (show b < _ by omega)).trans (hcc j u hu)⟩) h0
set_option maxRecDepth 100000 in
set_option maxHeartbeats 2000000 in
theorem total_in (F : Fence) (n : Nat) (hf : F.fn 148) (hf1 : F.fn 206) (hro : F.round = none) (hn : 3 ≤ n) (Bs n₀ len cap : Nat) (A : Option Addr) (zs : List Int) (hreach : len ≤ 10000000) (hzl : zs.length = len) (w : World) (hBs : Bs < w.heap.size) (hn₀ : n₀ ≤ w.heap.size)
    (hcell : w.cell? ⟨Bs, 0, none⟩ = some (.slice A len cap)) (hc : 0 < len → ∃ b off, A = some ⟨b, off, none⟩ ∧ b < n₀ ∧ ∀ j u, (iv zs)[j]? = some u → w.cell? ⟨b, off + j, none⟩ = some u) :
    CallsIn F n Tryz.prog 148 #[.func (.func 206) #[] #[.pointer (some ⟨Bs, 0, none⟩)]] w fun e W' => e = .returned (.int .i64 (sumW zs)) ∧ Below w.heap.size w W' := by
  have h1 : 1 ≤ n := by omega
  refine callsIn_of_wp_marks Tryz.func148 rfl hf ?_ hro
  simp only [Tryz.ntmps148, List.size_toArray, List.length_cons, List.length_nil, Nat.reduceAdd, Nat.reduceSub, Array.replicate_succ, Array.replicate_zero, List.push_toArray, List.append_toArray, List.nil_append, List.cons_append]
  gi_wp2
  have bS := Boxed.new w 2 (.int .i64 0)
  have hB0 : Below w.heap.size w (w.alloc (.cells #[.int .i64 0] 2)) := (Below.refl _ w).alloc (Nat.le_refl _) _
  refine wpIn_rangeFunc_ownG hro h1 (gf := 206) (lb := #[.pointer (some ⟨Bs, 0, none⟩)]) rfl hf1 (enters_of Tryz.func206 (by kernel_rfl) rfl)
    (values_stops F (n - 1) hf1 hro (by omega) Bs w.heap.size len cap A zs hreach hzl _ (by simp; omega) (by simp) ((hB0.cell (p := ⟨Bs, 0, none⟩) hBs).trans hcell) (fun h => by
      obtain ⟨b, off, e, hb, hcc⟩ := hc h
      exact ⟨b, off, e, by omega, fun j u hu => (hB0.cell (p := ⟨b, off + j, none⟩) (show b < _ by omega)).trans (hcc j u hu)⟩)) belowK_t (belowK_b (by simp)) (Below.refl _ _) (fun _ => rfl)
    (fun pre W => (W.cell? ⟨w.heap.size, 0, none⟩ = some (.int .i64 (sumW pre)) ∧ W.frozen? ⟨w.heap.size, 0, none⟩ = false) ∧ Below w.heap.size w W)
    (fun _ _ _ => False)
    (OwnFrom.and (Own.from (fun s A B row hs hg hr => ⟨cell_kept hs.1 hg hr, (frozen_kept hs.1 hg hr).trans hs.2⟩) _) (ownFrom_below (Nat.le_refl _) (by simp)))
    (fun _ _ _ _ _ hs _ _ => hs)
    ⟨⟨bS.cell, bS.frozen⟩, hB0⟩
    (fun x => { tmps := #[.func (.func 206) #[] #[.pointer (some ⟨Bs, 0, none⟩)], undef, .int .i64 0, .pointer (some ⟨w.heap.size, 0, none⟩), .int .i64 x, .func (.func 206) #[] #[.pointer (some ⟨Bs, 0, none⟩)], .int .i64 x, undef, undef, undef, undef], defers := [] }) ?assign ?body ?done ?stop
  case assign =>
    intro l x W K hK
    gi_wp2
    exact hK
  case body =>
    rintro l pre x W ⟨⟨hc, hf⟩, hB⟩ _
    gi_wp2
    exact ⟨(KeepsOthers.setCell _ _ _).from _, (Below.refl w.heap.size W).setCell (p := ⟨w.heap.size, 0, none⟩) (Nat.le_refl _) _, ⟨by rw [sumW_snoc]; exact World.cell?_setCell_same' _ _ _ (by rw [hc]; rfl), by rw [World.frozen?_setCell]; exact hf⟩, hB.setCell (p := ⟨w.heap.size, 0, none⟩) (Nat.le_refl _) _⟩
  case done =>
    rintro D ys W hD rfl ⟨⟨hc, _⟩, hB⟩ hK
    gi_wp2
    refine ⟨by simp, .inl ⟨_, _, rfl, run_takeDeferred hK, ?_⟩⟩
    exact ⟨_, results_tmp rfl _ _ _, rfl, hB.trans (belowK_b (w := w) (Nat.le_refl _) W D _ _ (by simp at hD; omega) hK rfl rfl)⟩
  case stop =>
    rintro D c pre W _ _ h _
    exact h.elim
set_option maxHeartbeats 400000 in
theorem fixpSum_any (A : Option Addr) (n cap : Nat) (l : List Int) (w : World) (hl : l.length = n) (h : Rd w 1 A n (iv l)) (hn : n ≤ 10000000) :
    Calls Tryz.prog 63 #[.slice A n cap] w fun e w' => e = .returned (.int .i64 (sumW l)) ∧ Below w.heap.size w w' := by
  have HL := Lib.hid hl
  have HR := Lib.hid h
  clear hl h
  have HV := Lib.hid ((callsIn_wide (n := 3)).1 (values_in Fence.wide 3 trivial rfl A n cap w))
  go_enter Tryz.func63, Tryz.ntmps63
  go_wp2_with fail
  ((with_reducible refine HV.out.mono ?_); rintro e w1 ⟨rfl, rfl⟩)
  have bN := Boxed.new w 26 (.slice A n cap)
  have hb0 : Below w.heap.size w (w.alloc (.cells #[.slice A n cap] 26)) := (Below.refl _ _).alloc (Nat.le_refl _) _
  have hT := (callsIn_wide (n := 3)).1 (total_in Fence.wide 3 trivial trivial rfl (by omega) w.heap.size w.heap.size n cap A l hn HL.out (w.alloc (.cells #[.slice A n cap] 26)) (by simp) (by simp) bN.cell (fun h => by
    obtain ⟨b, o, e, hlt, hcc⟩ := HR.out.2 h
    exact ⟨b, o, e, hlt, fun j u hu => (hb0.cell (p := ⟨b, o + j, none⟩) hlt).trans (hcc j u hu)⟩))
  have HT := Lib.hid hT
  clear hT bN
  go_wp2_with fail
  ((with_reducible refine HT.out.mono ?_); rintro e w2 ⟨rfl, hb2⟩)
  go_wp2
  go_ret
  exact ⟨rfl, hb0.trans (hb2.mono (by simp))⟩
end
end Go.Proofs.YtkmaeipoaoikpaaGreat
