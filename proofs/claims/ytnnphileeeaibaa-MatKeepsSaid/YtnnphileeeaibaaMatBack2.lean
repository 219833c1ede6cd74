/-
  Back of a grid that is right.
-/
import Derived.Test.YtnnphileeeaibaaMatBack
namespace Go.Proofs.Ytnnphileeeaibaa
set_option linter.unusedVariables false
set_option linter.unusedSimpArgs false
set_option maxRecDepth 100000
open Go.RowKit Go.Shelf

attribute [local go_sem] Oper.semAt_some

set_option maxHeartbeats 4000000 in
theorem back_good (R C m cap g o : Nat) (B : Option Addr) (d : Nat) (l y : List Int) (q : Int) (w : World) (hR : 1 ≤ R ∧ R ≤ 1048576) (hC : 1 ≤ C ∧ C ≤ 1048576) (hm : R * C = m) (hm' : m ≤ 1048576) (hcap : m ≤ cap) (hcm : cap ≤ 9223372036854775807) (hl : l.length = m) (hyl : y.length = R)
    (h : Rd w 1 (some ⟨g, o, none⟩) m (iv l)) (hy : Rd w 1 B R (iv y)) (h1 : ∀ v ∈ l, In1 v) (h2 : ∀ v ∈ y, In1 v) :
    Calls Try.prog 50 #[.agg #[.int .i64 R, .int .i64 C, .slice (some ⟨g, o, none⟩) m cap], .slice B R d, .int .i64 q] w fun e w' => ∃ A c, e = .returned (.tuple #[.slice A C c, .bool true]) ∧ w'.ownsRow w.heap.size 2 1 (.slice A C c) C (iv (mulN (turnN l R C) y q C)) ∧ Below w.heap.size w w' := by
  have hmk := fun W => run_make_row' (P := Try.prog) 29 2 (.int .i64 0) 8 Try.underlying29 slVec.info rfl .i64 .i64 C (by omega) (by omega) W
  obtain ⟨gy, oy, rfl, hgy, _⟩ := hy.2 (by omega)
  have hgl : g < w.heap.size := h.lt g o rfl (by rw [← hm]; exact Nat.mul_pos hR.1 hC.1)
  obtain ⟨W0, hW0⟩ : ∃ W0, ((w.alloc (.cells #[.int .i64 R, .int .i64 C, .slice (some ⟨g, o, none⟩) m cap] 51)).alloc (.cells #[.slice (some ⟨gy, oy, none⟩) R d] 29)).alloc (.cells #[.int .i64 q] 3) = W0 := ⟨_, rfl⟩
  have k0 : Below w.heap.size w W0 := by rw [← hW0]; exact (((Below.refl _ _).alloc (Nat.le_refl _) _).alloc (by simp) _).alloc (by simp <;> omega) _
  have b0 : Blk W0 w.heap.size 51 #[.int .i64 R, .int .i64 C, .slice (some ⟨g, o, none⟩) m cap] := by rw [← hW0]; exact ((Blk.new _ _ _).alloc _).alloc _
  have b1 : Blk W0 (w.heap.size + 1) 29 #[.slice (some ⟨gy, oy, none⟩) R d] := by rw [← hW0]; exact (Blk.new' _ _ (by simp)).alloc _
  have b2 : Blk W0 (w.heap.size + 1 + 1) 3 #[.int .i64 q] := by rw [← hW0]; exact Blk.new' _ _ (by simp)
  have hrt : decide (RightP R C m) = true := decide_eq_true ⟨⟨by omega, by omega, by omega, by omega⟩, by rw [← hm]; exact Int.natCast_mul R C⟩
  have C1 := fun W => right_any R C (some ⟨g, o, none⟩) m cap W (by omega)
  rw [hrt] at C1
  have HC1 := Lib.hid C1
  have HR0 := Lib.hid (h.below k0)
  have HX0 := Lib.hid (hy.below k0)
  have HK0 := Lib.hid k0
  have HB0 := Lib.hid b0
  have HB1 := Lib.hid b1
  have HB2 := Lib.hid b2
  have HL := Lib.hid (And.intro hl hyl)
  have HIN := Lib.hid (And.intro h1 h2)
  have HM := Lib.hid hm
  have HR := Lib.hid hR
  have HC := Lib.hid hC
  have HMK := Lib.hid hmk
  have a0 : W0.cell? ⟨w.heap.size, 0, none⟩ = some (.int .i64 R) := b0.cell 0
  have a1 : W0.cell? ⟨w.heap.size, 1, none⟩ = some (.int .i64 C) := b0.cell 1
  have a2 : W0.cell? ⟨w.heap.size, 2, none⟩ = some (.slice (some ⟨g, o, none⟩) m cap) := b0.cell 2
  have lt0 := b0.lt
  have HW0 := Lib.hid hW0
  clear C1 k0 b0 b1 b2 hrt h hy hl hyl h1 h2 hm hW0 hR hC hmk
  refine (callsIn_wide (n := 9)).1 (callsIn_of_wp_marks Try.func50 rfl trivial (wpIn_wide.2 ?_) rfl)
  simp only [Try.ntmps50, List.size_toArray, List.length_cons, List.length_nil, Nat.reduceAdd, Nat.reduceSub, Array.replicate_succ, Array.replicate_zero, List.push_toArray, List.append_toArray, List.nil_append, List.cons_append]
  go_wp2_with fail
  rw [HW0.out]
  clear HW0
  go_wp2_with fail
  ((with_reducible refine (HC1.out _).mono ?_); rintro e w1 ⟨rfl, hb1⟩)
  have m0 : Blk w1 w.heap.size 51 #[.int .i64 R, .int .i64 C, .slice (some ⟨g, o, none⟩) m cap] := HB0.out.kept hb1
  have m1 : Blk w1 (w.heap.size + 1) 29 #[.slice (some ⟨gy, oy, none⟩) R d] := HB1.out.kept hb1
  have m2 : Blk w1 (w.heap.size + 1 + 1) 3 #[.int .i64 q] := HB2.out.kept hb1
  have hr1 := HR0.out.below hb1
  have hx1 := HX0.out.below hb1
  have hk1 := ((Kept.of HK0.out).call hb1).2.2
  have d1 : ((R : Int) != (R : Int)) = false := by simp
  have y1 : w1.cell? ⟨w.heap.size, 1, none⟩ = some (.int .i64 C) := m0.cell 1
  have y2 : w1.cell? ⟨w.heap.size + 1, 0, none⟩ = some (.slice (some ⟨gy, oy, none⟩) R d) := m1.cell 0
  have y3 : w1.cell? ⟨w.heap.size, 0, none⟩ = some (.int .i64 R) := m0.cell 0
  have y4 : w1.cell? ⟨w.heap.size, 2, none⟩ = some (.slice (some ⟨g, o, none⟩) m cap) := m0.cell 2
  have ly1 := m0.lt
  have ly2 := m1.lt
  have HM0 := Lib.hid m0
  have HM1 := Lib.hid m1
  have HM2 := Lib.hid m2
  have HR1 := Lib.hid hr1
  have HX1 := Lib.hid hx1
  have HK1 := Lib.hid hk1
  have hmk := HMK.out
  clear m0 m1 m2 hr1 hx1 hk1 hb1 a0 a1 a2 lt0 HB0 HB1 HB2 HR0 HX0 HK0 HC1
  go_wp2_with fail
  obtain ⟨W2, hW2⟩ : ∃ W2, (w1.alloc (.cells (madeCells #[Value.int .i64 0] C) 2)).alloc (.cells #[.slice (some ⟨w1.heap.size, 0, none⟩) C C] 29) = W2 := ⟨_, rfl⟩
  rw [hW2]
  have k2 : Below w1.heap.size w1 W2 := by rw [← hW2]; exact ((Below.refl _ _).alloc (Nat.le_refl _) _).alloc (by simp) _
  have o2 : Blk W2 (w1.heap.size + 1) 29 #[.slice (some ⟨w1.heap.size, 0, none⟩) C C] := by rw [← hW2]; exact Blk.new' _ _ (by simp)
  have p2 : W2.ownsRow w1.heap.size 2 1 (.slice (some ⟨w1.heap.size, 0, none⟩) C C) C (iv (zeros C)) := by rw [← hW2]; exact (own_made _ C _ _ _ rfl (Nat.le_refl _) HC.out.2).alloc _
  clear hW2
  ((with_reducible refine (rows_any R C _ m cap _).mono ?_); rintro e w3 ⟨rfl, hbm, hb3⟩)
  clear y1 y2 y3 y4 d1 hmk HMK
  go_wp2_with fail
  have z2 : w1.heap.size + 1 < W2.heap.size := o2.lt
  have z3 : W2.heap.size < w3.heap.size := hbm.lt
  have K3 : Below w1.heap.size w1 w3 := ((Kept.of k2).call hb3).2.2
  have o3 := o2.kept hb3
  have p3 := own_below p2 hb3
  have hseq := rows_stops (9 - 1) W2.heap.size R C m cap g o (by omega) HR.out.2 HC.out.1 HM.out hcap hcm (fun b => b = w1.heap.size ∨ w3.heap.size ≤ b) (by omega) _ w3 hbm
  clear hb3 k2 o2 p2 hbm
  refine wpIn_wide.1 (wpIn_rangeFunc_ownH (F := Fence.wide) (n := 9) rfl (by omega) (gf := 71) (lb := #[.pointer (some ⟨W2.heap.size, 0, none⟩)]) rfl trivial (enters_of Try.func71 (by kernel_rfl) rfl) hseq (fun h k => h.trans k) (butK_b (w := w3) (fun i hi => .inr hi)) (Below.refl _ _) (fun _ => rfl)
    (fun pre W => (W.ownsRow w1.heap.size 2 1 (.slice (some ⟨w1.heap.size, 0, none⟩) C C) C (iv (backP l y q C pre)) ∧ Blk W (w1.heap.size + 1) 29 #[.slice (some ⟨w1.heap.size, 0, none⟩) C C]) ∧ Below w1.heap.size w1 W)
    (fun _ _ _ => False)
    (OwnFrom.and (OwnFrom.and (Own.from (ownsRow_own w1.heap.size 2 1 (.slice (some ⟨w1.heap.size, 0, none⟩) C C) C (fun pre : List (Fin R) => iv (backP l y q C pre))) _) (fun _ X Y row hs hg hr => Blk.turn hs hg hr)) (ownFrom_below (Nat.le_refl _) K3.size))
    (fun _ _ _ _ _ hs _ _ => hs)
    ⟨⟨p3, o3⟩, K3⟩
    (fun k a' W => a' = { tmps := #[.agg #[.int .i64 R, .int .i64 C, .slice (some ⟨g, o, none⟩) m cap], .slice (some ⟨gy, oy, none⟩) R d, .int .i64 q, .pointer (some ⟨w.heap.size, 0, none⟩), .pointer (some ⟨w.heap.size + 1, 0, none⟩), .pointer (some ⟨w.heap.size + 1 + 1, 0, none⟩), .slice none 0 0, .bool false, .pointer (some ⟨w1.heap.size + 1, 0, none⟩), .int .i64 k.val, .slice (some ⟨g, o + k.val * C, none⟩) C C, .agg #[.int .i64 R, .int .i64 C, .slice (some ⟨g, o, none⟩) m cap], .bool true, .bool false, .bool false, .slice (some ⟨gy, oy, none⟩) R d, .int .i64 R, .pointer (some ⟨w.heap.size, 0, none⟩), .int .i64 R, .bool false, .bool false, .pointer (some ⟨w.heap.size, 1, none⟩), .int .i64 C, .slice (some ⟨w1.heap.size, 0, none⟩) C C, .agg #[.int .i64 R, .int .i64 C, .slice (some ⟨g, o, none⟩) m cap], .func (.func 71) #[] #[.pointer (some ⟨W2.heap.size, 0, none⟩)], .int .i64 k.val, .slice (some ⟨g, o + k.val * C, none⟩) C C, undef, undef, undef, undef, undef, undef, undef, undef, undef, undef], defers := [] })
    (fun x a' s X Y row hs hg hr => hs) ?assign ?body ?done ?stop)
  case assign =>
    rintro l' pre k W K hI hK
    simp only [encRow]
    gi_wp2_with fail
    exact hK _ _ ((KeepsOthers.refl _).from _) (But.refl _ _) hI rfl
  case body =>
    rintro l' pre k a' W hl3 ⟨r0, hr0⟩ ⟨⟨hown, hblk⟩, hB⟩ rfl hlt
    obtain ⟨gy', oy', v, e1, hbv, hv, cv⟩ := iv_at HL.out.2 (HX1.out.below hB) k.isLt
    cases e1
    have hyv : y.getD k.val 0 = v := by rw [List.getD_eq_getElem?_getD, hv]; rfl
    have inv : In1 v := HIN.out.2 v (List.mem_of_getElem? hv)
    have HSC := Lib.hid (fun W' (hk : Below W.heap.size W W') => scale_any (some ⟨g, o + k.val * C, none⟩) C C v q (rowL l C k.val) W' (by have := HC.out; omega) (rowL_length HM.out HL.out.1 k.isLt) (Rd.row HM.out HL.out.1 k.isLt HC.out.1 ((HR1.out.below hB).below hk)) (rowL_in HIN.out.1 C k.val) inv)
    have x1 : W.cell? ⟨w.heap.size + 1, 0, none⟩ = some (.slice (some ⟨gy, oy, none⟩) R d) := (HM1.out.kept hB).cell 0
    have x2 : W.cell? ⟨w.heap.size + 1 + 1, 0, none⟩ = some (.int .i64 q) := (HM2.out.kept hB).cell 0
    have l1 := (HM1.out.kept hB).lt
    have l2 := (HM2.out.kept hB).lt
    have x3 : W.cell? ⟨w1.heap.size + 1, 0, none⟩ = some (.slice (some ⟨w1.heap.size, 0, none⟩) C C) := hblk.cell 0
    have l3 := hblk.lt
    obtain ⟨kv, hkv⟩ : ∃ kv, k.val = kv := ⟨_, rfl⟩
    have hkn : kv < R := by rw [← hkv]; exact k.isLt
    obtain ⟨b0, hb0⟩ : ∃ b0, o + k.val * C = b0 := ⟨_, rfl⟩
    rw [hb0] at HSC ⊢
    rw [hkv] at cv ⊢
    have i0 : (0 : Int) ≤ (kv : Int) := by omega
    have i1 : (kv : Int) < (R : Int) := by omega
    have HYV := Lib.hid hyv
    have HOW := Lib.hid hown
    have HBK := Lib.hid hblk
    have HBB := Lib.hid hB
    have HCC := HC.out
    clear hown hblk hB hl3 hr0 hlt o3 p3 K3 hseq hyv hv inv hb0 hkv
    gi_wp2_with fail
    refine wpIn_region_early (Kept W) [0, 1, 2, 3, 4, 5, 6] [7] [8] (by kernel_rfl) (by kernel_rfl) (by kernel_rfl) (Kept.start W) ?_
    simp only [List.filterMap_cons, List.filterMap_nil, List.getElem?_cons_succ, List.getElem?_cons_zero]
    refine early_step (.slice (some ⟨w1.heap.size, 0, none⟩) C C) rfl (fun W hW => ?_) ?_
    · obtain ⟨hc, -, -⟩ := hW
      go_simp
    go_simp
    refine early_step (.slice (some ⟨g, b0, none⟩) C C) rfl (fun W hW => ?_) ?_
    · obtain ⟨hc, -, -⟩ := hW
      go_simp
    go_simp
    refine early_step (.slice (some ⟨gy, oy, none⟩) R d) rfl (fun W hW => ?_) ?_
    · obtain ⟨hc, -, -⟩ := hW
      go_simp
    go_simp
    refine early_step (.int .i64 kv) rfl (fun W hW => ?_) ?_
    · obtain ⟨hc, -, -⟩ := hW
      go_simp
    go_simp
    refine early_step (.pointer (some ⟨gy, oy + kv, none⟩)) rfl (fun W hW => ?_) ?_
    · obtain ⟨hc, -, -⟩ := hW
      go_simp
    go_simp
    refine early_step (.int .i64 v) rfl (fun W hW => ?_) ?_
    · obtain ⟨hc, -, -⟩ := hW
      go_simp
    go_simp
    refine early_step (.int .i64 q) rfl (fun W hW => ?_) ?_
    · obtain ⟨hc, -, -⟩ := hW
      go_simp
    go_simp
    change RestW _ _ _ _ _ (_ :: []) _ _
    unfold RestW
    go_wp2_with fail
    ((with_reducible refine (HSC.out W.drew (Below.refl _ _).drew).mono ?_); rintro e w5 ⟨A5, c5, rfl, hown5, hb5⟩)
    have k5 := (Kept.start W).call hb5
    have hO5 := own_below HOW.out k5.2.2
    have h5b : ∀ b o', A5 = some ⟨b, o', none⟩ → 0 < C → b ≠ w1.heap.size := fun b o' e h0 => by
      have h3 := (own_rd_block hown5 b o' e).1
      have h4 : W.heap.size ≤ b := h3
      have h5 : w1.heap.size + 1 < W.heap.size := l3
      omega
    have HADD := Lib.hid (add_any (some ⟨w1.heap.size, 0, none⟩) A5 w1.heap.size 0 C C c5 C C w1.heap.size (backP l y q C pre) (scaleL (rowL l C k.val) v q) w5 (fun _ => rfl) (by omega) (by omega) (backP_length _ _ _ _ _) (by rw [scaleL_length, rowL_length HM.out HL.out.1 k.isLt]) hO5 (Rd.of_own hown5) h5b)
    have HK5 := Lib.hid k5.2.2
    clear hb5 hO5 h5b hown5 x1 x2 x3 cv
    go_wp2_with fail
    refine ⟨k5, ?_⟩
    unfold RestW
    change wpList _ _ _ (_ :: []) _ _
    go_wp2_with fail
    ((with_reducible refine HADD.out.mono ?_); rintro e w6 ⟨rfl, hown6, hgr6⟩)
    go_wp2_with fail
    refine NoPanic.normal (NoOut.normal ?_)
    have hgW : W.grownBy w6 (some w1.heap.size) := gr_below_first HK5.out hgr6
    go_wp2_with fail
    refine ⟨(KeepsOthers.of_grownBy hgW (fun a o e ha => ?_)).from _, But.of_gr hgW (.inl rfl), ⟨?_, HBK.out.grown hgW (by simp)⟩, below_gr HBB.out HBB.out.size hgW (Nat.le_refl _)⟩
    · cases e
      obtain ⟨cur, hcur⟩ := own_cells HOW.out
      rw [hcur] at ha
      cases ha
      rfl
    · rw [backP_snoc, HYV.out]
      exact hown6
  case done =>
    rintro D ys W hD rfl ⟨⟨hown, hblk⟩, hB⟩ hK
    have hc : W.cell? ⟨w1.heap.size + 1, 0, none⟩ = some (.slice (some ⟨w1.heap.size, 0, none⟩) C C) := hblk.cell 0
    have hlw := hblk.lt
    have HOW := Lib.hid hown
    have HBB := Lib.hid hB
    clear hown hB hseq
    go_wp2_with fail
    refine ⟨by simp, .inl ⟨_, _, rfl, run_takeDeferred hK, ?_⟩⟩
    have ho6 := ownsRow_putObj HOW.out (.deferred none) hK rfl
    rw [back_done HM.out HL.out.1 HL.out.2] at ho6
    have hz := HK1.out.size
    exact ⟨.tuple #[.slice (some ⟨w1.heap.size, 0, none⟩) C C, .bool true], by simp [results, Try.results50, go_sem], _, _, rfl, own_base ho6 hz, (HK1.out.trans (HBB.out.mono hz)).trans (belowK_b (w := w) (Nat.le_refl _) W D _ _ (by have := K3.size; omega) hK rfl rfl)⟩
  case stop =>
    rintro D c pre W _ _ h _
    exact h.elim

end Go.Proofs.Ytnnphileeeaibaa
