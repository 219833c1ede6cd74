/-
  Outer of two columns.
-/
import Derived.Test.YtnnphileeeaibaaMatOuter
namespace Go.Proofs.Ytnnphileeeaibaa
set_option linter.unusedVariables false
set_option linter.unusedSimpArgs false
set_option maxRecDepth 100000
open Go.RowKit Go.Shelf

attribute [local go_sem] Oper.semAt_some

theorem own_cells {w : World} {base : Nat} {e : TypeId} {size g n cap : Nat} {xs : List Value} (h : w.ownsRow base e size (.slice (some ⟨g, 0, none⟩) n cap) n xs) : ∃ cur, w.heap[g]? = some (.cells cur e (0, 0)) := by
  rcases h.2 with ⟨h, _⟩ | ⟨g', cap', cur, h, _, hgb, _⟩
  · cases h
  · cases h
    exact ⟨_, hgb⟩

set_option maxHeartbeats 4000000 in
theorem outer_good (n m p : Nat) (A B : Option Addr) (c d : Nat) (ly lx : List Int) (q : Int) (w : World) (hn : 1 ≤ n ∧ n ≤ 1000) (hm : 1 ≤ m ∧ m ≤ 1000) (hp : n * m = p) (hp' : 1 ≤ p ∧ p ≤ 1048576) (hly : ly.length = n) (hlx : lx.length = m)
    (h : Rd w 1 A n (iv ly)) (h' : Rd w 1 B m (iv lx)) (h1 : ∀ v ∈ ly, In1 v) (h2 : ∀ v ∈ lx, In1 v) :
    Calls Try.prog 24 #[.slice A n c, .slice B m d, .int .i64 q] w (GridOf w n m p (outN ly lx q)) := by
  have HC := Lib.hid (fun W => new_good n m p W (by omega) (by omega) hp'.2 hp)
  have hrt : decide (RightP n m p) = true := decide_eq_true ⟨⟨by omega, by omega, by omega, by omega⟩, by rw [← hp]; exact Int.natCast_mul n m⟩
  have C2 := fun A c W => right_any n m A p c W (by omega)
  rw [hrt] at C2
  have HC2 := Lib.hid C2
  obtain ⟨W0, hW0⟩ : ∃ W0, (((w.alloc (.cells #[.slice A n c] 29)).alloc (.cells #[.slice B m d] 29)).alloc (.cells #[.int .i64 q] 3)).alloc (.cells #[.int .i64 0, .int .i64 0, .slice none 0 0] 51) = W0 := ⟨_, rfl⟩
  have k0 : Below w.heap.size w W0 := by rw [← hW0]; exact ((((Below.refl _ _).alloc (Nat.le_refl _) _).alloc (by simp) _).alloc (by simp <;> omega) _).alloc (by simp <;> omega) _
  have b0 : Blk W0 w.heap.size 29 #[.slice A n c] := by rw [← hW0]; exact (((Blk.new _ _ _).alloc _).alloc _).alloc _
  have b1 : Blk W0 (w.heap.size + 1) 29 #[.slice B m d] := by rw [← hW0]; exact ((Blk.new' _ _ (by simp)).alloc _).alloc _
  have b2 : Blk W0 (w.heap.size + 1 + 1) 3 #[.int .i64 q] := by rw [← hW0]; exact (Blk.new' _ _ (by simp)).alloc _
  have b3 : Blk W0 (w.heap.size + 1 + 1 + 1) 51 #[.int .i64 0, .int .i64 0, .slice none 0 0] := by rw [← hW0]; exact Blk.new' _ _ (by simp)
  have a0 : W0.cell? ⟨w.heap.size, 0, none⟩ = some (.slice A n c) := b0.cell 0
  have a1 : W0.cell? ⟨w.heap.size + 1, 0, none⟩ = some (.slice B m d) := b1.cell 0
  have HW := Lib.hid hW0
  have HB0 := Lib.hid b0
  have HB1 := Lib.hid b1
  have HB2 := Lib.hid b2
  have HB3 := Lib.hid b3
  have HK := Lib.hid k0
  have HRY := Lib.hid (h.below k0)
  have HRX := Lib.hid (h'.below k0)
  have HLY := Lib.hid hly
  have HLX := Lib.hid hlx
  have HIN := Lib.hid (And.intro h1 h2)
  have HP := Lib.hid hp
  have HN := Lib.hid hn
  have HM := Lib.hid hm
  clear hW0 b0 b1 b2 b3 k0 hrt C2 h h' hly hlx h1 h2 hp hn hm
  refine (callsIn_wide (n := 9)).1 (callsIn_of_wp_marks Try.func24 rfl trivial (wpIn_wide.2 ?_) rfl)
  simp only [Try.ntmps24, List.size_toArray, List.length_cons, List.length_nil, Nat.reduceAdd, Nat.reduceSub, Array.replicate_succ, Array.replicate_zero, List.push_toArray, List.append_toArray, List.nil_append, List.cons_append]
  go_wp2_with fail
  rw [HW.out]
  go_wp2_with fail
  ((with_reducible refine (HC.out _).mono ?_); rintro e w1 ⟨A', c', rfl, hown, hb1⟩)
  obtain ⟨_, _, q1, q2, q3, q6⟩ := own_form hown
  injection q1 with q4 q5 q7
  subst q4 q7
  obtain ⟨g, rfl, hg0, hg1⟩ := q6 (by omega)
  have k1 := Lib.hid hb1
  have HO := Lib.hid hown
  clear a0 a1 hb1 hown q6 HW
  go_wp2_with fail
  obtain ⟨W2, hW2⟩ : ∃ W2, w1.alloc (.cells #[.int .i64 n, .int .i64 m, .slice (some ⟨g, 0, none⟩) p c'] 51) = W2 := ⟨_, rfl⟩
  rw [hW2]
  have k2 : Below w1.heap.size w1 W2 := by rw [← hW2]; exact (Below.refl _ _).alloc (Nat.le_refl _) _
  have o2 : Blk W2 w1.heap.size 51 #[.int .i64 n, .int .i64 m, .slice (some ⟨g, 0, none⟩) p c'] := by rw [← hW2]; exact Blk.new _ _ _
  clear hW2
  ((with_reducible refine (HC2.out _ _ _).mono ?_); rintro e w3 ⟨rfl, hb3⟩)
  have o3 := o2.kept hb3
  have k3 : Below w1.heap.size w1 w3 := k2.trans (hb3.mono k2.size)
  have l3 := o3.lt
  have y0 : w3.cell? ⟨w1.heap.size, 0, none⟩ = some (.int .i64 n) := o3.cell 0
  have y1 : w3.cell? ⟨w1.heap.size, 1, none⟩ = some (.int .i64 m) := o3.cell 1
  have y2 : w3.cell? ⟨w1.heap.size, 2, none⟩ = some (.slice (some ⟨g, 0, none⟩) p c') := o3.cell 2
  have HO3 := Lib.hid o3
  have HK3 := Lib.hid k3
  clear hb3 k2 o2 o3 k3
  go_wp2_with fail
  ((with_reducible refine (rows_any n m _ p c' _).mono ?_); rintro e w4 ⟨rfl, hbm, hb4⟩)
  clear y0 y1 y2
  go_wp2_with fail
  have z1 := k1.out.size
  have z3 := HK3.out.size
  have z4 : w3.heap.size < w4.heap.size := hbm.lt
  have K4 : Below W0.heap.size W0 w4 := k1.out.trans ((HK3.out.mono z1).trans (hb4.mono (by omega)))
  have O4 : w4.ownsRow W0.heap.size 2 1 (.slice (some ⟨g, 0, none⟩) p c') p (iv (selL p (outF ly lx q) (rowsP m ([] : List (Fin n))))) := by
    have e : selL p (outF ly lx q) (rowsP m ([] : List (Fin n))) = zeros p := selL_none p _
    rw [e]
    exact own_below (own_below HO.out HK3.out) hb4
  have M4 := HO3.out.kept hb4
  have hseq := rows_stops (9 - 1) w3.heap.size n m p c' g 0 (by omega) (by have := HN.out; omega) HM.out.1 HP.out q2 (by have := q3; unfold maxLen at this; omega) (fun b => b = g ∨ w4.heap.size ≤ b) (by omega) _ w4 hbm
  clear hb4 hbm
  refine wpIn_wide.1 (wpIn_rangeFunc_ownH (F := Fence.wide) (n := 9) rfl (by omega) (gf := 71) (lb := #[.pointer (some ⟨w3.heap.size, 0, none⟩)]) rfl trivial (enters_of Try.func71 (by kernel_rfl) rfl) hseq (fun h k => h.trans k) (butK_b (w := w4) (fun i hi => .inr hi)) (Below.refl _ _) (fun _ => rfl)
    (fun pre W => (W.ownsRow W0.heap.size 2 1 (.slice (some ⟨g, 0, none⟩) p c') p (iv (selL p (outF ly lx q) (rowsP m pre))) ∧ Blk W w1.heap.size 51 #[.int .i64 n, .int .i64 m, .slice (some ⟨g, 0, none⟩) p c']) ∧ Below W0.heap.size W0 W)
    (fun _ _ _ => False)
    (OwnFrom.and (OwnFrom.and (Own.from (ownsRow_own W0.heap.size 2 1 (.slice (some ⟨g, 0, none⟩) p c') p (fun pre : List (Fin n) => iv (selL p (outF ly lx q) (rowsP m pre)))) _) (fun _ X Y row hs hg hr => Blk.turn hs hg hr)) (ownFrom_below (Nat.le_refl _) K4.size))
    (fun _ _ _ _ _ hs _ _ => hs)
    ⟨⟨O4, M4⟩, K4⟩
    (fun k a' W => a' = { tmps := #[.slice A n c, .slice B m d, .int .i64 q, .pointer (some ⟨w.heap.size, 0, none⟩), .pointer (some ⟨w.heap.size + 1, 0, none⟩), .pointer (some ⟨w.heap.size + 1 + 1, 0, none⟩), .pointer (some ⟨w.heap.size + 1 + 1 + 1, 0, none⟩), .pointer (some ⟨w1.heap.size, 0, none⟩), .int .i64 k.val, .slice (some ⟨g, k.val * m, none⟩) m m, undef, .slice A n c, .int .i64 n, .slice B m d, .int .i64 m, .agg #[.int .i64 n, .int .i64 m, .slice (some ⟨g, 0, none⟩) p c'], .agg #[.int .i64 n, .int .i64 m, .slice (some ⟨g, 0, none⟩) p c'], .bool true, .bool false, undef, .agg #[.int .i64 n, .int .i64 m, .slice (some ⟨g, 0, none⟩) p c'], .func (.func 71) #[] #[.pointer (some ⟨w3.heap.size, 0, none⟩)], .int .i64 k.val, .slice (some ⟨g, k.val * m, none⟩) m m, undef, undef, undef, undef, undef, undef, undef, undef, undef, undef, undef, undef, undef, undef, undef, undef, undef, undef, undef, undef], defers := [] })
    (fun x a' s X Y row hs hg hr => hs) ?assign ?body ?done ?stop)
  case assign =>
    rintro l' pre k W K hI hK
    simp only [encRow]
    gi_wp2_with fail
    exact hK _ _ ((KeepsOthers.refl _).from _) (But.refl _ _) hI rfl
  case body =>
    rintro l' pre k a' W hl3 ⟨r0, hr0⟩ ⟨⟨hown, hblk⟩, hB⟩ rfl hlt
    obtain ⟨b0, hb0⟩ : ∃ b0, k.val * m = b0 := ⟨_, rfl⟩
    obtain ⟨kv, hkv⟩ : ∃ kv, k.val = kv := ⟨_, rfl⟩
    have hkn : kv < n := by rw [← hkv]; exact k.isLt
    rw [hb0, hkv]
    have HB0' := Lib.hid hb0
    have HKV := Lib.hid hkv
    have HOW := Lib.hid hown
    have HBK := Lib.hid hblk
    have HBB := Lib.hid hB
    have hmm := HM.out
    have hnn := HN.out
    clear hb0 hkv hown hblk hB hl3 hr0 hlt O4 M4 K4 hseq
    gi_wp2_with fail
    gi_loopw [26] (fun i wr => ∃ j : Nat, j ≤ m ∧ i = .int .i64 j ∧ wr.ownsRow W0.heap.size 2 1 (.slice (some ⟨g, 0, none⟩) p c') p (iv (selL p (outF ly lx q) (rowP m pre k.val j))) ∧ W.grownBy wr (some g)) (fun i _ => m - (intOf i).toNat)
    case atStart => exact ⟨0, by omega, rfl, by rw [selL_congr (fun i _ => rowP_zero m pre k.val i)]; exact HOW.out, World.grownBy.refl _ _⟩
    case round =>
      obtain ⟨j, hj, rfl, ho, hg⟩ := hrel
      by_cases hlt : j < m
      · have hBr : Below W0.heap.size W0 wr := below_gr HBB.out HBB.out.size hg hg0
        obtain ⟨gy, oy, y, rfl, hbly, hy, cy⟩ := iv_at HLY.out (HRY.out.below hBr) hkn
        obtain ⟨gx, ox, x, rfl, hblx, hx, cx⟩ := iv_at HLX.out (HRX.out.below hBr) hlt
        have x0 : wr.cell? ⟨w.heap.size, 0, none⟩ = some (.slice (some ⟨gy, oy, none⟩) n c) := (HB0.out.kept hBr).cell 0
        have x1 : wr.cell? ⟨w.heap.size + 1, 0, none⟩ = some (.slice (some ⟨gx, ox, none⟩) m d) := (HB1.out.kept hBr).cell 0
        have x2 : wr.cell? ⟨w.heap.size + 1 + 1, 0, none⟩ = some (.int .i64 q) := (HB2.out.kept hBr).cell 0
        have l0 := (HB0.out.kept hBr).lt
        have l1 := (HB1.out.kept hBr).lt
        have l2 := (HB2.out.kept hBr).lt
        have HMU := Lib.hid (fun W => mulQ_any y x q W (HIN.out.1 y (List.mem_of_getElem? hy)) (HIN.out.2 x (List.mem_of_getElem? hx)))
        have HOO := Lib.hid ho
        have HG := Lib.hid hg
        have HY := Lib.hid hy
        have HX := Lib.hid hx
        have i0 : (0 : Int) ≤ (kv : Int) := by omega
        have i1 : (kv : Int) < (n : Int) := by omega
        have i2 : (0 : Int) ≤ (j : Int) := by omega
        have i3 : (j : Int) < (m : Int) := by omega
        clear ho hg hBr hy hx
        gi_wp2_with fail
        refine wpIn_region_mix' wr [] [0, 1, 2, 3, 4, 5, 6, 7, 8, 9, 10, 11, 12] 13 [] (by kernel_rfl) (by kernel_rfl) (by kernel_rfl) (by kernel_rfl) (Kept.of (Below.refl _ _)) ?_
        simp only [PureW, List.filterMap_cons, List.filterMap_nil, List.getElem?_cons_succ, List.getElem?_cons_zero]
        go_simp
        change wpQuiet _ _ _ _ (_ :: _ :: _ :: _ :: _ :: _ :: _ :: _ :: _ :: _ :: _ :: _ :: _ :: []) _
        have KC := fun (u : KW wr) b o h => KW.cells u b o h
        iterate 13 (go_big_quiet_step (first | (go_at_call 57; (with_reducible exact kept_call (HMU.out _)))))
        refine wpQuiet_nil ?_
        rintro ⟨w5, k5⟩
        change wpList _ _ _ (_ :: []) _ _
        dsimp only
        clear KC
        have hO5 := own_below HOO.out k5.2.2
        have hlp : b0 + j < p := by rw [← HB0'.out, ← HP.out]; exact row_lt k.val j n m k.isLt hlt
        obtain ⟨u, hu⟩ : ∃ u, w5.cell? ⟨g, b0 + j, none⟩ = some u := by
          rw [hO5.cellAt (b0 + j) (by omega), iv_get _ _ (by rw [selL_length]; exact hlp)]
          exact ⟨_, rfl⟩
        have fu := hO5.frozenAt (b0 + j)
        have hlg : g < w5.heap.size := (hO5.lt g rfl).2
        have hst := hO5.stored (b0 + j) (.int .i64 (mulQ y x q))
        have HS := Lib.hid hst
        have HK5 := Lib.hid k5.2.2
        have hF : outF ly lx q (b0 + j) = mulQ y x q := by
          rw [outF, HLX.out, ← HB0'.out, row_div _ _ _ hlt, row_mod _ _ _ hlt, HKV.out, List.getD_eq_getElem?_getD, HY.out, List.getD_eq_getElem?_getD, HX.out]
          rfl
        have HF := Lib.hid hF
        have HLP := Lib.hid hlp
        clear hst k5 hO5 hF hlp x0 x1 x2 cy cx
        go_wp2_with fail
        refine NoPanic.normal (NoOut.normal ?_)
        gi_wp2
        go_roundw
        case rel =>
          refine ⟨j + 1, by omega, by go_num, ?_, (gr_below_first HK5.out HS.out.2 |> fun h => World.grownBy.trans HG.out h)⟩
          have h3 := HS.out.1
          rw [iv_set, ← HF.out, selL_set (Q := rowP m pre k.val (j + 1)) HLP.out (fun i _ => by rw [← HB0'.out]; exact rowP_next hmm.1 pre k.val j i hlt), HF.out] at h3
          exact h3
        case measure => simp [intOf]; omega
      · obtain rfl : j = m := by omega
        gi_wp2
        refine ⟨(KeepsOthers.of_grownBy hg (fun a o e ha => ?_)).from _, But.of_gr hg (.inl rfl), ⟨?_, HBK.out.grown hg ?_⟩, below_gr HBB.out HBB.out.size hg hg0⟩
        · cases e
          obtain ⟨cur, hcur⟩ := own_cells HOW.out
          rw [hcur] at ha
          cases ha
          rfl
        · rw [selL_congr (fun i _ => rowP_all hmm.1 pre k i)] at ho
          exact ho
        · intro e
          injection e with e
          omega
  case done =>
    rintro D ys W hD rfl ⟨⟨hown, hblk⟩, hB⟩ hK
    have hc0 : W.cell? ⟨w1.heap.size, 0, none⟩ = some (.int .i64 n) := hblk.cell 0
    have hc1 : W.cell? ⟨w1.heap.size, 1, none⟩ = some (.int .i64 m) := hblk.cell 1
    have hc2 : W.cell? ⟨w1.heap.size, 2, none⟩ = some (.slice (some ⟨g, 0, none⟩) p c') := hblk.cell 2
    have hlw := hblk.lt
    have m3 := HB3.out.kept hB
    have t0 : W.cell? ⟨w.heap.size + 1 + 1 + 1, 0, none⟩ = some (.int .i64 0) := m3.cell 0
    have t1 : W.cell? ⟨w.heap.size + 1 + 1 + 1, 1, none⟩ = some (.int .i64 0) := m3.cell 1
    have t2 : W.cell? ⟨w.heap.size + 1 + 1 + 1, 2, none⟩ = some (.slice none 0 0) := m3.cell 2
    have g0 := m3.frozen 0
    have g1 := m3.frozen 1
    have g2 := m3.frozen 2
    have l3' := m3.lt
    have HM3 := Lib.hid m3
    have HOW := Lib.hid hown
    have HBB := Lib.hid hB
    clear hown hB m3 hseq
    go_wp2_with fail
    have hst := set3 HM3.out (.int .i64 n) (.int .i64 m) (.slice (some ⟨g, 0, none⟩) p c')
    have hDw : w.heap.size + 1 + 1 + 1 < w4.heap.size := by have := HB3.out.lt; omega
    have hK5 : (((W.setCell ⟨w.heap.size + 1 + 1 + 1, 0, none⟩ (.int .i64 n)).setCell ⟨w.heap.size + 1 + 1 + 1, 1, none⟩ (.int .i64 m)).setCell ⟨w.heap.size + 1 + 1 + 1, 2, none⟩ (.slice (some ⟨g, 0, none⟩) p c')).heap[D]? = some (.deferred (some [])) := by
      rw [heap_setCell_other _ _ _ _ (by simp; omega), heap_setCell_other _ _ _ _ (by simp; omega), heap_setCell_other _ _ _ _ (by simp; omega)]
      exact hK
    obtain ⟨W5, hW5⟩ : ∃ W5, ((W.setCell ⟨w.heap.size + 1 + 1 + 1, 0, none⟩ (.int .i64 n)).setCell ⟨w.heap.size + 1 + 1 + 1, 1, none⟩ (.int .i64 m)).setCell ⟨w.heap.size + 1 + 1 + 1, 2, none⟩ (.slice (some ⟨g, 0, none⟩) p c') = W5 := ⟨_, rfl⟩
    rw [hW5] at hst hK5 ⊢
    refine ⟨by simp, .inl ⟨_, _, rfl, run_takeDeferred hK5, ?_⟩⟩
    have hg5 : W5.grownBy (W5.putObj D (.deferred none)) (some D) := grownBy_putObj' W5 D (.deferred none)
    have hb6 : Blk (W5.putObj D (.deferred none)) (w.heap.size + 1 + 1 + 1) 51 #[.int .i64 n, .int .i64 m, .slice (some ⟨g, 0, none⟩) p c'] := hst.2.grown hg5 (by simp; omega)
    have hz := HK.out.size
    have ho5 := HOW.out.kept hst.1 (.inr (own_blk_ne HOW.out HM3.out (by decide)))
    have ho6 := ownsRow_putObj ho5 (.deferred none) hK5 rfl
    have e : selL p (outF ly lx q) (rowsP m (List.finRange n)) = outN ly lx q := by
      rw [outN, HLY.out, HLX.out, HP.out]
      exact selL_all (fun i hi => rowsP_fin (by rw [HP.out]; exact hi) HM.out.1)
    rw [e] at ho6
    exact ⟨_, results_cell_row rfl _ _ _ _ _ _ _ rfl hb6 Try.underlying51 rfl (by kernel_rfl), _, _, rfl, own_base ho6 hz, (below_gr ((Kept.of HK.out).call HBB.out).2.2 (Nat.le_trans hz HBB.out.size) hst.1 (by omega)).trans ((Below.refl _ _).grown hg5 (Nat.le_trans (Nat.le_trans hz HBB.out.size) hst.1.size) (fun k e => by cases e; omega))⟩
  case stop =>
    rintro D c pre W _ _ h _
    exact h.elim

end Go.Proofs.Ytnnphileeeaibaa
