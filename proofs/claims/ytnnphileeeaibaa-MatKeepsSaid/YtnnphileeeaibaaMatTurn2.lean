/-
  Turn.
-/
import Derived.Test.YtnnphileeeaibaaMatAt
import Derived.Deep.OwnRows
namespace Go.Proofs.Ytnnphileeeaibaa
set_option linter.unusedVariables false
set_option linter.unusedSimpArgs false
set_option maxRecDepth 100000
open Go.RowKit Go.Shelf

attribute [local go_sem] Oper.semAt_some

set_option maxHeartbeats 1000000 in
theorem turn_not (r q : Int) (A : Option Addr) (n c : Nat) (w : World) (hr : ¬ RightP r q n) (hn : n ≤ 1000000000) :
    Calls Try.prog 48 #[.agg #[.int .i64 r, .int .i64 q, .slice A n c]] w fun e w' => e = .returned NoGrid ∧ Below w.heap.size w w' := by
  have C1 := fun W => right_any r q A n c W hn
  rw [show decide (RightP r q n) = false from decide_eq_false hr] at C1
  have HC := Lib.hid C1
  obtain ⟨W0, hW0⟩ : ∃ W0, (w.alloc (.cells #[.int .i64 r, .int .i64 q, .slice A n c] 51)).alloc (.cells #[.int .i64 0, .int .i64 0, .slice none 0 0] 51) = W0 := ⟨_, rfl⟩
  have k0 : Below w.heap.size w W0 := by rw [← hW0]; exact ((Below.refl _ _).alloc (Nat.le_refl _) _).alloc (by simp) _
  have b0 : Blk W0 w.heap.size 51 #[.int .i64 r, .int .i64 q, .slice A n c] := by rw [← hW0]; exact (Blk.new _ _ _).alloc _
  have b1 : Blk W0 (w.heap.size + 1) 51 #[.int .i64 0, .int .i64 0, .slice none 0 0] := by rw [← hW0]; exact Blk.new' _ _ (by simp)
  have a0 : W0.cell? ⟨w.heap.size, 0, none⟩ = some (.int .i64 r) := b0.cell 0
  have a1 : W0.cell? ⟨w.heap.size, 1, none⟩ = some (.int .i64 q) := b0.cell 1
  have a2 : W0.cell? ⟨w.heap.size, 2, none⟩ = some (.slice A n c) := b0.cell 2
  have la := b0.lt
  have HW := Lib.hid hW0
  have HB1 := Lib.hid b1
  have HK := Lib.hid k0
  clear hW0 b1 k0 b0 hr C1
  go_enter Try.func48, Try.ntmps48
  go_wp2_with fail
  rw [HW.out]
  go_wp2_with fail
  ((with_reducible refine (HC.out _).mono ?_); rintro e w1 ⟨rfl, hb1⟩)
  have b2 := HB1.out.kept hb1
  have x0 : w1.cell? ⟨w.heap.size + 1, 0, none⟩ = some (.int .i64 0) := b2.cell 0
  have x1 : w1.cell? ⟨w.heap.size + 1, 1, none⟩ = some (.int .i64 0) := b2.cell 1
  have x2 : w1.cell? ⟨w.heap.size + 1, 2, none⟩ = some (.slice none 0 0) := b2.cell 2
  have f0 := b2.frozen 0
  have f1 := b2.frozen 1
  have f2 := b2.frozen 2
  have l2 := b2.lt
  have HB2 := Lib.hid b2
  have KK := Lib.hid ((Kept.of HK.out).call hb1).2.2
  clear hb1 b2 a0 a1 a2 la
  go_wp2
  refine bodyPost_ret (v := .agg #[.int .i64 0, .int .i64 0, .slice none 0 0]) (by simp [results, Try.results48, go_sem, x0, x1, x2, l2]) rfl ⟨rfl, ?_⟩
  exact below_gr KK.out KK.out.size (set3 HB2.out _ _ _).1 (by omega)

/-- The place of an element in the turned grid. -/
theorem place_any (R C n i j T B G c : Nat) (C' : Int) (s : Value) (w : World) (hn : R * C = n) (hn' : n ≤ 1048576) (hR : R ≤ 1048576) (hC : C ≤ 1048576) (hi : i < R) (hj : j < C)
    (hT : Blk w T 51 #[.int .i64 C', .int .i64 R, .slice (some ⟨G, 0, none⟩) n c]) (hB : Blk w B 51 #[.int .i64 R, .int .i64 C', s]) :
    Calls Try.prog 63 #[.int .i64 i, .int .i64 j, .pointer (some ⟨T, 0, none⟩), .pointer (some ⟨B, 0, none⟩)] w fun e w' => e = .returned (.pointer (some ⟨G, j * R + i, none⟩)) ∧ Below w.heap.size w w' := by
  obtain ⟨p, hp⟩ : ∃ p, j * R = p := ⟨_, rfl⟩
  have hpn : p + R ≤ n := by
    rw [← hp, ← hn, Nat.mul_comm R C]
    calc j * R + R = (j + 1) * R := by rw [Nat.add_mul, Nat.one_mul]
      _ ≤ C * R := Nat.mul_le_mul_right _ hj
  have e1 : wrap64 ((j : Int) * (R : Int)) = (p : Int) := by rw [← Int.natCast_mul, hp]; exact wrap64_id _ (by omega) (by omega)
  have t2 : w.cell? ⟨T, 2, none⟩ = some (.slice (some ⟨G, 0, none⟩) n c) := hT.cell 2
  have b0 : w.cell? ⟨B, 0, none⟩ = some (.int .i64 R) := hB.cell 0
  have lT := hT.lt
  have lB := hB.lt
  have i1 : (0 : Int) ≤ (p : Int) + (i : Int) := by omega
  have i2 : (p : Int) + (i : Int) < (n : Int) := by omega
  rw [hp]
  clear hp hn hT hB
  go_enter Try.func63, Try.ntmps63
  go_wp2
  go_ret
  exact ⟨rfl, Below.refl _ _⟩

/-- The places that the rows of pre have in the turned grid, and the first c of row k. -/
def colsP {R : Nat} (pre : List (Fin R)) (i : Nat) : Bool := pre.any fun k => k.val == i % R
def colP {R : Nat} (pre : List (Fin R)) (k c i : Nat) : Bool := colsP pre i || (i % R == k && decide (i / R < c))
theorem colP_zero {R : Nat} (pre : List (Fin R)) (k i : Nat) : colP pre k 0 i = colsP pre i := by simp [colP]
theorem colP_all {R C i : Nat} (hi : i < C * R) (pre : List (Fin R)) (k : Fin R) : colP pre k.val C i = colsP (pre ++ [k]) i := by
  have h0 : 0 < R := Nat.lt_of_le_of_lt (Nat.zero_le _) k.isLt
  have h : i / R < C := (Nat.div_lt_iff_lt_mul h0).2 hi
  simp [colP, colsP, h]
  congr 1
  exact Bool.eq_iff_iff.2 ⟨fun h => by simpa using (of_decide_eq_true h).symm, fun h => by simpa using (of_decide_eq_true h).symm⟩
theorem colP_next {R : Nat} (pre : List (Fin R)) (k c i : Nat) (hk : k < R) : colP pre k (c + 1) i = (colP pre k c i || i == c * R + k) := by
  have e : (i == c * R + k) = (i % R == k && i / R == c) := by
    rw [Bool.eq_iff_iff]
    simp only [Bool.and_eq_true, beq_iff_eq]
    constructor
    · rintro rfl
      exact ⟨row_mod c k R hk, row_div c k R hk⟩
    · rintro ⟨rfl, rfl⟩
      rw [Nat.mul_comm]
      exact (Nat.div_add_mod i R).symm
  have e2 : decide (i / R < c + 1) = (decide (i / R < c) || i / R == c) := by
    rw [Bool.eq_iff_iff]
    simp only [Bool.or_eq_true, beq_iff_eq, decide_eq_true_eq]
    omega
  rw [e, colP, colP, e2, Bool.and_or_distrib_left, Bool.or_assoc]
theorem colsP_fin {R i : Nat} (h : 0 < R) : colsP (List.finRange R) i = true := by
  have h1 : i % R < R := Nat.mod_lt _ h
  unfold colsP
  rw [List.any_eq_true]
  exact ⟨⟨i % R, h1⟩, List.mem_finRange _, by simp⟩

theorem made_iv (n : Nat) : (madeCells #[Value.int .i64 0] n).toList = iv (zeros n) := by
  have h := iv_zeros n
  rw [Nat.mul_one] at h
  exact h
theorem made_size (n : Nat) : (madeCells #[Value.int .i64 0] n).size = n := by
  have h := congrArg List.length (made_iv n)
  rw [Array.length_toList, iv_length, List.length_replicate] at h
  exact h

theorem own_made (w : World) (n g base : Nat) (e : TypeId) (hg : w.heap.size = g) (hb : base ≤ g) (hn : n ≤ 1048576) : (w.alloc (.cells (madeCells #[Value.int .i64 0] n) e)).ownsRow base e 1 (.slice (some ⟨g, 0, none⟩) n n) n (iv (zeros n)) := by
  subst hg
  rw [← made_iv]
  exact World.ownsRow_lit w _ n hb (by unfold maxLen; omega) (by rw [made_size, Nat.mul_one])

set_option maxHeartbeats 4000000 in
theorem turn_good (R C n : Nat) (A : Option Addr) (c : Nat) (l : List Int) (w : World) (hR : 1 ≤ R ∧ R ≤ 1048576) (hC : 1 ≤ C ∧ C ≤ 1048576) (hn : R * C = n) (hn' : n ≤ 1048576) (hl : l.length = n) (h : Rd w 1 A n (iv l)) (hcap : n ≤ c) (hcm : c ≤ 9223372036854775807) :
    Calls Try.prog 48 #[.agg #[.int .i64 R, .int .i64 C, .slice A n c]] w (GridOf w C R n (turnN l R C)) := by
  have hn0 : 0 < n := by rw [← hn]; exact Nat.mul_pos hR.1 hC.1
  obtain ⟨gA, oA, rfl, hgA, hcA⟩ := h.2 hn0
  have hmk := fun W => run_make_row' (P := Try.prog) 29 2 (.int .i64 0) 8 Try.underlying29 slVec.info rfl .i64 .i64 n (by omega) (by omega) W
  have hrt : decide (RightP R C n) = true := decide_eq_true ⟨⟨by omega, by omega, by omega, by omega⟩, by rw [← hn]; exact Int.natCast_mul R C⟩
  have C1 := fun W => right_any R C (some ⟨gA, oA, none⟩) n c W (by omega)
  rw [hrt] at C1
  have HC1 := Lib.hid C1
  obtain ⟨W0, hW0⟩ : ∃ W0, (w.alloc (.cells #[.int .i64 R, .int .i64 C, .slice (some ⟨gA, oA, none⟩) n c] 51)).alloc (.cells #[.int .i64 0, .int .i64 0, .slice none 0 0] 51) = W0 := ⟨_, rfl⟩
  have k0 : Below w.heap.size w W0 := by rw [← hW0]; exact ((Below.refl _ _).alloc (Nat.le_refl _) _).alloc (by simp) _
  have b0 : Blk W0 w.heap.size 51 #[.int .i64 R, .int .i64 C, .slice (some ⟨gA, oA, none⟩) n c] := by rw [← hW0]; exact (Blk.new _ _ _).alloc _
  have b1 : Blk W0 (w.heap.size + 1) 51 #[.int .i64 0, .int .i64 0, .slice none 0 0] := by rw [← hW0]; exact Blk.new' _ _ (by simp)
  have a0 : W0.cell? ⟨w.heap.size, 0, none⟩ = some (.int .i64 R) := b0.cell 0
  have a1 : W0.cell? ⟨w.heap.size, 1, none⟩ = some (.int .i64 C) := b0.cell 1
  have a2 : W0.cell? ⟨w.heap.size, 2, none⟩ = some (.slice (some ⟨gA, oA, none⟩) n c) := b0.cell 2
  have lt0 := b0.lt
  have HW := Lib.hid hW0
  have HB0 := Lib.hid b0
  have HB1 := Lib.hid b1
  have HK := Lib.hid k0
  have HRL := Lib.hid (h.below k0)
  have HL := Lib.hid hl
  have HN := Lib.hid hn
  have HR := Lib.hid hR
  have HC := Lib.hid hC
  have HMK := Lib.hid hmk
  clear hW0 b0 b1 k0 hrt C1 h hl hn hcA hmk
  refine (callsIn_wide (n := 9)).1 (callsIn_of_wp_marks Try.func48 rfl trivial (wpIn_wide.2 ?_) rfl)
  simp only [Try.ntmps48, List.size_toArray, List.length_cons, List.length_nil, Nat.reduceAdd, Nat.reduceSub, Array.replicate_succ, Array.replicate_zero, List.push_toArray, List.append_toArray, List.nil_append, List.cons_append]
  go_wp2_with fail
  rw [HW.out]
  go_wp2_with fail
  ((with_reducible refine (HC1.out _).mono ?_); rintro e w1 ⟨rfl, hb1⟩)
  have m0 := HB0.out.kept hb1
  have y0 : w1.cell? ⟨w.heap.size, 0, none⟩ = some (.int .i64 R) := m0.cell 0
  have y1 : w1.cell? ⟨w.heap.size, 1, none⟩ = some (.int .i64 C) := m0.cell 1
  have y2 : w1.cell? ⟨w.heap.size, 2, none⟩ = some (.slice (some ⟨gA, oA, none⟩) n c) := m0.cell 2
  have ly := m0.lt
  have HM0 := Lib.hid m0
  have HM1 := Lib.hid (HB1.out.kept hb1)
  have HR1 := Lib.hid (HRL.out.below hb1)
  have HK1 := Lib.hid ((Kept.of HK.out).call hb1).2.2
  have hgw : gA < w1.heap.size := Nat.lt_of_lt_of_le hgA (Nat.le_trans HK.out.size hb1.size)
  clear hb1 m0 a0 a1 a2 lt0 HW HC1 HB0 HB1 HRL
  go_wp2_with fail
  have hmk := HMK.out
  go_cut [3] from 13 to 21 (fun s3 wc => ∃ (T G : Nat), s3 = .pointer (some ⟨T, 0, none⟩) ∧ w1.heap.size ≤ T ∧ w1.heap.size ≤ G ∧ T ≠ G ∧ Below w1.heap.size w1 wc ∧ Blk wc T 51 #[.int .i64 C, .int .i64 R, .slice (some ⟨G, 0, none⟩) n n] ∧ wc.ownsRow w1.heap.size 2 1 (.slice (some ⟨G, 0, none⟩) n n) n (iv (zeros n)))
  case first =>
    go_region
    all_goals go_wp2_with fail
    all_goals go_meet
    all_goals first
      | exact ⟨_, _, rfl, by omega, by omega, by omega, (((Below.refl _ _).alloc (Nat.le_refl _) _).alloc (by simp) _).drew, (Blk.new' _ _ (by simp)).drew, ((own_made _ n _ _ _ rfl (Nat.le_refl _) hn').alloc _).drew⟩
      | exact ⟨_, _, rfl, by omega, by omega, by omega, (((Below.refl _ _).alloc (Nat.le_refl _) _).alloc (by simp) _).drew, ((Blk.new _ _ _).alloc _).drew, (own_made _ n _ _ _ (by simp) (by omega) hn').drew⟩
  case rest =>
    clear y0 y1 y2 ly hmk HMK
    rename World => wq
    obtain ⟨T, G, rfl, hT, hG, hTG, hbq, hblk, hown⟩ := hcut
    have m0 := HM0.out.kept hbq
    have y0 : wq.cell? ⟨w.heap.size, 0, none⟩ = some (.int .i64 R) := m0.cell 0
    have y1 : wq.cell? ⟨w.heap.size, 1, none⟩ = some (.int .i64 C) := m0.cell 1
    have y2 : wq.cell? ⟨w.heap.size, 2, none⟩ = some (.slice (some ⟨gA, oA, none⟩) n c) := m0.cell 2
    have ly := m0.lt
    obtain ⟨W4, hW4⟩ : ∃ W4, wq.alloc (.cells #[.func (.func 63) #[] #[.pointer (some ⟨T, 0, none⟩), .pointer (some ⟨w.heap.size, 0, none⟩)]] 110) = W4 := ⟨_, rfl⟩
    have k4 : Below wq.heap.size wq W4 := by rw [← hW4]; exact (Below.refl _ _).alloc (Nat.le_refl _) _
    have f4 : Blk W4 wq.heap.size 110 #[.func (.func 63) #[] #[.pointer (some ⟨T, 0, none⟩), .pointer (some ⟨w.heap.size, 0, none⟩)]] := by rw [← hW4]; exact Blk.new _ _ _
    have HM4 := Lib.hid (m0.kept k4)
    have HF4 := Lib.hid f4
    have HT4 := Lib.hid (hblk.kept k4)
    have HG4 := Lib.hid (own_below hown k4)
    have HK4 := Lib.hid (((Kept.of hbq).call k4).2.2)
    have HW4 := Lib.hid hW4
    clear m0 hbq hblk hown hW4 k4 f4
    go_wp2_with fail
    rw [HW4.out]
    ((with_reducible refine (rows_any R C _ n c _).mono ?_); rintro e w5 ⟨rfl, hbm, hb5⟩)
    clear y0 y1 y2 ly HW4
    go_wp2_with fail
    have z4 : wq.heap.size < W4.heap.size := HF4.out.lt
    have z5 : W4.heap.size < w5.heap.size := hbm.lt
    have zG : G < W4.heap.size := (HG4.out.lt G rfl).2
    have zT : T < W4.heap.size := HT4.out.lt
    have K5 : Below w1.heap.size w1 w5 := ((Kept.of HK4.out).call hb5).2.2
    have O5 : w5.ownsRow w1.heap.size 2 1 (.slice (some ⟨G, 0, none⟩) n n) n (iv (selL n (turnF l R C) (colsP ([] : List (Fin R))))) := by
      have e : selL n (turnF l R C) (colsP ([] : List (Fin R))) = zeros n := selL_none n _
      rw [e]
      exact own_below HG4.out hb5
    have T5 := HT4.out.kept hb5
    have F5 := HF4.out.kept hb5
    have hseq := rows_stops (9 - 1) W4.heap.size R C n c gA oA (by omega) HR.out.2 HC.out.1 HN.out hcap hcm (fun b => b = G ∨ w5.heap.size ≤ b) (by omega) _ w5 hbm
    have hwq : wq.heap.size ≠ G := by
      intro e
      obtain ⟨cur, hcur⟩ := own_cells HG4.out
      have h2 := HF4.out
      unfold Blk at h2
      rw [e, hcur] at h2
      injection h2 with h2
      injection h2 with _ h3
      exact absurd h3 (by decide)
    clear hb5 hbm
    refine wpIn_wide.1 (wpIn_rangeFunc_ownH (F := Fence.wide) (n := 9) rfl (by omega) (gf := 71) (lb := #[.pointer (some ⟨W4.heap.size, 0, none⟩)]) rfl trivial (enters_of Try.func71 (by kernel_rfl) rfl) hseq (fun h k => h.trans k) (butK_b (w := w5) (fun i hi => .inr hi)) (Below.refl _ _) (fun _ => rfl)
      (fun pre W => ((W.ownsRow w1.heap.size 2 1 (.slice (some ⟨G, 0, none⟩) n n) n (iv (selL n (turnF l R C) (colsP pre))) ∧ Blk W T 51 #[.int .i64 C, .int .i64 R, .slice (some ⟨G, 0, none⟩) n n]) ∧ Blk W wq.heap.size 110 #[.func (.func 63) #[] #[.pointer (some ⟨T, 0, none⟩), .pointer (some ⟨w.heap.size, 0, none⟩)]]) ∧ Below w1.heap.size w1 W)
      (fun _ _ _ => False)
      (OwnFrom.and (OwnFrom.and (OwnFrom.and (Own.from (ownsRow_own w1.heap.size 2 1 (.slice (some ⟨G, 0, none⟩) n n) n (fun pre : List (Fin R) => iv (selL n (turnF l R C) (colsP pre)))) _) (fun _ X Y row hs hg hr => Blk.turn hs hg hr)) (fun _ X Y row hs hg hr => Blk.turn hs hg hr)) (ownFrom_below (Nat.le_refl _) K5.size))
      (fun _ _ _ _ _ hs _ _ => hs)
      ⟨⟨⟨O5, T5⟩, F5⟩, K5⟩
      (fun k a' W => a' = { tmps := #[.agg #[.int .i64 R, .int .i64 C, .slice (some ⟨gA, oA, none⟩) n c], .pointer (some ⟨w.heap.size, 0, none⟩), .pointer (some ⟨w.heap.size + 1, 0, none⟩), .pointer (some ⟨T, 0, none⟩), .pointer (some ⟨wq.heap.size, 0, none⟩), .int .i64 k.val, .slice (some ⟨gA, oA + k.val * C, none⟩) C C, undef, undef, .agg #[.int .i64 R, .int .i64 C, .slice (some ⟨gA, oA, none⟩) n c], .bool true, .bool false, undef, u13, u14, u15, u16, u17, u18, u19, u20, u21, .func (.func 63) #[] #[.pointer (some ⟨T, 0, none⟩), .pointer (some ⟨w.heap.size, 0, none⟩)], .agg #[.int .i64 R, .int .i64 C, .slice (some ⟨gA, oA, none⟩) n c], .func (.func 71) #[] #[.pointer (some ⟨W4.heap.size, 0, none⟩)], .int .i64 k.val, .slice (some ⟨gA, oA + k.val * C, none⟩) C C, undef, undef, undef, undef, undef, undef, undef, undef, undef, undef, undef, undef, undef, undef, undef], defers := [] })
      (fun x a' s X Y row hs hg hr => hs) ?assign ?body ?done ?stop)
    case assign =>
      rintro l' pre k W K hI hK
      simp only [encRow]
      gi_wp2_with fail
      exact hK _ _ ((KeepsOthers.refl _).from _) (But.refl _ _) hI rfl
    case body =>
      rintro l' pre k a' W hl3 ⟨r0, hr0⟩ ⟨⟨⟨hown, hblk⟩, hfun⟩, hB⟩ rfl hlt
      obtain ⟨b0, hb0⟩ : ∃ b0, oA + k.val * C = b0 := ⟨_, rfl⟩
      obtain ⟨kv, hkv⟩ : ∃ kv, k.val = kv := ⟨_, rfl⟩
      have hkn : kv < R := by rw [← hkv]; exact k.isLt
      rw [hb0, hkv]
      have HB0' := Lib.hid hb0
      have HKV := Lib.hid hkv
      have HOW := Lib.hid hown
      have HBK := Lib.hid hblk
      have HFN := Lib.hid hfun
      have HBB := Lib.hid hB
      have hmm := HR.out
      have hnn := HC.out
      clear hb0 hkv hown hblk hfun hB hl3 hr0 hlt O5 T5 F5 K5 hseq
      gi_wp2_with fail
      gi_loopw [29] (fun i wr => ∃ j : Nat, j ≤ C ∧ i = .int .i64 j ∧ wr.ownsRow w1.heap.size 2 1 (.slice (some ⟨G, 0, none⟩) n n) n (iv (selL n (turnF l R C) (colP pre k.val j))) ∧ W.grownBy wr (some G)) (fun i _ => C - (intOf i).toNat)
      case atStart => exact ⟨0, by omega, rfl, by rw [selL_congr (fun i _ => colP_zero pre k.val i)]; exact HOW.out, World.grownBy.refl _ _⟩
      case round =>
        obtain ⟨j, hj, rfl, ho, hg⟩ := hrel
        by_cases hlt : j < C
        · have hBr : Below w1.heap.size w1 wr := below_gr HBB.out HBB.out.size hg hG
          have hkl : k.val * C + j < n := by rw [← HN.out]; exact row_lt k.val j R C k.isLt hlt
          obtain ⟨g', o', x, e1, hbx, hx, cx⟩ := iv_at HL.out (HR1.out.below hBr) hkl
          cases e1
          rw [← Nat.add_assoc, HB0'.out] at cx
          have bT := HBK.out.grown hg (by simp; omega)
          have bF : Blk wr wq.heap.size 110 #[.func (.func 63) #[] #[.pointer (some ⟨T, 0, none⟩), .pointer (some ⟨w.heap.size, 0, none⟩)]] := HFN.out.grown hg (by simp; omega)
          have bM := HM0.out.kept hBr
          have HPL := Lib.hid (place_any R C n kv j T w.heap.size G n C _ wr HN.out hn' hmm.2 hnn.2 hkn hlt bT bM)
          have xF : wr.cell? ⟨wq.heap.size, 0, none⟩ = some (.func (.func 63) #[] #[.pointer (some ⟨T, 0, none⟩), .pointer (some ⟨w.heap.size, 0, none⟩)]) := bF.cell 0
          have lF := bF.lt
          obtain ⟨p, hp⟩ : ∃ p, j * R + kv = p := ⟨_, rfl⟩
          rw [hp] at HPL
          have hpn : p < n := by rw [← hp, ← HN.out, Nat.mul_comm R C]; exact row_lt j kv C R hlt hkn
          have hF : turnF l R C p = x := by
            rw [turnF, ← hp, row_div _ _ _ hkn, row_mod _ _ _ hkn, ← HKV.out, List.getD_eq_getElem?_getD, hx]
            rfl
          have HF := Lib.hid hF
          have HP := Lib.hid hp
          have HOO := Lib.hid ho
          have HG := Lib.hid hg
          have i2 : (0 : Int) ≤ (j : Int) := by omega
          have i3 : (j : Int) < (C : Int) := by omega
          clear ho hg hBr hx bT bF bM hF hp hkl
          gi_wp2_with fail
          refine ⟨trivial, (callsIn_wide.2 (HPL.out.mono ?_)).inRound _⟩
          rintro e w6 ⟨rfl, hb6⟩
          have hO6 := own_below HOO.out hb6
          obtain ⟨u, hu⟩ : ∃ u, w6.cell? ⟨G, p, none⟩ = some u := by
            rw [hO6.cellAt p (by omega), iv_get _ _ (by rw [selL_length]; exact hpn)]
            exact ⟨_, rfl⟩
          have fu := hO6.frozenAt p
          have hlg : G < w6.heap.size := (hO6.lt G rfl).2
          have HS := Lib.hid (hO6.stored p (.int .i64 x))
          have HK6 := Lib.hid hb6
          clear hb6 hO6 xF lF cx
          gi_wp2_with fail
          go_roundw
          case rel =>
            refine ⟨j + 1, by omega, by go_num, ?_, HG.out.trans (gr_below_first HK6.out HS.out.2)⟩
            have h3 := HS.out.1
            rw [iv_set, ← HF.out, selL_set (Q := colP pre k.val (j + 1)) hpn (fun i _ => by rw [← HP.out, ← HKV.out]; exact colP_next pre k.val j i k.isLt), HF.out] at h3
            exact h3
          case measure => simp [intOf]; omega
        · obtain rfl : j = C := by omega
          gi_wp2
          refine ⟨(KeepsOthers.of_grownBy hg (fun a o e ha => ?_)).from _, But.of_gr hg (.inl rfl), ⟨⟨?_, HBK.out.grown hg ?_⟩, HFN.out.grown hg ?_⟩, below_gr HBB.out HBB.out.size hg hG⟩
          · cases e
            obtain ⟨cur, hcur⟩ := own_cells HOW.out
            rw [hcur] at ha
            cases ha
            rfl
          · rw [selL_congr (fun i hi => colP_all (by rw [← HN.out, Nat.mul_comm R] at hi; exact hi) pre k)] at ho
            exact ho
          · intro e
            injection e with e
            omega
          · intro e
            injection e with e
            omega
    case done =>
      rintro D ys W hD rfl ⟨⟨⟨hown, hblk⟩, hfun⟩, hB⟩ hK
      have hc0 : W.cell? ⟨T, 0, none⟩ = some (.int .i64 C) := hblk.cell 0
      have hc1 : W.cell? ⟨T, 1, none⟩ = some (.int .i64 R) := hblk.cell 1
      have hc2 : W.cell? ⟨T, 2, none⟩ = some (.slice (some ⟨G, 0, none⟩) n n) := hblk.cell 2
      have hlw := hblk.lt
      have m3 := HM1.out.kept hB
      have t0 : W.cell? ⟨w.heap.size + 1, 0, none⟩ = some (.int .i64 0) := m3.cell 0
      have t1 : W.cell? ⟨w.heap.size + 1, 1, none⟩ = some (.int .i64 0) := m3.cell 1
      have t2 : W.cell? ⟨w.heap.size + 1, 2, none⟩ = some (.slice none 0 0) := m3.cell 2
      have g0 := m3.frozen 0
      have g1 := m3.frozen 1
      have g2 := m3.frozen 2
      have l3' := m3.lt
      have HM3 := Lib.hid m3
      have HOW := Lib.hid hown
      have HBB := Lib.hid hB
      clear hown hB m3 hseq
      go_wp2_with fail
      have hst := set3 HM3.out (.int .i64 C) (.int .i64 R) (.slice (some ⟨G, 0, none⟩) n n)
      have hDw : w.heap.size + 1 < w5.heap.size := by have := HM1.out.lt; have := K5.size; omega
      have hK5 : (((W.setCell ⟨w.heap.size + 1, 0, none⟩ (.int .i64 C)).setCell ⟨w.heap.size + 1, 1, none⟩ (.int .i64 R)).setCell ⟨w.heap.size + 1, 2, none⟩ (.slice (some ⟨G, 0, none⟩) n n)).heap[D]? = some (.deferred (some [])) := by
        rw [heap_setCell_other _ _ _ _ (by simp; omega), heap_setCell_other _ _ _ _ (by simp; omega), heap_setCell_other _ _ _ _ (by simp; omega)]
        exact hK
      obtain ⟨W5, hW5⟩ : ∃ W5, ((W.setCell ⟨w.heap.size + 1, 0, none⟩ (.int .i64 C)).setCell ⟨w.heap.size + 1, 1, none⟩ (.int .i64 R)).setCell ⟨w.heap.size + 1, 2, none⟩ (.slice (some ⟨G, 0, none⟩) n n) = W5 := ⟨_, rfl⟩
      rw [hW5] at hst hK5 ⊢
      refine ⟨by simp, .inl ⟨_, _, rfl, run_takeDeferred hK5, ?_⟩⟩
      have hg5 : W5.grownBy (W5.putObj D (.deferred none)) (some D) := grownBy_putObj' W5 D (.deferred none)
      have hb6 : Blk (W5.putObj D (.deferred none)) (w.heap.size + 1) 51 #[.int .i64 C, .int .i64 R, .slice (some ⟨G, 0, none⟩) n n] := hst.2.grown hg5 (by simp; omega)
      have hz := HK1.out.size
      have ho5 := HOW.out.kept hst.1 (.inr (own_blk_ne HOW.out HM3.out (by decide)))
      have ho6 := ownsRow_putObj ho5 (.deferred none) hK5 rfl
      have e : selL n (turnF l R C) (colsP (List.finRange R)) = turnN l R C := by
        rw [turnN, Nat.mul_comm C R, HN.out]
        exact selL_all (fun i hi => colsP_fin (by have := HR.out; omega))
      rw [e] at ho6
      exact ⟨_, results_cell_row rfl _ _ _ _ _ _ _ rfl hb6 Try.underlying51 rfl (by kernel_rfl), _, _, rfl, own_base ho6 hz, (below_gr ((Kept.of HK1.out).call HBB.out).2.2 (Nat.le_trans hz HBB.out.size) hst.1 (by omega)).trans ((Below.refl _ _).grown hg5 (Nat.le_trans (Nat.le_trans hz HBB.out.size) hst.1.size) (fun k e => by cases e; omega))⟩
    case stop =>
      rintro D c pre W _ _ h _
      exact h.elim

end Go.Proofs.Ytnnphileeeaibaa
