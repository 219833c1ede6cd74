/-
  The reference's Reduce.
-/
import Derived.Test.YtkecpbdgcbgogaaRedMove
import Derived.Test.YtkecpbdgcbgogaaVecSumsPlain
namespace Go.Proofs.Ytkecpbdgcbgogaa
set_option linter.unusedVariables false
set_option linter.unusedSimpArgs false
set_option maxRecDepth 100000
open Go.RowKit

def zF (zs : List (List Int)) (w i : Nat) : Int := (zs.getD w []).getD i 0
theorem rowL2_self (l : List Int) (n : Nat) (h : l.length = n) : rowL2 (fun i => l.getD i 0) n = l := by
  apply List.ext_getElem?
  intro i
  unfold rowL2
  by_cases hi : i < n
  · rw [List.getElem?_map, List.getElem?_range hi, List.getElem?_eq_getElem (by omega)]
    simp [List.getD, show i < l.length by omega]
  · rw [List.getElem?_eq_none (by simp; omega), List.getElem?_eq_none (by omega)]
theorem zF_row (zs : List (List Int)) (n k : Nat) (z : List Int) (h : zs[k]? = some z) (hn : z.length = n) : rowL2 (zF zs k) n = z := by
  have e : zF zs k = fun i => z.getD i 0 := by
    funext i
    unfold zF
    rw [show zs.getD k [] = z by simp [List.getD, h]]
  rw [e, rowL2_self z n hn]
theorem zF_in (zs : List (List Int)) (h : ∀ z ∈ zs, InV z) (k i : Nat) : -9223372036854775808 ≤ zF zs k i ∧ zF zs k i ≤ 9223372036854775807 := by
  unfold zF
  by_cases hk : k < zs.length
  · rw [show zs.getD k [] = zs[k] by simp [List.getD, hk]]
    by_cases hi : i < (zs[k]).length
    · rw [show (zs[k]).getD i 0 = (zs[k])[i] by simp [List.getD, hi]]
      exact h _ (List.getElem_mem hk) _ (List.getElem_mem hi)
    · rw [show (zs[k]).getD i 0 = 0 by simp [List.getD, List.getElem?_eq_none (show (zs[k]).length ≤ i by omega)]]
      omega
  · rw [show zs.getD k [] = [] by simp [List.getD, List.getElem?_eq_none (show zs.length ≤ k by omega)]]
    simp
theorem isum_tot (zs : List (List Int)) (i : Nat) : isum (fun v => zF zs v i) zs.length = tot zs i := by
  induction zs with
  | nil => rfl
  | cons z zs ih =>
    rw [List.length_cons, isum_first, tot_cons, ← ih]
    rfl
/-- What each worker has in the end. -/
def redF (lo hi : Int) (zs : List (List Int)) (w i : Nat) : Int := if lo ≤ (i : Int) ∧ (i : Int) < hi then wrap64 (tot zs i) else zF zs w i
theorem red_end (lo hi : Int) (m n : Nat) (zs : List (List Int)) (hm : 1 ≤ m) (h1 : lo ≤ hi) (hl : zs.length = m) (hx : ∀ z ∈ zs, InV z) (k : Nat) (hk : k < m) :
    rowL2 (rst lo hi m (zF zs) (2 * (m - 1)) k) n = rowL2 (redF lo hi zs k) n := by
  unfold rowL2
  apply List.map_congr_left
  intro i _
  rw [rst_all lo hi m (zF zs) hm h1 i k hk (fun v _ => zF_in zs hx v i)]
  have e := isum_tot zs i
  rw [hl] at e
  rw [e]
  rfl
theorem red_cur (lo hi : Int) (n : Nat) (zs : List (List Int)) (k : Nat) : curL (zF zs k) (fun i => wrap64 (tot zs i)) lo hi n = rowL2 (redF lo hi zs k) n := rfl
theorem curL_set (f new : Nat → Int) (a : Int) (n i : Nat) (ha : a ≤ i) (h : i < n) : (curL f new a (i : Int) n).set i (new i) = curL f new a ((i + 1 : Nat) : Int) n := by
  apply List.ext_getElem?
  intro j
  rw [List.getElem?_set, curL_length]
  by_cases hj : j < n
  · have hg : ∀ e : Int, (curL f new a e n)[j]? = some (if a ≤ (j : Int) ∧ (j : Int) < e then new j else f j) := fun e => by
      unfold curL
      rw [List.getElem?_map, List.getElem?_range hj]
      rfl
    rw [hg, hg]
    by_cases hij : i = j
    · subst hij
      rw [if_pos rfl, if_pos hj, if_pos (by omega)]
    · rw [if_neg hij]
      by_cases h2 : a ≤ (j : Int) ∧ (j : Int) < i
      · rw [if_pos h2, if_pos (by omega)]
      · rw [if_neg h2, if_neg (by omega)]
  · rw [if_neg (by omega), List.getElem?_eq_none (by rw [curL_length]; omega), List.getElem?_eq_none (by rw [curL_length]; omega)]
theorem curL_getD (f new : Nat → Int) (a e : Int) (n i : Nat) (h : i < n) : (iv (curL f new a e n))[i]? = some (.int .i64 (if a ≤ (i : Int) ∧ (i : Int) < e then new i else f i)) := by
  unfold iv curL
  rw [List.getElem?_map, List.getElem?_map, List.getElem?_range h]
  rfl

theorem slVecs7 : Sl Try.prog 44 47 (.slice none 0 0) 1 24 := ⟨Try.underlying44, by kernel_rfl, rfl, by omega⟩
/-- Rows of one length, as the reference makes them. -/
structure VecsU (w : World) (base m n : Nat) (v : Value) (ss : List Sl3) (F : Nat → List Int) : Prop where
  len : ss.length = m
  own : w.ownsRow base 47 1 v m (ss.map slv)
  rows : RowsV w base n ss F
theorem VecsU.nil (w : World) (base n : Nat) (F : Nat → List Int) : VecsU w base 0 n (.slice none 0 0) [] F := ⟨rfl, by simpa using World.ownsRow_nil w base 47 1, RowsV.nil w base n F⟩
theorem VecsU.below {w w' : World} {base m n : Nat} {v : Value} {ss : List Sl3} {F : Nat → List Int} (h : VecsU w base m n v ss F) (hb : Below w.heap.size w w') : VecsU w' base m n v ss F := ⟨h.len, own_below h.own hb, h.rows.below hb⟩
/-- Behind an append of a row. -/
theorem VecsU.push {w w1 w2 : World} {base m n : Nat} {A' Av A : Option Addr} {c' c cv : Nat} {ss : List Sl3} {F : Nat → List Int} (h : VecsU w base m n (.slice Av m cv) ss F) (hb1 : Below w.heap.size w w1) (hbase : base ≤ w.heap.size)
    (hr : w1.ownsRow w.heap.size 2 1 (.slice A n c) n (iv (F m))) (ho : w2.ownsRow base 47 1 (.slice A' (m + 1) c') (m + 1) (ss.map slv ++ [.slice A n c])) (hg : w1.grownBy w2 (Value.slice Av m cv).ownBlock) :
    VecsU w2 base (m + 1) n (.slice A' (m + 1) c') (ss ++ [(A, n, c)]) F := by
  refine ⟨by simp [h.len], by rw [List.map_append]; exact ho, ?_⟩
  have hR1 : RowsV w1 base n (ss ++ [(A, n, c)]) F := (h.rows.below hb1).snoc hbase (fun k s g hk hs => (h.rows.lt hk hs).2) (by rw [h.len]; exact hr)
  exact hR1.stay (Stay.of_own' (u := 47) (own_below h.own hb1) hg) hg.size (by decide) (by decide)

section
variable (s b lo hi c : Int) (m n : Nat) (A : Option Addr) (cap : Nat) (ss0 : List Sl3) (zs : List (List Int)) (w : World)

def RefRedRet (w : World) (m n : Nat) (F : Nat → List Int) (e : Ending) (w' : World) : Prop :=
  ∃ Av cv ss, e = .returned (.tuple #[.slice Av m cv, .bool true]) ∧ VecsU w' w.heap.size m n (.slice Av m cv) ss F ∧ Below w.heap.size w w'

set_option maxHeartbeats 4000000 in
theorem refReduce_good (h0 : 0 ≤ lo) (h1 : lo ≤ hi) (h2 : hi ≤ 300) (hm1 : 1 ≤ m) (hm2 : m ≤ 64) (hn : n ≤ 1500) (hhn : hi ≤ n) (hl0 : ss0.length = m) (hr0 : Rd w 1 A m (ss0.map slv)) (hv : RdV w ss0 zs) (hz : ∀ z ∈ zs, z.length = n) (hx : ∀ z ∈ zs, InV z) :
    Calls Try.prog 26 #[jobV s b lo hi m c, .slice A m cap] w (RefRedRet w m n (fun k => rowL2 (redF lo hi zs k) n)) := by
  have hzl : zs.length = m := by rw [← hl0]; exact hv.1.symm
  have hne : zs ≠ [] := by intro e; rw [e] at hzl; simp at hzl; omega
  have hS := fun W (r : Rd W 1 A m (ss0.map slv)) (v : RdV W ss0 zs) => refSum_any A m cap ss0 zs W hl0 hm1 (by omega) r v (fun z hz' => by rw [hz z hz']; omega) hx
  rw [sumL_is zs n hne hx hz] at hS
  have HS := Lib.hid hS
  have HR0 := Lib.hid hr0
  have HV0 := Lib.hid hv
  have HL0 := Lib.hid hl0
  have HZ := Lib.hid (And.intro hz hzl)
  obtain ⟨lo, rfl⟩ := Int.eq_ofNat_of_zero_le h0
  obtain ⟨hi, rfl⟩ := Int.eq_ofNat_of_zero_le (show 0 ≤ hi by omega)
  clear hS hr0 hv hl0 hz hzl hne hx
  obtain ⟨w0, hw0⟩ : ∃ w0, w.alloc (.cells #[.int .i64 s, .int .i64 b, .int .i64 lo, .int .i64 hi, .int .i64 m, .int .i64 c] 25) = w0 := ⟨_, rfl⟩
  have hB0 : Below w.heap.size w w0 := by rw [← hw0]; exact (Below.refl _ _).alloc (Nat.le_refl _) _
  have hJ0 : Blk w0 w.heap.size 25 #[.int .i64 s, .int .i64 b, .int .i64 lo, .int .i64 hi, .int .i64 m, .int .i64 c] := by rw [← hw0]; exact Blk.new w _ _
  have HW0 := Lib.hid hw0
  have HB0 := Lib.hid hB0
  have HJ0 := Lib.hid hJ0
  clear hw0 hB0 hJ0
  go_enter Try.func26, Try.ntmps26
  go_wp2_with fail
  rw [HW0.out]
  obtain ⟨base, hbase⟩ : ∃ base, w.heap.size = base := ⟨_, rfl⟩
  rw [hbase] at HJ0 ⊢
  have HBase := Lib.hid hbase
  have hz0 : base ≤ w0.heap.size := by rw [← hbase]; exact HB0.out.size
  clear hbase
  ((with_reducible refine (HS.out _ (HR0.out.below HB0.out) (HV0.out.below HB0.out)).mono ?_); rintro e w1 ⟨A1, c1, rfl, hown1, hb1⟩)
  rw [totW_length]
  rw [totW_length] at hown1
  have HSM := Lib.hid hown1
  have HB1 := Lib.hid (HB0.out.trans (hb1.mono HB0.out.size))
  have hJ := HJ0.out.kept hb1
  have HJ1 := Lib.hid hJ
  obtain ⟨g0, o0, q0, rfl, hg0, hq0, e0⟩ := slvs_at HL0.out (HR0.out.below HB1.out) (show 0 < m by omega)
  have hq0n : q0.2.1 = n := by
    have h0l : 0 < zs.length := by rw [HZ.out.2]; omega
    rw [← (HV0.out.2 0 q0 _ hq0 (List.getElem?_eq_getElem h0l)).1]
    exact HZ.out.1 _ (List.getElem_mem h0l)
  obtain ⟨Aq0, nq0, cq0⟩ := q0
  simp only at hq0n e0
  subst hq0n
  rw [Nat.add_zero] at e0
  have j3 : w1.cell? ⟨base, 3, none⟩ = some (.int .i64 hi) := hJ.cell 3
  have j4 : w1.cell? ⟨base, 4, none⟩ = some (.int .i64 m) := hJ.cell 4
  have lj := hJ.lt
  have i3 : (0 : Int) < (m : Int) := by omega
  have f1 : ((m : Int) != (m : Int)) = false := by simp
  have f2 : decide ((nq0 : Int) < (hi : Int)) = false := decide_eq_false (by omega)
  have hz1 : base ≤ w1.heap.size := Nat.le_trans hz0 hb1.size
  clear hown1 hb1 hJ hq0 hg0
  go_wp2_with fail
  go_quiet (fail)
  go_wp2_with fail
  clear e0 j3 j4 lj i3 f1 f2
  go_loopw [8, 9] (fun v u wr => ∃ (k : Nat) (Av : Option Addr) (cv : Nat) (ss : List Sl3), k ≤ m ∧ u = .int .i64 k ∧ v = .slice Av k cv ∧ VecsU wr w1.heap.size k nq0 (.slice Av k cv) ss (fun k => rowL2 (redF lo hi zs k) nq0) ∧ Below w1.heap.size w1 wr) (fun _ u _ => m - (intOf u).toNat)
  case atStart => exact ⟨0, none, 0, [], by omega, rfl, rfl, VecsU.nil _ _ _ _, below_drewN (Below.refl _ _) _⟩
  case round =>
    obtain ⟨k, Av, cv, ss, hk, rfl, rfl, hvec, hb⟩ := hrel
    by_cases hlt : k < m
    · have hb0r : Below w.heap.size w wr := HB1.out.trans (hb.mono HB1.out.size)
      obtain ⟨g, o, q, e1, hg, hq, e0⟩ := slvs_at HL0.out (HR0.out.below hb0r) hlt
      injection e1 with e1
      injection e1 with e1 e2
      subst e1 e2
      have hzk : zs[k]? = some (zs[k]'(by rw [HZ.out.2]; exact hlt)) := List.getElem?_eq_getElem _
      have hzn : (zs[k]'(by rw [HZ.out.2]; exact hlt)).length = nq0 := HZ.out.1 _ (List.getElem_mem _)
      generalize zs[k]'(by rw [HZ.out.2]; exact hlt) = z at hzk hzn
      have hqn := (HV0.out.2 k q z hq hzk).1
      have hrz := ((HV0.out.below hb0r).2 k q z hq hzk).2
      obtain ⟨Aq, nq, cq⟩ := q
      simp only at hqn e0 hrz
      rw [hzn] at hqn
      replace hqn := hqn.symm
      subst hqn
      have HC := Lib.hid (refClone_any Aq nq cq z wr hzn hrz (by omega))
      have HZR := Lib.hid (zF_row zs nq k z hzk hzn)
      have HVec := Lib.hid hvec
      have HBr := Lib.hid hb
      have hJ := HJ1.out.kept hb
      have HJr := Lib.hid hJ
      have j2 : wr.cell? ⟨base, 2, none⟩ = some (.int .i64 lo) := hJ.cell 2
      have lj := hJ.lt
      have i1 : (0 : Int) ≤ (k : Int) := by omega
      have i2 : (k : Int) < (m : Int) := by omega
      have hzr : w1.heap.size ≤ wr.heap.size := hb.size
      obtain ⟨wb, hwb⟩ : ∃ wb : World, wb = wr := ⟨_, rfl⟩
      subst hwb
      clear hb0r hq hzk hrz hvec hb hJ
      go_wp2_with fail
      ((with_reducible refine HC.out.mono ?_); rintro e w2 ⟨A2, c2, rfl, hown2, hb2⟩)
      rw [← HZR.out, ← curL_none (zF zs k) (fun i => wrap64 (tot zs i)) lo nq] at hown2
      have HO2 := Lib.hid hown2
      have HB2 := Lib.hid hb2
      have hJ2 := HJr.out.kept hb2
      have j2' : w2.cell? ⟨base, 2, none⟩ = some (.int .i64 lo) := hJ2.cell 2
      have lj2 := hJ2.lt
      clear hown2 hb2 hJ2 j2 e0 lj
      go_wp2_with fail
      clear j2' lj2
      go_loopw [11] (fun u wr => ∃ i : Nat, lo ≤ i ∧ i ≤ hi ∧ u = .int .i64 i ∧ wr.ownsRow wb.heap.size 2 1 (.slice A2 nq c2) nq (iv (curL (zF zs k) (fun i => wrap64 (tot zs i)) lo i nq)) ∧ Below wb.heap.size wb wr) (fun u _ => hi - (intOf u).toNat)
      case atStart => exact ⟨lo, by omega, by omega, rfl, HO2.out, HB2.out⟩
      case round =>
        obtain ⟨i, hi1, hi2, rfl, hown, hb⟩ := hrel
        have hJ := HJr.out.kept hb
        have j3 : wr.cell? ⟨base, 3, none⟩ = some (.int .i64 hi) := hJ.cell 3
        have lj := hJ.lt
        by_cases hlt2 : i < hi
        · obtain ⟨gv, rfl⟩ := own_some hown (by omega)
          have hsm := own_below (own_below HSM.out HBr.out) hb
          obtain ⟨gs, rfl⟩ := own_some hsm (by omega)
          have c1' : wr.cell? ⟨gs, i, none⟩ = some (.int .i64 (wrap64 (tot zs i))) := by
            rw [hsm.cellAt i (by omega)]
            unfold iv totW
            rw [List.getElem?_map, List.getElem?_map, List.getElem?_range (by omega)]
            rfl
          have c2' : wr.cell? ⟨gv, i, none⟩ = some (.int .i64 (zF zs k i)) := by
            rw [hown.cellAt i (by omega), curL_getD _ _ _ _ _ i (by omega), if_neg (by omega)]
          have f2' := hown.frozenAt i
          have HOw := Lib.hid hown
          have HBw := Lib.hid hb
          have hgv := (hown.lt gv rfl).1
          have i3 : (i : Int) < (hi : Int) := by omega
          have i4 : (0 : Int) ≤ (i : Int) := by omega
          have i5 : (i : Int) < (nq : Int) := by omega
          clear hown hb hsm hJ
          go_wp2_with fail
          go_roundw
          case rel => exact ⟨i + 1, by omega, by omega, by go_num, by rw [← curL_set _ _ _ _ i (by omega) (by omega), ← iv_set]; exact (HOw.out.stored i _).1, HBw.out.setCell (p := ⟨gv, i, none⟩) hgv _⟩
          case measure => simp [intOf]; omega
        · obtain rfl : i = hi := by omega
          have i3 : ¬ (i : Int) < (i : Int) := by omega
          have HOw : Hid (wr.ownsRow wb.heap.size 2 1 (.slice A2 nq c2) nq (iv (rowL2 (redF lo i zs k) nq))) := Lib.hid (by rw [← red_cur]; exact hown)
          have HBw := Lib.hid hb
          have HOV := Lib.hid (own_below HVec.out.own hb)
          have hz2 : w1.heap.size ≤ wr.heap.size := Nat.le_trans hzr hb.size
          clear hown hb hJ
          go_wp2_with (at_builtin; go_must (refine wpList_pushL slVecs7 rfl _ _ rfl w1.heap.size (.slice Av k cv) k (ss.map slv) rfl HOV.out #[.slice A2 nq c2] wr.heap.size rfl rfl rfl (one_slv _ _ _) (by unfold maxLen; omega) (by omega) hz2 ?_); intro A3 c3 w3 hown3 hb3 hg3 _)
          have HV3 := Lib.hid (HVec.out.push HBw.out hzr HOw.out hown3 hg3)
          have HB3 := Lib.hid (HBr.out.trans ((HBw.out.mono hzr).trans hb3))
          clear hown3 hb3 hg3 j3 lj
          go_wp2_with fail
          go_roundw
          case rel => exact ⟨k + 1, by omega, by omega, A3, c3, ⟨rfl, rfl, rfl⟩, ⟨_, HV3.out⟩, HB3.out⟩
          case measure => simp [intOf]; omega
    · obtain rfl : k = m := by omega
      have i3 : ¬ (k : Int) < (k : Int) := by omega
      have HVec := Lib.hid hvec
      have HBr := Lib.hid hb
      clear hvec hb
      go_wp2_with fail
      go_ret2
      exact ⟨Av, cv, ss, rfl, ⟨HVec.out.len, own_base HVec.out.own (by rw [HBase.out]; exact hz1), HVec.out.rows.base_ (by rw [HBase.out]; exact hz1)⟩, HB1.out.trans (HBr.out.mono HB1.out.size)⟩

/-- The reference hands back nothing. -/
def NotRet (w : World) (e : Ending) (w' : World) : Prop := e = .returned (.tuple #[.slice none 0 0, .bool false]) ∧ Below w.heap.size w w'

set_option maxHeartbeats 4000000 in
theorem refReduce_len (k : Nat) (hm1 : 1 ≤ m) (hm2 : m ≤ 64) (hk : k ≠ m) (hk2 : k ≤ 60) (hl0 : ss0.length = k) (hr0 : Rd w 1 A k (ss0.map slv)) (hv : RdV w ss0 zs) (hz : ∀ z ∈ zs, z.length ≤ 1500) (hx : ∀ z ∈ zs, InV z) :
    Calls Try.prog 26 #[jobV s b lo hi m c, .slice A k cap] w (NotRet w) := by
  have hS : ∀ W, Rd W 1 A k (ss0.map slv) → RdV W ss0 zs → Calls Try.prog 57 #[.slice A k cap] W (SumRet W (sumL zs)) := fun W r v => by
    rcases Nat.eq_zero_or_pos k with h0 | h0
    · subst h0
      have hzl : zs = [] := List.eq_nil_of_length_eq_zero (by rw [← v.1]; exact hl0)
      rw [hzl]
      exact refSum_nil A cap W
    · exact refSum_any A k cap ss0 zs W hl0 h0 (by omega) r v (fun z hz' => by have := hz z hz'; omega) hx
  have HS := Lib.hid hS
  have HR0 := Lib.hid hr0
  have HV0 := Lib.hid hv
  clear hS hr0 hv hl0 hz hx
  have f1 : ((k : Int) != (m : Int)) = true := by simp; omega
  obtain ⟨w0, hw0⟩ : ∃ w0, w.alloc (.cells #[.int .i64 s, .int .i64 b, .int .i64 lo, .int .i64 hi, .int .i64 m, .int .i64 c] 25) = w0 := ⟨_, rfl⟩
  have hB0 : Below w.heap.size w w0 := by rw [← hw0]; exact (Below.refl _ _).alloc (Nat.le_refl _) _
  have hJ0 : Blk w0 w.heap.size 25 #[.int .i64 s, .int .i64 b, .int .i64 lo, .int .i64 hi, .int .i64 m, .int .i64 c] := by rw [← hw0]; exact Blk.new w _ _
  have HW0 := Lib.hid hw0
  have HB0 := Lib.hid hB0
  have HJ0 := Lib.hid hJ0
  clear hw0 hB0 hJ0
  go_enter Try.func26, Try.ntmps26
  go_wp2_with fail
  rw [HW0.out]
  have HSc := Lib.hid (HS.out w0 (HR0.out.below HB0.out) (HV0.out.below HB0.out))
  cases hs : sumL zs with
  | none =>
    rw [hs] at HSc
    clear hs
    ((with_reducible refine HSc.out.mono ?_); rintro e w1 ⟨rfl, hb1⟩)
    have hJ := HJ0.out.kept hb1
    have HB1 := Lib.hid (HB0.out.trans (hb1.mono HB0.out.size))
    have j4 : w1.cell? ⟨w.heap.size, 4, none⟩ = some (.int .i64 m) := hJ.cell 4
    have lj := hJ.lt
    clear hb1 hJ HSc
    go_wp2_with fail
    go_quiet (fail)
    go_wp2_with fail
    go_ret2
    exact ⟨rfl, below_drewN HB1.out _⟩
  | some z =>
    rw [hs] at HSc
    clear hs
    ((with_reducible refine HSc.out.mono ?_); rintro e w1 ⟨A1, c1, rfl, hown1, hb1⟩)
    have hJ := HJ0.out.kept hb1
    have HB1 := Lib.hid (HB0.out.trans (hb1.mono HB0.out.size))
    have j4 : w1.cell? ⟨w.heap.size, 4, none⟩ = some (.int .i64 m) := hJ.cell 4
    have lj := hJ.lt
    clear hb1 hJ HSc hown1
    go_wp2_with fail
    go_quiet (fail)
    go_wp2_with fail
    go_ret2
    exact ⟨rfl, below_drewN HB1.out _⟩

set_option maxHeartbeats 4000000 in
theorem refReduce_sum (hm1 : 1 ≤ m) (hm2 : m ≤ 64) (hl0 : ss0.length = m) (hr0 : Rd w 1 A m (ss0.map slv)) (hv : RdV w ss0 zs) (hz : ∀ z ∈ zs, z.length ≤ 1500) (hx : ∀ z ∈ zs, InV z) (hs : sumL zs = none) :
    Calls Try.prog 26 #[jobV s b lo hi m c, .slice A m cap] w (NotRet w) := by
  have hS := fun W (r : Rd W 1 A m (ss0.map slv)) (v : RdV W ss0 zs) => refSum_any A m cap ss0 zs W hl0 hm1 (by omega) r v (fun z hz' => by have := hz z hz'; omega) hx
  rw [hs] at hS
  have HS := Lib.hid hS
  have HR0 := Lib.hid hr0
  have HV0 := Lib.hid hv
  clear hS hr0 hv hl0 hz hx hs
  have f1 : ((m : Int) != (m : Int)) = false := by simp
  obtain ⟨w0, hw0⟩ : ∃ w0, w.alloc (.cells #[.int .i64 s, .int .i64 b, .int .i64 lo, .int .i64 hi, .int .i64 m, .int .i64 c] 25) = w0 := ⟨_, rfl⟩
  have hB0 : Below w.heap.size w w0 := by rw [← hw0]; exact (Below.refl _ _).alloc (Nat.le_refl _) _
  have hJ0 : Blk w0 w.heap.size 25 #[.int .i64 s, .int .i64 b, .int .i64 lo, .int .i64 hi, .int .i64 m, .int .i64 c] := by rw [← hw0]; exact Blk.new w _ _
  have HW0 := Lib.hid hw0
  have HB0 := Lib.hid hB0
  have HJ0 := Lib.hid hJ0
  clear hw0 hB0 hJ0
  go_enter Try.func26, Try.ntmps26
  go_wp2_with fail
  rw [HW0.out]
  ((with_reducible refine (HS.out w0 (HR0.out.below HB0.out) (HV0.out.below HB0.out)).mono ?_); rintro e w1 ⟨rfl, hb1⟩)
  have hJ := HJ0.out.kept hb1
  have HB1 := Lib.hid (HB0.out.trans (hb1.mono HB0.out.size))
  have j4 : w1.cell? ⟨w.heap.size, 4, none⟩ = some (.int .i64 m) := hJ.cell 4
  have lj := hJ.lt
  clear hb1 hJ
  go_wp2_with fail
  go_quiet (fail)
  go_wp2_with fail
  go_ret2
  exact ⟨rfl, below_drewN HB1.out _⟩

set_option maxHeartbeats 4000000 in
theorem refReduce_short (hm1 : 1 ≤ m) (hm2 : m ≤ 64) (hn : n ≤ 1500) (hhn : (n : Int) < hi) (hl0 : ss0.length = m) (hr0 : Rd w 1 A m (ss0.map slv)) (hv : RdV w ss0 zs) (hz : ∀ z ∈ zs, z.length = n) (hx : ∀ z ∈ zs, InV z) :
    Calls Try.prog 26 #[jobV s b lo hi m c, .slice A m cap] w (NotRet w) := by
  have hzl : zs.length = m := by rw [← hl0]; exact hv.1.symm
  have hne : zs ≠ [] := by intro e; rw [e] at hzl; simp at hzl; omega
  have hS := fun W (r : Rd W 1 A m (ss0.map slv)) (v : RdV W ss0 zs) => refSum_any A m cap ss0 zs W hl0 hm1 (by omega) r v (fun z hz' => by rw [hz z hz']; omega) hx
  rw [sumL_is zs n hne hx hz] at hS
  have HS := Lib.hid hS
  have HR0 := Lib.hid hr0
  have HV0 := Lib.hid hv
  have HL0 := Lib.hid hl0
  have HZ := Lib.hid (And.intro hz hzl)
  clear hS hr0 hv hl0 hz hx hzl hne
  have f1 : ((m : Int) != (m : Int)) = false := by simp
  obtain ⟨w0, hw0⟩ : ∃ w0, w.alloc (.cells #[.int .i64 s, .int .i64 b, .int .i64 lo, .int .i64 hi, .int .i64 m, .int .i64 c] 25) = w0 := ⟨_, rfl⟩
  have hB0 : Below w.heap.size w w0 := by rw [← hw0]; exact (Below.refl _ _).alloc (Nat.le_refl _) _
  have hJ0 : Blk w0 w.heap.size 25 #[.int .i64 s, .int .i64 b, .int .i64 lo, .int .i64 hi, .int .i64 m, .int .i64 c] := by rw [← hw0]; exact Blk.new w _ _
  have HW0 := Lib.hid hw0
  have HB0 := Lib.hid hB0
  have HJ0 := Lib.hid hJ0
  clear hw0 hB0 hJ0
  go_enter Try.func26, Try.ntmps26
  go_wp2_with fail
  rw [HW0.out]
  ((with_reducible refine (HS.out w0 (HR0.out.below HB0.out) (HV0.out.below HB0.out)).mono ?_); rintro e w1 ⟨A1, c1, rfl, hown1, hb1⟩)
  have hJ := HJ0.out.kept hb1
  have HB1 := Lib.hid (HB0.out.trans (hb1.mono HB0.out.size))
  obtain ⟨g0, o0, q0, rfl, hg0, hq0, e0⟩ := slvs_at HL0.out (HR0.out.below HB1.out) (show 0 < m by omega)
  have hq0n : q0.2.1 = n := by
    have h0l : 0 < zs.length := by rw [HZ.out.2]; omega
    rw [← (HV0.out.2 0 q0 _ hq0 (List.getElem?_eq_getElem h0l)).1]
    exact HZ.out.1 _ (List.getElem_mem h0l)
  obtain ⟨Aq0, nq0, cq0⟩ := q0
  simp only at hq0n e0
  subst hq0n
  rw [Nat.add_zero] at e0
  have j3 : w1.cell? ⟨w.heap.size, 3, none⟩ = some (.int .i64 hi) := hJ.cell 3
  have j4 : w1.cell? ⟨w.heap.size, 4, none⟩ = some (.int .i64 m) := hJ.cell 4
  have lj := hJ.lt
  have i3 : (0 : Int) < (m : Int) := by omega
  have f2 : decide ((nq0 : Int) < hi) = true := decide_eq_true hhn
  clear hb1 hJ hown1 hq0 hg0 hhn
  go_wp2_with fail
  go_quiet (fail)
  go_wp2_with fail
  go_ret2
  exact ⟨rfl, below_drewN HB1.out _⟩
end

end Go.Proofs.Ytkecpbdgcbgogaa
