/-
  (Job).Reduce on vectors that do not fit.
-/
import Derived.Test.YtkecpbdgcbgogaaRedWalk
namespace Go.Proofs.Ytkecpbdgcbgogaa
set_option linter.unusedVariables false
set_option linter.unusedSimpArgs false
set_option maxRecDepth 100000
open Go.RowKit

section
variable (s b lo hi c : Int) (m n : Nat) (A : Option Addr) (cap : Nat) (ss0 : List Sl3) (zs : List (List Int)) (w : World)

set_option maxHeartbeats 1000000 in
theorem reduce_len (k : Nat) (hm1 : 1 ≤ m) (hm2 : m ≤ 64) (hk : k ≠ m) (hk2 : k ≤ 60) :
    Calls Try.prog 25 #[jobV s b lo hi m c, .slice A k cap] w (NotRet w) := by
  have f1 : ((k : Int) != (m : Int)) = true := by simp; omega
  obtain ⟨w0, hw0⟩ : ∃ w0, w.alloc (.cells #[.int .i64 s, .int .i64 b, .int .i64 lo, .int .i64 hi, .int .i64 m, .int .i64 c] 35) = w0 := ⟨_, rfl⟩
  have hB0 : Below w.heap.size w w0 := by rw [← hw0]; exact (Below.refl _ _).alloc (Nat.le_refl _) _
  have hJ0 : Blk w0 w.heap.size 35 #[.int .i64 s, .int .i64 b, .int .i64 lo, .int .i64 hi, .int .i64 m, .int .i64 c] := by rw [← hw0]; exact Blk.new w _ _
  have HW0 := Lib.hid hw0
  have HB0 := Lib.hid hB0
  have j4 : w0.cell? ⟨w.heap.size, 4, none⟩ = some (.int .i64 m) := hJ0.cell 4
  have lj := hJ0.lt
  clear hw0 hB0 hJ0
  go_enter Try.func25, Try.ntmps25
  go_wp2_with fail
  rw [HW0.out]
  go_ret2
  exact ⟨rfl, HB0.out⟩

set_option maxHeartbeats 4000000 in
theorem reduce_bad (hm1 : 1 ≤ m) (hm2 : m ≤ 64) (hl0 : ss0.length = m) (hr0 : Rd w 1 A m (ss0.map slv)) (hv : RdV w ss0 zs) (hz : ∀ z ∈ zs, z.length ≤ 1500)
    (h0 : ∃ s0 : Sl3, ss0[0]? = some s0 ∧ s0.2.1 = n) (hbad : ∃ (j : Nat) (s : Sl3), ss0[j]? = some s ∧ (s.2.1 ≠ n ∨ (s.2.1 : Int) < hi)) :
    Calls Try.prog 25 #[jobV s b lo hi m c, .slice A m cap] w (NotRet w) := by
  have hzl : zs.length = m := by rw [← hl0]; exact hv.1.symm
  have HZ : Hid (∀ (k : Nat) (q : Sl3), ss0[k]? = some q → ∃ z, zs[k]? = some z ∧ z.length = q.2.1 ∧ q.2.1 ≤ 1500) := Lib.hid (fun k q hq => by
    have hk : k < ss0.length := (List.getElem?_eq_some_iff.1 hq).1
    have hzk : zs[k]? = some (zs[k]'(by omega)) := List.getElem?_eq_getElem (by omega)
    have h1 := (hv.2 k q _ hq hzk).1
    exact ⟨_, hzk, h1, by rw [← h1]; exact hz _ (List.getElem_mem _)⟩)
  have H00 := Lib.hid h0
  have HBD := Lib.hid hbad
  have HR0 := Lib.hid hr0
  have HV0 := Lib.hid hv
  have HL0 := Lib.hid hl0
  clear hzl hz h0 hl0 hr0 hv hbad
  obtain ⟨w0, hw0⟩ : ∃ w0, w.alloc (.cells #[.int .i64 s, .int .i64 b, .int .i64 lo, .int .i64 hi, .int .i64 m, .int .i64 c] 35) = w0 := ⟨_, rfl⟩
  have hB0 : Below w.heap.size w w0 := by rw [← hw0]; exact (Below.refl _ _).alloc (Nat.le_refl _) _
  have hJ0 : Blk w0 w.heap.size 35 #[.int .i64 s, .int .i64 b, .int .i64 lo, .int .i64 hi, .int .i64 m, .int .i64 c] := by rw [← hw0]; exact Blk.new w _ _
  have HW0 := Lib.hid hw0
  have HB0 := Lib.hid hB0
  have HJ0 := Lib.hid hJ0
  have j4 : w0.cell? ⟨w.heap.size, 4, none⟩ = some (.int .i64 m) := hJ0.cell 4
  have lj := hJ0.lt
  clear hw0 hB0 hJ0
  go_enter Try.func25, Try.ntmps25
  go_wp2_with fail
  rw [HW0.out]
  obtain ⟨base, hbase⟩ : ∃ base, w.heap.size = base := ⟨_, rfl⟩
  rw [hbase] at HJ0 ⊢
  have HBase := Lib.hid hbase
  have hz0 : base ≤ w0.heap.size := by rw [← hbase]; exact HB0.out.size
  clear hbase j4 lj
  go_wp2_with fail
  go_loopw [6, 25] (fun v u wr => ∃ (k : Nat) (Av : Option Addr) (cv : Nat) (xs : List Value), k ≤ m ∧ u = .int .i64 k ∧ v = .slice Av k cv ∧ wr.ownsRow base 53 1 (.slice Av k cv) k xs ∧ KV base w0 wr ∧ Hid (∀ (j : Nat) (t : Sl3), j < k → ss0[j]? = some t → t.2.1 = n ∧ hi ≤ (t.2.1 : Int))) (fun _ u _ => m - (intOf u).toNat)
  case atStart => exact ⟨0, none, 0, [], by omega, rfl, rfl, World.ownsRow_nil _ _ _ _, KV.refl _ _, Lib.hid (fun j t hj => absurd hj (by omega))⟩
  case round =>
    obtain ⟨k, Av, cv, xs, hk, rfl, rfl, hown, hkv, hgood⟩ := hrel
    have hb0r : Below w.heap.size w wr := HB0.out.trans (by rw [HBase.out]; exact hkv.2)
    by_cases hlt : k < m
    · obtain ⟨g, o, q, rfl, hg, hq, e0⟩ := slvs_at HL0.out (HR0.out.below hb0r) hlt
      obtain ⟨g', o', q0, hA, hg', hq0, e1⟩ := slvs_at HL0.out (HR0.out.below hb0r) (show 0 < m by omega)
      injection hA with hA
      injection hA with hA1 hA2
      subst hA1 hA2
      obtain ⟨z, hzk, hzn, hq15⟩ := HZ.out k q hq
      have hqn0 : q0.2.1 = n := by
        obtain ⟨s0, e2, e3⟩ := H00.out
        rw [hq0] at e2
        injection e2 with e2
        rw [e2]; exact e3
      have hgd : k < m → ¬ (q.2.1 ≠ n ∨ (q.2.1 : Int) < hi) → Hid (∀ (j : Nat) (t : Sl3), j < k + 1 → ss0[j]? = some t → t.2.1 = n ∧ hi ≤ (t.2.1 : Int)) := fun _ hng => Lib.hid (fun j t hj ht => by
        rcases Nat.lt_or_ge j k with h | h
        · exact hgood.out j t h ht
        · obtain rfl : j = k := by omega
          rw [hq] at ht
          injection ht with ht
          rw [← ht]
          exact ⟨by omega, by omega⟩)
      obtain ⟨Aq, nq, cq⟩ := q
      obtain ⟨Aq0, nq0, cq0⟩ := q0
      simp only at hzn hqn0 hq15 hgd e0 e1
      rw [Nat.add_zero] at e1
      replace hqn0 := hqn0.symm
      subst hqn0
      have hrz := ((HV0.out.below hb0r).2 k _ z hq hzk).2
      have HGD := Lib.hid hgd
      have HOv := Lib.hid hown
      have HKV := Lib.hid hkv
      have hJ := hkv.blk HJ0.out (by decide) (by decide)
      have j3 : wr.cell? ⟨base, 3, none⟩ = some (.int .i64 hi) := hJ.cell 3
      have lj := hJ.lt
      have i1 : (0 : Int) ≤ (k : Int) := by omega
      have i2 : (k : Int) < (m : Int) := by omega
      have i3 : (0 : Int) < (m : Int) := by omega
      have hzr : base ≤ wr.heap.size := Nat.le_trans hz0 hkv.2.size
      have HBr := Lib.hid hb0r
      by_cases hne : nq = n
      · subst hne
        have f1 : ((nq : Int) != (nq : Int)) = false := by simp
        by_cases hhi : (nq : Int) < hi
        · have f2 : decide ((nq : Int) < hi) = true := decide_eq_true hhi
          clear hb0r hq hq0 hzk hrz hown hkv hJ hgd
          go_wp2_with fail
          go_ret2
          exact ⟨rfl, HBr.out⟩
        · have f2 : decide ((nq : Int) < hi) = false := decide_eq_false hhi
          have HC := Lib.hid (vecClone_any Aq nq cq z wr hzn hrz (by omega))
          have HG2 := HGD.out hlt (by omega)
          clear hb0r hq hq0 hzk hrz hown hkv hJ hgd hhi
          go_wp2_with fail
          ((with_reducible refine HC.out.mono ?_); rintro e w1 ⟨A1, c1, rfl, hown1, hb1⟩)
          have HB1 := Lib.hid hb1
          have HOV := Lib.hid (own_below HOv.out hb1)
          have hz1 : base ≤ w1.heap.size := Nat.le_trans hzr hb1.size
          clear hown1 hb1 j3 lj e0 e1 hg hg'
          go_wp2_with (at_builtin; go_must (refine wpList_pushL slVecs rfl _ _ rfl base (.slice Av k cv) k xs rfl HOV.out #[.slice A1 nq c1] w1.heap.size rfl rfl rfl (one_slv _ _ _) (by unfold maxLen; omega) (by omega) hz1 ?_); intro A2 c2 w2 hown2 hb2 hg2 _)
          have HO2 := Lib.hid hown2
          have HK2 := Lib.hid (HKV.out.trans ⟨(Stay.of_below HB1.out).trans (Stay.of_own (t := 2) HOV.out hg2), (HB1.out.mono hzr).trans hb2⟩)
          clear hown2 hb2 hg2
          go_wp2_with fail
          go_roundw
          case rel => exact ⟨k + 1, A2, c2, _, by omega, by go_num, rfl, HO2.out, HK2.out, HG2⟩
          case measure => simp [intOf]; omega
      · have f1 : ((nq : Int) != (n : Int)) = true := by simp; omega
        clear hb0r hq hq0 hzk hrz hown hkv hJ hgd
        go_wp2_with fail
        go_ret2
        exact ⟨rfl, HBr.out⟩
    · exfalso
      obtain ⟨j, t, ht, hb⟩ := HBD.out
      have hj : j < m := by rw [← HL0.out]; exact (List.getElem?_eq_some_iff.1 ht).1
      have := hgood.out j t (by omega) ht
      omega
end

end Go.Proofs.Ytkecpbdgcbgogaa
