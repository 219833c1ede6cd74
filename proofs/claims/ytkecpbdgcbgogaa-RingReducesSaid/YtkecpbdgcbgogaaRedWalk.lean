/-
  (Job).Reduce on vectors that fit.
-/
import Derived.Test.YtkecpbdgcbgogaaRedRef
import Derived.Test.YtkecpbdgcbgogaaRingLaw1
import Derived.Test.YtkecpbdgcbgogaaEme
namespace Go.Proofs.Ytkecpbdgcbgogaa
set_option linter.unusedVariables false
set_option linter.unusedSimpArgs false
set_option maxRecDepth 100000
open Go.RowKit

abbrev KV (base : Nat) (w w' : World) : Prop := Stay 2 53 w w' ∧ Below base w w'
theorem KV.refl (base : Nat) (w : World) : KV base w w := ⟨Stay.refl _ _ _, Below.refl _ _⟩
theorem KV.trans {base : Nat} {a b c : World} (h : KV base a b) (k : KV base b c) : KV base a c := ⟨h.1.trans k.1, h.2.trans k.2⟩
theorem KV.call {base : Nat} {w w' : World} (h : Below w.heap.size w w') (hb : base ≤ w.heap.size) : KV base w w' := ⟨Stay.of_below h, h.mono hb⟩
theorem KV.blk {base g : Nat} {w w' : World} {e : TypeId} {cs : Array Value} (h : KV base w w') (hb : Blk w g e cs) (h1 : e ≠ 2) (h2 : e ≠ 53) : Blk w' g e cs := h.1 g e cs h1 h2 hb

section
variable (s b lo hi c : Int) (m n : Nat) (A : Option Addr) (cap : Nat) (ss0 : List Sl3) (zs : List (List Int)) (w : World)

/-- What Reduce hands back. -/
def RedRet (w : World) (m n : Nat) (F : Nat → List Int) (e : Ending) (w' : World) : Prop :=
  ∃ Av cv ss, e = .returned (.tuple #[.slice Av m cv, .bool true]) ∧ Vecs w' w.heap.size m n (.slice Av m cv) ss F ∧ Below w.heap.size w w'

set_option maxHeartbeats 4000000 in
theorem reduce_good (h0 : 0 ≤ lo) (h1 : lo ≤ hi) (h2 : hi ≤ 300) (hm1 : 1 ≤ m) (hm2 : m ≤ 64) (hc1 : 1 ≤ c) (hc2 : c ≤ 1048576) (hn : n ≤ 1500) (hhn : hi ≤ n) (hl0 : ss0.length = m) (hr0 : Rd w 1 A m (ss0.map slv)) (hv : RdV w ss0 zs) (hz : ∀ z ∈ zs, z.length = n) :
    Calls Try.prog 25 #[jobV s b lo hi m c, .slice A m cap] w (RedRet w m n (fun k => rowL2 (rst lo hi m (zF zs) (2 * (m - 1)) k) n)) := by
  have hzl : zs.length = m := by rw [← hl0]; exact hv.1.symm
  have HZ : Hid (∀ (k : Nat) (q : Sl3), ss0[k]? = some q → q.2.1 = n ∧ ∃ z, zs[k]? = some z ∧ z.length = n) := Lib.hid (fun k q hq => by
    have hk : k < ss0.length := (List.getElem?_eq_some_iff.1 hq).1
    have hzk : zs[k]? = some (zs[k]'(by omega)) := List.getElem?_eq_getElem (by omega)
    have hzn := hz _ (List.mem_of_getElem? hzk)
    exact ⟨by rw [← (hv.2 k q _ hq hzk).1]; exact hzn, _, hzk, hzn⟩)
  have CR := fun W => rounds_any s b lo hi m c W (by omega) (by omega)
  obtain ⟨M, hM⟩ : ∃ M, m - 1 = M := ⟨_, rfl⟩
  obtain ⟨K2, hK2⟩ : ∃ K2, 2 * M = K2 := ⟨_, rfl⟩
  rw [show (2 : Int) * ((m : Int) - 1) = (K2 : Int) by omega] at CR
  have HCR := Lib.hid CR
  have HRY := Lib.hid (fun (x p r : Nat) W => roundY_any s b lo hi m c x p r W h0 h1 (by omega) (by omega) (by omega) (by omega))
  have HAR := Lib.hid (fun (x : Nat) (hx : x < m) W => around_any s b lo hi m c ((x : Int) - 1) W (by omega) (by omega) (by omega) (by omega))
  have HCh := Lib.hid (fun (x p r : Nat) hx hp hr => chain_rY s b lo hi m c x p r h1 hc1 hx hp hr)
  have HSeg := Lib.hid (fun (q : Nat) (hq : (q : Int) < (m : Int)) => segR_in lo hi m q h1 hq)
  have HRS : Hid (∀ K x, rst lo hi m (zF zs) (K + 1) x = fun i => if inSeg lo hi m (rqN m (K / M) (K % M) x) i then (if K / M = 0 then wrap64 (rst lo hi m (zF zs) K x i + rst lo hi m (zF zs) K (pwN m x) i) else rst lo hi m (zF zs) K (pwN m x) i) else rst lo hi m (zF zs) K x i) := Lib.hid (fun K x => by rw [← hM]; rfl)
  have HR0 := Lib.hid hr0
  have HV0 := Lib.hid hv
  have HL0 := Lib.hid hl0
  have HMM : Hid (m - 1 = M ∧ 2 * M = K2) := Lib.hid ⟨hM, hK2⟩
  rw [show 2 * (m - 1) = K2 by omega]
  clear CR hz hzl hl0 hr0 hv hM hK2
  obtain ⟨w0, hw0⟩ : ∃ w0, w.alloc (.cells #[.int .i64 s, .int .i64 b, .int .i64 lo, .int .i64 hi, .int .i64 m, .int .i64 c] 35) = w0 := ⟨_, rfl⟩
  have hB0 : Below w.heap.size w w0 := by rw [← hw0]; exact (Below.refl _ _).alloc (Nat.le_refl _) _
  have hJ0 : Blk w0 w.heap.size 35 #[.int .i64 s, .int .i64 b, .int .i64 lo, .int .i64 hi, .int .i64 m, .int .i64 c] := by rw [← hw0]; exact Blk.new w _ _
  have HW0 := Lib.hid hw0
  have HB0 := Lib.hid hB0
  have HJ0 := Lib.hid hJ0
  have j4 : w0.cell? ⟨w.heap.size, 4, none⟩ = some (.int .i64 m) := hJ0.cell 4
  have lj := hJ0.lt
  clear hw0 hB0 hJ0
  go_enter Try.func25, Try.ntmps25
  go_wp2_with fail
  rw [HW0.out]
  obtain ⟨base, hbase⟩ : ∃ base, w.heap.size = base := ⟨_, rfl⟩
  rw [hbase] at HJ0 ⊢
  have HBase := Lib.hid hbase
  have hz0 : base ≤ w0.heap.size := by rw [← hbase]; exact HB0.out.size
  clear hbase j4 lj
  go_wp2_with fail
  go_loopw [6, 25] (fun v u wr => ∃ (k : Nat) (Av : Option Addr) (cv : Nat) (ss : List Sl3), k ≤ m ∧ u = .int .i64 k ∧ v = .slice Av k cv ∧ Vecs wr base k n (.slice Av k cv) ss (fun j => rowL2 (zF zs j) n) ∧ KV base w0 wr) (fun _ u _ => m - (intOf u).toNat)
  case atStart => exact ⟨0, none, 0, [], by omega, rfl, rfl, Vecs.nil _ _ _ _, KV.refl _ _⟩
  case round =>
    obtain ⟨k, Av, cv, ss, hk, rfl, rfl, hvec, hkv⟩ := hrel
    have hb0r : Below w.heap.size w wr := HB0.out.trans (by rw [HBase.out]; exact hkv.2)
    by_cases hlt : k < m
    · obtain ⟨g, o, q, rfl, hg, hq, e0⟩ := slvs_at HL0.out (HR0.out.below hb0r) hlt
      obtain ⟨g', o', q0, hA, hg', hq0, e1⟩ := slvs_at HL0.out (HR0.out.below hb0r) (show 0 < m by omega)
      injection hA with hA
      injection hA with hA1 hA2
      subst hA1 hA2
      obtain ⟨hqn, z, hzk, hzn⟩ := HZ.out k q hq
      obtain ⟨hqn0, -⟩ := HZ.out 0 q0 hq0
      obtain ⟨Aq, nq', cq⟩ := q
      obtain ⟨Aq0, nq0, cq0⟩ := q0
      simp only at hqn hqn0 e0 e1
      rw [Nat.add_zero] at e1
      replace hqn := hqn.symm
      replace hqn0 := hqn0.symm
      subst hqn hqn0
      have hrz := ((HV0.out.below hb0r).2 k _ z hq hzk).2
      have HC := Lib.hid (vecClone_any Aq n cq z wr hzn hrz (by omega))
      have HZR := Lib.hid (zF_row zs n k z hzk hzn)
      have HVec := Lib.hid hvec
      have HKV := Lib.hid hkv
      have hJ := hkv.blk HJ0.out (by decide) (by decide)
      have j3 : wr.cell? ⟨base, 3, none⟩ = some (.int .i64 hi) := hJ.cell 3
      have lj := hJ.lt
      have i1 : (0 : Int) ≤ (k : Int) := by omega
      have i2 : (k : Int) < (m : Int) := by omega
      have i3 : (0 : Int) < (m : Int) := by omega
      have f1 : ((n : Int) != (n : Int)) = false := by simp
      have f2 : decide ((n : Int) < hi) = false := decide_eq_false (by omega)
      have hzr : base ≤ wr.heap.size := Nat.le_trans hz0 hkv.2.size
      clear hb0r hq hq0 hzk hrz hvec hkv hJ
      go_wp2_with fail
      ((with_reducible refine HC.out.mono ?_); rintro e w1 ⟨A1, c1, rfl, hown1, hb1⟩)
      rw [← HZR.out] at hown1
      have HO1 := Lib.hid hown1
      have HB1 := Lib.hid hb1
      have HOV := Lib.hid (own_below HVec.out.own hb1)
      have hz1 : base ≤ w1.heap.size := Nat.le_trans hzr hb1.size
      clear hown1 hb1 j3 lj e0 e1 hg hg'
      go_wp2_with (at_builtin; go_must (refine wpList_pushL slVecs rfl _ _ rfl base (.slice Av k cv) k (ss.map slv) rfl HOV.out #[.slice A1 n c1] w1.heap.size rfl rfl rfl (one_slv _ _ _) (by unfold maxLen; omega) (by omega) hz1 ?_); intro A2 c2 w2 hown2 hb2 hg2 _)
      have HV2 := Lib.hid (HVec.out.push HB1.out hzr HO1.out hown2 hg2)
      have HK2 := Lib.hid (HKV.out.trans ⟨(Stay.of_below HB1.out).trans (Stay.of_own (t := 2) HOV.out hg2), (HB1.out.mono hzr).trans hb2⟩)
      clear hown2 hb2 hg2
      go_wp2_with fail
      go_roundw
      case rel => exact ⟨k + 1, A2, c2, _, by omega, by go_num, rfl, HV2.out, HK2.out⟩
      case measure => simp [intOf]; omega
    · obtain rfl : k = m := by omega
      have HVec := Lib.hid hvec
      have HKV := Lib.hid hkv
      have hJ := hkv.blk HJ0.out (by decide) (by decide)
      have j0 : wr.cell? ⟨base, 0, none⟩ = some (.int .i64 s) := hJ.cell 0
      have j1 : wr.cell? ⟨base, 1, none⟩ = some (.int .i64 b) := hJ.cell 1
      have j2 : wr.cell? ⟨base, 2, none⟩ = some (.int .i64 lo) := hJ.cell 2
      have j3 : wr.cell? ⟨base, 3, none⟩ = some (.int .i64 hi) := hJ.cell 3
      have j4 : wr.cell? ⟨base, 4, none⟩ = some (.int .i64 k) := hJ.cell 4
      have j5 : wr.cell? ⟨base, 5, none⟩ = some (.int .i64 c) := hJ.cell 5
      have lj := hJ.lt
      have hzr : base ≤ wr.heap.size := Nat.le_trans hz0 hkv.2.size
      clear hvec hkv hJ
      go_wp2_with fail
      ((with_reducible refine (HCR.out _).mono ?_); rintro e w1 ⟨rfl, hb1⟩)
      have HV1 := Lib.hid (HVec.out.below hb1)
      have HK1 := Lib.hid (HKV.out.trans (KV.call hb1 hzr))
      clear hb1 j0 j1 j2 j3 j4 j5 lj
      go_wp2_with fail
      go_loopw [52] (fun u wr => ∃ K : Nat, K ≤ K2 ∧ u = .int .i64 K ∧ Vecs wr base k n (.slice Av k cv) ss (fun j => rowL2 (rst lo hi k (zF zs) K j) n) ∧ KV base w0 wr) (fun u _ => K2 - (intOf u).toNat)
      case atStart => exact ⟨0, by omega, rfl, HV1.out, HK1.out⟩
      case round =>
        obtain ⟨K, hK, rfl, hvec, hkv⟩ := hrel
        have HVec := Lib.hid hvec
        have HKV := Lib.hid hkv
        have hzr : base ≤ wr.heap.size := Nat.le_trans hz0 hkv.2.size
        clear hvec hkv
        by_cases hlt2 : K < K2
        · have i1 : (K : Int) < (K2 : Int) := by omega
          go_wp2_with fail
          obtain ⟨w3, hw3⟩ : ∃ w3 : World, w3 = wr := ⟨_, rfl⟩
          subst hw3
          go_loopw [10, 57] (fun v u wr => ∃ (q : Nat) (Ao : Option Addr) (co : Nat) (os : List Sl3), q ≤ k ∧ u = .int .i64 q ∧ v = .slice Ao q co ∧ Vecs wr w3.heap.size q n (.slice Ao q co) os (fun j => rowL2 (rst lo hi k (zF zs) K j) n) ∧ KV w3.heap.size w3 wr) (fun _ u _ => k - (intOf u).toNat)
          case atStart => exact ⟨0, none, 0, [], by omega, rfl, rfl, Vecs.nil _ _ _ _, KV.refl _ _⟩
          case round =>
            obtain ⟨q, Ao, co, os, hq, rfl, rfl, hvo, hko⟩ := hrel
            by_cases hlt3 : q < k
            · have hvn := HVec.out.below hko.2
              obtain ⟨g, o, sq, rfl, hg, hsq, e0⟩ := slvs_at hvn.len (Rd.of_own hvn.own) hlt3
              have hlen := hvn.rows.len q sq hsq
              obtain ⟨Aq, nqq, cq⟩ := sq
              simp only at hlen e0
              replace hlen := hlen.symm
              subst hlen
              have HC := Lib.hid (vecClone_any Aq n cq _ wr (rowL2_length _ _) (hvn.rows.rd hsq) (by omega))
              have HVo := Lib.hid hvo
              have HKo := Lib.hid hko
              have i3 : (0 : Int) ≤ (q : Int) := by omega
              have i4 : (q : Int) < (k : Int) := by omega
              have hzo : w3.heap.size ≤ wr.heap.size := hko.2.size
              clear hvo hko hvn hsq
              go_wp2_with fail
              ((with_reducible refine HC.out.mono ?_); rintro e w4 ⟨A1, c1, rfl, hown1, hb1⟩)
              have HO1 := Lib.hid hown1
              have HB1 := Lib.hid hb1
              have HOV := Lib.hid (own_below HVo.out.own hb1)
              have hz1 : w3.heap.size ≤ w4.heap.size := Nat.le_trans hzo hb1.size
              clear hown1 hb1 e0 hg
              go_wp2_with (at_builtin; go_must (refine wpList_pushL slVecs rfl _ _ rfl w3.heap.size (.slice Ao q co) q (os.map slv) rfl HOV.out #[.slice A1 n c1] w4.heap.size rfl rfl rfl (one_slv _ _ _) (by unfold maxLen; omega) (by omega) hz1 ?_); intro A2 c2 w5 hown2 hb2 hg2 _)
              have HV2 := Lib.hid (HVo.out.push HB1.out hzo HO1.out hown2 hg2)
              have HK2 := Lib.hid (HKo.out.trans ⟨(Stay.of_below HB1.out).trans (Stay.of_own (t := 2) HOV.out hg2), (HB1.out.mono hzo).trans hb2⟩)
              clear hown2 hb2 hg2
              go_wp2_with fail
              go_roundw
              case rel => exact ⟨q + 1, A2, c2, _, by omega, by go_num, rfl, HV2.out, HK2.out⟩
              case measure => simp [intOf]; omega
            · obtain rfl : q = k := by omega
              have HVn := Lib.hid (HVec.out.below hko.2)
              have HVo := Lib.hid hvo
              have HKn := Lib.hid (HKV.out.trans ⟨hko.1, hko.2.mono hzr⟩)
              have HNB : Hid (∀ (j : Nat) (t : Sl3) (g : Nat), ss[j]? = some t → (slv t).ownBlock = some g → g < w3.heap.size) := Lib.hid (fun j t g hj hg => (HVec.out.rows.lt hj hg).2)
              have hz4 : w3.heap.size ≤ wr.heap.size := hko.2.size
              clear hvo hko
              go_wp2_with fail
              obtain ⟨w4, hw4⟩ : ∃ w4 : World, w4 = wr := ⟨_, rfl⟩
              subst hw4
              obtain ⟨hM1, hM2⟩ := HMM.out
              have hM0 : 1 ≤ M := by omega
              have zn : ¬ M = 0 := by omega
              have hM63 : M ≤ 63 := by omega
              have zm : IntKind.i64.wrap ((q : Int) - 1) = (M : Int) := by rw [show (q : Int) - 1 = (M : Int) by omega]; exact wrap_ok _ (by omega) (by omega)
              have hd1 : K / M ≤ 1 := by
                have := (Nat.div_lt_iff_lt_mul (k := M) (by omega) (x := K) (y := 2)).2 (by omega)
                omega
              have hr1 : K % M < M := Nat.mod_lt _ (by omega)
              have HRSK := HRS.out K
              have HCK := fun x hx hp hr => HCh.out x (K / M) (K % M) hx hp hr
              have HRYK := fun (x : Nat) W => HRY.out x (K / M) (K % M) W
              obtain ⟨d, hd⟩ : ∃ d, K / M = d := ⟨_, rfl⟩
              obtain ⟨r, hr⟩ : ∃ r, K % M = r := ⟨_, rfl⟩
              have hqi : (K : Int) / (M : Int) = (d : Int) := by rw [← hd]; rfl
              have hri : (K : Int).tmod (M : Int) = (r : Int) := by rw [← hr]; rfl
              have zq : IntKind.i64.wrap ((K : Int) / (M : Int)) = (d : Int) := by rw [hqi]; exact wrap_ok _ (by omega) (by omega)
              rw [hd, hr] at HRSK
              rw [hd, hr] at HCK
              rw [hd, hr] at HRYK
              rw [hd] at hd1
              rw [hr] at hr1
              obtain ⟨F, hF⟩ : ∃ F, rst lo hi q (zF zs) K = F := ⟨_, rfl⟩
              obtain ⟨F1, hF1⟩ : ∃ F1, rst lo hi q (zF zs) (K + 1) = F1 := ⟨_, rfl⟩
              rw [hF, hF1] at HRSK
              rw [hF] at HVn HVo
              have HFF := Lib.hid (And.intro hF hF1)
              have HR4 := Lib.hid HRSK
              have HC4 := Lib.hid HCK
              have HY4 := Lib.hid HRYK
              have HPW : Hid (∀ x : Nat, x < q → ((x : Int) - 1) % (q : Int) = ((pwN q x : Nat) : Int) ∧ pwN q x < q) := Lib.hid (fun x hx => ⟨by
                unfold pwN
                have h1 := Int.emod_nonneg ((x : Int) - 1) (b := (q : Int)) (by omega)
                omega, pwN_lt q x (by omega)⟩)
              have HV4 : Hid (Vecs w4 base q n (.slice Av q cv) ss (G4 F F1 n 0)) := Lib.hid (by rw [G4_zero]; exact HVn.out)
              have hz04 : w0.heap.size ≤ w4.heap.size := HKn.out.2.size |> fun h => by have := HKn.out.2.size; omega
              clear hF hF1 HRSK HCK HRYK hqi hd hr HVec HKV
              go_loopw [69] (fun u wr => ∃ x : Nat, x ≤ q ∧ u = .int .i64 x ∧ Vecs wr base q n (.slice Av q cv) ss (G4 F F1 n x) ∧ Vecs wr w3.heap.size q n (.slice Ao q co) os (fun j => rowL2 (F j) n) ∧ KV base w0 wr ∧ w4.heap.size ≤ wr.heap.size) (fun u _ => q - (intOf u).toNat)
              case atStart => exact ⟨0, by omega, rfl, HV4.out, HVo.out, HKn.out, Nat.le_refl _⟩
              case round =>
                obtain ⟨x, hx, rfl, hvn, hvo, hkv, hz⟩ := hrel
                by_cases hlt4 : x < q
                · have hJ := hkv.blk HJ0.out (by decide) (by decide)
                  have j0 : wr.cell? ⟨base, 0, none⟩ = some (.int .i64 s) := hJ.cell 0
                  have j1 : wr.cell? ⟨base, 1, none⟩ = some (.int .i64 b) := hJ.cell 1
                  have j2 : wr.cell? ⟨base, 2, none⟩ = some (.int .i64 lo) := hJ.cell 2
                  have j3 : wr.cell? ⟨base, 3, none⟩ = some (.int .i64 hi) := hJ.cell 3
                  have j4 : wr.cell? ⟨base, 4, none⟩ = some (.int .i64 q) := hJ.cell 4
                  have j5 : wr.cell? ⟨base, 5, none⟩ = some (.int .i64 c) := hJ.cell 5
                  have lj := hJ.lt
                  have HVN := Lib.hid hvn
                  have HVO := Lib.hid hvo
                  have HKW := Lib.hid hkv
                  have i4 : (x : Int) < (q : Int) := by omega
                  have HCx := HC4.out x hlt4 (by omega) (by omega)
                  obtain ⟨hpe, hpl⟩ := HPW.out x hlt4
                  have HYx := HY4.out x
                  have HSx := HSeg.out (rqN q d r x) (by have := rqN_lt q d r x (by omega); omega)
                  have HRx : rowL2 (F1 x) n = curL (F x) (fun i => if d = 0 then wrap64 (F x i + F (pwN q x) i) else F (pwN q x) i) (segR lo hi q (rqN q d r x)).1 (segR lo hi q (rqN q d r x)).2 n := rowL2_cur _ _ _ _ _ _ (fun i => by
                    rw [HR4.out x]
                    dsimp only
                    by_cases h : inSeg lo hi q (rqN q d r x) i
                    · rw [if_pos h, if_pos (show _ ∧ _ from h)]
                    · rw [if_neg h, if_neg (show ¬ (_ ∧ _) from h)])
                  have HNW : Hid (∃ new : Nat → Int, new = fun i => if d = 0 then wrap64 (F x i + F (pwN q x) i) else F (pwN q x) i) := Lib.hid ⟨_, rfl⟩
                  obtain ⟨new, hnew⟩ := HNW.out
                  rw [← hnew] at HRx
                  have HNW := Lib.hid hnew
                  have hle := rY_le s b lo hi q c x d r h0 h1 (by omega) (by omega)
                  obtain ⟨R, hR⟩ : ∃ R, rY s b lo hi q c x d r = R := ⟨_, rfl⟩
                  obtain ⟨nr, hnr⟩ : ∃ nr, R.length = nr := ⟨_, rfl⟩
                  rw [hR] at HCx HYx hle
                  rw [hnr] at HYx hle
                  obtain ⟨x1, hx1⟩ : ∃ x1, (segR lo hi q (rqN q d r x)).1 = x1 := ⟨_, rfl⟩
                  obtain ⟨y1, hy1⟩ : ∃ y1, (segR lo hi q (rqN q d r x)).2 = y1 := ⟨_, rfl⟩
                  rw [hx1, hy1] at HCx HSx HRx
                  have HNR := Lib.hid hnr
                  have HYx := Lib.hid HYx
                  have HCx := Lib.hid HCx
                  have HSx := Lib.hid HSx
                  have HRx := Lib.hid HRx
                  have HVN5 : Hid (Vecs wr base q n (.slice Av q cv) ss (G5 F F1 n x new x1 x1)) := Lib.hid (by rw [G5_start]; exact hvn)
                  obtain ⟨hx10, hxy, hy1h⟩ := HSx.out
                  obtain ⟨x1, rfl⟩ := Int.eq_ofNat_of_zero_le (show 0 ≤ x1 by omega)
                  obtain ⟨y1, rfl⟩ := Int.eq_ofNat_of_zero_le (show 0 ≤ y1 by omega)
                  have hlex : w3.heap.size ≤ wr.heap.size := by omega
                  clear hvn hvo hkv hJ hR hnr hx1 hy1 hnew
                  go_wp2_with fail
                  obtain ⟨wx, hwx⟩ : ∃ wx : World, wx = wr := ⟨_, rfl⟩
                  subst hwx
                  refine wp_region_early (Kept wx) [0, 1, 2, 3, 4, 5, 6, 7, 8, 9, 10, 11, 14] [12, 13] [] (by kernel_rfl) (by kernel_rfl) (Kept.start wx) ?_
                  simp only [List.filterMap_cons, List.filterMap_nil, List.getElem?_cons_succ, List.getElem?_cons_zero]
                  refine early_step (jobV s b lo hi q c) rfl (fun W hW => ?_) ?_
                  · obtain ⟨hc, -, -⟩ := hW
                    go_simp
                  go_simp
                  refine early_step (.int .i64 x) rfl (fun W hW => ?_) ?_
                  · obtain ⟨hc, -, -⟩ := hW
                    go_simp
                  go_simp
                  refine early_step (.int .i64 K) rfl (fun W hW => ?_) ?_
                  · obtain ⟨hc, -, -⟩ := hW
                    go_simp
                  go_simp
                  refine early_step (.pointer (some ⟨base, 4, none⟩)) rfl (fun W hW => ?_) ?_
                  · obtain ⟨hc, -, -⟩ := hW
                    go_simp
                  go_simp
                  refine early_step (.int .i64 q) rfl (fun W hW => ?_) ?_
                  · obtain ⟨hc, -, -⟩ := hW
                    go_simp
                  go_simp
                  refine early_step (.int .i64 M) rfl (fun W hW => ?_) ?_
                  · obtain ⟨hc, -, -⟩ := hW
                    go_simp
                  go_simp
                  refine early_step (.int .i64 d) rfl (fun W hW => ?_) ?_
                  · obtain ⟨hc, -, -⟩ := hW
                    go_simp
                  go_simp
                  refine early_step (.int .i64 K) rfl (fun W hW => ?_) ?_
                  · obtain ⟨hc, -, -⟩ := hW
                    go_simp
                  go_simp
                  refine early_step (.pointer (some ⟨base, 4, none⟩)) rfl (fun W hW => ?_) ?_
                  · obtain ⟨hc, -, -⟩ := hW
                    go_simp
                  go_simp
                  refine early_step (.int .i64 q) rfl (fun W hW => ?_) ?_
                  · obtain ⟨hc, -, -⟩ := hW
                    go_simp
                  go_simp
                  refine early_step (.int .i64 M) rfl (fun W hW => ?_) ?_
                  · obtain ⟨hc, -, -⟩ := hW
                    go_simp
                  go_simp
                  refine early_step (.int .i64 r) rfl (fun W hW => ?_) ?_
                  · obtain ⟨hc, -, -⟩ := hW
                    go_simp
                  go_simp
                  refine early_step (.int .i64 0) rfl (fun W hW => ?_) ?_
                  · obtain ⟨hc, -, -⟩ := hW
                    go_simp
                  go_simp
                  change RestW _ _ _ _ _ (_ :: _ :: []) _ _
                  unfold RestW
                  go_wp2_with fail
                  ((with_reducible refine (HYx.out _).mono ?_); rintro e w2 ⟨A2, c2, rfl, hown2, hb2⟩)
                  have hb2' : Below wx.heap.size wx w2 := ((Kept.start wx).call hb2).2.2
                  have HR2 := Lib.hid hown2
                  have HB2 := Lib.hid hb2'
                  have HV2 := Lib.hid (HVN5.out.below hb2')
                  have HO2 := Lib.hid (HVO.out.below hb2')
                  have HK2 := Lib.hid (HKW.out.trans (KV.call hb2' (Nat.le_trans hz0 HKW.out.2.size)))
                  have hz2 : base ≤ w2.heap.size := Nat.le_trans hz0 HK2.out.2.size
                  have hz32 : w4.heap.size ≤ w2.heap.size := Nat.le_trans hz hb2'.size
                  clear hown2 hb2 hb2' j0 j1 j2 j3 j4 j5 lj
                  go_wp2_with fail
                  refine ⟨Kept.of HB2.out, ?_⟩
                  unfold RestW
                  go_wp2_with fail
                  refine ⟨Kept.of HB2.out, ?_⟩
                  unfold RestW
                  change wpList _ _ _ [] _ _
                  go_wp2_with fail
                  refine NoPanic.normal ?_
                  go_wp2_with fail
                  go_loopw [86] (fun uu wr => ∃ (u e : Nat), u ≤ nr ∧ uu = .int .i64 u ∧ chainR d (R.drop u) e y1 ∧ x1 ≤ e ∧ e ≤ y1 ∧ Vecs wr base q n (.slice Av q cv) ss (G5 F F1 n x new x1 e) ∧ Vecs wr w3.heap.size q n (.slice Ao q co) os (fun j => rowL2 (F j) n) ∧ KV base w2 wr ∧ w2.heap.size ≤ wr.heap.size) (fun uu _ => nr - (intOf uu).toNat)
                  case atStart => exact ⟨0, x1, by omega, rfl, HCx.out, by omega, by omega, HV2.out, HO2.out, KV.refl _ _, Nat.le_refl _⟩
                  case round =>
                    obtain ⟨u, e, hu, rfl, hch, hxe, hey, hvn, hvo, hkv, hzz⟩ := hrel
                    by_cases hlt5 : u < nr
                    · obtain ⟨g2, o2, sd, ad, b1', b2', b3', b4', b5', a1, a2, rfl, hg2, hRu, c0, c1', c2', c3', c4', c5', c6', c7', c8'⟩ := act_cells HNR.out (Rd.of_own (hkv.1.own hkv.2.size HR2.out (by decide) (by decide))) hlt5
                      have i5 : (u : Int) < (nr : Int) := by omega
                      have i6 : (0 : Int) ≤ (u : Int) := by omega
                      have HVN3 := Lib.hid hvn
                      have HVO3 := Lib.hid hvo
                      have HKW3 := Lib.hid hkv
                      have HCU := Lib.hid hch
                      have HRU := Lib.hid hRu
                      have hbr : base ≤ wr.heap.size := by omega
                      clear hvn hvo hkv hch hRu
                      cases sd
                      · obtain ⟨hadd, hae, he2, he2y, hch2⟩ := chainR_recv HCU.out HRU.out rfl
                        dsimp only at hae he2 he2y hch2
                        obtain ⟨e2, rfl⟩ := Int.eq_ofNat_of_zero_le (show 0 ≤ a2 by omega)
                        subst hae
                        have HAD := Lib.hid hadd
                        have HCH2 := Lib.hid hch2
                        have HAL : Hid (∀ W, wr.alloc (.cells #[.bool false, .bool ad, .int .i64 b1', .int .i64 b2', .int .i64 b3', .int .i64 b4', .int .i64 b5', .int .i64 e, .int .i64 e2] 76) = W → Below wr.heap.size wr W ∧ Blk W wr.heap.size 76 #[.bool false, .bool ad, .int .i64 b1', .int .i64 b2', .int .i64 b3', .int .i64 b4', .int .i64 b5', .int .i64 e, .int .i64 e2]) := Lib.hid (by
                          rintro W rfl
                          exact ⟨(Below.refl _ _).alloc (Nat.le_refl _) _, Blk.new _ _ _⟩)
                        clear hadd hch2
                        go_wp2_with fail
                        obtain ⟨wa, hwa⟩ : ∃ wa, wr.alloc (.cells #[.bool false, .bool ad, .int .i64 b1', .int .i64 b2', .int .i64 b3', .int .i64 b4', .int .i64 b5', .int .i64 e, .int .i64 e2] 76) = wa := ⟨_, rfl⟩
                        obtain ⟨hba, hta⟩ := HAL.out _ hwa
                        rw [hwa]
                        clear hwa HAL c0 c1' c2' c3' c4' c5' c6' c7' c8'
                        obtain ⟨gt, hgt⟩ : ∃ gt, wr.heap.size = gt := ⟨_, rfl⟩
                        rw [hgt] at hta ⊢
                        have hbra : base ≤ wa.heap.size := Nat.le_trans hbr hba.size
                        have hKa : KV base w2 wa := HKW3.out.trans (KV.call hba hbr)
                        have hJa : Blk wa base 35 #[.int .i64 s, .int .i64 b, .int .i64 lo, .int .i64 hi, .int .i64 q, .int .i64 c] := (HK2.out.trans hKa).blk HJ0.out (by decide) (by decide)
                        have HVa := Lib.hid (HVN3.out.below hba)
                        have HOa := Lib.hid (HVO3.out.below hba)
                        have HKa := Lib.hid hKa
                        have HTa := Lib.hid hta
                        have hz2a : w2.heap.size ≤ wa.heap.size := Nat.le_trans hzz hba.size
                        clear hba hKa HVN3 HVO3 HKW3 hgt
                        obtain ⟨ga, oa, sx, rfl, hga, hsx, ea0⟩ := slvs_at HVa.out.len (Rd.of_own HVa.out.own) hlt4
                        obtain ⟨pw, hpw⟩ : ∃ pw, pwN q x = pw := ⟨_, rfl⟩
                        rw [hpw] at hpe hpl
                        obtain ⟨gb, ob, so, rfl, hgb, hso, eb0⟩ := slvs_at HOa.out.len (Rd.of_own HOa.out.own) hpl
                        have hlx := HVa.out.rows.len x sx hsx
                        have hlo := HOa.out.rows.len pw so hso
                        obtain ⟨Ax, nx, cx⟩ := sx
                        obtain ⟨Ay, ny, cy⟩ := so
                        simp only at hlx hlo ea0 eb0
                        subst hlx
                        replace hlo := hlo.symm
                        subst hlo
                        have HTO : Hid (wa.ownsRow base 2 1 (.slice Ax nx cx) nx (iv (curL (F x) new x1 e nx))) := Lib.hid (by
                          have := HVa.out.rows.row x _ hsx
                          rw [G5_at] at this
                          exact this)
                        have HFR : Hid (wa.ownsRow w3.heap.size 2 1 (.slice Ay nx cy) nx (iv (rowL2 (F pw) nx))) := Lib.hid (HOa.out.rows.row pw _ hso)
                        have hcx := own_cap HTO.out
                        have hcy := own_cap HFR.out
                        have HSX := Lib.hid hsx
                        have HPE := Lib.hid hpw
                        clear hsx hso hpw
                        obtain ⟨k1, hk1⟩ : ∃ k1, e2 - e = k1 := ⟨_, rfl⟩
                        obtain ⟨P1, hP1⟩ : ∃ P1, pcA Ax cx e = P1 := ⟨_, rfl⟩
                        obtain ⟨P2, hP2⟩ : ∃ P2, pcA Ay cy e = P2 := ⟨_, rfl⟩
                        obtain ⟨z1, hz1⟩ : ∃ z1, cx - e = z1 := ⟨_, rfl⟩
                        obtain ⟨z2, hz2'⟩ : ∃ z2, cy - e = z2 := ⟨_, rfl⟩
                        have hsz : ∀ W, (sizeOf (Try.prog.elem 53)).run Try.prog W = .ok 1 W := fun W => by kernel_rfl
                        have hs1 := fun W => run_piece (n := nx) Try.underlying53 hsz (show e ≤ e2 by omega) (by omega) hk1 hz1 hP1 W
                        have hs2 := fun W => run_piece (n := nx) Try.underlying53 hsz (show e ≤ e2 by omega) (by omega) hk1 hz2' hP2 W
                        clear hsz
                        have HPP := Lib.hid (And.intro hk1 (And.intro hP1 hP2))
                        have HARx := Lib.hid (HAR.out x hlt4)
                        have j0 : wa.cell? ⟨base, 0, none⟩ = some (.int .i64 s) := hJa.cell 0
                        have j1 : wa.cell? ⟨base, 1, none⟩ = some (.int .i64 b) := hJa.cell 1
                        have j2 : wa.cell? ⟨base, 2, none⟩ = some (.int .i64 lo) := hJa.cell 2
                        have j3 : wa.cell? ⟨base, 3, none⟩ = some (.int .i64 hi) := hJa.cell 3
                        have j4 : wa.cell? ⟨base, 4, none⟩ = some (.int .i64 q) := hJa.cell 4
                        have j5 : wa.cell? ⟨base, 5, none⟩ = some (.int .i64 c) := hJa.cell 5
                        have lj := hJa.lt
                        have t7 : wa.cell? ⟨gt, 7, none⟩ = some (.int .i64 e) := HTa.out.cell 7
                        have t8 : wa.cell? ⟨gt, 8, none⟩ = some (.int .i64 e2) := HTa.out.cell 8
                        have lt' := HTa.out.lt
                        have i7 : (0 : Int) ≤ (x : Int) := by omega
                        have zx : IntKind.i64.wrap ((x : Int) - 1) = (x : Int) - 1 := wrap_ok _ (by omega) (by omega)
                        clear hta hJa hk1 hP1 hP2 hz1 hz2'
                        refine wp_region_eme (Kept wa) [0, 1, 2, 3, 4, 5, 6, 7, 8, 9, 10, 11, 12, 13, 14, 18, 19, 20, 21, 22, 23] [15] [16, 17, 24, 25] [26] (by kernel_rfl) (by kernel_rfl) (Kept.start wa) ?_
                        simp only [List.filterMap_cons, List.filterMap_nil, List.getElem?_cons_succ, List.getElem?_cons_zero]
                        refine early_step (.slice (some ⟨ga, oa, none⟩) q cv) rfl (fun W hW => ?_) ?_
                        · obtain ⟨hc, -, -⟩ := hW
                          go_simp
                        go_simp
                        refine early_step (.int .i64 x) rfl (fun W hW => ?_) ?_
                        · obtain ⟨hc, -, -⟩ := hW
                          go_simp
                        go_simp
                        refine early_step (.pointer (some ⟨ga, oa + x, none⟩)) rfl (fun W hW => ?_) ?_
                        · obtain ⟨hc, -, -⟩ := hW
                          go_simp
                        go_simp
                        refine early_step (.slice Ax nx cx) rfl (fun W hW => ?_) ?_
                        · obtain ⟨hc, -, -⟩ := hW
                          go_simp
                        go_simp
                        refine early_step (.pointer (some ⟨gt, 7, none⟩)) rfl (fun W hW => ?_) ?_
                        · obtain ⟨hc, -, -⟩ := hW
                          go_simp
                        go_simp
                        refine early_step (.pointer (some ⟨gt, 7, none⟩)) rfl (fun W hW => ?_) ?_
                        · obtain ⟨hc, -, -⟩ := hW
                          go_simp
                        go_simp
                        refine early_step (.int .i64 e) rfl (fun W hW => ?_) ?_
                        · obtain ⟨hc, -, -⟩ := hW
                          go_simp
                        go_simp
                        refine early_step (.pointer (some ⟨gt, 7, none⟩)) rfl (fun W hW => ?_) ?_
                        · obtain ⟨hc, -, -⟩ := hW
                          go_simp
                        go_simp
                        refine early_step (.pointer (some ⟨gt, 8, none⟩)) rfl (fun W hW => ?_) ?_
                        · obtain ⟨hc, -, -⟩ := hW
                          go_simp
                        go_simp
                        refine early_step (.int .i64 e2) rfl (fun W hW => ?_) ?_
                        · obtain ⟨hc, -, -⟩ := hW
                          go_simp
                        go_simp
                        refine early_step (.slice P1 k1 z1) rfl (fun W hW => ?_) ?_
                        · obtain ⟨hc, -, -⟩ := hW
                          go_simp
                        go_simp
                        refine early_step (.slice (some ⟨gb, ob, none⟩) q co) rfl (fun W hW => ?_) ?_
                        · obtain ⟨hc, -, -⟩ := hW
                          go_simp
                        go_simp
                        refine early_step (jobV s b lo hi q c) rfl (fun W hW => ?_) ?_
                        · obtain ⟨hc, -, -⟩ := hW
                          go_simp
                        go_simp
                        refine early_step (.int .i64 x) rfl (fun W hW => ?_) ?_
                        · obtain ⟨hc, -, -⟩ := hW
                          go_simp
                        go_simp
                        refine early_step (.int .i64 ((x : Int) - 1)) rfl (fun W hW => ?_) ?_
                        · obtain ⟨hc, -, -⟩ := hW
                          go_simp
                        go_simp
                        refine early_step (.pointer (some ⟨gt, 7, none⟩)) rfl (fun W hW => ?_) ?_
                        · obtain ⟨hc, -, -⟩ := hW
                          go_simp
                        go_simp
                        refine early_step (.pointer (some ⟨gt, 7, none⟩)) rfl (fun W hW => ?_) ?_
                        · obtain ⟨hc, -, -⟩ := hW
                          go_simp
                        go_simp
                        refine early_step (.int .i64 e) rfl (fun W hW => ?_) ?_
                        · obtain ⟨hc, -, -⟩ := hW
                          go_simp
                        go_simp
                        refine early_step (.pointer (some ⟨gt, 7, none⟩)) rfl (fun W hW => ?_) ?_
                        · obtain ⟨hc, -, -⟩ := hW
                          go_simp
                        go_simp
                        refine early_step (.pointer (some ⟨gt, 8, none⟩)) rfl (fun W hW => ?_) ?_
                        · obtain ⟨hc, -, -⟩ := hW
                          go_simp
                        go_simp
                        refine early_step (.int .i64 e2) rfl (fun W hW => ?_) ?_
                        · obtain ⟨hc, -, -⟩ := hW
                          go_simp
                        go_simp
                        change RestW _ _ _ _ _ (_ :: []) _ _
                        unfold RestW
                        go_wp2_with fail
                        ((with_reducible refine (HARx.out _).mono ?_); rintro e' w5 ⟨rfl, hb5⟩)
                        have hb5' : Below wa.heap.size wa w5 := ((Kept.start wa).call hb5).2.2
                        rw [hpe]
                        go_wp2_with fail
                        refine ⟨Kept.of hb5', ?_⟩
                        unfold RestW
                        refine ⟨Kept.of hb5', ?_⟩
                        refine early_step (.pointer (some ⟨gb, ob + pw, none⟩)) rfl (fun W hW => ?_) ?_
                        · obtain ⟨hc, -, -⟩ := hW
                          go_simp
                        go_simp
                        refine early_step (.slice Ay nx cy) rfl (fun W hW => ?_) ?_
                        · obtain ⟨hc, -, -⟩ := hW
                          go_simp
                        go_simp
                        refine early_step (.slice P2 k1 z2) rfl (fun W hW => ?_) ?_
                        · obtain ⟨hc, -, -⟩ := hW
                          go_simp
                        go_simp
                        refine early_step (.slice P1 k1 z1) rfl (fun W hW => ?_) ?_
                        · obtain ⟨hc, -, -⟩ := hW
                          go_simp
                        go_simp
                        change wpList _ _ _ (_ :: []) _ _
                        go_wp2_with fail
                        refine NoPanic.normal ?_
                        obtain ⟨hk1, hP1, hP2⟩ := HPP.out
                        have HV5 := Lib.hid (HVa.out.below hb5')
                        have HO5 := Lib.hid (HOa.out.below hb5')
                        have HK5 := Lib.hid (HKa.out.trans (KV.call hb5' hbra))
                        have HTO5 := Lib.hid (own_below HTO.out hb5')
                        have HFR5 := Lib.hid (own_below HFR.out hb5')
                        have hta5 := HTa.out.kept hb5'
                        have t1 : w5.cell? ⟨gt, 1, none⟩ = some (.bool ad) := hta5.cell 1
                        have lt5 := hta5.lt
                        have hbr5 : base ≤ w5.heap.size := Nat.le_trans hbra hb5'.size
                        have hz25 : w2.heap.size ≤ w5.heap.size := Nat.le_trans hz2a hb5'.size
                        have HYL : Hid ((((rowL2 (F pw) nx).drop e).take k1).length = k1) := Lib.hid (by simp [rowL2_length]; omega)
                        have HYR : Hid (Rd w5 1 P2 k1 (iv (((rowL2 (F pw) nx).drop e).take k1))) := Lib.hid (by
                          rw [← hP2]
                          exact pc_rd HFR5.out (rowL2_length _ _) (by omega))
                        have hne : ∀ b o', P2 = some ⟨b, o', none⟩ → 0 < k1 → (Value.slice Ax nx cx).ownBlock ≠ some b := by
                          intro b' o' hB hk hbg
                          obtain ⟨g, hA, hp⟩ := pc_at (e := e) HFR.out hk (by omega)
                          rw [hP2, hB] at hp
                          injection hp with hp
                          injection hp with hp
                          have h1 := (HFR.out.lt g (by rw [hA]; rfl)).1
                          have h2 := HNB.out x _ b' HSX.out hbg
                          omega
                        have HAC : Hid (Calls Try.prog 56 #[.slice P1 k1 z1, .slice P2 k1 z2] w5 fun e' w' => e' = .returned (.bool true) ∧ w'.ownsRow base 2 1 (.slice Ax nx cx) nx (iv (addAt (curL (F x) new x1 e nx) e (((rowL2 (F pw) nx).drop e).take k1) k1)) ∧ w5.grownBy w' (Value.slice Ax nx cx).ownBlock) := Lib.hid (by
                          have h := addP_any Ax nx cx e k1 z1 (curL (F x) new x1 e nx) P2 z2 (((rowL2 (F pw) nx).drop e).take k1) base w5 HTO5.out (curL_length _ _ _ _ _) (by omega) (by omega) HYL.out HYR.out hne
                          rwa [hP1] at h)
                        have HNE : Hid (d = 0 → addAt (curL (F x) new x1 e nx) e (((rowL2 (F pw) nx).drop e).take k1) k1 = curL (F x) new x1 e2 nx) := Lib.hid (fun h0' => by
                          rw [rowL2_piece _ _ _ _ (by omega), curL_add (F x) (F pw) new x1 nx e k1 (by omega) (by omega) (fun i => by rw [HNW.out, HPE.out]; simp only [h0', if_true]), show e + k1 = e2 by omega])
                        have HNF : Hid (d ≠ 0 → (curL (F x) new x1 e nx).take e ++ ((((rowL2 (F pw) nx).drop e).take k1) ++ (curL (F x) new x1 e nx).drop (e + k1)) = curL (F x) new x1 e2 nx) := Lib.hid (fun h0' => by
                          have hnf : new = F pw := by
                            rw [HNW.out, HPE.out]
                            funext i
                            rw [if_neg h0']
                          rw [rowL2_piece _ _ _ _ (by omega), hnf, curL_copy (F x) (F pw) x1 nx e k1 (by omega) (by omega), show e + k1 = e2 by omega])
                        have hP1' := Lib.hid hP1
                        have hEe : e + k1 ≤ nx := by omega
                        clear hta5 hne hb5 hb5' j0 j1 j2 j3 j4 j5 lj t7 t8 lt' ea0 eb0 hs1 hs2 hk1 hP1 hP2
                        cases ad
                        · go_wp2_with (refine wpList_copy_piece rfl (.tmp 122) (.tmp 123) _ _ rfl slVec.slice (by kernel_rfl) Ax nx cx e k1 z1 (curL (F x) new x1 e nx) P2 z2 (((rowL2 (F pw) nx).drop e).take k1) base P1 hP1'.out rfl rfl HTO5.out (curL_length _ _ _ _ _) hEe HYL.out HYR.out ?_; intro w6 hown6 hg6; rw [HNF.out (by have h := of_decide_eq_false HAD.out.symm; omega)] at hown6; have HV6 := Lib.hid (HV5.out.upd HSX.out hg6 hown6); have HO6 := Lib.hid (HO5.out.keep (s := (Ax, nx, cx)) HTO5.out (fun g hg => HNB.out x _ g HSX.out hg) hg6); have HK6 := Lib.hid (HK5.out.trans ⟨Stay.of_own' HTO5.out hg6, (Below.refl base w5).grown hg6 hbr5 fun k hk => (HTO5.out.lt k hk).1⟩); have hz6 := hg6.size; clear hown6 hg6)
                          rw [G5_step] at HV6
                          refine ⟨⟨u + 1, e2, by omega, by go_num, HCH2.out, by omega, by omega, HV6.out, HO6.out, HK6.out, by omega⟩, ?_⟩
                          simp [intOf]; omega
                        · go_wp2_with fail
                          ((with_reducible refine HAC.out.mono ?_); rintro e' w6 ⟨rfl, hown6, hg6⟩)
                          rw [HNE.out (by have h := of_decide_eq_true HAD.out.symm; omega)] at hown6
                          have hV6 := HV5.out.upd HSX.out hg6 hown6
                          rw [G5_step] at hV6
                          have hO6 := HO5.out.keep (s := (Ax, nx, cx)) HTO5.out (fun g hg => HNB.out x _ g HSX.out hg) hg6
                          have hK6 : KV base w2 w6 := HK5.out.trans ⟨Stay.of_own' HTO5.out hg6, (Below.refl base w5).grown hg6 hbr5 fun k hk => (HTO5.out.lt k hk).1⟩
                          have HV6 := Lib.hid hV6
                          have HO6 := Lib.hid hO6
                          have HK6 := Lib.hid hK6
                          have hz6 := hg6.size
                          clear hV6 hO6 hK6 hg6 hown6
                          go_wp2_with fail
                          refine ⟨⟨u + 1, e2, by omega, by go_num, HCH2.out, by omega, by omega, HV6.out, HO6.out, HK6.out, by omega⟩, ?_⟩
                          simp [intOf]; omega
                      · go_wp2_with fail
                        obtain ⟨w5, hw5⟩ : ∃ w5, wr.alloc (.cells #[.bool true, .bool ad, .int .i64 b1', .int .i64 b2', .int .i64 b3', .int .i64 b4', .int .i64 b5', .int .i64 a1, .int .i64 a2] 76) = w5 := ⟨_, rfl⟩
                        have hb5 : Below wr.heap.size wr w5 := by rw [← hw5]; exact (Below.refl _ _).alloc (Nat.le_refl _) _
                        rw [hw5]
                        clear hw5
                        refine ⟨⟨u + 1, e, by omega, by go_num, chainR_send HCU.out HRU.out rfl, by omega, by omega, HVN3.out.below hb5, HVO3.out.below hb5, HKW3.out.trans (KV.call hb5 hbr), by have := hb5.size; omega⟩, ?_⟩
                        simp [intOf]; omega
                    · obtain rfl : u = nr := by omega
                      have hee := chainR_end hch HNR.out
                      have i5 : ¬ (u : Int) < (u : Int) := by omega
                      have HVe : Hid (Vecs wr base q n (.slice Av q cv) ss (G4 F F1 n (x + 1))) := Lib.hid (by rw [← G5_end F F1 n x new x1 y1 HRx.out, ← hee]; exact hvn)
                      have HVOe := Lib.hid hvo
                      have HKe := Lib.hid (HK2.out.trans hkv)
                      clear hvn hvo hkv hch hee
                      go_wp2_with fail
                      go_roundw
                      case rel => exact ⟨x + 1, by omega, by go_num, HVe.out, HVOe.out, HKe.out, by omega⟩
                      case measure => simp [intOf]; omega
                · obtain rfl : x = q := by omega
                  have HVe : Hid (Vecs wr base x n (.slice Av x cv) ss (fun j => rowL2 (rst lo hi x (zF zs) (K + 1) j) n)) := Lib.hid (hvn.congr (fun k hk => by rw [HFF.out.2, G4_all F F1 n x k hk]))
                  have HKe := Lib.hid hkv
                  have i4 : ¬ (x : Int) < (x : Int) := by omega
                  clear hvn hvo hkv
                  go_wp2_with fail
                  go_roundw
                  case rel => exact ⟨K + 1, by omega, by go_num, HVe.out, HKe.out⟩
                  case measure => simp [intOf]; omega
        · obtain rfl : K = K2 := by omega
          have i1 : ¬ (K : Int) < (K : Int) := by omega
          go_wp2_with fail
          go_ret2
          exact ⟨Av, cv, ss, rfl, by rw [HBase.out]; exact HVec.out, HB0.out.trans (by rw [HBase.out]; exact HKV.out.2)⟩
end

end Go.Proofs.Ytkecpbdgcbgogaa
