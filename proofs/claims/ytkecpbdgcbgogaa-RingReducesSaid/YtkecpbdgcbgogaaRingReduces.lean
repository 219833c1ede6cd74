/-
  RingReduces: the walk.
-/
import Derived.Test.YtkecpbdgcbgogaaRedBad
namespace Go.Proofs.Ytkecpbdgcbgogaa
set_option linter.unusedVariables false
set_option linter.unusedSimpArgs false
set_option maxRecDepth 100000
open Go.RowKit

theorem few_one_le (ns : List Nat) (x : Nat) (h : x ∈ ns) : min x 2000 ≤ fewN ns := by
  induction ns with
  | nil => cases h
  | cons y ns ih =>
    unfold fewN at ih ⊢
    rw [List.map_cons, List.sum_cons]
    rcases List.mem_cons.1 h with rfl | h
    · omega
    · have := ih h
      omega
theorem few_each (ns : List Nat) (h : fewL ns = true) : ns.length ≤ 60 ∧ ∀ x ∈ ns, x ≤ 1500 := by
  unfold fewL at h
  have h := of_decide_eq_true h
  refine ⟨h.1, fun x hx => ?_⟩
  have h2 := h.2
  rw [List.take_of_length_le (by omega)] at h2
  have := few_one_le ns x hx
  omega
theorem few19_spec {lo hi m c : Int} (h : fewB lo hi m c = true) : 0 ≤ lo ∧ lo ≤ hi ∧ hi ≤ 300 ∧ 1 ≤ m ∧ m ≤ 64 ∧ 1 ≤ c ∧ c ≤ 1048576 ∧ (m ≤ 12 ∨ hi ≤ 40) := by simpa [fewB] using h

/-- Copies of what was given, of whatever lengths. -/
structure Giv (w : World) (base k : Nat) (v : Value) (gs : List Sl3) (zs : List (List Int)) : Prop where
  len : gs.length = k
  own : w.ownsRow base 53 1 v k (gs.map slv)
  rows : ∀ (j : Nat) (s : Sl3) (z : List Int), gs[j]? = some s → zs[j]? = some z → s.2.1 = z.length ∧ w.ownsRow base 2 1 (slv s) z.length (iv z)
theorem Giv.nil (w : World) (base : Nat) (zs : List (List Int)) : Giv w base 0 (.slice none 0 0) [] zs := ⟨rfl, by simpa using World.ownsRow_nil w base 53 1, fun j s z h => by simp at h⟩
theorem Giv.below {w w' : World} {base k : Nat} {v : Value} {gs : List Sl3} {zs : List (List Int)} (h : Giv w base k v gs zs) (hb : Below w.heap.size w w') : Giv w' base k v gs zs :=
  ⟨h.len, own_below h.own hb, fun j s z h1 h2 => ⟨(h.rows j s z h1 h2).1, own_below (h.rows j s z h1 h2).2 hb⟩⟩
theorem Giv.push {w w1 w2 : World} {base k n : Nat} {A' Av A : Option Addr} {c' c cv : Nat} {gs : List Sl3} {zs : List (List Int)} {z : List Int} (h : Giv w base k (.slice Av k cv) gs zs) (hb1 : Below w.heap.size w w1) (hbase : base ≤ w.heap.size) (hz : zs[k]? = some z) (hn : z.length = n)
    (hr : w1.ownsRow w.heap.size 2 1 (.slice A n c) n (iv z)) (ho : w2.ownsRow base 53 1 (.slice A' (k + 1) c') (k + 1) (gs.map slv ++ [.slice A n c])) (hg : w1.grownBy w2 (Value.slice Av k cv).ownBlock) :
    Giv w2 base (k + 1) (.slice A' (k + 1) c') (gs ++ [(A, n, c)]) zs := by
  have hst : Stay 53 53 w1 w2 := Stay.of_own' (own_below h.own hb1) hg
  refine ⟨by simp [h.len], by rw [List.map_append]; exact ho, fun j s y hj hy => ?_⟩
  rw [List.getElem?_append] at hj
  split at hj
  · obtain ⟨h1, h2⟩ := h.rows j s y hj hy
    exact ⟨h1, hst.own hg.size (own_below h2 hb1) (by decide) (by decide)⟩
  · rename_i hn'
    have hjk : j = k := by
      rcases Nat.eq_zero_or_pos (j - gs.length) with h0 | h0
      · rw [h.len] at h0 hn'; omega
      · rw [List.getElem?_eq_none (by simp; omega)] at hj; cases hj
    subst hjk
    rw [show j - gs.length = 0 by rw [h.len]; omega] at hj
    injection hj with hj
    rw [hz] at hy
    injection hy with hy
    subst hj hy hn
    exact ⟨rfl, hst.own hg.size (own_base hr hbase) (by decide) (by decide)⟩
theorem Giv.rdv {w : World} {base k : Nat} {v : Value} {gs : List Sl3} {zs : List (List Int)} (h : Giv w base k v gs zs) (hz : zs.length = k) : RdV w gs zs := by
  refine ⟨by rw [h.len, hz], fun j s z h1 h2 => ?_⟩
  obtain ⟨h3, h4⟩ := h.rows j s z h1 h2
  obtain ⟨A, n, c⟩ := s
  simp only at h3
  subst h3
  exact ⟨rfl, Rd.of_own h4⟩
theorem vec_rd {w : World} {ss : List Sl3} {zs : List (List Int)} {k : Nat} {s : Sl3} (h : RdV w ss zs) (hs : ss[k]? = some s) : ∃ z, zs[k]? = some z ∧ z.length = s.2.1 ∧ Rd w 1 s.1 s.2.1 (iv z) := by
  have hk : k < zs.length := by rw [← h.1]; exact (List.getElem?_eq_some_iff.1 hs).1
  have hz : zs[k]? = some zs[k] := List.getElem?_eq_getElem hk
  exact ⟨_, hz, h.2 k s _ hs hz⟩

section
variable (s b lo hi : Int) (m : Nat) (c : Int) (A : Option Addr) (n cap : Nat) (ss : List Sl3) (zs : List (List Int)) (w : World)

set_option maxHeartbeats 4000000 in
theorem ringReduces_bad (hn : n ≤ 60) (hl : ss.length = n) (hzl : zs.length = n) (hs : ∀ z ∈ zs, z.length ≤ 1500) (h : Rd w 1 A n (ss.map slv)) (hv : RdV w ss zs) (hfe : ∀ W, Calls Try.prog 12 #[jobV s b lo hi m c] W fun e w' => e = .returned (.bool true) ∧ Below W.heap.size W w') (hfl : fewL (ss.map (·.2.1)) = true) (hgot : ∀ W Ag cg gs, gs.length = n → Rd W 1 Ag n (gs.map slv) → RdV W gs zs → Calls Try.prog 25 #[jobV s b lo hi m c, .slice Ag n cg] W (NotRet W)) (hwant : ∀ W, Rd W 1 A n (ss.map slv) → RdV W ss zs → Calls Try.prog 26 #[jobV s b lo hi m c, .slice A n cap] W (NotRet W)) :
    Calls Try.prog 5 #[jobV s b lo hi m c, .slice A n cap] w fun e w' => e = .returned (.bool true) ∧ Below w.heap.size w w' := by
  have HG := Lib.hid hgot
  have HWt := Lib.hid hwant
  have HR := Lib.hid h
  have HV := Lib.hid hv
  have HL := Lib.hid hl
  have HZL := Lib.hid hzl
  have HZ : Hid (∀ (k : Nat) (z : List Int), zs[k]? = some z → z.length ≤ 1500) := Lib.hid (fun k z hz => hs z (List.mem_of_getElem? hz))
  have HQ : Hid (∀ q ∈ ss, q.2.1 ≤ 9223372036854775807) := Lib.hid (fun q hq => by
    obtain ⟨k, hk, hkq⟩ := List.mem_iff_getElem.1 hq
    obtain ⟨z, hz1, hz2, _⟩ := vec_rd hv (List.getElem?_eq_getElem hk)
    have h1 := hs z (List.mem_of_getElem? hz1)
    rw [hkq] at hz2
    omega)
  have HFL := Lib.hid hfl
  have hzlen : zs.length = n := hzl
  clear hgot hwant h hv hl hzl hs hfl
  have HFe := Lib.hid hfe
  obtain ⟨w0, hw0⟩ : ∃ w0, w.alloc (.cells #[.int .i64 s, .int .i64 b, .int .i64 lo, .int .i64 hi, .int .i64 m, .int .i64 c] 25) = w0 := ⟨_, rfl⟩
  have hB0 : Below w.heap.size w w0 := by rw [← hw0]; exact (Below.refl _ _).alloc (Nat.le_refl _) _
  have hJ0 : Blk w0 w.heap.size 25 #[.int .i64 s, .int .i64 b, .int .i64 lo, .int .i64 hi, .int .i64 m, .int .i64 c] := by rw [← hw0]; exact Blk.new w _ _
  have HW0 := Lib.hid hw0
  have HB0 := Lib.hid hB0
  have HJ0 := Lib.hid hJ0
  clear hw0 hB0 hJ0 hfe
  go_enter Try.func5, Try.ntmps5
  go_wp2_with fail
  rw [HW0.out]
  obtain ⟨base, hbase⟩ : ∃ base, w.heap.size = base := ⟨_, rfl⟩
  rw [hbase] at HJ0 ⊢
  have HBase := Lib.hid hbase
  have hz0 : base ≤ w0.heap.size := by rw [← hbase]; exact HB0.out.size
  clear hbase
  have j0 : w0.cell? ⟨base, 0, none⟩ = some (.int .i64 s) := HJ0.out.cell 0
  have j1 : w0.cell? ⟨base, 1, none⟩ = some (.int .i64 b) := HJ0.out.cell 1
  have j2 : w0.cell? ⟨base, 2, none⟩ = some (.int .i64 lo) := HJ0.out.cell 2
  have j3 : w0.cell? ⟨base, 3, none⟩ = some (.int .i64 hi) := HJ0.out.cell 3
  have j4 : w0.cell? ⟨base, 4, none⟩ = some (.int .i64 m) := HJ0.out.cell 4
  have j5 : w0.cell? ⟨base, 5, none⟩ = some (.int .i64 c) := HJ0.out.cell 5
  have lj := HJ0.out.lt
  go_wp2_with fail
  ((with_reducible refine (HFe.out _).mono ?_); rintro e w1 ⟨rfl, hb1⟩)
  have hJ1 := HJ0.out.kept hb1
  have HJ1 := Lib.hid hJ1
  have HB1 := Lib.hid (HB0.out.trans (hb1.mono HB0.out.size))
  have hz1 : base ≤ w1.heap.size := Nat.le_trans hz0 hb1.size
  clear hb1 hJ1 j0 j1 j2 j3 j4 j5 lj
  go_wp2_with fail
  ((with_reducible refine (few03_any A n cap ss _ HL.out HQ.out (HR.out.below HB1.out) (by omega)).mono ?_); rintro e w2 ⟨rfl, rfl⟩)
  rw [HFL.out]
  go_wp2_with fail
  go_loopw [5, 27] (fun v u wr => ∃ (k : Nat) (Ag : Option Addr) (cg : Nat) (gs : List Sl3), k ≤ n ∧ u = .int .i64 k ∧ v = .slice Ag k cg ∧ Giv wr w1.heap.size k (.slice Ag k cg) gs zs ∧ Below w1.heap.size w1 wr) (fun _ u _ => n - (intOf u).toNat)
  case atStart => exact ⟨0, none, 0, [], by omega, rfl, rfl, Giv.nil _ _ _, Below.refl _ _⟩
  case round =>
    obtain ⟨k, Ag, cg, gs, hk, rfl, rfl, hgv, hb⟩ := hrel
    have hb0r : Below w.heap.size w wr := HB1.out.trans (hb.mono HB1.out.size)
    have hzr : w1.heap.size ≤ wr.heap.size := hb.size
    by_cases hlt : k < n
    · obtain ⟨g, o, q, rfl, hg, hq, e0⟩ := slvs_at HL.out (HR.out.below hb0r) hlt
      obtain ⟨z, hzk, hzn, hrz⟩ := vec_rd (HV.out.below hb0r) hq
      have hz15 := HZ.out k z hzk
      obtain ⟨Aq, nq, cq⟩ := q
      simp only at hzn hrz e0
      rw [hzn] at hz15
      have HC := Lib.hid (refClone_any Aq nq cq z wr hzn hrz (by omega))
      have HZK := Lib.hid (And.intro hzk hzn)
      have HGv := Lib.hid hgv
      have HBr := Lib.hid hb
      have i1 : (0 : Int) ≤ (k : Int) := by omega
      have i2 : (k : Int) < (n : Int) := by omega
      clear hb0r hq hzk hrz hgv hb hzn
      go_wp2_with fail
      ((with_reducible refine HC.out.mono ?_); rintro e w2 ⟨A1, c1, rfl, hown1, hb1⟩)
      have HO1 := Lib.hid hown1
      have HBb := Lib.hid hb1
      have HOV := Lib.hid (own_below HGv.out.own hb1)
      have hz2 : w1.heap.size ≤ w2.heap.size := Nat.le_trans hzr hb1.size
      clear hown1 hb1 e0 hg
      go_wp2_with (at_builtin; go_must (refine wpList_pushL slVecs rfl _ _ rfl w1.heap.size (.slice Ag k cg) k (gs.map slv) rfl HOV.out #[.slice A1 nq c1] w2.heap.size rfl rfl rfl (one_slv _ _ _) (by unfold maxLen; omega) (by omega) hz2 ?_); intro A2 c2 w3 hown2 hb2 hg2 _)
      have HV2 := Lib.hid (HGv.out.push HBb.out hzr HZK.out.1 HZK.out.2 HO1.out hown2 hg2)
      have HB2 := Lib.hid (HBr.out.trans ((HBb.out.mono hzr).trans hb2))
      clear hown2 hb2 hg2
      go_wp2_with fail
      go_roundw
      case rel => exact ⟨k + 1, A2, c2, _, by omega, by go_num, rfl, HV2.out, HB2.out⟩
      case measure => simp [intOf]; omega
    · obtain rfl : k = n := by omega
      have i3 : ¬ (k : Int) < (k : Int) := by omega
      have HGv := Lib.hid hgv
      have HBr := Lib.hid (HB1.out.trans (hb.mono HB1.out.size))
      have hJ := HJ1.out.kept hb
      have HJr := Lib.hid hJ
      have j0 : wr.cell? ⟨base, 0, none⟩ = some (.int .i64 s) := hJ.cell 0
      have j1 : wr.cell? ⟨base, 1, none⟩ = some (.int .i64 b) := hJ.cell 1
      have j2 : wr.cell? ⟨base, 2, none⟩ = some (.int .i64 lo) := hJ.cell 2
      have j3 : wr.cell? ⟨base, 3, none⟩ = some (.int .i64 hi) := hJ.cell 3
      have j4 : wr.cell? ⟨base, 4, none⟩ = some (.int .i64 m) := hJ.cell 4
      have j5 : wr.cell? ⟨base, 5, none⟩ = some (.int .i64 c) := hJ.cell 5
      have lj := hJ.lt
      clear hgv hb hb0r hJ
      go_wp2_with fail
      ((with_reducible refine (given19_any s b lo hi m c _).mono ?_); rintro e w2 ⟨rfl, hb2⟩)
      have hG2 := HGv.out.below hb2
      have HGc := Lib.hid (HG.out w2 Ag cg gs hG2.len (Rd.of_own hG2.own) (hG2.rdv HZL.out))
      have HG2 := Lib.hid hG2
      have HJ2 := Lib.hid (HJr.out.kept hb2)
      have HB2 := Lib.hid (HBr.out.trans (hb2.mono HBr.out.size))
      have hz22 : w1.heap.size ≤ w2.heap.size := Nat.le_trans hzr hb2.size
      clear hG2 hb2 j0 j1 j2 j3 j4 j5 lj
      go_wp2_with fail
      ((with_reducible refine HGc.out.mono ?_); rintro e w3 ⟨rfl, hb3⟩)
      have HG3 := Lib.hid (HG2.out.below hb3)
      have hJ := HJ2.out.kept hb3
      have HJ3 := Lib.hid hJ
      have HB3 := Lib.hid (HB2.out.trans (hb3.mono HB2.out.size))
      have j0 : w3.cell? ⟨base, 0, none⟩ = some (.int .i64 s) := hJ.cell 0
      have j1 : w3.cell? ⟨base, 1, none⟩ = some (.int .i64 b) := hJ.cell 1
      have j2 : w3.cell? ⟨base, 2, none⟩ = some (.int .i64 lo) := hJ.cell 2
      have j3 : w3.cell? ⟨base, 3, none⟩ = some (.int .i64 hi) := hJ.cell 3
      have j4 : w3.cell? ⟨base, 4, none⟩ = some (.int .i64 m) := hJ.cell 4
      have j5 : w3.cell? ⟨base, 5, none⟩ = some (.int .i64 c) := hJ.cell 5
      have lj := hJ.lt
      have HWc := Lib.hid (HWt.out w3 (HR.out.below HB3.out) (HV.out.below HB3.out))
      clear hb3 hJ
      go_wp2_with fail
      ((with_reducible refine HWc.out.mono ?_); rintro e w4 ⟨rfl, hb4⟩)
      have HG4 := Lib.hid (HG3.out.below hb4)
      have HB4 := Lib.hid (HB3.out.trans (hb4.mono HB3.out.size))
      clear hb4 j0 j1 j2 j3 j4 j5 lj
      go_wp2_with fail
      go_loop [62] (fun i => i = .int .i64 0) (fun _ => 0)
      case atStart => rfl
      case round =>
      obtain rfl := hrel
      go_wp2_with fail
      obtain ⟨w5, hw5⟩ : ∃ w5 : World, w5 = w4 := ⟨_, rfl⟩
      subst hw5
      have HG5 := Lib.hid HG4.out
      have HB5 := Lib.hid HB4.out
      go_loopw [77] (fun u wr => ∃ j : Nat, j ≤ k ∧ u = .int .i64 j ∧ Below w5.heap.size w5 wr) (fun u _ => k - (intOf u).toNat)
      case atStart => exact ⟨0, by omega, rfl, Below.refl _ _⟩
      case round =>
        obtain ⟨j, hj, rfl, hb⟩ := hrel
        by_cases hlt2 : j < k
        · have hb0r : Below w.heap.size w wr := HB5.out.trans (hb.mono HB5.out.size)
          have hgv := HG5.out.below hb
          obtain ⟨ga, oa, qa, rfl, hga, hqa, ea⟩ := slvs_at hgv.len (Rd.of_own hgv.own) hlt2
          obtain ⟨gb, ob, qb, rfl, hgb, hqb, eb⟩ := slvs_at HL.out (HR.out.below hb0r) hlt2
          obtain ⟨z, hzk, hzn, hrz⟩ := vec_rd (HV.out.below hb0r) hqb
          obtain ⟨z', hzk', hzn', hrz'⟩ := vec_rd (hgv.rdv HZL.out) hqa
          rw [hzk] at hzk'
          injection hzk' with hzk'
          subst hzk'
          have hz15 := HZ.out j z hzk
          obtain ⟨Aa, na, ca⟩ := qa
          obtain ⟨Ab, nb, cb⟩ := qb
          simp only at hzn hrz hzn' hrz' ea eb
          have HS := Lib.hid (refSame_any Aa Ab na nb ca cb z z wr hzn' hzn hrz' hrz (by omega) (by omega))
          rw [decide_eq_true (rfl : z = z)] at HS
          have HBr := Lib.hid hb
          have i1 : (0 : Int) ≤ (j : Int) := by omega
          have i2 : (j : Int) < (k : Int) := by omega
          clear hb0r hgv hqa hqb hzk hrz hrz' hb
          go_wp2_with fail
          ((with_reducible refine HS.out.mono ?_); rintro e w6 ⟨rfl, hb6⟩)
          have HB6 := Lib.hid (HBr.out.trans (hb6.mono HBr.out.size))
          clear hb6 ea eb
          go_wp2_with fail
          go_roundw
          case rel => exact ⟨j + 1, by omega, by go_num, HB6.out⟩
          case measure => simp [intOf]; omega
        · obtain rfl : j = k := by omega
          have i1 : ¬ (j : Int) < (j : Int) := by omega
          have HBr := Lib.hid (HB5.out.trans (hb.mono HB5.out.size))
          clear hb
          go_wp2_with fail
          ((with_reducible refine (alive19_any _).mono ?_); rintro e w6 ⟨rfl, hb6⟩)
          have HB6 := Lib.hid (HBr.out.trans (hb6.mono HBr.out.size))
          clear hb6
          go_wp2_with fail
          go_ret
          exact ⟨rfl, HB6.out⟩

set_option maxHeartbeats 4000000 in
theorem ringReduces_good (hn : n ≤ 60) (hl : ss.length = n) (hzl : zs.length = n) (hs : ∀ z ∈ zs, z.length ≤ 1500) (h : Rd w 1 A n (ss.map slv)) (hv : RdV w ss zs) (hfe : ∀ W, Calls Try.prog 12 #[jobV s b lo hi m c] W fun e w' => e = .returned (.bool true) ∧ Below W.heap.size W w') (hfl : fewL (ss.map (·.2.1)) = true) (N : Nat) (hN : N ≤ 1500) (F G : Nat → List Int) (hFl : ∀ k, (F k).length = N) (hGl : ∀ k, (G k).length = N) (hFG : ∀ k, k < n → F k = G k) (hgot : ∀ W Ag cg gs, gs.length = n → Rd W 1 Ag n (gs.map slv) → RdV W gs zs → Calls Try.prog 25 #[jobV s b lo hi m c, .slice Ag n cg] W (RedRet W n N F)) (hwant : ∀ W, Rd W 1 A n (ss.map slv) → RdV W ss zs → Calls Try.prog 26 #[jobV s b lo hi m c, .slice A n cap] W (RefRedRet W n N G)) :
    Calls Try.prog 5 #[jobV s b lo hi m c, .slice A n cap] w fun e w' => e = .returned (.bool true) ∧ Below w.heap.size w w' := by
  have HG := Lib.hid hgot
  have HWt := Lib.hid hwant
  have HR := Lib.hid h
  have HV := Lib.hid hv
  have HL := Lib.hid hl
  have HZL := Lib.hid hzl
  have HZ : Hid (∀ (k : Nat) (z : List Int), zs[k]? = some z → z.length ≤ 1500) := Lib.hid (fun k z hz => hs z (List.mem_of_getElem? hz))
  have HQ : Hid (∀ q ∈ ss, q.2.1 ≤ 9223372036854775807) := Lib.hid (fun q hq => by
    obtain ⟨k, hk, hkq⟩ := List.mem_iff_getElem.1 hq
    obtain ⟨z, hz1, hz2, _⟩ := vec_rd hv (List.getElem?_eq_getElem hk)
    have h1 := hs z (List.mem_of_getElem? hz1)
    rw [hkq] at hz2
    omega)
  have HFL := Lib.hid hfl
  have HFF := Lib.hid (And.intro hFl (And.intro hGl hFG))
  have hzlen : zs.length = n := hzl
  clear hgot hwant h hv hl hzl hs hfl hFl hGl hFG
  have HFe := Lib.hid hfe
  obtain ⟨w0, hw0⟩ : ∃ w0, w.alloc (.cells #[.int .i64 s, .int .i64 b, .int .i64 lo, .int .i64 hi, .int .i64 m, .int .i64 c] 25) = w0 := ⟨_, rfl⟩
  have hB0 : Below w.heap.size w w0 := by rw [← hw0]; exact (Below.refl _ _).alloc (Nat.le_refl _) _
  have hJ0 : Blk w0 w.heap.size 25 #[.int .i64 s, .int .i64 b, .int .i64 lo, .int .i64 hi, .int .i64 m, .int .i64 c] := by rw [← hw0]; exact Blk.new w _ _
  have HW0 := Lib.hid hw0
  have HB0 := Lib.hid hB0
  have HJ0 := Lib.hid hJ0
  clear hw0 hB0 hJ0 hfe
  go_enter Try.func5, Try.ntmps5
  go_wp2_with fail
  rw [HW0.out]
  obtain ⟨base, hbase⟩ : ∃ base, w.heap.size = base := ⟨_, rfl⟩
  rw [hbase] at HJ0 ⊢
  have HBase := Lib.hid hbase
  have hz0 : base ≤ w0.heap.size := by rw [← hbase]; exact HB0.out.size
  clear hbase
  have j0 : w0.cell? ⟨base, 0, none⟩ = some (.int .i64 s) := HJ0.out.cell 0
  have j1 : w0.cell? ⟨base, 1, none⟩ = some (.int .i64 b) := HJ0.out.cell 1
  have j2 : w0.cell? ⟨base, 2, none⟩ = some (.int .i64 lo) := HJ0.out.cell 2
  have j3 : w0.cell? ⟨base, 3, none⟩ = some (.int .i64 hi) := HJ0.out.cell 3
  have j4 : w0.cell? ⟨base, 4, none⟩ = some (.int .i64 m) := HJ0.out.cell 4
  have j5 : w0.cell? ⟨base, 5, none⟩ = some (.int .i64 c) := HJ0.out.cell 5
  have lj := HJ0.out.lt
  go_wp2_with fail
  ((with_reducible refine (HFe.out _).mono ?_); rintro e w1 ⟨rfl, hb1⟩)
  have hJ1 := HJ0.out.kept hb1
  have HJ1 := Lib.hid hJ1
  have HB1 := Lib.hid (HB0.out.trans (hb1.mono HB0.out.size))
  have hz1 : base ≤ w1.heap.size := Nat.le_trans hz0 hb1.size
  clear hb1 hJ1 j0 j1 j2 j3 j4 j5 lj
  go_wp2_with fail
  ((with_reducible refine (few03_any A n cap ss _ HL.out HQ.out (HR.out.below HB1.out) (by omega)).mono ?_); rintro e w2 ⟨rfl, rfl⟩)
  rw [HFL.out]
  go_wp2_with fail
  go_loopw [5, 27] (fun v u wr => ∃ (k : Nat) (Ag : Option Addr) (cg : Nat) (gs : List Sl3), k ≤ n ∧ u = .int .i64 k ∧ v = .slice Ag k cg ∧ Giv wr w1.heap.size k (.slice Ag k cg) gs zs ∧ Below w1.heap.size w1 wr) (fun _ u _ => n - (intOf u).toNat)
  case atStart => exact ⟨0, none, 0, [], by omega, rfl, rfl, Giv.nil _ _ _, Below.refl _ _⟩
  case round =>
    obtain ⟨k, Ag, cg, gs, hk, rfl, rfl, hgv, hb⟩ := hrel
    have hb0r : Below w.heap.size w wr := HB1.out.trans (hb.mono HB1.out.size)
    have hzr : w1.heap.size ≤ wr.heap.size := hb.size
    by_cases hlt : k < n
    · obtain ⟨g, o, q, rfl, hg, hq, e0⟩ := slvs_at HL.out (HR.out.below hb0r) hlt
      obtain ⟨z, hzk, hzn, hrz⟩ := vec_rd (HV.out.below hb0r) hq
      have hz15 := HZ.out k z hzk
      obtain ⟨Aq, nq, cq⟩ := q
      simp only at hzn hrz e0
      rw [hzn] at hz15
      have HC := Lib.hid (refClone_any Aq nq cq z wr hzn hrz (by omega))
      have HZK := Lib.hid (And.intro hzk hzn)
      have HGv := Lib.hid hgv
      have HBr := Lib.hid hb
      have i1 : (0 : Int) ≤ (k : Int) := by omega
      have i2 : (k : Int) < (n : Int) := by omega
      clear hb0r hq hzk hrz hgv hb hzn
      go_wp2_with fail
      ((with_reducible refine HC.out.mono ?_); rintro e w2 ⟨A1, c1, rfl, hown1, hb1⟩)
      have HO1 := Lib.hid hown1
      have HBb := Lib.hid hb1
      have HOV := Lib.hid (own_below HGv.out.own hb1)
      have hz2 : w1.heap.size ≤ w2.heap.size := Nat.le_trans hzr hb1.size
      clear hown1 hb1 e0 hg
      go_wp2_with (at_builtin; go_must (refine wpList_pushL slVecs rfl _ _ rfl w1.heap.size (.slice Ag k cg) k (gs.map slv) rfl HOV.out #[.slice A1 nq c1] w2.heap.size rfl rfl rfl (one_slv _ _ _) (by unfold maxLen; omega) (by omega) hz2 ?_); intro A2 c2 w3 hown2 hb2 hg2 _)
      have HV2 := Lib.hid (HGv.out.push HBb.out hzr HZK.out.1 HZK.out.2 HO1.out hown2 hg2)
      have HB2 := Lib.hid (HBr.out.trans ((HBb.out.mono hzr).trans hb2))
      clear hown2 hb2 hg2
      go_wp2_with fail
      go_roundw
      case rel => exact ⟨k + 1, A2, c2, _, by omega, by go_num, rfl, HV2.out, HB2.out⟩
      case measure => simp [intOf]; omega
    · obtain rfl : k = n := by omega
      have i3 : ¬ (k : Int) < (k : Int) := by omega
      have HGv := Lib.hid hgv
      have HBr := Lib.hid (HB1.out.trans (hb.mono HB1.out.size))
      have hJ := HJ1.out.kept hb
      have HJr := Lib.hid hJ
      have j0 : wr.cell? ⟨base, 0, none⟩ = some (.int .i64 s) := hJ.cell 0
      have j1 : wr.cell? ⟨base, 1, none⟩ = some (.int .i64 b) := hJ.cell 1
      have j2 : wr.cell? ⟨base, 2, none⟩ = some (.int .i64 lo) := hJ.cell 2
      have j3 : wr.cell? ⟨base, 3, none⟩ = some (.int .i64 hi) := hJ.cell 3
      have j4 : wr.cell? ⟨base, 4, none⟩ = some (.int .i64 m) := hJ.cell 4
      have j5 : wr.cell? ⟨base, 5, none⟩ = some (.int .i64 c) := hJ.cell 5
      have lj := hJ.lt
      clear hgv hb hb0r hJ
      go_wp2_with fail
      ((with_reducible refine (given19_any s b lo hi m c _).mono ?_); rintro e w2 ⟨rfl, hb2⟩)
      have hG2 := HGv.out.below hb2
      have HGc := Lib.hid (HG.out w2 Ag cg gs hG2.len (Rd.of_own hG2.own) (hG2.rdv HZL.out))
      have HG2 := Lib.hid hG2
      have HJ2 := Lib.hid (HJr.out.kept hb2)
      have HB2 := Lib.hid (HBr.out.trans (hb2.mono HBr.out.size))
      have hz22 : w1.heap.size ≤ w2.heap.size := Nat.le_trans hzr hb2.size
      clear hG2 hb2 j0 j1 j2 j3 j4 j5 lj
      go_wp2_with fail
      ((with_reducible refine HGc.out.mono ?_); rintro e w3 ⟨A3, c3, s3, rfl, hv3, hb3⟩)
      have HV3 := Lib.hid hv3
      have HG3 := Lib.hid (HG2.out.below hb3)
      have hJ := HJ2.out.kept hb3
      have HJ3 := Lib.hid hJ
      have HB3 := Lib.hid (HB2.out.trans (hb3.mono HB2.out.size))
      have j0 : w3.cell? ⟨base, 0, none⟩ = some (.int .i64 s) := hJ.cell 0
      have j1 : w3.cell? ⟨base, 1, none⟩ = some (.int .i64 b) := hJ.cell 1
      have j2 : w3.cell? ⟨base, 2, none⟩ = some (.int .i64 lo) := hJ.cell 2
      have j3 : w3.cell? ⟨base, 3, none⟩ = some (.int .i64 hi) := hJ.cell 3
      have j4 : w3.cell? ⟨base, 4, none⟩ = some (.int .i64 m) := hJ.cell 4
      have j5 : w3.cell? ⟨base, 5, none⟩ = some (.int .i64 c) := hJ.cell 5
      have lj := hJ.lt
      have HWc := Lib.hid (HWt.out w3 (HR.out.below HB3.out) (HV.out.below HB3.out))
      clear hb3 hJ hv3
      go_wp2_with fail
      ((with_reducible refine HWc.out.mono ?_); rintro e w4 ⟨A4, c4, s4, rfl, hv4, hb4⟩)
      have HV4 := Lib.hid hv4
      have HV3' := Lib.hid (HV3.out.below hb4)
      clear hv4
      have HG4 := Lib.hid (HG3.out.below hb4)
      have HB4 := Lib.hid (HB3.out.trans (hb4.mono HB3.out.size))
      clear hb4 j0 j1 j2 j3 j4 j5 lj
      go_wp2_with fail
      go_loopw [62] (fun u wr => ∃ j : Nat, j ≤ k ∧ u = .int .i64 j ∧ Below w4.heap.size w4 wr) (fun u _ => k - (intOf u).toNat)
      case atStart => exact ⟨0, by omega, rfl, Below.refl _ _⟩
      case round =>
      obtain ⟨i, hi', rfl, hb⟩ := hrel
      by_cases hlt2 : i < k
      · have hga := HV3'.out.below hb
        have hgb := HV4.out.below hb
        obtain ⟨ga, oa, qa, rfl, hga1, hqa, ea⟩ := slvs_at hga.len (Rd.of_own hga.own) hlt2
        obtain ⟨gb, ob, qb, rfl, hgb1, hqb, eb⟩ := slvs_at hgb.len (Rd.of_own hgb.own) hlt2
        have hla := hga.rows.len i qa hqa
        have hlb := hgb.rows.len i qb hqb
        have hra := hga.rows.rd hqa
        have hrb := hgb.rows.rd hqb
        obtain ⟨Aa, na, ca⟩ := qa
        obtain ⟨Ab, nb, cb⟩ := qb
        simp only at hla hlb hra hrb ea eb
        subst hla
        replace hlb := hlb.symm
        subst hlb
        have HS := Lib.hid (refSame_any Aa Ab na na ca cb (F i) (G i) wr (HFF.out.1 i) (HFF.out.2.1 i) hra hrb (by omega) (by omega))
        rw [decide_eq_true (HFF.out.2.2 i hlt2)] at HS
        have HBr := Lib.hid hb
        have i1 : (0 : Int) ≤ (i : Int) := by omega
        have i2 : (i : Int) < (k : Int) := by omega
        clear hga hgb hqa hqb hra hrb hb
        go_wp2_with fail
        ((with_reducible refine HS.out.mono ?_); rintro e w6 ⟨rfl, hb6⟩)
        have HB6 := Lib.hid (HBr.out.trans (hb6.mono HBr.out.size))
        clear hb6 ea eb
        go_wp2_with fail
        go_roundw
        case rel => exact ⟨i + 1, by omega, by go_num, HB6.out⟩
        case measure => simp [intOf]; omega
      obtain rfl : k = i := by omega
      have i1 : ¬ (k : Int) < (k : Int) := by omega
      have HG5 := Lib.hid (HG4.out.below hb)
      have HB5 := Lib.hid (HB4.out.trans (hb.mono HB4.out.size))
      clear hb
      go_wp2_with fail
      obtain ⟨w5, hw5⟩ : ∃ w5 : World, w5 = wr := ⟨_, rfl⟩
      subst hw5
      go_loopw [77] (fun u wr => ∃ j : Nat, j ≤ k ∧ u = .int .i64 j ∧ Below w5.heap.size w5 wr) (fun u _ => k - (intOf u).toNat)
      case atStart => exact ⟨0, by omega, rfl, Below.refl _ _⟩
      case round =>
        obtain ⟨j, hj, rfl, hb⟩ := hrel
        by_cases hlt2 : j < k
        · have hb0r : Below w.heap.size w wr := HB5.out.trans (hb.mono HB5.out.size)
          have hgv := HG5.out.below hb
          obtain ⟨ga, oa, qa, rfl, hga, hqa, ea⟩ := slvs_at hgv.len (Rd.of_own hgv.own) hlt2
          obtain ⟨gb, ob, qb, rfl, hgb, hqb, eb⟩ := slvs_at HL.out (HR.out.below hb0r) hlt2
          obtain ⟨z, hzk, hzn, hrz⟩ := vec_rd (HV.out.below hb0r) hqb
          obtain ⟨z', hzk', hzn', hrz'⟩ := vec_rd (hgv.rdv HZL.out) hqa
          rw [hzk] at hzk'
          injection hzk' with hzk'
          subst hzk'
          have hz15 := HZ.out j z hzk
          obtain ⟨Aa, na, ca⟩ := qa
          obtain ⟨Ab, nb, cb⟩ := qb
          simp only at hzn hrz hzn' hrz' ea eb
          have HS := Lib.hid (refSame_any Aa Ab na nb ca cb z z wr hzn' hzn hrz' hrz (by omega) (by omega))
          rw [decide_eq_true (rfl : z = z)] at HS
          have HBr := Lib.hid hb
          have i1 : (0 : Int) ≤ (j : Int) := by omega
          have i2 : (j : Int) < (k : Int) := by omega
          clear hb0r hgv hqa hqb hzk hrz hrz' hb
          go_wp2_with fail
          ((with_reducible refine HS.out.mono ?_); rintro e w6 ⟨rfl, hb6⟩)
          have HB6 := Lib.hid (HBr.out.trans (hb6.mono HBr.out.size))
          clear hb6 ea eb
          go_wp2_with fail
          go_roundw
          case rel => exact ⟨j + 1, by omega, by go_num, HB6.out⟩
          case measure => simp [intOf]; omega
        · obtain rfl : j = k := by omega
          have i1 : ¬ (j : Int) < (j : Int) := by omega
          have HBr := Lib.hid (HB5.out.trans (hb.mono HB5.out.size))
          clear hb
          go_wp2_with fail
          ((with_reducible refine (alive19_any _).mono ?_); rintro e w6 ⟨rfl, hb6⟩)
          have HB6 := Lib.hid (HBr.out.trans (hb6.mono HBr.out.size))
          clear hb6
          go_wp2_with fail
          go_ret
          exact ⟨rfl, HB6.out⟩

set_option maxHeartbeats 1000000 in
theorem ringReduces_far (mi : Int) (hl : ss.length = n) (hq : ∀ q ∈ ss, q.2.1 ≤ 9223372036854775807) (hn : n ≤ 9223372036854775807) (h : Rd w 1 A n (ss.map slv)) (hf : fewB lo hi mi c = false ∨ fewL (ss.map (·.2.1)) = false) :
    Calls Try.prog 5 #[jobV s b lo hi mi c, .slice A n cap] w fun e w' => e = .returned (.bool true) ∧ Below w.heap.size w w' := by
  have hfe := fun W => few_any s b lo hi mi c W
  obtain ⟨qa, hqa⟩ : ∃ q, fewB lo hi mi c = q := ⟨_, rfl⟩
  rw [hqa] at hf hfe
  have HF := Lib.hid hf
  have HR := Lib.hid h
  have HL := Lib.hid hl
  have HQ := Lib.hid hq
  clear hl h hf hq hqa
  have HFe := Lib.hid hfe
  obtain ⟨w0, hw0⟩ : ∃ w0, w.alloc (.cells #[.int .i64 s, .int .i64 b, .int .i64 lo, .int .i64 hi, .int .i64 mi, .int .i64 c] 25) = w0 := ⟨_, rfl⟩
  have hB0 : Below w.heap.size w w0 := by rw [← hw0]; exact (Below.refl _ _).alloc (Nat.le_refl _) _
  have hJ0 : Blk w0 w.heap.size 25 #[.int .i64 s, .int .i64 b, .int .i64 lo, .int .i64 hi, .int .i64 mi, .int .i64 c] := by rw [← hw0]; exact Blk.new w _ _
  have HW0 := Lib.hid hw0
  have HB0 := Lib.hid hB0
  have HJ0 := Lib.hid hJ0
  clear hw0 hB0 hJ0 hfe
  go_enter Try.func5, Try.ntmps5
  go_wp2_with fail
  rw [HW0.out]
  obtain ⟨base, hbase⟩ : ∃ base, w.heap.size = base := ⟨_, rfl⟩
  rw [hbase] at HJ0 ⊢
  have HBase := Lib.hid hbase
  have hz0 : base ≤ w0.heap.size := by rw [← hbase]; exact HB0.out.size
  clear hbase
  have j0 : w0.cell? ⟨base, 0, none⟩ = some (.int .i64 s) := HJ0.out.cell 0
  have j1 : w0.cell? ⟨base, 1, none⟩ = some (.int .i64 b) := HJ0.out.cell 1
  have j2 : w0.cell? ⟨base, 2, none⟩ = some (.int .i64 lo) := HJ0.out.cell 2
  have j3 : w0.cell? ⟨base, 3, none⟩ = some (.int .i64 hi) := HJ0.out.cell 3
  have j4 : w0.cell? ⟨base, 4, none⟩ = some (.int .i64 mi) := HJ0.out.cell 4
  have j5 : w0.cell? ⟨base, 5, none⟩ = some (.int .i64 c) := HJ0.out.cell 5
  have lj := HJ0.out.lt
  go_wp2_with fail
  ((with_reducible refine (HFe.out _).mono ?_); rintro e w1 ⟨rfl, hb1⟩)
  have HB1 := Lib.hid (HB0.out.trans (hb1.mono HB0.out.size))
  clear hb1 j0 j1 j2 j3 j4 j5 lj
  cases qa
  · go_wp2_with fail
    ((with_reducible refine (alive19_any _).mono ?_); rintro e w2 ⟨rfl, hb2⟩)
    have HB2 := Lib.hid (HB1.out.trans (hb2.mono HB1.out.size))
    clear hb2
    go_wp2_with fail
    go_ret
    exact ⟨rfl, HB2.out⟩
  · have hff : fewL (ss.map (·.2.1)) = false := by
      rcases HF.out with h | h
      · cases h
      · exact h
    have HFf := Lib.hid hff
    clear hff
    go_wp2_with fail
    ((with_reducible refine (few03_any A n cap ss _ HL.out HQ.out (HR.out.below HB1.out) (by omega)).mono ?_); rintro e w2 ⟨rfl, rfl⟩)
    rw [HFf.out]
    go_wp2_with fail
    ((with_reducible refine (alive19_any _).mono ?_); rintro e w3 ⟨rfl, hb3⟩)
    have HB3 := Lib.hid (HB1.out.trans (hb3.mono HB1.out.size))
    clear hb3
    go_wp2_with fail
    go_ret
    exact ⟨rfl, HB3.out⟩

theorem ringReduces_any (mi : Int) (hn : n ≤ 9223372036854775807) (hl : ss.length = n) (hzl : zs.length = n) (hcp : ∀ q ∈ ss, q.2.1 ≤ q.2.2 ∧ q.2.2 ≤ 9223372036854775807) (h : Rd w 1 A n (ss.map slv)) (hv : RdV w ss zs) (hx : ∀ z ∈ zs, InV z) :
    Calls Try.prog 5 #[jobV s b lo hi mi c, .slice A n cap] w fun e w' => e = .returned (.bool true) ∧ Below w.heap.size w w' := by
  have hq : ∀ q ∈ ss, q.2.1 ≤ 9223372036854775807 := fun q hq => by have := hcp q hq; omega
  by_cases hf : fewB lo hi mi c = true ∧ fewL (ss.map (·.2.1)) = true
  · obtain ⟨hf, hfl⟩ := hf
    have hfe := fun W => few_any s b lo hi mi c W
    rw [hf] at hfe
    obtain ⟨h0, h1, h2, hm1, hm2, hc1, hc2, _⟩ := few19_spec hf
    obtain ⟨m, rfl⟩ := Int.eq_ofNat_of_zero_le (show 0 ≤ mi by omega)
    obtain ⟨hn60, h15⟩ := few_each _ hfl
    rw [List.length_map, hl] at hn60
    have hz : ∀ z ∈ zs, z.length ≤ 1500 := fun z hz => by
      obtain ⟨k, hk, hkz⟩ := List.mem_iff_getElem.1 hz
      have hks : k < ss.length := by omega
      have h3 := (hv.2 k _ _ (List.getElem?_eq_getElem hks) (List.getElem?_eq_getElem hk)).1
      rw [hkz] at h3
      rw [h3]
      exact h15 _ (List.mem_map.2 ⟨_, List.getElem_mem hks, rfl⟩)
    by_cases hnm : n = m
    · subst hnm
      have h0l : 0 < zs.length := by omega
      obtain ⟨N, hN⟩ : ∃ N, (zs[0]'h0l).length = N := ⟨_, rfl⟩
      have hN15 : N ≤ 1500 := by rw [← hN]; exact hz _ (List.getElem_mem h0l)
      by_cases hall : ∀ z ∈ zs, z.length = N
      · by_cases hhi : hi ≤ N
        · refine ringReduces_good s b lo hi n c A n cap ss zs w hn60 hl hzl hz h hv hfe hfl N hN15 (fun k => rowL2 (rst lo hi n (zF zs) (2 * (n - 1)) k) N) (fun k => rowL2 (redF lo hi zs k) N) (fun k => rowL2_length _ _) (fun k => rowL2_length _ _) (fun k hk => red_end lo hi n N zs (by omega) h1 hzl hx k hk) ?_ ?_
          · intro W Ag cg gs hgl hr hrv
            exact reduce_good s b lo hi c n N Ag cg gs zs W h0 h1 h2 (by omega) (by omega) hc1 hc2 hN15 hhi hgl hr hrv hall
          · intro W hr hrv
            exact refReduce_good s b lo hi c n N A cap ss zs W h0 h1 h2 (by omega) (by omega) hN15 hhi hl hr hrv hall hx
        · refine ringReduces_bad s b lo hi n c A n cap ss zs w hn60 hl hzl hz h hv hfe hfl ?_ ?_
          · intro W Ag cg gs hgl hr hrv
            have hg0 : 0 < gs.length := by omega
            have hg1 := (hrv.2 0 _ _ (List.getElem?_eq_getElem hg0) (List.getElem?_eq_getElem h0l)).1
            exact reduce_bad s b lo hi c n N Ag cg gs zs W (by omega) (by omega) hgl hr hrv hz ⟨_, List.getElem?_eq_getElem hg0, by omega⟩ ⟨0, _, List.getElem?_eq_getElem hg0, by omega⟩
          · intro W hr hrv
            exact refReduce_short s b lo hi c n N A cap ss zs W (by omega) (by omega) hN15 (by omega) hl hr hrv hall hx
      · have hsn : sumL zs = none := by
          cases hs : sumL zs with
          | none => rfl
          | some y =>
            obtain ⟨M, hM⟩ := sumL_same zs y hs
            exact absurd (fun z hz' => by rw [hM z hz', ← hN, hM _ (List.getElem_mem h0l)]) hall
        refine ringReduces_bad s b lo hi n c A n cap ss zs w hn60 hl hzl hz h hv hfe hfl ?_ ?_
        · intro W Ag cg gs hgl hr hrv
          have hg0 : 0 < gs.length := by omega
          have hg1 := (hrv.2 0 _ _ (List.getElem?_eq_getElem hg0) (List.getElem?_eq_getElem h0l)).1
          have hex : ∃ z, z ∈ zs ∧ z.length ≠ N := by
            apply Classical.byContradiction
            intro hno
            exact hall (fun z hz' => Classical.byContradiction fun hzN => hno ⟨z, hz', hzN⟩)
          obtain ⟨z, hz1, hz2⟩ := hex
          obtain ⟨k, hk, hkz⟩ := List.mem_iff_getElem.1 hz1
          have hgk : k < gs.length := by omega
          have hg2 := (hrv.2 k _ _ (List.getElem?_eq_getElem hgk) (List.getElem?_eq_getElem hk)).1
          exact reduce_bad s b lo hi c n N Ag cg gs zs W (by omega) (by omega) hgl hr hrv hz ⟨_, List.getElem?_eq_getElem hg0, by omega⟩ ⟨k, _, List.getElem?_eq_getElem hgk, .inl (by rw [← hg2, hkz]; exact hz2)⟩
        · intro W hr hrv
          exact refReduce_sum s b lo hi c n A cap ss zs W (by omega) (by omega) hl hr hrv hz hx hsn
    · refine ringReduces_bad s b lo hi m c A n cap ss zs w hn60 hl hzl hz h hv hfe hfl ?_ ?_
      · intro W Ag cg gs hgl hr hrv
        exact reduce_len s b lo hi c m Ag cg W n (by omega) (by omega) hnm hn60
      · intro W hr hrv
        exact refReduce_len s b lo hi c m A cap ss zs W n (by omega) (by omega) hnm hn60 hl hr hrv hz hx
  · refine ringReduces_far s b lo hi c A n cap ss w mi hl hq hn h ?_
    cases h1 : fewB lo hi mi c with
    | false => exact .inl rfl
    | true =>
      right
      cases h2 : fewL (ss.map (·.2.1)) with
      | false => rfl
      | true => exact absurd ⟨h1, h2⟩ hf
theorem ringReduces_row (s b lo hi m c : Int) (A : Option Addr) (n cap : Nat) (ss : List Sl3) (zs : List (List Int)) (w : World) (hlo : -9223372036854775808 ≤ lo ∧ lo ≤ 9223372036854775807) (hn : n ≤ 9223372036854775807) (hl : ss.length = n) (hzl : zs.length = n) (hcp : ∀ q ∈ ss, q.2.1 ≤ q.2.2 ∧ q.2.2 ≤ 9223372036854775807)
    (h : Rd w 1 A n (ss.map fun s => Value.slice s.1 s.2.1 s.2.2)) (hv : ∀ (i : Nat) (s : Sl3) (z : List Int), ss[i]? = some s → zs[i]? = some z → z.length = s.2.1 ∧ Rd w 1 s.1 s.2.1 (z.map (Value.int .i64))) (hx : ∀ z ∈ zs, InV z) :
    Calls Try.prog 5 #[jobV s b lo hi m c, .slice A n cap] w fun e w' => e = .returned (.bool true) ∧ Below w.heap.size w w' :=
  ringReduces_any s b lo hi c A n cap ss zs w m hn hl hzl hcp h ⟨by rw [hl, hzl], hv⟩ hx
end

end Go.Proofs.Ytkecpbdgcbgogaa
