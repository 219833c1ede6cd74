/-
  All actions of a worker: ring and its reference.
-/
import Derived.Test.YtkecpbdgcbgogaaRefRound
import Derived.Test.YtkecpbdgcbgogaaVecPlain
namespace Go.Proofs.Ytkecpbdgcbgogaa
set_option linter.unusedVariables false
set_option linter.unusedSimpArgs false
open Go.RowKit

/-- A round's actions, whether there is such a round or not. -/
def rY (s b lo hi m c x p r : Int) : List RAct := if 0 ≤ x ∧ x < m ∧ (p = 0 ∨ p = 1) ∧ 0 ≤ r ∧ r < m - 1 then roundR s b lo hi m c x p r else []
theorem roundR_le (s b lo hi m c x p r : Int) (h0 : 0 ≤ lo) (h1 : lo ≤ hi) (h2 : hi ≤ 1000) (hm : 1 ≤ m) : (roundR s b lo hi m c x p r).length ≤ 2000 := by
  have z1 := Int.emod_nonneg (x - r + p) (b := m) (by omega)
  have z2 := Int.emod_lt_of_pos (x - r + p) (b := m) (by omega)
  have z3 := Int.emod_nonneg (x - r + p - 1) (b := m) (by omega)
  have z4 := Int.emod_lt_of_pos (x - r + p - 1) (b := m) (by omega)
  have a1 := chS_le lo hi m c ((x - r + p) % m).toNat h1 h2 h0 (by omega)
  have a2 := chS_le lo hi m c ((x - r + p - 1) % m).toNat h1 h2 h0 (by omega)
  have := rdTo_le s b p r (chS lo hi m c ((x - r + p) % m).toNat) (chS lo hi m c ((x - r + p - 1) % m).toNat) (max (chS lo hi m c ((x - r + p) % m).toNat).length (chS lo hi m c ((x - r + p - 1) % m).toNat).length)
  rw [roundR, roundL]
  omega
theorem rY_le (s b lo hi m c x p r : Int) (h0 : 0 ≤ lo) (h1 : lo ≤ hi) (h2 : hi ≤ 1000) (hm : 1 ≤ m) : (rY s b lo hi m c x p r).length ≤ 2000 := by
  unfold rY
  split
  · exact roundR_le s b lo hi m c x p r h0 h1 h2 hm
  · simp

theorem roundY_any (s b lo hi m c x p r : Int) (w : World) (h0 : 0 ≤ lo) (h1 : lo ≤ hi) (h2 : hi ≤ 1000) (hm1 : 1 ≤ m) (hm2 : m ≤ 1000) (hc : c ≤ 9223372036854775807) :
    Calls Try.prog 17 #[jobV s b lo hi m c, .int .i64 x, .int .i64 p, .int .i64 r] w (OwnRet w 76 9 (rY s b lo hi m c x p r).length (acts (rY s b lo hi m c x p r))) := by
  unfold rY
  split
  · rename_i h
    obtain ⟨a1, a2, a3, a4, a5⟩ := h
    exact round_in s b lo hi m c x p r w h0 h1 h2 hm2 a1 a2 a3 a4 a5 hc
  · refine (round_out s b lo hi m c x p r w hm1 (by omega) (by omega)).mono ?_
    rintro e w' ⟨rfl, hb⟩
    exact ⟨none, 0, rfl, World.ownsRow_nil _ _ _ _, hb⟩
theorem refRoundY_any (s b lo hi m c x p r : Int) (w : World) (h0 : 0 ≤ lo) (h1 : lo ≤ hi) (h2 : hi ≤ 1000) (hm1 : 1 ≤ m) (hm2 : m ≤ 1000) (hc : c ≤ 9223372036854775807) :
    Calls Try.prog 18 #[jobV s b lo hi m c, .int .i64 x, .int .i64 p, .int .i64 r] w (OwnRet w 85 9 (rY s b lo hi m c x p r).length (acts (rY s b lo hi m c x p r))) := by
  unfold rY
  split
  · rename_i h
    obtain ⟨a1, a2, a3, a4, a5⟩ := h
    exact refRound_in s b lo hi m c x p r w h0 h1 h2 hm2 a1 a2 a3 a4 a5 hc
  · refine (refRound_out s b lo hi m c x p r w hm1 (by omega) (by omega)).mono ?_
    rintro e w' ⟨rfl, hb⟩
    exact ⟨none, 0, rfl, World.ownsRow_nil _ _ _ _, hb⟩

/-- The actions of the first k rounds, of M rounds a phase. -/
def actTo (s b lo hi m c x : Int) (M k : Nat) : List RAct := (List.range k).flatMap fun j => rY s b lo hi m c x ((j / M : Nat) : Int) ((j % M : Nat) : Int)
def actionsL (s b lo hi m c x : Int) : List RAct := actTo s b lo hi m c x (m - 1).toNat (2 * (m - 1).toNat)
theorem actTo_succ (s b lo hi m c x : Int) (M k : Nat) : actTo s b lo hi m c x M (k + 1) = actTo s b lo hi m c x M k ++ rY s b lo hi m c x ((k / M : Nat) : Int) ((k % M : Nat) : Int) := by simp [actTo, List.range_succ]
theorem actTo_le (s b lo hi m c x : Int) (M k : Nat) (h0 : 0 ≤ lo) (h1 : lo ≤ hi) (h2 : hi ≤ 1000) (hm : 1 ≤ m) : (actTo s b lo hi m c x M k).length ≤ k * 2000 := by
  induction k with
  | zero => simp [actTo]
  | succ k ih =>
    rw [actTo_succ, List.length_append]
    have := rY_le s b lo hi m c x ((k / M : Nat) : Int) ((k % M : Nat) : Int) h0 h1 h2 hm
    omega

set_option maxRecDepth 100000 in
set_option maxHeartbeats 2000000 in
theorem actions_any (s b lo hi m c x : Int) (w : World) (h0 : 0 ≤ lo) (h1 : lo ≤ hi) (h2 : hi ≤ 1000) (hm1 : 1 ≤ m) (hm2 : m ≤ 1000) (hc : c ≤ 9223372036854775807) :
    Calls Try.prog 19 #[jobV s b lo hi m c, .int .i64 x] w (OwnRet w 76 9 (actionsL s b lo hi m c x).length (acts (actionsL s b lo hi m c x))) := by
  obtain ⟨M, hM⟩ : ∃ M, (m - 1).toNat = M := ⟨_, rfl⟩
  have hMm : m - 1 = (M : Int) := by omega
  have CR := fun W => rounds_any s b lo hi m c W hm1 (by omega)
  rw [hMm, show (2 : Int) * (M : Int) = ((2 * M : Nat) : Int) by omega] at CR
  have HCR := Lib.hid CR
  have HRd := Lib.hid (fun (j : Nat) W => roundY_any s b lo hi m c x ((j / M : Nat) : Int) ((j % M : Nat) : Int) W h0 h1 h2 hm1 hm2 hc)
  have HM := Lib.hid hM
  have HMm := Lib.hid hMm
  have hM1 : M ≤ 1000 := by omega
  clear CR hM hMm
  go_enter Try.func19, Try.ntmps19
  go_wp2_with fail
  obtain ⟨w0, hw0⟩ : ∃ w0, w.alloc (.cells #[.int .i64 s, .int .i64 b, .int .i64 lo, .int .i64 hi, .int .i64 m, .int .i64 c] 35) = w0 := ⟨_, rfl⟩
  have k0 : Below w.heap.size w w0 := by rw [← hw0]; exact (Below.refl _ _).alloc (Nat.le_refl _) _
  have J0 : Blk w0 w.heap.size 35 #[.int .i64 s, .int .i64 b, .int .i64 lo, .int .i64 hi, .int .i64 m, .int .i64 c] := by rw [← hw0]; exact Blk.new w _ _
  rw [hw0]
  clear hw0
  ((with_reducible refine (HCR.out _).mono ?_); rintro e wa ⟨rfl, hba⟩)
  have HJa := Lib.hid (J0.kept hba)
  have HKa := Lib.hid (((Kept.of k0).call hba).2.2)
  clear hba J0 k0
  go_wp2_with fail
  go_loopw [5, 9] (fun v i wr => ∃ j n : Nat, j ≤ 2 * M ∧ i = .int .i64 j ∧ CollA wa 76 n (actTo s b lo hi m c x M j) v wr) (fun _ i _ => 2 * M - (intOf i).toNat)
  case atStart => exact ⟨0, 0, by omega, rfl, by simpa [actTo] using CollA.start wa _⟩
  case round =>
    obtain ⟨j, n, hj, rfl, hcoll⟩ := hrel
    have hal := actTo_le s b lo hi m c x M j h0 h1 h2 hm1
    rw [hcoll.len] at hal
    have HCo := Lib.hid hcoll
    have Jr := HJa.out.below hcoll.2.2 HJa.out.lt
    have hzr := hcoll.2.2.size
    obtain ⟨⟨Av, cv, rfl⟩, hownv, _⟩ := hcoll
    have HOv := Lib.hid hownv
    clear hownv
    by_cases hlt : j < 2 * M
    · have hM0 : 1 ≤ M := by omega
      have j0 : wr.cell? ⟨w.heap.size, 0, none⟩ = some (.int .i64 s) := Jr.cell 0
      have j1 : wr.cell? ⟨w.heap.size, 1, none⟩ = some (.int .i64 b) := Jr.cell 1
      have j2 : wr.cell? ⟨w.heap.size, 2, none⟩ = some (.int .i64 lo) := Jr.cell 2
      have j3 : wr.cell? ⟨w.heap.size, 3, none⟩ = some (.int .i64 hi) := Jr.cell 3
      have j4 : wr.cell? ⟨w.heap.size, 4, none⟩ = some (.int .i64 m) := Jr.cell 4
      have j5 : wr.cell? ⟨w.heap.size, 5, none⟩ = some (.int .i64 c) := Jr.cell 5
      have lj := Jr.lt
      have zm : IntKind.i64.wrap (m - 1) = (M : Int) := by rw [HMm.out]; exact wrap_ok _ (by omega) (by omega)
      have hq1 : j / M ≤ j := Nat.div_le_self _ _
      have hq2 : j % M < M := Nat.mod_lt _ (by omega)
      have HRj := HRd.out j
      have HSu := (actTo_succ s b lo hi m c x M j)
      obtain ⟨q, hq⟩ : ∃ q, j / M = q := ⟨_, rfl⟩
      obtain ⟨r, hr⟩ : ∃ r, j % M = r := ⟨_, rfl⟩
      rw [hq, hr] at HRj HSu
      rw [hq] at hq1
      have hqi : (j : Int) / (M : Int) = (q : Int) := by rw [← hq]; rfl
      have hri : (j : Int).tmod (M : Int) = (r : Int) := by rw [← hr]; rfl
      have zq : IntKind.i64.wrap ((j : Int) / (M : Int)) = (q : Int) := by rw [hqi]; exact wrap_ok _ (by omega) (by omega)
      have hle := rY_le s b lo hi m c x (q : Int) (r : Int) h0 h1 h2 hm1
      obtain ⟨R, hR⟩ : ∃ R, rY s b lo hi m c x (q : Int) (r : Int) = R := ⟨_, rfl⟩
      rw [hR] at HRj HSu hle
      obtain ⟨n', hn'⟩ : ∃ n', R.length = n' := ⟨_, rfl⟩
      rw [hn'] at HRj hle
      have HRJ := Lib.hid HRj
      replace HSu := Lib.hid HSu
      have zn : ¬ M = 0 := by omega
      clear hqi hR hn' hq hr HRj hq2
      clear Jr
      go_wp2_with fail
      refine wp_region_early (Kept wr) [0, 1, 2, 3, 4, 5, 6, 7, 8, 9, 10, 11, 12] [13] [14, 15] (by kernel_rfl) (by kernel_rfl) (Kept.start wr) ?_
      simp only [List.filterMap_cons, List.filterMap_nil, List.getElem?_cons_succ, List.getElem?_cons_zero]
      refine early_step (.slice Av n cv) rfl (fun W hW => ?_) ?_
      · obtain ⟨hc, -, -⟩ := hW
        go_simp
      go_simp
      refine early_step (jobV s b lo hi m c) rfl (fun W hW => ?_) ?_
      · obtain ⟨hc, -, -⟩ := hW
        go_simp
      go_simp
      refine early_step (.int .i64 x) rfl (fun W hW => ?_) ?_
      · obtain ⟨hc, -, -⟩ := hW
        go_simp
      go_simp
      refine early_step (.int .i64 j) rfl (fun W hW => ?_) ?_
      · obtain ⟨hc, -, -⟩ := hW
        go_simp
      go_simp
      refine early_step (.pointer (some ⟨w.heap.size, 4, none⟩)) rfl (fun W hW => ?_) ?_
      · obtain ⟨hc, -, -⟩ := hW
        go_simp
      go_simp
      refine early_step (.int .i64 m) rfl (fun W hW => ?_) ?_
      · obtain ⟨hc, -, -⟩ := hW
        go_simp
      go_simp
      refine early_step (.int .i64 M) rfl (fun W hW => ?_) ?_
      · obtain ⟨hc, -, -⟩ := hW
        go_simp
      go_simp
      refine early_step (.int .i64 q) rfl (fun W hW => ?_) ?_
      · obtain ⟨hc, -, -⟩ := hW
        go_simp
      go_simp
      refine early_step (.int .i64 j) rfl (fun W hW => ?_) ?_
      · obtain ⟨hc, -, -⟩ := hW
        go_simp
      go_simp
      refine early_step (.pointer (some ⟨w.heap.size, 4, none⟩)) rfl (fun W hW => ?_) ?_
      · obtain ⟨hc, -, -⟩ := hW
        go_simp
      go_simp
      refine early_step (.int .i64 m) rfl (fun W hW => ?_) ?_
      · obtain ⟨hc, -, -⟩ := hW
        go_simp
      go_simp
      refine early_step (.int .i64 M) rfl (fun W hW => ?_) ?_
      · obtain ⟨hc, -, -⟩ := hW
        go_simp
      go_simp
      refine early_step (.int .i64 r) rfl (fun W hW => ?_) ?_
      · obtain ⟨hc, -, -⟩ := hW
        go_simp
      go_simp
      change RestW _ _ _ _ _ (_ :: []) _ _
      unfold RestW
      go_wp2_with fail
      ((with_reducible refine (HRJ.out _).mono ?_); rintro e w2 ⟨A2, c2, rfl, hown2, hb2⟩)
      have hb2' : Below wr.heap.size wr w2 := ((Kept.start wr).call hb2).2.2
      have HR2 := Lib.hid (Rd.of_own hown2)
      have HO2 := Lib.hid (own_below HOv.out hb2')
      have HB2 := Lib.hid hb2'
      have hz2 : wa.heap.size ≤ w2.heap.size := Nat.le_trans hzr hb2'.size
      clear hown2 hb2 hb2' j0 j1 j2 j3 j4 j5
      go_wp2_with fail
      refine ⟨Kept.of HB2.out, ?_⟩
      unfold RestW
      change wpList _ _ _ (_ :: _ :: []) _ _
      go_wp2_with (at_builtin; go_must (refine wpList_appendAll slAct rfl _ _ rfl wa.heap.size _ n (acts (actTo s b lo hi m c x M j)) rfl HO2.out A2 n' c2 (acts R) rfl HR2.out (fun u hu => acts_cell R u hu) (by unfold maxLen; omega) (by omega) hz2 ?_); intro A' c' w3 hown3 hb3)
      refine NoPanic.normal ?_
      go_wp2_with fail
      go_roundw
      case rel => exact ⟨j + 1, n + n', by omega, by go_num, by rw [HSu.out]; exact HCo.out.more hown3 ((HB2.out.mono hzr).trans hb3)⟩
      case measure => simp [intOf]; omega
    · obtain rfl : j = 2 * M := by omega
      have e : actTo s b lo hi m c x M (2 * M) = actionsL s b lo hi m c x := by rw [actionsL, HM.out]
      rw [e] at HCo
      have HLN := Lib.hid HCo.out.len
      clear Jr e
      go_wp2
      go_ret
      rw [HLN.out]
      exact HCo.out.done.lift HKa.out

set_option maxRecDepth 100000 in
set_option maxHeartbeats 2000000 in
theorem refActions_any (s b lo hi m c x : Int) (w : World) (h0 : 0 ≤ lo) (h1 : lo ≤ hi) (h2 : hi ≤ 1000) (hm1 : 1 ≤ m) (hm2 : m ≤ 1000) (hc : c ≤ 9223372036854775807) :
    Calls Try.prog 20 #[jobV s b lo hi m c, .int .i64 x] w (OwnRet w 85 9 (actionsL s b lo hi m c x).length (acts (actionsL s b lo hi m c x))) := by
  obtain ⟨M, hM⟩ : ∃ M, (m - 1).toNat = M := ⟨_, rfl⟩
  have hMm : m - 1 = (M : Int) := by omega
  have HRd := Lib.hid (fun (q r : Nat) W => refRoundY_any s b lo hi m c x (q : Int) (r : Int) W h0 h1 h2 hm1 hm2 hc)
  have HM := Lib.hid hM
  have HMm := Lib.hid hMm
  have hM1 : M ≤ 1000 := by omega
  clear hM
  go_enter Try.func20, Try.ntmps20
  go_wp2_with fail
  obtain ⟨w0, hw0⟩ : ∃ w0, w.alloc (.cells #[.int .i64 s, .int .i64 b, .int .i64 lo, .int .i64 hi, .int .i64 m, .int .i64 c] 25) = w0 := ⟨_, rfl⟩
  have k0 : Below w.heap.size w w0 := by rw [← hw0]; exact (Below.refl _ _).alloc (Nat.le_refl _) _
  have J0 : Blk w0 w.heap.size 25 #[.int .i64 s, .int .i64 b, .int .i64 lo, .int .i64 hi, .int .i64 m, .int .i64 c] := by rw [← hw0]; exact Blk.new w _ _
  rw [hw0]
  clear hw0
  have HJa := Lib.hid J0
  have HKa := Lib.hid k0
  clear J0 k0
  go_loopw [5, 6] (fun v i wr => ∃ q n : Nat, q ≤ 2 ∧ i = .int .i64 q ∧ CollA w0 85 n (actTo s b lo hi m c x M (q * M)) v wr) (fun _ i _ => 2 - (intOf i).toNat)
  case atStart => exact ⟨0, 0, by omega, rfl, by simpa [actTo] using CollA.start w0 _⟩
  case round =>
    obtain ⟨q, n, hq, rfl, hcoll⟩ := hrel
    by_cases hlt : q < 2
    · have HCo := Lib.hid hcoll
      obtain ⟨⟨Av, cv, rfl⟩, _, _⟩ := hcoll
      obtain ⟨wo, hwo⟩ : ∃ wo : World, wo = wr := ⟨_, rfl⟩
      subst hwo
      have dq : decide ((q : Int) < 2) = true := decide_eq_true (by omega)
      go_wp2_with fail
      go_loopw [5, 7] (fun v i wr => ∃ r n : Nat, r ≤ M ∧ i = .int .i64 r ∧ CollA w0 85 n (actTo s b lo hi m c x M (q * M + r)) v wr) (fun _ i _ => M - (intOf i).toNat)
      case atStart => exact ⟨0, n, by omega, rfl, HCo.out⟩
      case round =>
        obtain ⟨r, n', hr, rfl, hcoll⟩ := hrel
        have hal := actTo_le s b lo hi m c x M (q * M + r) h0 h1 h2 hm1
        rw [hcoll.len] at hal
        have Jr := HJa.out.below hcoll.2.2 HJa.out.lt
        have HCi := Lib.hid hcoll
        have hzr := hcoll.2.2.size
        obtain ⟨⟨Ai, ci, rfl⟩, hownv, _⟩ := hcoll
        have HOv := Lib.hid hownv
        have j0 : wr.cell? ⟨w.heap.size, 0, none⟩ = some (.int .i64 s) := Jr.cell 0
        have j1 : wr.cell? ⟨w.heap.size, 1, none⟩ = some (.int .i64 b) := Jr.cell 1
        have j2 : wr.cell? ⟨w.heap.size, 2, none⟩ = some (.int .i64 lo) := Jr.cell 2
        have j3 : wr.cell? ⟨w.heap.size, 3, none⟩ = some (.int .i64 hi) := Jr.cell 3
        have j4 : wr.cell? ⟨w.heap.size, 4, none⟩ = some (.int .i64 m) := Jr.cell 4
        have j5 : wr.cell? ⟨w.heap.size, 5, none⟩ = some (.int .i64 c) := Jr.cell 5
        have lj := Jr.lt
        have hbig : (q * M + r) * 2000 ≤ 10000000 := by
          have : q * M ≤ 2 * M := Nat.mul_le_mul_right M hq
          omega
        clear hownv Jr
        by_cases hlt' : r < M
        · have HRj := HRd.out q r
          have HSu := actTo_succ s b lo hi m c x M (q * M + r)
          have e1 : (q * M + r) / M = q := by rw [Nat.mul_comm, Nat.mul_add_div (by omega), Nat.div_eq_of_lt hlt', Nat.add_zero]
          have e2 : (q * M + r) % M = r := by rw [Nat.mul_comm, Nat.mul_add_mod, Nat.mod_eq_of_lt hlt']
          rw [e1, e2] at HSu
          have hle := rY_le s b lo hi m c x (q : Int) (r : Int) h0 h1 h2 hm1
          obtain ⟨R, hR⟩ : ∃ R, rY s b lo hi m c x (q : Int) (r : Int) = R := ⟨_, rfl⟩
          rw [hR] at HRj HSu hle
          obtain ⟨nn, hn'⟩ : ∃ n', R.length = n' := ⟨_, rfl⟩
          rw [hn'] at HRj hle
          have HRJ := Lib.hid HRj
          replace HSu := Lib.hid HSu
          clear hR hn' HRj e1 e2
          go_wp2_with fail
          ((with_reducible refine (HRJ.out _).mono ?_); rintro e w2 ⟨A2, c2, rfl, hown2, hb2⟩)
          have HR2 := Lib.hid (Rd.of_own hown2)
          have HO2 := Lib.hid (own_below HOv.out hb2)
          have HB2 := Lib.hid hb2
          have hz2 : w0.heap.size ≤ w2.heap.size := Nat.le_trans hzr hb2.size
          clear hown2 hb2 j0 j1 j2 j3 j4 j5
          go_wp2_with (at_builtin; go_must (refine wpList_appendAll slRefAct rfl _ _ rfl w0.heap.size _ n' (acts (actTo s b lo hi m c x M (q * M + r))) rfl HO2.out A2 nn c2 (acts R) rfl HR2.out (fun u hu => acts_cell R u hu) (by unfold maxLen; omega) (by omega) hz2 ?_); intro A' c' w3 hown3 hb3)
          go_roundw
          case rel => exact ⟨r + 1, n' + nn, by omega, by go_num, by rw [← Nat.add_assoc, HSu.out]; exact HCi.out.more hown3 ((HB2.out.mono hzr).trans hb3)⟩
          case measure => simp [intOf]; omega
        · obtain rfl : r = M := by omega
          go_wp2_with fail
          go_roundw
          case rel => exact ⟨q + 1, n', by omega, by go_num, by rw [Nat.add_mul, Nat.one_mul]; exact HCi.out⟩
          case measure => simp [intOf]; omega
    · obtain rfl : q = 2 := by omega
      have e : actTo s b lo hi m c x M (2 * M) = actionsL s b lo hi m c x := by rw [actionsL, HM.out]
      rw [e] at hcoll
      have HCo := Lib.hid hcoll
      have HLN := Lib.hid hcoll.len
      clear hcoll e
      go_wp2
      go_ret
      rw [HLN.out]
      exact HCo.out.done.lift HKa.out

end Go.Proofs.Ytkecpbdgcbgogaa
