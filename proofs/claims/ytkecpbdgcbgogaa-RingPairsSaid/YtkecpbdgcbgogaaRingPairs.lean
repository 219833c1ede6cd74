/-
  RingPairs: the walk.
-/
import Derived.Test.YtkecpbdgcbgogaaSends
namespace Go.Proofs.Ytkecpbdgcbgogaa
set_option linter.unusedVariables false
set_option linter.unusedSimpArgs false
open Go.RowKit

set_option maxHeartbeats 1000000 in
theorem ringPairs_far (s b lo hi m c : Int) (w : World) (hf : fewB lo hi m c = false) :
    Calls Try.prog 4 #[jobV s b lo hi m c] w fun e w' => e = .returned (.bool true) ∧ Below w.heap.size w w' := by
  have C := fun W => few_any s b lo hi m c W
  rw [hf] at C
  have HF := Lib.hid C
  clear C hf
  go_enter Try.func4, Try.ntmps4
  go_wp2_with fail
  ((with_reducible refine (HF.out _).mono ?_); rintro e w1 ⟨rfl, hb1⟩)
  go_wp2_with fail
  ((with_reducible refine (alive19_any _).mono ?_); rintro e w2 ⟨rfl, hb2⟩)
  go_wp2
  go_ret
  exact ⟨rfl, (((Kept.of (Below.refl _ w)).alloc _).call hb1 |>.call hb2).2.2⟩

/-- How many messages a worker sends. -/
def sentBy (s b lo hi m c : Int) (x : Nat) : Nat := (sendsL true (actionsL s b lo hi m c (x : Int))).length
theorem actionsL_le (s b lo hi m c x : Int) (h0 : 0 ≤ lo) (h1 : lo ≤ hi) (h2 : hi ≤ 300) (hm1 : 1 ≤ m) (hm : m ≤ 64) : (actionsL s b lo hi m c x).length ≤ 252000 := by
  have := actTo_le s b lo hi m c x (m - 1).toNat (2 * (m - 1).toNat) h0 h1 (by omega) hm1
  rw [actionsL]
  omega
theorem sentBy_le (s b lo hi m c : Int) (x : Nat) (h0 : 0 ≤ lo) (h1 : lo ≤ hi) (h2 : hi ≤ 300) (hm1 : 1 ≤ m) (hm : m ≤ 64) : sentBy s b lo hi m c x ≤ 252000 := by
  have h3 := actionsL_le s b lo hi m c x h0 h1 h2 hm1 hm
  have h4 := sendsL_le true (actionsL s b lo hi m c x)
  unfold sentBy
  omega
theorem sumTo_le (k d : Nat) (g : Nat → Nat) (h : ∀ x, g x ≤ d) : sumTo k g ≤ k * d := by
  induction k with
  | zero => simp [sumTo]
  | succ k ih =>
    rw [sumTo_succ, Nat.add_mul]
    have := h k
    omega

set_option maxRecDepth 100000 in
set_option maxHeartbeats 4000000 in
theorem ringPairs_near (s b lo hi m c : Int) (w : World) (hf : fewB lo hi m c = true) :
    Calls Try.prog 4 #[jobV s b lo hi m c] w fun e w' => e = .returned (.bool true) ∧ Below w.heap.size w w' := by
  have C := fun W => few_any s b lo hi m c W
  rw [hf] at C
  have HF := Lib.hid C
  obtain ⟨h0, h1, h2, hm1, hm2, hc1, hc2, _⟩ := few_spec hf
  have HA := Lib.hid (fun x W => actions_any s b lo hi m c x W h0 h1 (by omega) hm1 (by omega) (by omega))
  have HAl := Lib.hid (fun x => actionsL_le s b lo hi m c x h0 h1 h2 hm1 hm2)
  have HSl := Lib.hid (fun x => sentBy_le s b lo hi m c x h0 h1 h2 hm1 hm2)
  have HPr := Lib.hid (fun x hx1 hx2 => pairs_eq s b lo hi m c x hm1 hx1 hx2)
  have HAll := Lib.hid (sent_all s b lo hi m c h1 hm1)
  have HMs := Lib.hid (fun W => refMessages_any lo hi m c W h0 h1 (by omega) (by omega) (by omega))
  have hml := msgsF_le c (segsL lo hi m) (fun r hr => by have := segs_in lo hi m h1 r hr; omega)
  rw [segsL_length _ _ _ h1] at hml
  have HML := Lib.hid hml
  clear C hf hml
  go_enter Try.func4, Try.ntmps4
  go_wp2_with fail
  obtain ⟨w0, hw0⟩ : ∃ w0, w.alloc (.cells #[.int .i64 s, .int .i64 b, .int .i64 lo, .int .i64 hi, .int .i64 m, .int .i64 c] 25) = w0 := ⟨_, rfl⟩
  have k0 : Below w.heap.size w w0 := by rw [← hw0]; exact (Below.refl _ _).alloc (Nat.le_refl _) _
  have J0 : Blk w0 w.heap.size 25 #[.int .i64 s, .int .i64 b, .int .i64 lo, .int .i64 hi, .int .i64 m, .int .i64 c] := by rw [← hw0]; exact Blk.new w _ _
  rw [hw0]
  clear hw0
  ((with_reducible refine (HF.out _).mono ?_); rintro e w1 ⟨rfl, hb1⟩)
  have J1 := J0.kept hb1
  have HK1 := Lib.hid (((Kept.of k0).call hb1).2.2)
  have j4 : w1.cell? ⟨w.heap.size, 4, none⟩ = some (.int .i64 m) := J1.cell 4
  have HJ1 := Lib.hid J1
  clear hb1 J0 k0 J1
  go_wp2_with fail
  clear j4
  go_loopw [3, 13] (fun v i wr => ∃ k : Nat, (k : Int) ≤ m ∧ i = .int .i64 k ∧ v = .int .i64 (sumTo k (sentBy s b lo hi m c)) ∧ Below w1.heap.size w1 wr) (fun _ i _ => (m - intOf i).toNat)
  case atStart => exact ⟨0, by omega, rfl, by simp [sumTo], Below.refl _ _⟩
  case round =>
    obtain ⟨k, hk, rfl, rfl, hB⟩ := hrel
    have Jr := HJ1.out.kept hB
    have HB := Lib.hid hB
    have j0 : wr.cell? ⟨w.heap.size, 0, none⟩ = some (.int .i64 s) := Jr.cell 0
    have j1 : wr.cell? ⟨w.heap.size, 1, none⟩ = some (.int .i64 b) := Jr.cell 1
    have j2 : wr.cell? ⟨w.heap.size, 2, none⟩ = some (.int .i64 lo) := Jr.cell 2
    have j3 : wr.cell? ⟨w.heap.size, 3, none⟩ = some (.int .i64 hi) := Jr.cell 3
    have j4 : wr.cell? ⟨w.heap.size, 4, none⟩ = some (.int .i64 m) := Jr.cell 4
    have j5 : wr.cell? ⟨w.heap.size, 5, none⟩ = some (.int .i64 c) := Jr.cell 5
    have lj := Jr.lt
    have HJr := Lib.hid Jr
    have hsum := sumTo_le k 252000 (sentBy s b lo hi m c) HSl.out
    clear hB Jr
    by_cases hlt : (k : Int) < m
    · obtain ⟨y, hy⟩ : ∃ y, ((k : Int) + 1) % m = y := ⟨_, rfl⟩
      have hP := HPr.out k (by omega) hlt
      rw [hy] at hP
      have hS1 := sumTo_succ k (sentBy s b lo hi m c)
      have hone := HSl.out k
      obtain ⟨N, hN⟩ : ∃ N, sumTo k (sentBy s b lo hi m c) = N := ⟨_, rfl⟩
      obtain ⟨q, hq⟩ : ∃ q, sentBy s b lo hi m c k = q := ⟨_, rfl⟩
      rw [hN, hq] at hS1
      rw [hN] at hsum ⊢
      rw [hq] at hone
      have CA := fun W => HA.out k W
      have CB := fun W => HA.out y W
      have lA := HAl.out k
      have lB := HAl.out y
      have hq' : (sendsL true (actionsL s b lo hi m c (k : Int))).length = q := hq
      generalize actionsL s b lo hi m c (k : Int) = LA at *
      generalize actionsL s b lo hi m c y = LB at *
      obtain ⟨nA, hnA⟩ : ∃ n, LA.length = n := ⟨_, rfl⟩
      obtain ⟨nB, hnB⟩ : ∃ n, LB.length = n := ⟨_, rfl⟩
      rw [hnA] at CA lA
      rw [hnB] at CB lB
      have CS1 := fun A d W h => sends_any true A nA d LA W hnA h (by omega)
      have CS2 := fun A d W h => sends_any false A nB d LB W hnB h (by omega)
      rw [← hP] at CS2
      have hsl : (sendsL true LA).length ≤ 1000000 := by have := sendsL_le true LA; omega
      have CSm := fun A B a d W h h' => same19_any A B q a d (sendsL true LA) W hq' h h' (by omega)
      rw [hq'] at CS1 CS2
      generalize sendsL true LA = SA at *
      have HCA := Lib.hid CA
      have HCB := Lib.hid CB
      have HCS1 := Lib.hid CS1
      have HCS2 := Lib.hid CS2
      have HCSm := Lib.hid CSm
      have HSu := Lib.hid hS1
      have z1 : IntKind.i64.wrap ((k : Int) + 1) = (k : Int) + 1 := wrap_ok _ (by omega) (by omega)
      have zr : ((k : Int) + 1).tmod m = y := by rw [Int.tmod_eq_emod_of_nonneg (by omega)]; exact hy
      have zm : ¬ m = 0 := by omega
      clear CA CB CS1 CS2 CSm hP hq hq' hN hS1 hnA hnB hsl hy
      go_wp2_with fail
      ((with_reducible refine (given19_any _ _ _ _ _ _ _).mono ?_); rintro e w2 ⟨rfl, hb2⟩)
      have kk := Kept.of hb2
      clear hb2
      go_wp2_with fail
      ((with_reducible refine (HCA.out _).mono ?_); rintro e w3 ⟨A3, c3, rfl, hown, hb3⟩)
      have HR3 := Lib.hid (Rd.of_own hown)
      replace kk := kk.call hb3
      clear hb3 hown
      go_wp2_with fail
      ((with_reducible refine (HCS1.out _ _ _ HR3.out).mono ?_); rintro e w4 ⟨A4, c4, rfl, hown, hb4⟩)
      have HR4 := Lib.hid (Rd.of_own hown)
      have kk4 := (kk.call hb4).2.2
      have HK4 := Lib.hid kk4
      have J4 := HJr.out.kept kk4
      clear hb4 hown kk j0 j1 j2 j3 j4 j5 lj kk4 HR3
      have j0 : w4.cell? ⟨w.heap.size, 0, none⟩ = some (.int .i64 s) := J4.cell 0
      have j1 : w4.cell? ⟨w.heap.size, 1, none⟩ = some (.int .i64 b) := J4.cell 1
      have j2 : w4.cell? ⟨w.heap.size, 2, none⟩ = some (.int .i64 lo) := J4.cell 2
      have j3 : w4.cell? ⟨w.heap.size, 3, none⟩ = some (.int .i64 hi) := J4.cell 3
      have j4 : w4.cell? ⟨w.heap.size, 4, none⟩ = some (.int .i64 m) := J4.cell 4
      have j5 : w4.cell? ⟨w.heap.size, 5, none⟩ = some (.int .i64 c) := J4.cell 5
      have lj := J4.lt
      clear J4
      go_wp2_with fail
      go_region_held3 (fun w' => Kept w4 w') (first | exact kk | exact kk.alloc _ | exact Kept.start w4) (first
        | (go_at_call 16; (with_reducible refine (given19_any _ _ _ _ _ _ _).mono ?_); rintro e w5 ⟨rfl, hb5⟩; have kk := (Kept.start w4).call hb5; clear hb5)
        | (go_at_call 19; (with_reducible refine (HCB.out _).mono ?_); rintro e w6 ⟨A6, c6, rfl, hown, hb6⟩; replace kk := kk.call hb6; have HR6 := Lib.hid (Rd.of_own hown); clear hown hb6)
        | (go_at_call 21; (with_reducible refine (HCS2.out _ _ _ HR6.out).mono ?_); rintro e w7 ⟨A7, c7, rfl, hown, hb7⟩; replace kk := kk.call hb7; have HR7 := Lib.hid (Rd.of_own hown); clear hown hb7))
      all_goals
        have HK7 := Lib.hid kk.2.2
        replace HR4 := Lib.hid (HR4.out.below kk.2.2)
        clear kk j0 j1 j2 j3 j4 j5
        go_wp2_with fail
        ((with_reducible refine (HCSm.out _ _ _ _ _ HR4.out HR7.out).mono ?_); rintro e w8 ⟨rfl, hb8⟩)
        have HK8 := Lib.hid (((((Kept.of HB.out).call HK4.out).call HK7.out).call hb8).2.2)
        clear hb8 z1
        go_wp2_with fail
        go_roundw
        case rel => exact ⟨k + 1, by omega, by go_num, by rw [HSu.out]; go_num, HK8.out⟩
        case measure => simp [intOf]; omega
    · obtain ⟨M, hM⟩ : ∃ M, m.toNat = M := ⟨_, rfl⟩
      have hkM : k = M := by omega
      subst hkM
      have hA := HAll.out
      rw [hM] at hA
      have hA' : sumTo k (sentBy s b lo hi m c) = 2 * (m - 1).toNat * msgsF c (segsL lo hi m) := hA
      have hml := HML.out
      obtain ⟨Q, hQ⟩ : ∃ Q, msgsF c (segsL lo hi m) = Q := ⟨_, rfl⟩
      have HMs' := HMs.out
      rw [hQ] at hA' hml HMs'
      obtain ⟨N, hN⟩ : ∃ N, sumTo k (sentBy s b lo hi m c) = N := ⟨_, rfl⟩
      rw [hN] at hA' hsum ⊢
      obtain ⟨p, hp⟩ : ∃ p, (m - 1).toNat = p := ⟨_, rfl⟩
      rw [hp] at hA'
      have hpi : m - 1 = (p : Int) := by omega
      have hbig : 2 * p * Q ≤ 2 * 64 * Q := Nat.mul_le_mul_right Q (by omega)
      have v1 : IntKind.i64.wrap (m - 1) = (p : Int) := by rw [hpi]; exact wrap_ok _ (by omega) (by omega)
      have v2 : IntKind.i64.wrap (2 * (p : Int)) = ((2 * p : Nat) : Int) := (wrap_ok _ (by clear v1; omega) (by clear v1; omega)).trans (by simp)
      obtain ⟨p2, hp2⟩ : ∃ p2, 2 * p = p2 := ⟨_, rfl⟩
      rw [hp2] at v2 hA' hbig
      have v3 : IntKind.i64.wrap ((p2 : Int) * (Q : Int)) = (N : Int) := by
        rw [← Int.natCast_mul, ← hA']
        exact IntWalk.i64_in _ (by clear v1 v2; omega)
      have HMS := Lib.hid HMs'
      clear hA hA' hml hQ HMs' hN hp hpi hbig hp2 hM hsum
      go_wp2_with fail
      refine wp_region_kept wr (by kernel_rfl) (by kernel_rfl) (Kept.of (Below.refl _ _)) ?_
      have KC := fun (u : KW wr) b o h => KW.cells u b o h
      repeat (go_big_quiet_step (first | (go_at_call 13; with_reducible exact kept_call (alive19_any _)) | (go_at_call 22; with_reducible exact kept_call (HMS.out _))))
      refine wpQuiet_nil ?_
      rintro _ ⟨⟨w9, k9⟩, rfl⟩
      clear KC v1 v2 v3
      go_wp2
      go_ret
      exact ⟨rfl, (((Kept.of HK1.out).call HB.out).call k9.2.2).2.2⟩

theorem ringPairs_row (s b lo hi m c : Int) (w : World) (hlo : -9223372036854775808 ≤ lo ∧ lo ≤ 9223372036854775807) :
    Calls Try.prog 4 #[jobV s b lo hi m c] w fun e w' => e = .returned (.bool true) ∧ Below w.heap.size w w' := by
  cases hf : fewB lo hi m c
  · exact ringPairs_far s b lo hi m c w hf
  · exact ringPairs_near s b lo hi m c w hf

end Go.Proofs.Ytkecpbdgcbgogaa
