/-
  SamplerShards: the walk.
-/
import Derived.Test.YtncjfijpaheobaaSmpLaw
namespace Go.Proofs.Ytncjfijpaheobaa
set_option linter.unusedVariables false
set_option linter.unusedSimpArgs false
set_option maxRecDepth 100000
open Go.RowKit

/-- The pieces -1 .. j - 2 of a list, one after the other. -/
def accL (l : List Int) (K j : Nat) : List Int := l.take (bnd l.length K (min (j - 1) K))
theorem accL_zero (l : List Int) (K : Nat) : accL l K 0 = [] := by simp [accL, bnd_zero]
theorem accL_step {l : List Int} {K j : Nat} (hj : j ≤ K + 1) : accL l K (j + 1) = accL l K j ++ pieceL l ((j : Int) - 1) (K : Int) := by
  by_cases h0 : j = 0
  · subst h0
    rw [pieceL, if_neg (by omega)]
    simp [accL]
  · obtain ⟨i, rfl⟩ : ∃ i, j = i + 1 := ⟨j - 1, by omega⟩
    rw [show ((i + 1 : Nat) : Int) - 1 = (i : Int) by omega]
    by_cases hi : i < K
    · rw [pieceL, if_pos (by omega), accL, accL, show min (i + 1 + 1 - 1) K = i + 1 by omega, show min (i + 1 - 1) K = i by omega, show ((K : Int)).toNat = K by omega, show ((i : Int)).toNat = i by omega]
      have hm := bnd_mono l.length K i (i + 1) (by omega)
      conv => lhs; rw [show bnd l.length K (i + 1) = bnd l.length K i + (bnd l.length K (i + 1) - bnd l.length K i) by omega]
      rw [List.take_add]
    · rw [pieceL, if_neg (by omega), accL, accL, show min (i + 1 + 1 - 1) K = K by omega, show min (i + 1 - 1) K = K by omega, List.append_nil]
theorem accL_end {l : List Int} {K : Nat} (hK : 1 ≤ K) : accL l K (K + 2) = l := by
  rw [accL, show min (K + 2 - 1) K = K by omega, bnd_k _ _ hK, List.take_length]
theorem accL_end0 (l : List Int) (j : Nat) : accL l 0 j = [] := by
  rw [accL, Nat.min_zero, bnd_zero, List.take_zero]
theorem accL_le (l : List Int) (K j : Nat) : (accL l K j).length ≤ l.length := by simp [accL]; omega

set_option maxHeartbeats 4000000 in
theorem samplerShards_ok (n b st q E k : Nat) (t k0 : Int) (A : Option Addr) (N cap : Nat) (L : List Int) (w : World) (hN : N ≤ 9223372036854775807) (hR : Rd w 1 A N (uv L)) (P : SmpP n b st q E) (hn : n ≤ 60) (hf : fewR n st N = true) (hk : k0 % 20 = (k : Int)) (hk0 : 0 ≤ k0) (hk1 : k0 ≤ 255)
    (CS : ∀ W, Rd W 1 A N (uv L) → Calls Try.prog 46 #[runV n b st A N cap] W (StartOut W n b st q E L)) :
    Calls Try.prog 13 #[runV n b st A N cap, .int .i64 t, .int .u8 k0] w fun e w' => e = .returned (.bool true) ∧ Below w.heap.size w w' := by
  have HR := Lib.hid hR
  have HS := Lib.hid CS
  have HF := Lib.hid (fun W => (by have h := few12_any n b st A N cap W hN; rw [hf] at h; exact h : Calls Try.prog 39 #[runV n b st A N cap] W fun e w' => e = .returned (.bool true) ∧ Below W.heap.size W w'))
  have HP := Lib.hid P
  have hk20 : k < 20 := by omega
  have HG : Hid (∀ W, w.alloc (.cells #[.int .i64 n, .int .i64 b, .int .i64 st, .slice A N cap] 61) = W → Below w.heap.size w W ∧ Blk W w.heap.size 61 #[.int .i64 n, .int .i64 b, .int .i64 st, .slice A N cap]) := Lib.hid (by
    rintro W rfl
    exact ⟨(Below.refl _ _).alloc (Nat.le_refl _) _, Blk.new _ _ _⟩)
  clear hR CS hf P
  obtain ⟨l, hl⟩ : ∃ l, batchL L n b q st t = l := ⟨_, rfl⟩
  have hll : l.length ≤ 60 := by rw [← hl]; exact Nat.le_trans (batchL_le L n b q st t HP.out.hbn) hn
  have HLL := Lib.hid hl
  clear hl
  go_enter Try.func13, Try.ntmps13
  go_wp2_with fail
  obtain ⟨hB, hK⟩ := HG.out _ rfl
  ((with_reducible refine (HF.out _).mono ?_); rintro e w1 ⟨rfl, hb1⟩)
  have HB1 := Lib.hid (hB.trans (hb1.mono hB.size))
  have q1 := hK.kept hb1
  have c0 : w1.cell? ⟨w.heap.size, 0, none⟩ = some (.int .i64 n) := q1.cell 0
  have c1 : w1.cell? ⟨w.heap.size, 1, none⟩ = some (.int .i64 b) := q1.cell 1
  have c2 : w1.cell? ⟨w.heap.size, 2, none⟩ = some (.int .i64 st) := q1.cell 2
  have c3 : w1.cell? ⟨w.heap.size, 3, none⟩ = some (.slice A N cap) := q1.cell 3
  have l1 := q1.lt
  clear hB hK hb1 q1
  go_wp2_with fail
  ((with_reducible refine (HS.out _ (HR.out.below HB1.out)).mono ?_); rintro e w2 ⟨bs, Ao, co, rfl, hs2, hr2, hb2⟩)
  have HB2 := Lib.hid ((Kept.of HB1.out).call hb2).2.2
  have HS2 := Lib.hid hs2
  have HR2 := Lib.hid hr2
  have HG2 : Hid (∀ W, w2.alloc (.cells #[.int .i64 n, .int .i64 b, .int .i64 st, .slice Ao E co] 68) = W → Below w2.heap.size w2 W ∧ Blk W w2.heap.size 68 #[.int .i64 n, .int .i64 b, .int .i64 st, .slice Ao E co] ∧ W.heap.size = w2.heap.size + 1) := Lib.hid (by
    rintro W rfl
    exact ⟨(Below.refl _ _).alloc (Nat.le_refl _) _, Blk.new _ _ _, by simp⟩)
  clear hs2 hr2 hb2 c0 c1 c2 c3 l1
  go_wp2_with fail
  rw [hk]
  obtain ⟨h3, b3, z3⟩ := HG2.out _ rfl
  obtain ⟨w3, hw3⟩ : ∃ w3, w2.alloc (.cells #[.int .i64 n, .int .i64 b, .int .i64 st, .slice Ao E co] 68) = w3 := ⟨_, rfl⟩
  rw [hw3] at h3 b3 z3 ⊢
  have HB3 := Lib.hid ((Kept.of HB2.out).call h3).2.2
  have HS3 := Lib.hid (HS2.out.below h3)
  have HR3 := Lib.hid (HR2.out.below h3)
  have HZ3 := Lib.hid b3
  obtain ⟨g, hg⟩ : ∃ g, w2.heap.size = g := ⟨_, rfl⟩
  rw [hg] at HZ3 ⊢
  clear hw3 h3 b3 z3 hg HB1 HB2 HS2 HR2 HG2 HG HF
  have HSH := Lib.hid (fun W (hb : Below w3.heap.size w3 W) (i : Int) (h1 : i ≤ 1000) (h2 : -1000 ≤ i) => (by have h := smpShard_any w1.heap.size bs b st q E n L W HP.out t i k (HS3.out.below hb) (by omega) (by omega) h1 h2; rw [HLL.out] at h; exact h : Calls Try.prog 47 #[.pointer (some ⟨bs, 0, none⟩), .int .i64 t, .int .i64 i, .int .i64 k] W (CpRet W (pieceL l i k))))
  have HRS := Lib.hid (fun W (hb : Below w3.heap.size w3 W) (i : Int) (h1 : i ≤ 1000) (h2 : -1000 ≤ i) => (by have h := refShard_any w1.heap.size b st q E n co Ao L W HP.out t i k (HR3.out.below hb) (by omega) (by omega) h1 h2; rw [HLL.out] at h; exact h : Calls Try.prog 48 #[rsmp n b st Ao E co, .int .i64 t, .int .i64 i, .int .i64 k] W (RdRet W (pieceL l i k).length (pieceL l i k))))
  have HBT := Lib.hid (fun W (hb : Below w3.heap.size w3 W) => (by have h := smpBatch_any w1.heap.size bs b st q E n L W HP.out t (HS3.out.below hb); rw [HLL.out] at h; exact h : Calls Try.prog 43 #[.pointer (some ⟨bs, 0, none⟩), .int .i64 t] W (CpRet W l)))
  obtain ⟨N3, hN3⟩ : ∃ N3, w3.heap.size = N3 := ⟨_, rfl⟩
  go_loopw [11, 12] (fun v c wr => ∃ (j m : Nat) (z : Int), j ≤ k + 2 ∧ c = .int .i64 z ∧ Hid (z = (j : Int) - 1) ∧ (∃ A' c', v = .slice A' m c') ∧ Hid (m = (accL l k j).length) ∧ wr.ownsRow w3.heap.size 3 1 v m (iv (accL l k j)) ∧ Below w3.heap.size w3 wr) (fun _ c _ => (k + 2) - (intOf c + 1).toNat)
  case atStart => exact ⟨0, 0, -1, by omega, rfl, Lib.hid (by omega), ⟨none, 0, rfl⟩, Lib.hid (by rw [accL_zero]; rfl), by rw [accL_zero]; simpa [iv] using World.ownsRow_nil _ _ _ _, Below.refl _ _⟩
  case round =>
    obtain ⟨j, m, z, hj, rfl, hz, ⟨A', c', rfl⟩, hm, hown, hb⟩ := hrel
    have hzz := hz.out
    have hz1 : -1 ≤ z := by omega
    have hz2 : z ≤ 21 := by omega
    have hm60 : m ≤ 60 := by rw [hm.out]; exact Nat.le_trans (accL_le l k j) hll
    by_cases hlt : j < k + 2
    · have e1 : decide (z ≤ (k : Int)) = true := decide_eq_true (by omega)
      have HACC := Lib.hid (accL_step (l := l) (K := k) (j := j) (by omega))
      rw [← hzz] at HACC
      have hpl := pieceL_le l z k
      obtain ⟨p, hp⟩ : ∃ p, pieceL l z (k : Int) = p := ⟨_, rfl⟩
      have C1 := HSH.out wr hb z (by omega) (by omega)
      have C2 := fun W hb' => HRS.out W hb' z (by omega) (by omega)
      rw [hp] at C1 C2 HACC hpl
      obtain ⟨r, hr⟩ : ∃ r, p.length = r := ⟨_, rfl⟩
      rw [CpRet, hr] at C1
      rw [hr] at C2 hpl
      have HRL := Lib.hid hr
      have H1 := Lib.hid C1
      have H2 := Lib.hid C2
      have HO := Lib.hid hown
      have HB := Lib.hid hb
      have HZ := Lib.hid (HZ3.out.kept hb)
      clear C1 C2 hp hr hown hb hzz
      go_wp2_with fail
      ((with_reducible refine H1.out.mono ?_); rintro e w4 ⟨A4, c4, rfl, hown4, hb4⟩)
      have HO4 := Lib.hid (own_below HO.out hb4)
      have HP4 := Lib.hid hown4
      have HB4 := Lib.hid ((Kept.of HB.out).call hb4).2.2
      have HZ4 := HZ.out.kept hb4
      have c0 : w4.cell? ⟨g, 0, none⟩ = some (.int .i64 n) := HZ4.cell 0
      have c1 : w4.cell? ⟨g, 1, none⟩ = some (.int .i64 b) := HZ4.cell 1
      have c2 : w4.cell? ⟨g, 2, none⟩ = some (.int .i64 st) := HZ4.cell 2
      have c3 : w4.cell? ⟨g, 3, none⟩ = some (.slice Ao E co) := HZ4.cell 3
      have l1 := HZ4.lt
      clear hown4 hb4 HZ4
      go_wp2_with fail
      ((with_reducible refine (H2.out _ HB4.out).mono ?_); rintro e w5 ⟨A5, c5, rfl, hc5, hr5, hb5⟩)
      have HO5 := Lib.hid (own_below HO4.out hb5)
      have HP5 := Lib.hid (own_below HP4.out hb5)
      have HQ5 := Lib.hid hr5
      have HB5 := Lib.hid ((Kept.of HB4.out).call hb5).2.2
      clear hr5 hb5 c0 c1 c2 c3 l1
      go_wp2_with fail
      ((with_reducible refine (equalInt_any A4 A5 r r c4 c5 p p _ HRL.out HRL.out (Rd.of_own HP5.out) HQ5.out (by omega) (by omega)).mono ?_); rintro e w6 ⟨rfl, hb6⟩)
      rw [decide_eq_true (rfl : p = p)]
      have HO6 := Lib.hid (own_below HO5.out hb6)
      have HP6 := Lib.hid (own_below HP5.out hb6)
      have HB6 := Lib.hid ((Kept.of HB5.out).call hb6).2.2
      have hs6 := HB6.out.size
      clear hb6
      go_wp2_with (at_builtin; go_must (refine wpList_appendAll slInt rfl _ _ rfl w3.heap.size _ m (iv (accL l k j)) rfl HO6.out A4 r c4 (iv p) rfl (Rd.of_own HP6.out) (iv_one p) (by unfold maxLen; omega) (by omega) hs6 ?_); intro A7 c7 w7 hown7 hb7)
      have HO7 := Lib.hid hown7
      have HB7 := Lib.hid (HB6.out.trans hb7)
      clear hown7 hb7
      go_roundw
      case rel => exact ⟨j + 1, m + r, z + 1, by omega, by go_num, Lib.hid (by have := hz.out; omega), ⟨A7, c7, rfl⟩, Lib.hid (by rw [HACC.out, List.length_append, ← hm.out, HRL.out]), by rw [HACC.out, iv_append]; exact HO7.out, HB7.out⟩
      case measure => have := hz.out; simp [intOf]; omega
    · obtain rfl : j = k + 2 := by omega
      have e1 : decide (z ≤ (k : Int)) = false := decide_eq_false (by omega)
      have HB := Lib.hid hb
      by_cases hk1' : k = 0
      · subst hk1'
        have hacc : accL l 0 (0 + 2) = [] := accL_end0 l _
        have hm0 : m = 0 := by rw [hm.out, hacc]; rfl
        subst hm0
        have e1' : decide (z ≤ (0 : Int)) = false := decide_eq_false (by omega)
        have HBW := Lib.hid ((HB3.out).trans (hb.mono HB3.out.size))
        clear hown hb hzz
        go_wp2_with fail
        ((with_reducible refine (alive12_any _).mono ?_); rintro e w6 ⟨rfl, hb6⟩)
        have HB6 := Lib.hid ((Kept.of HBW.out).call hb6).2.2
        clear hb6
        go_wp2_with fail
        go_ret
        exact ⟨rfl, HB6.out⟩
      · have hacc : accL l k (k + 2) = l := accL_end (by omega)
        rw [hacc] at hown hm
        have hml := hm.out
        have HO := Lib.hid hown
        have e2 : ((k : Int) == 0) = false := by simp; omega
        have e3 : decide ((0 : Int) < (k : Int)) = true := decide_eq_true (by omega)
        have e4 : decide (0 < k) = true := decide_eq_true (by omega)
        have e5 : decide (k = 0) = false := decide_eq_false hk1'
        have HBW := Lib.hid ((HB3.out).trans (hb.mono HB3.out.size))
        have HMM := Lib.hid hml
        clear hown hb hzz hacc hml
        go_wp2_with fail
        ((with_reducible refine (alive12_any _).mono ?_); rintro e w6 ⟨rfl, hb6⟩)
        have HO6 := Lib.hid (own_below HO.out hb6)
        have HB6 := Lib.hid ((Kept.of HB.out).call hb6).2.2
        have HBW6 := Lib.hid ((Kept.of HBW.out).call hb6).2.2
        clear hb6
        go_wp2_with fail
        ((with_reducible refine (HBT.out _ HB6.out).mono ?_); rintro e w7 ⟨A7, c7, rfl, hown7, hb7⟩)
        have HO7 := Lib.hid (own_below HO6.out hb7)
        have HP7 := Lib.hid hown7
        have HBW7 := Lib.hid ((Kept.of HBW6.out).call hb7).2.2
        clear hown7 hb7
        go_wp2_with fail
        ((with_reducible refine (equalInt_any A' A7 m l.length c' c7 l l _ HMM.out.symm rfl (Rd.of_own HO7.out) (Rd.of_own HP7.out) (by omega) (by omega)).mono ?_); rintro e w8 ⟨rfl, hb8⟩)
        rw [decide_eq_true (rfl : l = l)]
        have HBW8 := Lib.hid ((Kept.of HBW7.out).call hb8).2.2
        clear hb8
        go_wp2_with fail
        go_ret
        exact ⟨rfl, HBW8.out⟩

set_option maxHeartbeats 1000000 in
theorem samplerShards_any (n b st : Int) (A : Option Addr) (N cap : Nat) (L : List Int) (t k0 : Int) (w : World) (hN : N ≤ 9223372036854775807) (hl : L.length = N) (hR : Rd w 1 A N (uv L)) (hu : InU L) (hk0 : 0 ≤ k0) (hk1 : k0 ≤ 255) :
    Calls Try.prog 13 #[runV n b st A N cap, .int .i64 t, .int .u8 k0] w fun e w' => e = .returned (.bool true) ∧ Below w.heap.size w w' := by
  obtain ⟨q, hq⟩ : ∃ q, fewR n st N = q := ⟨_, rfl⟩
  cases q with
  | false =>
    have HF := Lib.hid (fun W => (by have h := few12_any n b st A N cap W hN; rw [hq] at h; exact h : Calls Try.prog 39 #[runV n b st A N cap] W fun e w' => e = .returned (.bool false) ∧ Below W.heap.size W w'))
    have HB : Hid (∀ W, w.alloc (.cells #[.int .i64 n, .int .i64 b, .int .i64 st, .slice A N cap] 61) = W → Below w.heap.size w W) := Lib.hid (by rintro W rfl; exact (Below.refl _ _).alloc (Nat.le_refl _) _)
    clear hR hu hl hq
    go_enter Try.func13, Try.ntmps13
    go_wp2_with fail
    have hB := HB.out _ rfl
    ((with_reducible refine (HF.out _).mono ?_); rintro e w1 ⟨rfl, hb1⟩)
    have HB1 := Lib.hid (hB.trans (hb1.mono hB.size))
    clear hb1 hB
    go_wp2_with fail
    ((with_reducible refine (alive12_any _).mono ?_); rintro e w2 ⟨rfl, hb2⟩)
    go_wp2_with fail
    go_ret
    exact ⟨rfl, ((Kept.of HB1.out).call hb2).2.2⟩
  | true =>
    obtain ⟨h1, h2, h3⟩ := (fewR_iff n st N).1 hq
    rcases newBoth n b st N L h1 h2 h3 hl hu with ⟨c, hc, C1, C2⟩ | ⟨n', b', st', q, E, rfl, rfl, rfl, P, p1, p2, C1, C2⟩
    · have HR := Lib.hid hR
      have HS := Lib.hid (fun W (h : Rd W 1 A N (uv L)) => start12_bad n b st c A N cap L W h hc C1 C2)
      have HF := Lib.hid (fun W => (by have h := few12_any n b st A N cap W hN; rw [hq] at h; exact h : Calls Try.prog 39 #[runV n b st A N cap] W fun e w' => e = .returned (.bool true) ∧ Below W.heap.size W w'))
      have HG : Hid (∀ W, w.alloc (.cells #[.int .i64 n, .int .i64 b, .int .i64 st, .slice A N cap] 61) = W → Below w.heap.size w W ∧ Blk W w.heap.size 61 #[.int .i64 n, .int .i64 b, .int .i64 st, .slice A N cap]) := Lib.hid (by
        rintro W rfl
        exact ⟨(Below.refl _ _).alloc (Nat.le_refl _) _, Blk.new _ _ _⟩)
      clear hR C1 C2 hq hu hl
      go_enter Try.func13, Try.ntmps13
      go_wp2_with fail
      obtain ⟨hB, hK⟩ := HG.out _ rfl
      ((with_reducible refine (HF.out _).mono ?_); rintro e w1 ⟨rfl, hb1⟩)
      have HB1 := Lib.hid (hB.trans (hb1.mono hB.size))
      have q1 := hK.kept hb1
      have c0 : w1.cell? ⟨w.heap.size, 0, none⟩ = some (.int .i64 n) := q1.cell 0
      have c1 : w1.cell? ⟨w.heap.size, 1, none⟩ = some (.int .i64 b) := q1.cell 1
      have c2 : w1.cell? ⟨w.heap.size, 2, none⟩ = some (.int .i64 st) := q1.cell 2
      have c3 : w1.cell? ⟨w.heap.size, 3, none⟩ = some (.slice A N cap) := q1.cell 3
      have l1 := q1.lt
      clear hB hK hb1 q1
      go_wp2_with fail
      ((with_reducible refine (HS.out _ (HR.out.below HB1.out)).mono ?_); rintro e w2 ⟨rfl, hb2⟩)
      have HB2 := Lib.hid (((Kept.of HB1.out).call hb2).alloc (.cells #[.int .i64 0, .int .i64 0, .int .i64 0, .slice none 0 0] 68)).2.2
      clear hb2 c0 c1 c2 c3 l1
      go_wp2_with fail
      ((with_reducible refine (alive12_any _).mono ?_); rintro e w3 ⟨rfl, hb3⟩)
      have HB3 := Lib.hid ((Kept.of HB2.out).call hb3).2.2
      clear hb3
      go_wp2_with fail
      go_ret
      exact ⟨rfl, HB3.out⟩
    · obtain ⟨k, hk⟩ := Int.eq_ofNat_of_zero_le (show 0 ≤ k0 % 20 by omega)
      exact samplerShards_ok n' b' st' q E k t k0 A N cap L w hN hR P p1 hq hk hk0 hk1 (fun W h => start12_ok n' b' st' q E A N cap L W h C1 C2)

end Go.Proofs.Ytncjfijpaheobaa
