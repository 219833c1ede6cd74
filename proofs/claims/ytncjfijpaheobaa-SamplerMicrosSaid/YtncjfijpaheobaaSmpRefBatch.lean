/-
  Epoch, Batch, Shard and Micro of the reference.
-/
import Derived.Test.YtncjfijpaheobaaSmpBatch
namespace Go.Proofs.Ytncjfijpaheobaa
set_option linter.unusedVariables false
set_option linter.unusedSimpArgs false
set_option maxRecDepth 100000
open Go.RowKit

/-- The reference's sampler as a value. -/
abbrev rsmp (n b st : Nat) (Ao : Option Addr) (E co : Nat) : Value := .agg #[.int .i64 n, .int .i64 b, .int .i64 st, .slice Ao E co]
/-- Its orders lie in memory. -/
structure RSmp (w : World) (base n : Nat) (Ao : Option Addr) (E co : Nat) (os : List (List Int)) : Prop where
  ex : ∃ vs, w.ownsRow base 23 1 (.slice Ao E co) E (slsv vs) ∧ OwnN w base vs os
theorem RSmp.below {w w' : World} {base n : Nat} {Ao : Option Addr} {E co : Nat} {os : List (List Int)} (h : RSmp w base n Ao E co os) (hb : Below w.heap.size w w') : RSmp w' base n Ao E co os := by
  obtain ⟨vs, h1, h2⟩ := h.ex
  exact ⟨vs, own_below h1 hb, h2.below hb⟩

section
variable (base b st q E n co : Nat) (Ao : Option Addr) (L : List Int) (w : World)

set_option maxHeartbeats 1000000 in
theorem refEpoch_no (t : Int) (ht : t < 0 ∨ st ≤ t) :
    Calls Try.prog 66 #[rsmp n b st Ao E co, .int .i64 t] w fun e w' => e = .returned (.tuple #[.int .i64 0, .int .i64 0, .bool false]) ∧ Below w.heap.size w w' := by
  by_cases h1 : t < 0
  · have e1 : decide (t < 0) = true := decide_eq_true h1
    clear ht
    go_enter Try.func66, Try.ntmps66
    go_wp2_with fail
    exact bodyPost_ret (v := .tuple #[.int .i64 0, .int .i64 0, .bool false]) (by simp [results, Try.results66, go_sem]) rfl ⟨rfl, (Below.refl _ _).alloc (Nat.le_refl _) _⟩
  · have e1 : decide (t < 0) = false := decide_eq_false h1
    have e2 : decide ((st : Int) ≤ t) = true := decide_eq_true (by omega)
    clear ht
    go_enter Try.func66, Try.ntmps66
    go_wp2_with fail
    exact bodyPost_ret (v := .tuple #[.int .i64 0, .int .i64 0, .bool false]) (by simp [results, Try.results66, go_sem]) rfl ⟨rfl, (Below.refl _ _).alloc (Nat.le_refl _) _⟩

set_option maxHeartbeats 1000000 in
theorem refEpoch_yes (P : SmpP n b st q E) (t : Nat) (ht : t < st) :
    Calls Try.prog 66 #[rsmp n b st Ao E co, .int .i64 t] w fun e w' => e = .returned (.tuple #[.int .i64 ((t / q : Nat) : Int), .int .i64 ((t % q : Nat) : Int), .bool true]) ∧ Below w.heap.size w w' := by
  have e1 : decide ((t : Int) < 0) = false := decide_eq_false (by omega)
  have e2 : decide ((st : Int) ≤ (t : Int)) = false := decide_eq_false (by omega)
  have e3 : decide (st ≤ t) = false := decide_eq_false (by omega)
  have hst := P.hst
  have hq := P.hq
  have hq2 := P.hq2
  have hb1 := P.hb1
  have hnn := P.hn
  have hbn := P.hbn
  have hw0 : IntKind.i64.wrap ((n : Int) / (b : Int)) = (q : Int) := by
    rw [← Int.natCast_ediv, P.hdiv, IntKind.wrap_i64]
    omega
  have hw0' : (n : Int) / (b : Int) = (q : Int) := by rw [← Int.natCast_ediv, P.hdiv]
  clear P
  go_enter Try.func66, Try.ntmps66
  go_wp2_with fail
  go_region
  go_wp2
  have hw1 : wrap64 ((t : Int) / (q : Int)) = (t : Int) / (q : Int) := by
    have hd := Nat.div_le_self t q
    rw [← Int.natCast_ediv]
    generalize t / q = d at hd ⊢
    exact IntWalk.wrap64_in _ (by omega)
  exact bodyPost_ret (v := .tuple #[.int .i64 ((t / q : Nat) : Int), .int .i64 ((t % q : Nat) : Int), .bool true]) (by simp [results, Try.results66, go_sem, hw1]) rfl ⟨rfl, ((Below.refl _ _).alloc (Nat.le_refl _) _).drew⟩

set_option maxHeartbeats 1000000 in
theorem refBatch_no (t : Int) (ht : t < 0 ∨ st ≤ t) :
    Calls Try.prog 44 #[rsmp n b st Ao E co, .int .i64 t] w (RdRet w 0 []) := by
  have HE := Lib.hid (fun W => refEpoch_no b st E n co Ao W t ht)
  clear ht
  go_enter Try.func44, Try.ntmps44
  go_wp2_with fail
  ((with_reducible refine (HE.out _).mono ?_); rintro e w1 ⟨rfl, hb1⟩)
  have HB := Lib.hid (((Below.refl w.heap.size w).alloc (Nat.le_refl _) (.cells #[.int .i64 n, .int .i64 b, .int .i64 st, .slice Ao E co] 68)).trans (hb1.mono (by simp)))
  clear hb1
  go_wp2_with fail
  go_ret
  exact RdRet.none _ _ HB.out

set_option maxHeartbeats 2000000 in
theorem refBatch_yes (P : SmpP n b st q E) (t : Nat) (ht : t < st) (h : RSmp w base n Ao E co (ordsL L n E)) :
    Calls Try.prog 44 #[rsmp n b st Ao E co, .int .i64 t] w (RdRet w b (batchL L n b q st t)) := by
  have HE := Lib.hid (fun W => refEpoch_yes b st q E n co Ao W P t ht)
  obtain ⟨vs, hro, hon⟩ := h.ex
  have hq := P.hq
  have hq2 := P.hq2
  have hb1 := P.hb1
  have hnn := P.hn
  have hqb := P.hqb
  have hst := P.hst
  have hmq : t % q < q := Nat.mod_lt _ (by omega)
  have hdE : t / q < E := by
    rw [← P.hE]
    refine (lt_cnt st q _ (by omega) hq).2 ?_
    have := Nat.div_mul_le_self t q
    omega
  have hfit : t % q * b + b ≤ n := by
    have h1 : (t % q + 1) * b ≤ q * b := Nat.mul_le_mul_right b hmq
    rw [Nat.succ_mul] at h1
    omega
  have HBL : Hid (batchL L n b q st t = ((pemL L n (t / q * (n - 1))).drop (t % q * b)).take b) := Lib.hid (by
    rw [batchL, if_pos ⟨by omega, by omega⟩]
    rfl)
  obtain ⟨e', he⟩ : ∃ e', t / q = e' := ⟨_, rfl⟩
  obtain ⟨i, hi⟩ : ∃ i, t % q = i := ⟨_, rfl⟩
  rw [he] at HE hdE HBL
  rw [hi] at HE hmq hfit HBL
  rw [HBL.out]
  have hmul : IntKind.i64.wrap ((i : Int) * (b : Int)) = ((i * b : Nat) : Int) := by
    rw [← Int.natCast_mul, IntKind.wrap_i64]
    omega
  obtain ⟨lo, hlo⟩ : ∃ lo, i * b = lo := ⟨_, rfl⟩
  rw [hlo] at hmul hfit HBL ⊢
  obtain ⟨s, hs⟩ : ∃ s, vs[e']? = some s := ⟨_, List.getElem?_eq_getElem (by rw [hon.len, ordsL_length]; exact hdE)⟩
  obtain ⟨Ae, ne, ce⟩ := s
  obtain ⟨hne, hre⟩ := hon.row e' _ _ hs (ordsL_get L n E e' hdE)
  have hne' : ne = n := by rw [pemL_length] at hne; exact hne
  subst hne'
  have HRE := Lib.hid (Rd.of_own hre)
  have hce : ne ≤ ce := by
    obtain ⟨_, _, q1, q2, _, _⟩ := own_form hre
    injection q1 with q4 _ q5
    simp only at q5
    subst q5
    exact q2
  obtain ⟨b1, o1, e1, hb1', c1⟩ := (Rd.of_own hro).2 (by omega)
  subst e1
  have d1 := c1 e' _ (slsv_get hs)
  have g3 : (0 : Int) ≤ (e' : Int) := by omega
  have g4 : (e' : Int) < (E : Int) := by omega
  have HLN : Hid ((pemL L ne (e' * (ne - 1))).length = ne) := Lib.hid (pemL_length _ _ _)
  clear hro hon hs hne hre c1 he hi hlo hqb P h
  have HG : Hid (∀ W, w.alloc (.cells #[.int .i64 ne, .int .i64 b, .int .i64 st, .slice (some ⟨b1, o1, none⟩) E co] 68) = W → Below w.heap.size w W ∧ Blk W w.heap.size 68 #[.int .i64 ne, .int .i64 b, .int .i64 st, .slice (some ⟨b1, o1, none⟩) E co]) := Lib.hid (by
    rintro W rfl
    exact ⟨(Below.refl _ _).alloc (Nat.le_refl _) _, Blk.new _ _ _⟩)
  go_enter Try.func44, Try.ntmps44
  go_wp2_with fail
  ((with_reducible refine (HE.out _).mono ?_); rintro e w1 ⟨rfl, hb9⟩)
  obtain ⟨hB, hK⟩ := HG.out _ rfl
  have hk1 := hK.kept hb9
  have hbw := hB.trans (hb9.mono hB.size)
  have HB9 := Lib.hid hbw
  have z1 : w1.cell? ⟨w.heap.size, 1, none⟩ = some (.int .i64 b) := hk1.cell 1
  have z3 : w1.cell? ⟨w.heap.size, 3, none⟩ = some (.slice (some ⟨b1, o1, none⟩) E co) := hk1.cell 3
  have z4 := hk1.lt
  have d1' := ((bcell hbw).1 b1 (o1 + e') hb1').trans d1
  have l2' : b1 < w1.heap.size := Nat.lt_of_lt_of_le hb1' hbw.size
  clear hb9 hbw hB hK hk1 d1 hb1' HE
  go_wp2_with fail
  go_region
  go_wp2
  rw [show lo + b - lo = b by omega]
  go_ret
  exact ⟨_, _, rfl, by omega, (rd_map (HRE.out.below HB9.out) HLN.out lo b hfit).drew, HB9.out.drew⟩

theorem refBatch_any (P : SmpP n b st q E) (t : Int) (h : RSmp w base n Ao E co (ordsL L n E)) :
    Calls Try.prog 44 #[rsmp n b st Ao E co, .int .i64 t] w (RdRet w (batchL L n b q st t).length (batchL L n b q st t)) := by
  by_cases ht : 0 ≤ t ∧ t < st
  · obtain ⟨T, rfl⟩ := Int.eq_ofNat_of_zero_le ht.1
    rw [batchL_length P L T (by omega)]
    exact refBatch_yes base b st q E n co Ao L w P T (by omega) h
  · rw [batchL_no L t (by omega)]
    exact refBatch_no b st E n co Ao w t (by omega)

set_option maxHeartbeats 1000000 in
theorem refShard_any (P : SmpP n b st q E) (t i k : Int) (h : RSmp w base n Ao E co (ordsL L n E)) (hk : k ≤ 1000) (hk0 : -1000 ≤ k) (hi : i ≤ 1000) (hi0 : -1000 ≤ i) :
    Calls Try.prog 48 #[rsmp n b st Ao E co, .int .i64 t, .int .i64 i, .int .i64 k] w (RdRet w (pieceL (batchL L n b q st t) i k).length (pieceL (batchL L n b q st t) i k)) := by
  have C := Lib.hid (fun W (h : RSmp W base n Ao E co (ordsL L n E)) => refBatch_any base b st q E n co Ao L W P t h)
  have HH := Lib.hid h
  have hle := batchL_le L n b q st t P.hbn
  have hn := P.hn
  clear h
  obtain ⟨l, hl⟩ : ∃ l, batchL L n b q st t = l := ⟨_, rfl⟩
  rw [hl] at C hle ⊢
  clear hl
  have hple := pieceL_le l i k
  obtain ⟨p, hp⟩ : ∃ p, pieceL l i k = p := ⟨_, rfl⟩
  rw [hp] at hple
  have HP := Lib.hid hp
  rw [hp]
  clear hp
  obtain ⟨m, hm⟩ : ∃ m, l.length = m := ⟨_, rfl⟩
  have HM := Lib.hid hm
  rw [hm] at C hle hple
  obtain ⟨r, hr⟩ : ∃ r, p.length = r := ⟨_, rfl⟩
  have HRL := Lib.hid hr
  rw [hr] at hple ⊢
  clear hm hr
  have HG : Hid (∀ W, w.alloc (.cells #[.int .i64 n, .int .i64 b, .int .i64 st, .slice Ao E co] 68) = W → Below w.heap.size w W) := Lib.hid (by
    rintro W rfl
    exact (Below.refl _ _).alloc (Nat.le_refl _) _)
  go_enter Try.func48, Try.ntmps48
  go_wp2_with fail
  ((with_reducible refine (C.out _ (HH.out.below (HG.out _ rfl))).mono ?_); rintro e w1 ⟨A1, c1, rfl, hc1, hr1, hb1⟩)
  have HR := Lib.hid hr1
  have HB := Lib.hid ((HG.out _ rfl).trans (hb1.mono (HG.out _ rfl).size))
  clear hr1 hb1
  go_wp2_with fail
  have C2 := refPiece_any A1 m c1 l i k w1 HM.out HR.out (by omega) hc1 hk hk0 hi hi0
  rw [HP.out, HRL.out] at C2
  ((with_reducible refine C2.mono ?_); rintro e w2 ⟨A2, c2, rfl, hc2, hr2, hb2⟩)
  have HR2 := Lib.hid hr2
  have HB2 := Lib.hid ((Kept.of HB.out).call hb2).2.2
  clear hr2 hb2 C2
  go_wp2_with fail
  go_ret
  exact ⟨A2, c2, rfl, hc2, HR2.out, HB2.out⟩

set_option maxHeartbeats 1000000 in
theorem refMicro_any (P : SmpP n b st q E) (t i k j y : Int) (h : RSmp w base n Ao E co (ordsL L n E)) (hk : k ≤ 1000) (hk0 : -1000 ≤ k) (hi : i ≤ 1000) (hi0 : -1000 ≤ i) (hy : y ≤ 1000) (hy0 : -1000 ≤ y) (hj : j ≤ 1000) (hj0 : -1000 ≤ j) :
    Calls Try.prog 50 #[rsmp n b st Ao E co, .int .i64 t, .int .i64 i, .int .i64 k, .int .i64 j, .int .i64 y] w (RdRet w (pieceL (pieceL (batchL L n b q st t) i k) j y).length (pieceL (pieceL (batchL L n b q st t) i k) j y)) := by
  have C := Lib.hid (fun W (h : RSmp W base n Ao E co (ordsL L n E)) => refShard_any base b st q E n co Ao L W P t i k h hk hk0 hi hi0)
  have HH := Lib.hid h
  have hle := Nat.le_trans (pieceL_le (batchL L n b q st t) i k) (batchL_le L n b q st t P.hbn)
  have hn := P.hn
  clear h
  obtain ⟨l, hl⟩ : ∃ l, pieceL (batchL L n b q st t) i k = l := ⟨_, rfl⟩
  rw [hl] at C hle ⊢
  clear hl
  have hple := pieceL_le l j y
  obtain ⟨p, hp⟩ : ∃ p, pieceL l j y = p := ⟨_, rfl⟩
  rw [hp] at hple
  have HP := Lib.hid hp
  rw [hp]
  clear hp
  obtain ⟨m, hm⟩ : ∃ m, l.length = m := ⟨_, rfl⟩
  have HM := Lib.hid hm
  rw [hm] at C hle hple
  obtain ⟨r, hr⟩ : ∃ r, p.length = r := ⟨_, rfl⟩
  have HRL := Lib.hid hr
  rw [hr] at hple ⊢
  clear hm hr
  have HG : Hid (∀ W, w.alloc (.cells #[.int .i64 n, .int .i64 b, .int .i64 st, .slice Ao E co] 68) = W → Below w.heap.size w W) := Lib.hid (by
    rintro W rfl
    exact (Below.refl _ _).alloc (Nat.le_refl _) _)
  go_enter Try.func50, Try.ntmps50
  go_wp2_with fail
  ((with_reducible refine (C.out _ (HH.out.below (HG.out _ rfl))).mono ?_); rintro e w1 ⟨A1, c1, rfl, hc1, hr1, hb1⟩)
  have HR := Lib.hid hr1
  have HB := Lib.hid ((HG.out _ rfl).trans (hb1.mono (HG.out _ rfl).size))
  clear hr1 hb1
  go_wp2_with fail
  have C2 := refPiece_any A1 m c1 l j y w1 HM.out HR.out (by omega) hc1 hy hy0 hj hj0
  rw [HP.out, HRL.out] at C2
  ((with_reducible refine C2.mono ?_); rintro e w2 ⟨A2, c2, rfl, hc2, hr2, hb2⟩)
  have HR2 := Lib.hid hr2
  have HB2 := Lib.hid ((Kept.of HB.out).call hb2).2.2
  clear hr2 hb2 C2
  go_wp2_with fail
  go_ret
  exact ⟨A2, c2, rfl, hc2, HR2.out, HB2.out⟩
end

end Go.Proofs.Ytncjfijpaheobaa
