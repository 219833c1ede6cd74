/-
  VecSums: the walk.
-/
import Derived.Test.YthbkmhdoakpjgaaVec7
import Derived.Test.YthbkmhdoakpjgaaVecSumsPlain
namespace Go.Proofs.Ythbkmhdoakpjgaa
set_option linter.unusedVariables false
set_option linter.unusedSimpArgs false
open Go.RowKit

theorem RdV.take {w : World} {ss : List (Option Addr × Nat × Nat)} {zs : List (List Int)} (h : RdV w ss zs) (k : Nat) : RdV w (ss.take k) (zs.take k) := by
  refine ⟨by simp [h.1], fun i s z h1 h2 => ?_⟩
  rw [List.getElem?_take] at h1 h2
  split at h1
  · rw [if_pos (by assumption)] at h2
    exact h.2 i s z h1 h2
  · cases h1
theorem RdV.drop {w : World} {ss : List (Option Addr × Nat × Nat)} {zs : List (List Int)} (h : RdV w ss zs) (k : Nat) : RdV w (ss.drop k) (zs.drop k) := by
  refine ⟨by simp [h.1], fun i s z h1 h2 => ?_⟩
  rw [List.getElem?_drop] at h1 h2
  exact h.2 _ s z h1 h2
theorem RdV.reverse {w : World} {ss : List (Option Addr × Nat × Nat)} {zs : List (List Int)} (h : RdV w ss zs) : RdV w ss.reverse zs.reverse := by
  refine ⟨by simp [h.1], fun i s z h1 h2 => ?_⟩
  have hi : i < ss.length := by have := (List.getElem?_eq_some_iff.1 h1).1; simpa using this
  rw [List.getElem?_reverse hi] at h1
  rw [List.getElem?_reverse (by rw [← h.1]; exact hi), ← h.1] at h2
  exact h.2 _ s z h1 h2
theorem RdV.snoc {w : World} {ss : List (Option Addr × Nat × Nat)} {zs : List (List Int)} (h : RdV w ss zs) {A : Option Addr} {n c : Nat} {a : List Int} (hl : a.length = n) (hr : Rd w 1 A n (iv a)) : RdV w (ss ++ [(A, n, c)]) (zs ++ [a]) := by
  refine ⟨by simp [h.1], fun i s z h1 h2 => ?_⟩
  by_cases hi : i < ss.length
  · rw [List.getElem?_append_left hi] at h1
    rw [List.getElem?_append_left (by rw [← h.1]; exact hi)] at h2
    exact h.2 i s z h1 h2
  · rw [List.getElem?_append_right (by omega)] at h1
    rw [List.getElem?_append_right (by rw [← h.1]; omega), ← h.1] at h2
    obtain ⟨j, hj⟩ : ∃ j, i - ss.length = j := ⟨_, rfl⟩
    rw [hj] at h1 h2
    match j, h1, h2 with
    | 0, h1, h2 =>
      simp at h1 h2
      subst h1 h2
      exact ⟨hl, hr⟩
    | (j + 1), h1, h2 => simp at h1
theorem Rd.front {w : World} {A : Option Addr} {n k : Nat} {xs : List Value} (h : Rd w 1 A n xs) (hk : k ≤ n) : Rd w 1 A k (xs.take k) := by
  refine ⟨by rw [List.length_take, h.1]; omega, fun h0 => ?_⟩
  obtain ⟨b, o, e, hb, hc⟩ := h.2 (by omega)
  refine ⟨b, o, e, hb, fun j u hu => hc j u ?_⟩
  rw [List.getElem?_take] at hu
  split at hu
  · exact hu
  · cases hu
theorem Rd.rest {w : World} {b o n k : Nat} {xs : List Value} (h : Rd w 1 (some ⟨b, o, none⟩) n xs) (hk : k ≤ n) : Rd w 1 (some ⟨b, o + k, none⟩) (n - k) (xs.drop k) := by
  refine ⟨by rw [List.length_drop, h.1]; omega, fun h0 => ?_⟩
  obtain ⟨b', o', e, hb, hc⟩ := h.2 (by omega)
  injection e with e
  injection e with e1 e2
  subst e1 e2
  refine ⟨b, o + k, rfl, hb, fun j u hu => ?_⟩
  rw [List.getElem?_drop] at hu
  rw [Nat.add_assoc]
  exact hc _ u hu

theorem rd_zero {w : World} {A : Option Addr} {n : Nat} {xs : List Value} (h0 : n = 0) (hl : xs.length = 0) : Rd w 1 A n xs := ⟨by omega, fun h => absurd h (by omega)⟩

theorem few_one_le (ns : List Nat) (x : Nat) (h : x ∈ ns) : min x 2000 ≤ fewN ns := by
  induction ns with
  | nil => cases h
  | cons y ns ih =>
    unfold fewN at ih ⊢
    rw [List.map_cons, List.sum_cons]
    rcases List.mem_cons.1 h with rfl | h
    · omega
    · have := ih h
      omega
theorem few_each (ns : List Nat) (h : fewL ns = true) : ns.length ≤ 60 ∧ ∀ x ∈ ns, x ≤ 1500 := by
  unfold fewL at h
  have h := of_decide_eq_true h
  refine ⟨h.1, fun x hx => ?_⟩
  have h2 := h.2
  rw [List.take_of_length_le (by omega)] at h2
  have := few_one_le ns x hx
  omega

set_option maxHeartbeats 1000000 in
theorem vecSums_not (A : Option Addr) (n cap : Nat) (m : Int) (ss : List (Option Addr × Nat × Nat)) (w : World) (hn : n ≤ 9223372036854775807) (hl : ss.length = n) (hs : ∀ s ∈ ss, s.2.1 ≤ 9223372036854775807) (h : Rd w 1 A n (ss.map slv)) (hf : fewL (ss.map (·.2.1)) = false) :
    Calls Try.prog 10 #[.slice A n cap, .int .u8 m] w fun e w' => e = .returned (.bool true) ∧ Below w.heap.size w w' := by
  have HR := Lib.hid h
  clear h
  go_enter Try.func10, Try.ntmps10
  go_wp2_with fail
  ((with_reducible refine (few03_any A n cap ss _ hl hs HR.out hn).mono ?_); rintro e w1 ⟨rfl, rfl⟩)
  rw [hf]
  go_wp2_with fail
  ((with_reducible refine (alive03_any _).mono ?_); rintro e w2 ⟨rfl, hb2⟩)
  go_wp2
  go_ret
  exact ⟨rfl, hb2⟩

set_option maxHeartbeats 1000000 in
theorem vecSums_nil (A : Option Addr) (cap : Nat) (m : Int) (w : World) :
    Calls Try.prog 10 #[.slice A 0 cap, .int .u8 m] w fun e w' => e = .returned (.bool true) ∧ Below w.heap.size w w' := by
  go_enter Try.func10, Try.ntmps10
  go_wp2_with fail
  ((with_reducible refine (few03_any A 0 cap [] _ rfl (by simp) (Rd.nil _ _ _) (by omega)).mono ?_); rintro e w1 ⟨rfl, rfl⟩)
  rw [show fewL (List.map (fun x : Option Addr × Nat × Nat => x.2.1) []) = true from rfl]
  go_wp2_with fail
  ((with_reducible refine (given03_any A 0 cap [] _ rfl (Rd.nil _ _ _) (by omega)).mono ?_); rintro e w1 ⟨A1, c1, rfl, hown1, hb1⟩)
  clear hown1
  go_wp2_with fail
  ((with_reducible refine (vecSum_nil A1 c1 _).mono ?_); rintro e w2 ⟨A2, c2, rfl, hown2, hb2⟩)
  have R2 := Lib.hid (Rd.of_own hown2)
  clear hown2
  go_wp2_with fail
  ((with_reducible refine (refSum_nil A cap _).mono ?_); rintro e w3 ⟨A3, c3, rfl, hown3, hb3⟩)
  have R3 := Lib.hid (Rd.of_own hown3)
  clear hown3
  go_wp2_with fail
  ((with_reducible refine (refSame_any A2 A3 0 0 c2 c3 [] [] _ rfl rfl (Rd.nil _ _ _) (Rd.nil _ _ _) (by omega) (by omega)).mono ?_); rintro e w4 ⟨rfl, hb4⟩)
  rw [decide_eq_true (rfl : ([] : List Int) = [])]
  have k4 := (((Kept.of hb1).call hb2).call hb3).call hb4
  clear hb1 hb2 hb3 hb4
  go_wp2_with fail
  ((with_reducible refine (alive03_any _).mono ?_); rintro e w5 ⟨rfl, hb5⟩)
  go_wp2
  go_ret
  exact ⟨rfl, (k4.call hb5).2.2⟩

set_option maxHeartbeats 1000000 in
theorem vecSums_none (A : Option Addr) (n cap : Nat) (m : Int) (ss : List (Option Addr × Nat × Nat)) (zs : List (List Int)) (w : World) (hn1 : 1 ≤ n) (hn : n ≤ 60) (hl : ss.length = n) (hs : ∀ s ∈ ss, s.2.1 ≤ 1500) (h : Rd w 1 A n (ss.map slv)) (hv : RdV w ss zs) (hz : ∀ z ∈ zs, z.length ≤ 10000000) (hx : ∀ z ∈ zs, InV z) (hf : fewL (ss.map (·.2.1)) = true) (hnone : sumL zs = none) :
    Calls Try.prog 10 #[.slice A n cap, .int .u8 m] w fun e w' => e = .returned (.bool true) ∧ Below w.heap.size w w' := by
  have HR := Lib.hid h
  have HV := Lib.hid hv
  have HL := Lib.hid hl
  have HS := Lib.hid hs
  have HZ := Lib.hid (And.intro hz hx)
  clear h hv hl hs hz hx
  go_enter Try.func10, Try.ntmps10
  go_wp2_with fail
  ((with_reducible refine (few03_any A n cap ss _ HL.out (fun s h => Nat.le_trans (HS.out s h) (by omega)) HR.out (by omega)).mono ?_); rintro e w1 ⟨rfl, rfl⟩)
  rw [hf]
  go_wp2_with fail
  ((with_reducible refine (given03_any A n cap ss _ HL.out HR.out (by omega)).mono ?_); rintro e w1 ⟨A1, c1, rfl, hown1, hb1⟩)
  obtain ⟨_, _, q1, q2, q3, _⟩ := own_form hown1
  injection q1 with q4 _ q5
  subst q4 q5
  have hs := vecSum_any A1 n c1 ss zs _ HL.out hn1 (by omega) q2 q3 (Rd.of_own hown1) (HV.out.below hb1) HZ.out.1
  rw [hnone] at hs
  have HSu := Lib.hid hs
  clear hown1 q2 q3 hs
  go_wp2_with fail
  ((with_reducible refine HSu.out.mono ?_); rintro e w2 ⟨rfl, hb2⟩)
  have k2 := (Kept.of hb1).call hb2
  clear hb1 hb2 HSu
  have hs := refSum_any A n cap ss zs _ HL.out hn1 (by omega) (HR.out.kept k2) (HV.out.kept k2) HZ.out.1 HZ.out.2
  rw [hnone] at hs
  have HSu := Lib.hid hs
  clear hs
  go_wp2_with fail
  ((with_reducible refine HSu.out.mono ?_); rintro e w3 ⟨rfl, hb3⟩)
  have k3 := k2.call hb3
  clear k2 hb3 HSu
  go_wp2_with fail
  ((with_reducible refine (refSame_any none none 0 0 0 0 [] [] _ rfl rfl (Rd.nil _ _ _) (Rd.nil _ _ _) (by omega) (by omega)).mono ?_); rintro e w4 ⟨rfl, hb4⟩)
  rw [decide_eq_true (rfl : ([] : List Int) = [])]
  have k4 := k3.call hb4
  clear k3 hb4
  go_wp2_with fail
  ((with_reducible refine (alive03_any _).mono ?_); rintro e w5 ⟨rfl, hb5⟩)
  go_wp2
  go_ret
  exact ⟨rfl, (k4.call hb5).2.2⟩

set_option maxHeartbeats 4000000 in
theorem vecSums_some (b o n cap : Nat) (m : Nat) (ss : List (Option Addr × Nat × Nat)) (zs : List (List Int)) (s : List Int) (w : World) (hm : m ≤ 255) (hn1 : 1 ≤ n) (hn : n ≤ 60) (hnc : n ≤ cap) (hcm : cap ≤ 9223372036854775807) (hl : ss.length = n) (hs : ∀ s ∈ ss, s.2.1 ≤ 1500) (h : Rd w 1 (some ⟨b, o, none⟩) n (ss.map slv)) (hv : RdV w ss zs) (hz : ∀ z ∈ zs, z.length ≤ 1500) (hx : ∀ z ∈ zs, InV z) (hf : fewL (ss.map (·.2.1)) = true) (hsum : sumL zs = some s) (hsl : s.length ≤ 1500) :
    Calls Try.prog 10 #[.slice (some ⟨b, o, none⟩) n cap, .int .u8 m] w fun e w' => e = .returned (.bool true) ∧ Below w.heap.size w w' := by
  have h0 : zs ≠ [] := by intro e; have := hv.1; rw [e, hl] at this; simp at this; omega
  have HT := Lib.hid (sumL_turned zs s h0 hx hsum)
  obtain ⟨r, hr⟩ : ∃ r, m % n = r := ⟨_, rfl⟩
  have hr' : (m : Int) % (n : Int) = (r : Int) := by rw [← hr]; simp
  have hrn := Nat.mod_lt m (show 0 < n by omega)
  rw [hr] at hrn
  obtain ⟨a, ha1, ha2, ha3, ha4⟩ := sumL_groups zs s (1 + r) (by omega) h0 hx hsum
  have HA := Lib.hid (And.intro ha1 (And.intro ha2 (And.intro ha3 ha4)))
  have HR := Lib.hid h
  have HV := Lib.hid hv
  have HL := Lib.hid hl
  have HS := Lib.hid hs
  have HZ := Lib.hid (And.intro hz hx)
  have HSM := Lib.hid hsum
  clear h hv hl hs hz hx ha1 ha2 ha3 ha4 hsum hr h0
  have d0 : ((n : Int) == 0) = false := by simp; omega
  go_enter Try.func10, Try.ntmps10
  go_wp2_with fail
  ((with_reducible refine (few03_any (some ⟨b, o, none⟩) n cap ss _ HL.out (fun s h => Nat.le_trans (HS.out s h) (by omega)) HR.out (by omega)).mono ?_); rintro e w1 ⟨rfl, rfl⟩)
  rw [hf]
  go_wp2_with fail
  ((with_reducible refine (given03_any (some ⟨b, o, none⟩) n cap ss _ HL.out HR.out (by omega)).mono ?_); rintro e w1 ⟨A1, c1, rfl, hown1, hb1⟩)
  obtain ⟨_, _, q1, q2, q3, _⟩ := own_form hown1
  injection q1 with q4 _ q5
  subst q4 q5
  have hs := vecSum_any A1 n c1 ss zs _ HL.out hn1 (by omega) q2 q3 (Rd.of_own hown1) (HV.out.below hb1) (fun z h => Nat.le_trans (HZ.out.1 z h) (by omega))
  rw [HSM.out] at hs
  have HSu := Lib.hid hs
  clear hown1 q2 q3 hs
  go_wp2_with fail
  ((with_reducible refine HSu.out.mono ?_); rintro e w2 ⟨A2, c2, rfl, hown2, hb2⟩)
  have R2 := Lib.hid (Rd.of_own hown2)
  have k2 := (Kept.of hb1).call hb2
  clear hb1 hb2 HSu hown2
  have hs := refSum_any (some ⟨b, o, none⟩) n cap ss zs _ HL.out hn1 (by omega) (HR.out.kept k2) (HV.out.kept k2) (fun z h => Nat.le_trans (HZ.out.1 z h) (by omega)) HZ.out.2
  rw [HSM.out] at hs
  have HSu := Lib.hid hs
  clear hs
  go_wp2_with fail
  ((with_reducible refine HSu.out.mono ?_); rintro e w3 ⟨A3, c3, rfl, hown3, hb3⟩)
  have R3 := Lib.hid (Rd.of_own hown3)
  have R2' := Lib.hid (R2.out.below hb3)
  have k3 := k2.call hb3
  clear k2 hb3 HSu hown3 R2
  go_wp2_with fail
  ((with_reducible refine (refSame_any A2 A3 s.length s.length c2 c3 s s _ rfl rfl R2'.out R3.out (by omega) (by omega)).mono ?_); rintro e w4 ⟨rfl, hb4⟩)
  rw [decide_eq_true (rfl : s = s)]
  have k4 := k3.call hb4
  have j4 := Kept.of hb4
  clear k3 hb4 R2'
  go_wp2_with fail
  ((with_reducible refine (given03_any (some ⟨b, o, none⟩) n cap ss _ HL.out (HR.out.kept k4) (by omega)).mono ?_); rintro e w5 ⟨A5, c5, rfl, hown5, hb5⟩)
  obtain ⟨_, _, q1, q2, q3, q6⟩ := own_form hown5
  injection q1 with q4 _ q5
  subst q4 q5
  obtain ⟨g, rfl, hg1, hg2⟩ := q6 (by omega)
  have HO5 := Lib.hid hown5
  clear hown5 q6
  go_wp2_with fail
  ((with_reducible refine (reverseV_any g n c5 _ ss _ HL.out (by omega) HO5.out).mono ?_); rintro e w6 ⟨rfl, hown6, hg6⟩)
  have hb6 : Below w4.heap.size w4 w6 := hb5.grown hg6 hb5.size (fun k e => by cases e; exact hg1)
  have k6 := k4.call hb6
  have j6 := j4.call hb6
  have hs := vecSum_any (some ⟨g, 0, none⟩) n c5 ss.reverse zs.reverse _ (by rw [List.length_reverse]; exact HL.out) hn1 (by omega) q2 q3 (Rd.of_own hown6) ((HV.out.kept k6).reverse) (fun z h => Nat.le_trans (HZ.out.1 z (List.mem_reverse.1 h)) (by omega))
  rw [HT.out] at hs
  have HSu := Lib.hid hs
  clear hs hown6 hg6 HO5 hb5 hb6 hg1 hg2 q2 q3 k4 j4
  go_wp2_with fail
  ((with_reducible refine HSu.out.mono ?_); rintro e w7 ⟨A7, c7, rfl, hown7, hb7⟩)
  have R7 := Lib.hid (Rd.of_own hown7)
  have k7 := k6.call hb7
  have j7 := j6.call hb7
  clear k6 j6 hb7 HSu hown7
  have i1 : (0 : Int) ≤ 1 + (r : Int) := by omega
  have i2 : 1 + (r : Int) ≤ (cap : Int) := by omega
  have i3 : 1 + (r : Int) ≤ (n : Int) := by omega
  have i4 : (1 + (r : Int)).toNat = 1 + r := by omega
  have hz1 : ∀ z ∈ zs.take (1 + r), z.length ≤ 10000000 := fun z h => Nat.le_trans (HZ.out.1 z (List.mem_of_mem_take h)) (by omega)
  have HZ1 := Lib.hid hz1
  clear hz1
  go_wp2_with fail
  ((with_reducible refine (given03_any (some ⟨b, o, none⟩) (1 + r) cap (ss.take (1 + r)) _ (by rw [List.length_take, HL.out]; omega) (by rw [List.map_take]; exact (HR.out.kept k7).front (by omega)) (by omega)).mono ?_); rintro e w8 ⟨A8, c8, rfl, hown8, hb8⟩)
  obtain ⟨_, _, q1, q2, q3, _⟩ := own_form hown8
  injection q1 with q4 _ q5
  subst q4 q5
  have hs := vecSum_any A8 (1 + r) c8 (ss.take (1 + r)) (zs.take (1 + r)) _ (by rw [List.length_take, HL.out]; omega) (by omega) (by omega) q2 q3 (Rd.of_own hown8) (((HV.out.kept k7).below hb8).take _) HZ1.out
  rw [HA.out.1] at hs
  have HSu := Lib.hid hs
  clear hown8 q2 q3 hs HZ1
  go_wp2_with fail
  ((with_reducible refine HSu.out.mono ?_); rintro e w9 ⟨A9, c9, rfl, hown9, hb9⟩)
  have R9 := Lib.hid (Rd.of_own hown9)
  have l9 := (Kept.of hb8).call hb9
  have k9 := (k7.call hb8).call hb9
  have j9 := (j7.call hb8).call hb9
  clear hb8 hb9 HSu hown9 k7 j7
  have HZ2 : Hid (∀ z ∈ zs.drop (1 + r) ++ [a], z.length ≤ 10000000) := Lib.hid (fun z h => by
    rcases List.mem_append.1 h with h | h
    · exact Nat.le_trans (HZ.out.1 z (List.mem_of_mem_drop h)) (by omega)
    · rw [List.mem_singleton.1 h, HA.out.2.1]; omega)
  by_cases hcr : cap = 1 + r
  · have hcr' : (cap : Int) = 1 + (r : Int) := by omega
    go_wp2_with fail
    ((with_reducible refine (given03_any (some ⟨b, o, none⟩) (n - (1 + r)) 0 (ss.drop (1 + r)) _ (by rw [List.length_drop, HL.out]) (rd_zero (by omega) (by simp [HL.out]; omega)) (by omega)).mono ?_); rintro e w10 ⟨A10, c10, rfl, hown10, hb10⟩)
    have HO10 := Lib.hid hown10
    clear hown10
    go_wp2_with (at_builtin; go_must (refine wpList_push slVecs rfl _ _ rfl w9.heap.size _ (n - (1 + r)) ((ss.drop (1 + r)).map slv) rfl HO10.out #[.slice A9 a.length c9] _ rfl rfl rfl (one_slv A9 a.length c9) (by unfold maxLen; omega) (by omega) hb10.size ?_); intro A11 c11 w11 hown11 hb11)
    obtain ⟨_, _, q1, q2, q3, _⟩ := own_form hown11
    injection q1 with q4 _ q5
    subst q4 q5
    have hb11' := hb10.trans hb11
    have hs := vecSum_any A11 (n - (1 + r) + 1) c11 (ss.drop (1 + r) ++ [(A9, a.length, c9)]) (zs.drop (1 + r) ++ [a]) _ (by rw [List.length_append, List.length_drop, HL.out]; rfl) (by omega) (by omega) q2 q3 (by rw [List.map_append]; exact Rd.of_own hown11) (RdV.snoc (((HV.out.kept k9).below hb11').drop _) rfl (R9.out.below hb11')) HZ2.out
    rw [HA.out.2.2.2] at hs
    have HSu := Lib.hid hs
    clear hown11 q2 q3 hs HZ2 hb10 hb11 HO10
    ((with_reducible refine HSu.out.mono ?_); rintro e w12 ⟨A12, c12, rfl, hown12, hb12⟩)
    have R12 := Lib.hid (Rd.of_own hown12)
    have k12 := (k9.call hb11').call hb12
    have j12 := (j9.call hb11').call hb12
    have l12 := (l9.call hb11').call hb12
    clear hb11' hb12 HSu hown12 k9 j9 l9
    go_wp2_with fail
    ((with_reducible refine (alive03_any _).mono ?_); rintro e w13 ⟨rfl, hb13⟩)
    go_wp2_with fail
    ((with_reducible refine (refSame_any A7 A3 s.length s.length c7 c3 s s _ rfl rfl ((R7.out.kept l12).below hb13) ((R3.out.kept j12).below hb13) (by omega) (by omega)).mono ?_); rintro e w14 ⟨rfl, hb14⟩)
    rw [decide_eq_true (rfl : s = s)]
    go_wp2_with fail
    ((with_reducible refine (refSame_any A12 A3 s.length s.length c12 c3 s s _ rfl rfl ((R12.out.below hb13).below hb14) (((R3.out.kept j12).below hb13).below hb14) (by omega) (by omega)).mono ?_); rintro e w15 ⟨rfl, hb15⟩)
    rw [decide_eq_true (rfl : s = s)]
    go_wp2
    go_ret
    exact ⟨rfl, (((k12.call hb13).call hb14).call hb15).2.2⟩
  · have hcr' : ¬ ((cap : Int) = 1 + (r : Int)) := by omega
    go_wp2_with fail
    ((with_reducible refine (given03_any (some ⟨b, o + (1 + r), none⟩) (n - (1 + r)) (cap - (1 + r)) (ss.drop (1 + r)) _ (by rw [List.length_drop, HL.out]) (by rw [List.map_drop]; exact (HR.out.kept k9).rest (by omega)) (by omega)).mono ?_); rintro e w10 ⟨A10, c10, rfl, hown10, hb10⟩)
    have HO10 := Lib.hid hown10
    clear hown10
    go_wp2_with (at_builtin; go_must (refine wpList_push slVecs rfl _ _ rfl w9.heap.size _ (n - (1 + r)) ((ss.drop (1 + r)).map slv) rfl HO10.out #[.slice A9 a.length c9] _ rfl rfl rfl (one_slv A9 a.length c9) (by unfold maxLen; omega) (by omega) hb10.size ?_); intro A11 c11 w11 hown11 hb11)
    obtain ⟨_, _, q1, q2, q3, _⟩ := own_form hown11
    injection q1 with q4 _ q5
    subst q4 q5
    have hb11' := hb10.trans hb11
    have hs := vecSum_any A11 (n - (1 + r) + 1) c11 (ss.drop (1 + r) ++ [(A9, a.length, c9)]) (zs.drop (1 + r) ++ [a]) _ (by rw [List.length_append, List.length_drop, HL.out]; rfl) (by omega) (by omega) q2 q3 (by rw [List.map_append]; exact Rd.of_own hown11) (RdV.snoc (((HV.out.kept k9).below hb11').drop _) rfl (R9.out.below hb11')) HZ2.out
    rw [HA.out.2.2.2] at hs
    have HSu := Lib.hid hs
    clear hown11 q2 q3 hs HZ2 hb10 hb11 HO10
    ((with_reducible refine HSu.out.mono ?_); rintro e w12 ⟨A12, c12, rfl, hown12, hb12⟩)
    have R12 := Lib.hid (Rd.of_own hown12)
    have k12 := (k9.call hb11').call hb12
    have j12 := (j9.call hb11').call hb12
    have l12 := (l9.call hb11').call hb12
    clear hb11' hb12 HSu hown12 k9 j9 l9
    go_wp2_with fail
    ((with_reducible refine (alive03_any _).mono ?_); rintro e w13 ⟨rfl, hb13⟩)
    go_wp2_with fail
    ((with_reducible refine (refSame_any A7 A3 s.length s.length c7 c3 s s _ rfl rfl ((R7.out.kept l12).below hb13) ((R3.out.kept j12).below hb13) (by omega) (by omega)).mono ?_); rintro e w14 ⟨rfl, hb14⟩)
    rw [decide_eq_true (rfl : s = s)]
    go_wp2_with fail
    ((with_reducible refine (refSame_any A12 A3 s.length s.length c12 c3 s s _ rfl rfl ((R12.out.below hb13).below hb14) (((R3.out.kept j12).below hb13).below hb14) (by omega) (by omega)).mono ?_); rintro e w15 ⟨rfl, hb15⟩)
    rw [decide_eq_true (rfl : s = s)]
    go_wp2
    go_ret
    exact ⟨rfl, (((k12.call hb13).call hb14).call hb15).2.2⟩

theorem sum_len (zs : List (List Int)) (s : List Int) (h0 : zs ≠ []) (hi : ∀ z ∈ zs, InV z) (hz : ∀ z ∈ zs, z.length ≤ 1500) (h : sumL zs = some s) : s.length ≤ 1500 := by
  obtain ⟨m, hm⟩ := sumL_same zs s h
  rw [sumL_is zs m h0 hi hm] at h
  injection h with h
  rw [← h, totW_length]
  cases zs with
  | nil => exact absurd rfl h0
  | cons z zs => rw [← hm z (by simp)]; exact hz z (by simp)

theorem vecSums_any (A : Option Addr) (n cap : Nat) (ss : List (Option Addr × Nat × Nat)) (zs : List (List Int)) (m : Int) (w : World) (hn : n ≤ 9223372036854775807 ∧ n ≤ cap ∧ cap ≤ 9223372036854775807) (hl : ss.length = n) (hs : ∀ s ∈ ss, s.2.1 ≤ 9223372036854775807) (h : Rd w 1 A n (ss.map slv)) (hv : RdV w ss zs) (hx : ∀ z ∈ zs, InV z) (hm : 0 ≤ m ∧ m ≤ 255) :
    Calls Try.prog 10 #[.slice A n cap, .int .u8 m] w fun e w' => e = .returned (.bool true) ∧ Below w.heap.size w w' := by
  by_cases hf : fewL (ss.map (·.2.1)) = true
  · obtain ⟨h60, heach⟩ := few_each _ hf
    rw [List.length_map, hl] at h60
    have hs' : ∀ s ∈ ss, s.2.1 ≤ 1500 := fun s h => heach s.2.1 (List.mem_map_of_mem h)
    have hz' : ∀ z ∈ zs, z.length ≤ 1500 := by
      intro z hz
      obtain ⟨i, hi, rfl⟩ := List.mem_iff_getElem.1 hz
      have hi' : i < ss.length := by rw [hv.1]; exact hi
      rw [(hv.2 i _ _ (List.getElem?_eq_getElem hi') (List.getElem?_eq_getElem hi)).1]
      exact hs' _ (List.getElem_mem hi')
    rcases Nat.eq_zero_or_pos n with h0 | h0
    · subst h0
      exact vecSums_nil A cap m w
    · have hz0 : zs ≠ [] := by intro e; have := hv.1; rw [e, hl] at this; simp at this; omega
      cases hsum : sumL zs with
      | none => exact vecSums_none A n cap m ss zs w h0 h60 hl hs' h hv (fun z h => Nat.le_trans (hz' z h) (by omega)) hx hf hsum
      | some s =>
        obtain ⟨k, rfl⟩ := Int.eq_ofNat_of_zero_le hm.1
        obtain ⟨b, o, rfl, _⟩ := h.2 h0
        exact vecSums_some b o n cap k ss zs s w (by omega) h0 h60 hn.2.1 hn.2.2 hl hs' h hv hz' hx hf hsum (sum_len zs s hz0 hx hz' hsum)
  · exact vecSums_not A n cap m ss w hn.1 hl hs h (by simpa using hf)

end Go.Proofs.Ythbkmhdoakpjgaa
