/-
  The reference's plans: group.
-/
import Derived.Test.YtkecpbdgcbgogaaPlanRef2
namespace Go.Proofs.Ytkecpbdgcbgogaa
set_option linter.unusedVariables false
set_option linter.unusedSimpArgs false
set_option maxRecDepth 100000
open Go.RowKit

/-- A row of items of the reference, laid behind base. -/
def RSt (base : Nat) (L : List RItem) (v : Value) (w : World) : Prop := ∃ A0 c0 n, L.length = n ∧ v = .slice A0 n c0 ∧ w.ownsRow base 87 12 (.slice A0 n c0) n (itemsV L)
theorem RSt.call {base : Nat} {L : List RItem} {v : Value} {w w' : World} (h : RSt base L v w) (hb : Below w.heap.size w w') : RSt base L v w' := by
  obtain ⟨A0, c0, n, h0, h1, h2⟩ := h
  exact ⟨A0, c0, n, h0, h1, own_below h2 hb⟩
abbrev KJ (base : Nat) (w w' : World) : Prop := Stay 87 87 w w' ∧ Below base w w'
theorem KJ.refl (base : Nat) (w : World) : KJ base w w := ⟨Stay.refl _ _ _, Below.refl _ _⟩
theorem KJ.trans {base : Nat} {a b c : World} (h : KJ base a b) (k : KJ base b c) : KJ base a c := ⟨h.1.trans k.1, h.2.trans k.2⟩
theorem KJ.call {base : Nat} {w w' : World} (h : Below w.heap.size w w') (hb : base ≤ w.heap.size) : KJ base w w' := ⟨Stay.of_below h, h.mono hb⟩
theorem KJ.blk {base g : Nat} {w w' : World} {e : TypeId} {cs : Array Value} (h : KJ base w w') (hb : Blk w g e cs) (h1 : e ≠ 87) : Blk w' g e cs := h.1 g e cs h1 h1 hb
theorem RSt.push {base n : Nat} {L : List RItem} {A0 A' : Option Addr} {c0 c' : Nat} {w w' : World} (y : RItem) (hn : L.length = n) (hown : w.ownsRow base 87 12 (.slice A0 n c0) n (itemsV L))
    (h : w'.ownsRow base 87 12 (.slice A' (n + 1) c') (n + 1) (itemsV L ++ (itemV y).toArray.toList)) (hb : Below base w w') (hg : w.grownBy w' (Value.slice A0 n c0).ownBlock) :
    RSt base (L ++ [y]) (.slice A' (n + 1) c') w' ∧ KJ base w w' := by
  refine ⟨⟨A', c', n + 1, by rw [List.length_append, hn]; rfl, rfl, ?_⟩, Stay.of_own' hown hg, hb⟩
  rw [itemsV_append, itemsV_one]
  exact h
theorem plain_ones (k t j : Int) : ∀ u ∈ (#[.int .i64 k, .int .i64 t, .int .i64 j, .bool false, .bool false, .int .i64 0, .int .i64 0, .int .i64 0, .int .i64 0, .int .i64 0, .int .i64 0, .int .i64 0] : Array Value).toList, u.oneCell' = true := itemV_cells ((k, t, j), zeroA)
theorem RSt.pushP {base n : Nat} {L : List RItem} {A0 A' : Option Addr} {c0 c' : Nat} {w w' : World} (k t j : Int) (hn : L.length = n) (hown : w.ownsRow base 87 12 (.slice A0 n c0) n (itemsV L))
    (h : w'.ownsRow base 87 12 (.slice A' (n + 1) c') (n + 1) (itemsV L ++ (#[.int .i64 k, .int .i64 t, .int .i64 j, .bool false, .bool false, .int .i64 0, .int .i64 0, .int .i64 0, .int .i64 0, .int .i64 0, .int .i64 0, .int .i64 0] : Array Value).toList)) (hb : Below base w w') (hg : w.grownBy w' (Value.slice A0 n c0).ownBlock) :
    RSt base (L ++ [plainI k t j]) (.slice A' (n + 1) c') w' ∧ KJ base w w' := RSt.push (plainI k t j) hn hown h hb hg
theorem act_ones (kd t : Int) (sd ad : Bool) (s b p r i x y : Int) : ∀ u ∈ (#[.int .i64 kd, .int .i64 t, .int .i64 0, .bool sd, .bool ad, .int .i64 s, .int .i64 b, .int .i64 p, .int .i64 r, .int .i64 i, .int .i64 x, .int .i64 y] : Array Value).toList, u.oneCell' = true := itemV_cells ((kd, t, 0), ((sd, ad), (s, b, p, r, i), (x, y)))
theorem RSt.pushA {base n : Nat} {L : List RItem} {A0 A' : Option Addr} {c0 c' : Nat} {w w' : World} (kd t : Int) (sd ad : Bool) (s b p r i x y : Int) (hn : L.length = n) (hown : w.ownsRow base 87 12 (.slice A0 n c0) n (itemsV L))
    (h : w'.ownsRow base 87 12 (.slice A' (n + 1) c') (n + 1) (itemsV L ++ (#[.int .i64 kd, .int .i64 t, .int .i64 0, .bool sd, .bool ad, .int .i64 s, .int .i64 b, .int .i64 p, .int .i64 r, .int .i64 i, .int .i64 x, .int .i64 y] : Array Value).toList)) (hb : Below base w w') (hg : w.grownBy w' (Value.slice A0 n c0).ownBlock) :
    RSt base (L ++ [((kd, t, 0), ((sd, ad), (s, b, p, r, i), (x, y)))]) (.slice A' (n + 1) c') w' ∧ KJ base w w' := RSt.push ((kd, t, 0), ((sd, ad), (s, b, p, r, i), (x, y))) hn hown h hb hg

section
variable (pc : PlC) (c : Cfg) (A : Option Addr) (n cap : Nat) (P : Int) (x t : Int) (lo hi base : Nat) (L : List RItem) (v : Value) (w : World)

set_option maxHeartbeats 8000000 in
theorem refGroup20_any (hp : pc.Ok) (hf : Fits pc c) (hP : P = pc.P) (hlo : lo ≤ hi) (hhi : hi ≤ pc.nb) (hst : RSt base L v w) (hL : L.length ≤ 200000000) (hbase : base ≤ w.heap.size) :
    Calls Try.prog 65 #[v, rplV A n cap c P, .int .i64 x, .int .i64 t, .agg #[.int .i64 lo, .int .i64 hi]] w fun e w' => ∃ v', e = .returned v' ∧ RSt base (L ++ pc.groupI x t lo (hi - lo)) v' w' ∧ KJ base w w' := by
  have HJob := Lib.hid (fun j a b W (h : pc.bks[j]? = some (a, b)) => refJob20_any pc c A n cap P t W hp hf hP j a b h)
  obtain ⟨hwk, hch, hmi, hwi, hbu, hs0, hs1⟩ := hf
  obtain ⟨sh, ra, mo, wk, ba, mi, st, bu, ch, wi, ca⟩ := c
  simp only at hwk hch hmi hwi hbu hs0 hs1
  subst hwk
  obtain ⟨m, hm⟩ : ∃ m, pc.m = m := ⟨_, rfl⟩
  obtain ⟨chp, hchp⟩ : ∃ ch, pc.ch = ch := ⟨_, rfl⟩
  obtain ⟨M, hM⟩ : ∃ M, m - 1 = M := ⟨_, rfl⟩
  have hm1 := hp.m1
  have hm2 := hp.m2
  have hc2 := hp.c2
  have hp2 := hp.p2
  have hnb2 := PlC.nb_le hp
  have HGI : Hid (pc.groupI x t lo (hi - lo) = rangeI 2 t lo (hi - lo) ++ pc.rndI x t lo (hi - lo) (2 * M) ++ rangeI 5 t lo (hi - lo)) := Lib.hid (by rw [← hM, ← hm]; rfl)
  have HRS : Hid (∀ q : Nat, pc.rndI x t lo (hi - lo) (q + 1) = pc.rndI x t lo (hi - lo) q ++ pc.jobsI x t lo (hi - lo) ((q / M : Nat) : Int) ((q % M : Nat) : Int)) := Lib.hid (fun q => by rw [← hM, ← hm]; exact pc.rndI_succ x t lo (hi - lo) q)
  have HJA : Hid (∀ (j : Nat) (p r a b : Int), pc.bks[j]? = some (a, b) → pc.jobI x t j p r = (rY t j a b m chp x p r).map (actI t)) := Lib.hid (fun j p r a b h => by rw [jobI_at h, hm, hchp])
  have HJL : Hid (∀ (k : Nat) (p r : Int), (pc.jobsI x t lo k p r).length ≤ k * 2000) := Lib.hid (fun k p r => pc.jobsI_le hp x t lo k p r)
  have HRL : Hid (∀ q : Nat, (pc.rndI x t lo (hi - lo) q).length ≤ q * ((hi - lo) * 2000)) := Lib.hid (fun q => pc.rndI_le hp x t lo (hi - lo) q)
  have HBI : Hid (∀ (j : Nat) (a b : Int), pc.bks[j]? = some (a, b) → 0 ≤ a ∧ a ≤ b ∧ b ≤ 60) := Lib.hid (fun j a b h => by have := PlC.bks_in h; simp only at this; omega)
  have HAT : Hid (∀ j, j < pc.nb → ∃ a b, pc.bks[j]? = some (a, b)) := Lib.hid (fun j h => ⟨_, _, List.getElem?_eq_getElem (by rw [pc.bks_length]; exact h)⟩)
  have HNB := Lib.hid hhi
  have h60 : hi ≤ 60 := by omega
  rw [hm] at hm1 hm2 HJob
  rw [hchp] at hc2 HJob
  rw [hm]
  have hMm : (m : Int) - 1 = (M : Int) := by omega
  have zm : IntKind.i64.wrap ((m : Int) - 1) = (M : Int) := by rw [hMm]; exact wrap_ok _ (by omega) (by omega)
  have hM7 : M ≤ 7 := by omega
  obtain ⟨w0, hw0⟩ : ∃ w0, (w.alloc (.cells (rplC A n cap ⟨sh, ra, mo, m, ba, mi, st, bu, ch, wi, ca⟩ P) 60)).alloc (.cells #[.int .i64 lo, .int .i64 hi] 23) = w0 := ⟨_, rfl⟩
  have hB0 : Below w.heap.size w w0 := by rw [← hw0]; exact ((Below.refl _ _).alloc (Nat.le_refl _) _).alloc (by simp) _
  have hS0 : Blk w0 w.heap.size 60 (rplC A n cap ⟨sh, ra, mo, m, ba, mi, st, bu, ch, wi, ca⟩ P) := by rw [← hw0]; exact (Blk.new _ _ _).alloc _
  have hG0 : Blk w0 (w.heap.size + 1) 23 #[.int .i64 lo, .int .i64 hi] := by rw [← hw0]; exact Blk.new' _ _ (by simp)
  have HW0 := Lib.hid hw0
  have HST0 := Lib.hid (hst.call hB0)
  have HB0 := Lib.hid hB0
  have hz0 : base ≤ w0.heap.size := Nat.le_trans hbase hB0.size
  obtain ⟨A0, c0, n0, -, hv, -⟩ := hst
  subst hv
  have HMM := Lib.hid hM
  clear hm hchp hp hp2 hM hMm hhi hnb2 hbu hwi hmi hch hs0 hs1 hw0 hB0 hP
  go_enter Try.func65, Try.ntmps65
  go_wp2_with fail
  rw [HW0.out]
  obtain ⟨pb, hpb⟩ : ∃ pb, w.heap.size = pb := ⟨_, rfl⟩
  rw [hpb] at hS0 hG0 ⊢
  have HS0 := Lib.hid hS0
  have HG0 := Lib.hid hG0
  have g0 : w0.cell? ⟨pb + 1, 0, none⟩ = some (.int .i64 lo) := hG0.cell 0
  have lg := hG0.lt
  clear hS0 hG0 hpb HW0
  go_wp2_with fail
  clear g0 lg
  go_loopw [0, 11] (fun v u wr => ∃ j : Nat, lo ≤ j ∧ j ≤ hi ∧ u = .int .i64 j ∧ RSt base (L ++ rangeI 2 t lo (j - lo)) v wr ∧ KJ base w0 wr) (fun _ u _ => hi - (intOf u).toNat)
  case atStart => exact ⟨lo, by omega, hlo, rfl, by rw [Nat.sub_self]; simpa [rangeI] using HST0.out, KJ.refl _ _⟩
  case round =>
    obtain ⟨j, hj1, hj2, rfl, hst, hk⟩ := hrel
    have HGb := Lib.hid (hk.blk HG0.out (by decide))
    have g1 : wr.cell? ⟨pb + 1, 1, none⟩ = some (.int .i64 hi) := HGb.out.cell 1
    have lg := HGb.out.lt
    obtain ⟨A1, c1, n1, hn1, rfl, hown⟩ := hst
    have HN1 := Lib.hid hn1
    have hn1l : n1 ≤ 200000060 := by rw [← hn1, List.length_append, rangeI_length]; omega
    have HOW := Lib.hid hown
    have HK := Lib.hid hk
    have hzr : base ≤ wr.heap.size := Nat.le_trans hz0 hk.2.size
    by_cases hjlt : j < hi
    · skip
      have i1 : (j : Int) < (hi : Int) := by omega
      clear hown hk hn1
      go_wp2_with (at_builtin; go_must (refine wpList_pushL slRItem rfl _ _ rfl base (.slice A1 n1 c1) n1 (itemsV (L ++ rangeI 2 t lo (j - lo))) rfl HOW.out #[.int .i64 2, .int .i64 t, .int .i64 j, .bool false, .bool false, .int .i64 0, .int .i64 0, .int .i64 0, .int .i64 0, .int .i64 0, .int .i64 0, .int .i64 0] wr.heap.size rfl rfl rfl (plain_ones 2 t j) (by unfold maxLen; omega) (by omega) hzr ?_); intro A2 c2 w2 hown2 hb2 hg2 _)
      obtain ⟨hst2, hk2⟩ := RSt.pushP 2 t j HN1.out HOW.out hown2 hb2 hg2
      have HST2 := Lib.hid hst2
      have HK2 := Lib.hid (HK.out.trans hk2)
      clear hown2 hb2 hg2 hst2 hk2
      go_wp2_with fail
      go_roundw
      case rel => exact ⟨j + 1, by omega, by omega, by go_num, by rw [show j + 1 - lo = (j - lo) + 1 by omega, rangeI_succ, show lo + (j - lo) = j by omega, ← List.append_assoc]; exact HST2.out, HK2.out⟩
      case measure => simp [intOf]; omega
    · obtain rfl : j = hi := by omega
      obtain ⟨L1, hL1⟩ : ∃ L1, L ++ rangeI 2 t lo (j - lo) = L1 := ⟨_, rfl⟩
      rw [hL1] at HOW HN1
      have HL1 := Lib.hid hL1
      have HST1 : Hid (RSt base L1 (.slice A1 n1 c1) wr) := Lib.hid ⟨A1, c1, n1, HN1.out, rfl, HOW.out⟩
      clear hL1 hown hk hn1
      go_wp2_with fail
      clear g1 lg HGb
      obtain ⟨w1, hw1⟩ : ∃ w1 : World, w1 = wr := ⟨_, rfl⟩
      subst hw1
      have hL1l : L1.length ≤ 200000060 := by rw [HN1.out]; omega
      go_loopw [0, 12] (fun v u wr => ∃ q : Nat, q ≤ 2 ∧ u = .int .i64 q ∧ RSt base (L1 ++ pc.rndI x t lo (j - lo) (q * M)) v wr ∧ KJ base w0 wr) (fun _ u _ => 2 - (intOf u).toNat)
      case atStart => exact ⟨0, by omega, rfl, by rw [Nat.zero_mul]; simpa [PlC.rndI] using HST1.out, HK.out⟩
      case round =>
        obtain ⟨q, hq, rfl, hst, hk⟩ := hrel
        obtain ⟨A2, c2, n2, hn2, rfl, hown⟩ := hst
        have HN2 := Lib.hid hn2
        have HOW2 := Lib.hid hown
        have HK2 := Lib.hid hk
        have HST2 : Hid (RSt base (L1 ++ pc.rndI x t lo (j - lo) (q * M)) (.slice A2 n2 c2) wr) := Lib.hid ⟨A2, c2, n2, hn2, rfl, hown⟩
        have hzr2 : base ≤ wr.heap.size := Nat.le_trans hz0 hk.2.size
        clear hn2 hown hk
        by_cases hq2 : q < 2
        · have dq : decide ((q : Int) < 2) = true := decide_eq_true (by omega)
          go_wp2_with fail
          obtain ⟨w2, hw2⟩ : ∃ w2 : World, w2 = wr := ⟨_, rfl⟩
          subst hw2
          go_loopw [0, 13] (fun v u wr => ∃ r : Nat, r ≤ M ∧ u = .int .i64 r ∧ RSt base (L1 ++ pc.rndI x t lo (j - lo) (q * M + r)) v wr ∧ KJ base w0 wr) (fun _ u _ => M - (intOf u).toNat)
          case atStart => exact ⟨0, by omega, rfl, HST2.out, HK2.out⟩
          case round =>
            obtain ⟨r, hr, rfl, hst, hk⟩ := hrel
            obtain ⟨A3, c3, n3, hn3, rfl, hown⟩ := hst
            have HS3 := Lib.hid (hk.blk HS0.out (by decide))
            have HG3 := Lib.hid (hk.blk HG0.out (by decide))
            have s4 : wr.cell? ⟨pb, 4, none⟩ = some (.int .i64 m) := HS3.out.cell 4
            have ls := HS3.out.lt
            have g0 : wr.cell? ⟨pb + 1, 0, none⟩ = some (.int .i64 lo) := HG3.out.cell 0
            have lg := HG3.out.lt
            have HK3 := Lib.hid hk
            have HST3 : Hid (RSt base (L1 ++ pc.rndI x t lo (j - lo) (q * M + r)) (.slice A3 n3 c3) wr) := Lib.hid ⟨A3, c3, n3, hn3, rfl, hown⟩
            have hzr3 : base ≤ wr.heap.size := Nat.le_trans hz0 hk.2.size
            clear hn3 hown hk
            by_cases hrM : r < M
            · have dr : decide ((r : Int) < (M : Int)) = true := decide_eq_true (by omega)
              have hqm : q * M + r ≤ 14 := by have : q * M ≤ 1 * M := Nat.mul_le_mul_right M (by omega); omega
              have hqml : (q * M + r) * ((j - lo) * 2000) ≤ 14 * 120000 := Nat.mul_le_mul hqm (by omega)
              have HSu := HRS.out (q * M + r)
              have e1 : (q * M + r) / M = q := by rw [Nat.mul_comm, Nat.mul_add_div (by omega), Nat.div_eq_of_lt hrM, Nat.add_zero]
              have e2 : (q * M + r) % M = r := by rw [Nat.mul_comm, Nat.mul_add_mod, Nat.mod_eq_of_lt hrM]
              rw [e1, e2] at HSu
              have hrl := HRL.out (q * M + r)
              obtain ⟨L3, hL3⟩ : ∃ L3, L1 ++ pc.rndI x t lo (j - lo) (q * M + r) = L3 := ⟨_, rfl⟩
              have hL3l : L3.length ≤ 202000000 := by rw [← hL3, List.length_append]; omega
              rw [hL3] at HST3
              have HL3 := Lib.hid hL3
              replace HSu := Lib.hid HSu
              have HJ0 : Hid (pc.jobsI x t lo 0 (q : Int) (r : Int) = []) := Lib.hid rfl
              clear e1 e2 hL3 hrl hqml
              go_wp2_with fail
              clear g0 lg s4 ls
              obtain ⟨w3, hw3⟩ : ∃ w3 : World, w3 = wr := ⟨_, rfl⟩
              subst hw3
              go_loopw [0, 14] (fun v u wr => ∃ i : Nat, lo ≤ i ∧ i ≤ j ∧ u = .int .i64 i ∧ RSt base (L3 ++ pc.jobsI x t lo (i - lo) (q : Int) (r : Int)) v wr ∧ KJ base w0 wr) (fun _ u _ => j - (intOf u).toNat)
              case atStart => exact ⟨lo, by omega, hlo, rfl, by rw [Nat.sub_self, HJ0.out, List.append_nil]; exact HST3.out, HK3.out⟩
              case round =>
                obtain ⟨i, hi1, hi2, rfl, hst, hk⟩ := hrel
                obtain ⟨A4, c4, n4, hn4, rfl, hown⟩ := hst
                have HS4 := Lib.hid (hk.blk HS0.out (by decide))
                have HG4 := Lib.hid (hk.blk HG0.out (by decide))
                have g1 : wr.cell? ⟨pb + 1, 1, none⟩ = some (.int .i64 j) := HG4.out.cell 1
                have lg := HG4.out.lt
                have HK4 := Lib.hid hk
                have HST4 : Hid (RSt base (L3 ++ pc.jobsI x t lo (i - lo) (q : Int) (r : Int)) (.slice A4 n4 c4) wr) := Lib.hid ⟨A4, c4, n4, hn4, rfl, hown⟩
                have hzr4 : base ≤ wr.heap.size := Nat.le_trans hz0 hk.2.size
                have HN4 := Lib.hid hn4
                clear hown hk
                by_cases hij : i < j
                · have di : decide ((i : Int) < (j : Int)) = true := decide_eq_true (by omega)
                  obtain ⟨a, b, hab⟩ := HAT.out i (by have := HNB.out; omega)
                  obtain ⟨ha0, hab1, hb60⟩ := HBI.out i a b hab
                  have HJb := Lib.hid (fun W => HJob.out i a b W hab)
                  have HJAj := HJA.out i (q : Int) (r : Int) a b hab
                  have HRj := fun W => refRoundY_any t i a b m chp x q r W ha0 hab1 (by omega) (by omega) (by omega) (by omega)
                  have hle := rY_le t i a b m chp x q r ha0 hab1 (by omega) (by omega)
                  obtain ⟨R, hR⟩ : ∃ R, rY t i a b m chp x q r = R := ⟨_, rfl⟩
                  rw [hR] at HRj hle HJAj
                  obtain ⟨nr, hnr⟩ : ∃ nr, R.length = nr := ⟨_, rfl⟩
                  rw [hnr] at HRj hle
                  have HNR := Lib.hid hnr
                  have hjl := HJL.out (i - lo) (q : Int) (r : Int)
                  have HJS : Hid (pc.jobsI x t lo (i + 1 - lo) (q : Int) (r : Int) = pc.jobsI x t lo (i - lo) (q : Int) (r : Int) ++ R.map (actI t)) := Lib.hid (by
                    rw [show i + 1 - lo = (i - lo) + 1 by omega, pc.jobsI_succ, show lo + (i - lo) = i by omega, HJAj])
                  obtain ⟨L4, hL4⟩ : ∃ L4, L3 ++ pc.jobsI x t lo (i - lo) (q : Int) (r : Int) = L4 := ⟨_, rfl⟩
                  have hL4l : L4.length ≤ 203000000 := by rw [← hL4, List.length_append]; omega
                  rw [hL4] at HST4 HN4
                  have HL4 := Lib.hid hL4
                  have HRJ := Lib.hid HRj
                  have s0 : wr.cell? ⟨pb, 0, none⟩ = some (.slice A n cap) := HS4.out.cell 0
                  have s1 : wr.cell? ⟨pb, 1, none⟩ = some (.int .i64 sh) := HS4.out.cell 1
                  have s2 : wr.cell? ⟨pb, 2, none⟩ = some (.int .i64 ra) := HS4.out.cell 2
                  have s3 : wr.cell? ⟨pb, 3, none⟩ = some (.int .i64 mo) := HS4.out.cell 3
                  have s4 : wr.cell? ⟨pb, 4, none⟩ = some (.int .i64 m) := HS4.out.cell 4
                  have s5 : wr.cell? ⟨pb, 5, none⟩ = some (.int .i64 ba) := HS4.out.cell 5
                  have s6 : wr.cell? ⟨pb, 6, none⟩ = some (.int .i64 mi) := HS4.out.cell 6
                  have s7 : wr.cell? ⟨pb, 7, none⟩ = some (.int .i64 st) := HS4.out.cell 7
                  have s8 : wr.cell? ⟨pb, 8, none⟩ = some (.int .i64 bu) := HS4.out.cell 8
                  have s9 : wr.cell? ⟨pb, 9, none⟩ = some (.int .i64 ch) := HS4.out.cell 9
                  have s10 : wr.cell? ⟨pb, 10, none⟩ = some (.int .i64 wi) := HS4.out.cell 10
                  have s11 : wr.cell? ⟨pb, 11, none⟩ = some (.int .i64 ca) := HS4.out.cell 11
                  have s12 : wr.cell? ⟨pb, 12, none⟩ = some (.int .i64 P) := HS4.out.cell 12
                  have ls := HS4.out.lt
                  clear hab hR hnr hjl hL4 HRj HJAj hn4
                  go_wp2_with fail
                  ((with_reducible refine (HJb.out _).mono ?_); rintro e w4 ⟨rfl, hb4⟩)
                  have HB4 := Lib.hid hb4
                  clear s0 s1 s2 s3 s4 s5 s6 s7 s8 s9 s10 s11 s12 ls g1 lg hb4
                  go_wp2_with fail
                  ((with_reducible refine (HRJ.out _).mono ?_); rintro e w5 ⟨A5, c5, rfl, hown5, hb5⟩)
                  have HR5 := Lib.hid hown5
                  have hb45 : Below wr.heap.size wr w5 := HB4.out.trans (hb5.mono HB4.out.size)
                  have HST5 := Lib.hid (HST4.out.call hb45)
                  have HK5 := Lib.hid (HK4.out.trans (KJ.call hb45 hzr4))
                  have hz5 : base ≤ w5.heap.size := Nat.le_trans hzr4 hb45.size
                  clear hown5 hb5 hb45
                  go_wp2_with fail
                  obtain ⟨wz, hwz⟩ : ∃ wz : World, wz = wr := ⟨_, rfl⟩
                  clear HB4
                  go_loopw [0, 16] (fun v z wr => ∃ u : Nat, u ≤ nr ∧ z = .int .i64 u ∧ RSt base (L4 ++ (R.take u).map (actI t)) v wr ∧ KJ base w5 wr) (fun _ z _ => nr - (intOf z).toNat)
                  case atStart => exact ⟨0, by omega, rfl, by simpa using HST5.out, KJ.refl _ _⟩
                  case round =>
                    obtain ⟨u, hu, rfl, hst6, hk6⟩ := hrel
                    obtain ⟨A6, c6, n6, hn6, rfl, hown6⟩ := hst6
                    have HN6 := Lib.hid hn6
                    have HOW6 := Lib.hid hown6
                    have HK6 := Lib.hid hk6
                    have hzr6 : base ≤ wr.heap.size := Nat.le_trans hz5 hk6.2.size
                    have hn6l : n6 ≤ 204000000 := by
                      rw [← hn6, List.length_append, List.length_map, List.length_take]
                      omega
                    by_cases hult : u < nr
                    · obtain ⟨g2, o2, sd, ad, s, bk, p, r2, e, xx, yy, rfl, hg2, hR2, a0, a1, a2, a3, a4, a5, a6, a7, a8⟩ := act_cells HNR.out (Rd.of_own (hk6.1.own hk6.2.size HR5.out (by decide) (by decide))) hult
                      have i5 : (u : Int) < (nr : Int) := by omega
                      have i6 : (0 : Int) ≤ (u : Int) := by omega
                      have HTK : Hid ((R.take (u + 1)).map (actI t) = (R.take u).map (actI t) ++ [actI t ((sd, ad), (s, bk, p, r2, e), (xx, yy))]) := Lib.hid (by
                        have hlt' : u < R.length := by rw [HNR.out]; exact hult
                        rw [take_snoc _ _ hlt', List.map_append]
                        rw [List.getElem?_eq_getElem hlt'] at hR2
                        injection hR2 with hR2
                        rw [hR2]; rfl)
                      clear hn6 hown6 hk6 hR2
                      cases sd
                      · skip
                        go_wp2_with (at_builtin; go_must (refine wpList_pushL slRItem rfl _ _ rfl base (.slice A6 n6 c6) n6 (itemsV (L4 ++ (R.take u).map (actI t))) rfl HOW6.out #[.int .i64 4, .int .i64 t, .int .i64 0, .bool false, .bool ad, .int .i64 s, .int .i64 bk, .int .i64 p, .int .i64 r2, .int .i64 e, .int .i64 xx, .int .i64 yy] wr.heap.size rfl rfl rfl (act_ones 4 t false ad s bk p r2 e xx yy) (by unfold maxLen; omega) (by omega) hzr6 ?_); intro A7 c7 w7 hown7 hb7 hg7 _)
                        obtain ⟨hst7, hk7⟩ := RSt.pushA 4 t false ad s bk p r2 e xx yy HN6.out HOW6.out hown7 hb7 hg7
                        have HST7 := Lib.hid hst7
                        have HK7 := Lib.hid (HK6.out.trans hk7)
                        clear hown7 hb7 hg7 hst7 hk7
                        go_wp2_with fail
                        go_roundw
                        case rel => exact ⟨u + 1, by omega, by go_num, by rw [HTK.out, ← List.append_assoc]; exact HST7.out, HK7.out⟩
                        case measure => simp [intOf]; omega
                      · skip
                        go_wp2_with (at_builtin; go_must (refine wpList_pushL slRItem rfl _ _ rfl base (.slice A6 n6 c6) n6 (itemsV (L4 ++ (R.take u).map (actI t))) rfl HOW6.out #[.int .i64 3, .int .i64 t, .int .i64 0, .bool true, .bool ad, .int .i64 s, .int .i64 bk, .int .i64 p, .int .i64 r2, .int .i64 e, .int .i64 xx, .int .i64 yy] wr.heap.size rfl rfl rfl (act_ones 3 t true ad s bk p r2 e xx yy) (by unfold maxLen; omega) (by omega) hzr6 ?_); intro A7 c7 w7 hown7 hb7 hg7 _)
                        obtain ⟨hst7, hk7⟩ := RSt.pushA 3 t true ad s bk p r2 e xx yy HN6.out HOW6.out hown7 hb7 hg7
                        have HST7 := Lib.hid hst7
                        have HK7 := Lib.hid (HK6.out.trans hk7)
                        clear hown7 hb7 hg7 hst7 hk7
                        go_wp2_with fail
                        go_roundw
                        case rel => exact ⟨u + 1, by omega, by go_num, by rw [HTK.out, ← List.append_assoc]; exact HST7.out, HK7.out⟩
                        case measure => simp [intOf]; omega
                    · obtain rfl : u = nr := by omega
                      have HTA : Hid (R.take u = R) := Lib.hid (List.take_of_length_le (by rw [HNR.out]; omega))
                      have HST6 : Hid (RSt base (L4 ++ (R.take u).map (actI t)) (.slice A6 n6 c6) wr) := Lib.hid ⟨A6, c6, n6, hn6, rfl, hown6⟩
                      clear hn6 hown6 hk6
                      go_wp2_with fail
                      go_roundw
                      case rel => exact ⟨i + 1, by omega, by omega, by go_num, by rw [HJS.out, ← List.append_assoc, HL4.out, ← HTA.out]; exact HST6.out, HK5.out.trans HK6.out⟩
                      case measure => simp [intOf]; omega
                · obtain rfl : i = j := by omega
                  have di : decide ((i : Int) < (i : Int)) = false := decide_eq_false (by omega)
                  clear hn4
                  go_wp2_with fail
                  go_roundw
                  case rel => exact ⟨r + 1, by omega, by go_num, by rw [← Nat.add_assoc, HSu.out, ← List.append_assoc, HL3.out]; exact HST4.out, HK4.out⟩
                  case measure => simp [intOf]; omega
            · obtain rfl : r = M := by omega
              have dr : decide ((r : Int) < (r : Int)) = false := decide_eq_false (by omega)
              clear g0 lg
              go_wp2_with fail
              go_roundw
              case rel => exact ⟨q + 1, by omega, by go_num, by rw [Nat.add_mul, Nat.one_mul]; exact HST3.out, HK3.out⟩
              case measure => simp [intOf]; omega
        · obtain rfl : q = 2 := by omega
          have HG2 := Lib.hid (HK2.out.blk HG0.out (by decide))
          have g0 : wr.cell? ⟨pb + 1, 0, none⟩ = some (.int .i64 lo) := HG2.out.cell 0
          have lg := HG2.out.lt
          go_wp2_with fail
          clear g0 lg
          obtain ⟨w2, hw2⟩ : ∃ w2 : World, w2 = wr := ⟨_, rfl⟩
          subst hw2
          have hrl := HRL.out (2 * M)
          have hrl2 : 2 * M * ((j - lo) * 2000) ≤ 14 * 120000 := Nat.mul_le_mul (by omega) (by omega)
          obtain ⟨L3, hL3⟩ : ∃ L3, L1 ++ pc.rndI x t lo (j - lo) (2 * M) = L3 := ⟨_, rfl⟩
          have hL3l : L3.length ≤ 202000000 := by rw [← hL3, List.length_append]; omega
          rw [hL3] at HST2
          have HFI : Hid (L ++ pc.groupI x t lo (j - lo) = L3 ++ rangeI 5 t lo (j - lo)) := Lib.hid (by rw [HGI.out, ← List.append_assoc, ← List.append_assoc, HL1.out, hL3])
          clear hL3 hrl hrl2
          go_loopw [0, 18] (fun v u wr => ∃ i : Nat, lo ≤ i ∧ i ≤ j ∧ u = .int .i64 i ∧ RSt base (L3 ++ rangeI 5 t lo (i - lo)) v wr ∧ KJ base w0 wr) (fun _ u _ => j - (intOf u).toNat)
          case atStart => exact ⟨lo, by omega, hlo, rfl, by rw [Nat.sub_self]; simpa [rangeI] using HST2.out, HK2.out⟩
          case round =>
            obtain ⟨i, hi1, hi2, rfl, hst, hk⟩ := hrel
            have HGb := Lib.hid (hk.blk HG0.out (by decide))
            have g1 : wr.cell? ⟨pb + 1, 1, none⟩ = some (.int .i64 j) := HGb.out.cell 1
            have lg := HGb.out.lt
            obtain ⟨A4, c4, n4, hn4, rfl, hown⟩ := hst
            have HN4 := Lib.hid hn4
            have hn4l : n4 ≤ 202000060 := by rw [← hn4, List.length_append, rangeI_length]; omega
            have HOW4 := Lib.hid hown
            have HK4 := Lib.hid hk
            have hzr4 : base ≤ wr.heap.size := Nat.le_trans hz0 hk.2.size
            by_cases hij : i < j
            · have i1 : (i : Int) < (j : Int) := by omega
              clear hown hk hn4
              go_wp2_with (at_builtin; go_must (refine wpList_pushL slRItem rfl _ _ rfl base (.slice A4 n4 c4) n4 (itemsV (L3 ++ rangeI 5 t lo (i - lo))) rfl HOW4.out #[.int .i64 5, .int .i64 t, .int .i64 i, .bool false, .bool false, .int .i64 0, .int .i64 0, .int .i64 0, .int .i64 0, .int .i64 0, .int .i64 0, .int .i64 0] wr.heap.size rfl rfl rfl (plain_ones 5 t i) (by unfold maxLen; omega) (by omega) hzr4 ?_); intro A5 c5 w5 hown5 hb5 hg5 _)
              obtain ⟨hst5, hk5⟩ := RSt.pushP 5 t i HN4.out HOW4.out hown5 hb5 hg5
              have HST5 := Lib.hid hst5
              have HK5 := Lib.hid (HK4.out.trans hk5)
              clear hown5 hb5 hg5 hst5 hk5
              go_wp2_with fail
              go_roundw
              case rel => exact ⟨i + 1, by omega, by omega, by go_num, by rw [show i + 1 - lo = (i - lo) + 1 by omega, rangeI_succ, show lo + (i - lo) = i by omega, ← List.append_assoc]; exact HST5.out, HK5.out⟩
              case measure => simp [intOf]; omega
            · obtain rfl : i = j := by omega
              have HST5 : Hid (RSt base (L3 ++ rangeI 5 t lo (i - lo)) (.slice A4 n4 c4) wr) := Lib.hid ⟨A4, c4, n4, hn4, rfl, hown⟩
              clear hown hk hn4
              go_wp2_with fail
              go_ret
              exact ⟨_, rfl, by rw [HFI.out]; exact HST5.out, (KJ.call HB0.out hbase).trans HK4.out⟩
end

end Go.Proofs.Ytkecpbdgcbgogaa
