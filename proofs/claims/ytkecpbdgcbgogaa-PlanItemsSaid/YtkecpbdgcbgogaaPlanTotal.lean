/-
  The methods of a plan: Total.
-/
import Derived.Test.YtkecpbdgcbgogaaPlanMeth2
namespace Go.Proofs.Ytkecpbdgcbgogaa
set_option linter.unusedVariables false
set_option linter.unusedSimpArgs false
set_option maxRecDepth 100000
open Go.RowKit

def PlC.msgI (pc : PlC) (x : Int × Int) : Nat := msgsF pc.ch (segsL x.1 x.2 pc.m)
def PlC.totL (pc : PlC) (k : Nat) : Nat := pc.m * (pc.mi + 2 * pc.nb + 1) + ((pc.bks.take k).map fun x => 4 * (pc.m - 1) * pc.msgI x).sum
def PlC.totI (pc : PlC) (st : Int) : Int := (pc.totL pc.nb : Int) * st
theorem PlC.totL_succ (pc : PlC) (k : Nat) (x : Int × Int) (h : pc.bks[k]? = some x) : pc.totL (k + 1) = pc.totL k + 4 * (pc.m - 1) * pc.msgI x := by
  have hk : k < pc.bks.length := by
    rcases Nat.lt_or_ge k pc.bks.length with h' | h'
    · exact h'
    · rw [List.getElem?_eq_none h'] at h; cases h
  rw [List.getElem?_eq_getElem hk] at h
  injection h with h
  rw [PlC.totL, take_snoc _ _ hk, List.map_append, List.sum_append, h]
  simp [PlC.totL, Nat.add_assoc]
theorem PlC.msgI_le {pc : PlC} (hp : pc.Ok) {k : Nat} {x : Int × Int} (h : pc.bks[k]? = some x) : pc.msgI x ≤ 8000000 := by
  have hin := PlC.bks_in h
  have h2 := hp.p2
  have h1 : msgsF pc.ch (segsL x.1 x.2 pc.m) ≤ (segsL x.1 x.2 pc.m).length * 1000000 := msgsF_le _ _ (fun r hr => by
    have := segs_in x.1 x.2 pc.m hin.2.1 r hr
    omega)
  rw [segsL_length _ _ _ hin.2.1] at h1
  have := hp.m2
  unfold PlC.msgI
  omega
theorem PlC.totL_le {pc : PlC} (hp : pc.Ok) (k : Nat) (hk : k ≤ pc.nb) : pc.totL k ≤ 1200 + k * 224000000 := by
  induction k with
  | zero =>
    have h1 := hp.m2
    have h2 := PlC.nb_le hp
    have h3 := hp.i2
    have : pc.m * (pc.mi + 2 * pc.nb + 1) ≤ 8 * 141 := Nat.mul_le_mul h1 (by omega)
    simp [PlC.totL]
    omega
  | succ k ih =>
    have hx : pc.bks[k]? = some (pc.bks[k]'(by rw [pc.bks_length]; omega)) := List.getElem?_eq_getElem _
    rw [pc.totL_succ k _ hx]
    have h1 := PlC.msgI_le hp hx
    have h2 := ih (by omega)
    have h3 : 4 * (pc.m - 1) * pc.msgI (pc.bks[k]'(by rw [pc.bks_length]; omega)) ≤ 28 * 8000000 := Nat.mul_le_mul (by have := hp.m2; omega) h1
    omega

theorem w64 (x : Int) (h0 : -1000000000000 ≤ x) (h1 : x ≤ 1000000000000) : wrap64 x = x := by unfold wrap64; omega

section
variable (pc : PlC) (c : Cfg) (A : Option Addr) (n cap b : Nat) (w : World)

set_option maxHeartbeats 4000000 in
theorem planTotal_any (hp : pc.Ok) (hf : Fits pc c) (h : PlanAt w b pc c A n cap) :
    Calls Try.prog 43 #[.pointer (some ⟨b, 0, none⟩)] w fun e w' => e = .returned (.int .i64 (pc.totI c.st)) ∧ Below w.heap.size w w' := by
  obtain ⟨Ab, cb, Ag, cg, Al, cl, h1, h2, -, -, -⟩ := h
  obtain ⟨hwk, hch, hmi, hwi, hbu, hs0, hs1⟩ := hf
  obtain ⟨sh, ra, mo, wk, ba, mi, st, bu, ch, wi, ca⟩ := c
  simp only at hwk hch hmi hwi hbu hs0 hs1
  subst hwk hch hmi hwi hbu
  have HSu := Lib.hid (fun k x (h : pc.bks[k]? = some x) => pc.totL_succ k x h)
  have HLe := Lib.hid (fun k (h : k ≤ pc.nb) => PlC.totL_le hp k h)
  have HMs := Lib.hid (fun k x y (h : pc.bks[k]? = some (x, y)) => PlC.bks_in h)
  have HML := Lib.hid (fun k x (h : pc.bks[k]? = some x) => PlC.msgI_le hp h)
  have hp2 := hp.p2
  have hm1 := hp.m1
  have hm2 := hp.m2
  have hi2 := hp.i2
  have hc2 := hp.c2
  have hnb2 := PlC.nb_le hp
  have HBL := Lib.hid pc.bks_length
  have HMsg : Hid (∀ x y W, 0 ≤ x → x ≤ y → y ≤ 60 → Calls Try.prog 68 #[.agg #[.int .i64 x, .int .i64 y], .int .i64 pc.m, .int .i64 pc.ch] W fun e w' => e = .returned (.int .i64 (pc.msgI (x, y) : Nat)) ∧ Below W.heap.size W w') := Lib.hid (fun x y W a1 a2 a3 => messages_any x y pc.m pc.ch W a1 a2 (by omega) (by omega) (by omega))
  have HT0 : Hid (pc.totL 0 = pc.m * (pc.mi + 2 * pc.nb + 1)) := Lib.hid (by simp [PlC.totL])
  have HTI : Hid (pc.totI st = (pc.totL pc.nb : Int) * st) := Lib.hid rfl
  obtain ⟨m, hm⟩ : ∃ m, pc.m = m := ⟨_, rfl⟩
  obtain ⟨nb, hnb⟩ : ∃ nb, pc.nb = nb := ⟨_, rfl⟩
  obtain ⟨P, hP⟩ : ∃ P, pc.P = P := ⟨_, rfl⟩
  obtain ⟨bu, hbu⟩ : ∃ P, pc.bu = P := ⟨_, rfl⟩
  obtain ⟨wi, hwi⟩ : ∃ P, pc.wi = P := ⟨_, rfl⟩
  obtain ⟨mi, hmi⟩ : ∃ P, pc.mi = P := ⟨_, rfl⟩
  obtain ⟨ch, hch⟩ : ∃ P, pc.ch = P := ⟨_, rfl⟩
  obtain ⟨ng, hng⟩ : ∃ ng, cnt pc.nb pc.wi = ng := ⟨_, rfl⟩
  rw [hng] at h1
  rw [hm] at h1 hm1 hm2 HT0 HSu HMsg
  rw [hnb] at h1 h2 hnb2 HT0 HTI HLe HBL
  rw [hbu] at h1
  rw [hwi] at h1
  rw [hmi] at h1 hi2 HT0
  rw [hch] at h1 hc2 HMsg
  obtain ⟨M, hM⟩ : ∃ M, m - 1 = M := ⟨_, rfl⟩
  rw [hM] at HSu
  have hMm : (m : Int) - 1 = (M : Int) := by omega
  have zm : IntKind.i64.wrap ((m : Int) - 1) = (M : Int) := by rw [hMm]; exact wrap_ok _ (by omega) (by omega)
  obtain ⟨F4, hF⟩ : ∃ F4, 4 * M = F4 := ⟨_, rfl⟩
  rw [hF] at HSu
  have zf : IntKind.i64.wrap ((4 : Int) * (M : Int)) = (F4 : Int) := by rw [wrap_ok _ (by omega) (by omega)]; omega
  have hF28 : F4 ≤ 28 := by omega
  obtain ⟨N2, hN2⟩ : ∃ N2, 2 * nb = N2 := ⟨_, rfl⟩
  have z2 : IntKind.i64.wrap ((2 : Int) * (nb : Int)) = (N2 : Int) := by rw [wrap_ok _ (by omega) (by omega)]; omega
  obtain ⟨S, hS⟩ : ∃ S, mi + N2 + 1 = S := ⟨_, rfl⟩
  have z3 : IntKind.i64.wrap (IntKind.i64.wrap ((mi : Int) + (N2 : Int)) + 1) = (S : Int) := by rw [wrap_ok ((mi : Int) + (N2 : Int)) (by omega) (by omega), wrap_ok _ (by omega) (by omega)]; omega
  obtain ⟨T0, hT⟩ : ∃ T0, m * S = T0 := ⟨_, rfl⟩
  have hT8 : T0 ≤ 8 * 141 := by rw [← hT]; exact Nat.mul_le_mul hm2 (by omega)
  have z4 : IntKind.i64.wrap ((m : Int) * (S : Int)) = (T0 : Int) := by rw [← hT, Int.natCast_mul]; exact wrap_ok _ (by rw [← Int.natCast_mul, hT]; omega) (by rw [← Int.natCast_mul, hT]; omega)
  have z3' : ((mi : Int) + (N2 : Int)) + 1 = (S : Int) := by omega
  have ZW : Hid (wrap64 ((m : Int) * wrap64 (wrap64 ((mi : Int) + (N2 : Int)) + 1)) = (T0 : Int)) := Lib.hid (by
    rw [w64 ((mi : Int) + (N2 : Int)) (by omega) (by omega), z3', w64 (S : Int) (by omega) (by omega), ← Int.natCast_mul, hT, w64 _ (by omega) (by omega)])
  have HTT : Hid (pc.totL 0 = T0) := Lib.hid (by rw [HT0.out, hN2, hS, hT])
  have HH1 := Lib.hid h1
  have HR2 := Lib.hid h2
  have c4 : w.cell? ⟨b, 4, none⟩ = some (.int .i64 m) := h1.cell 4
  have c6 : w.cell? ⟨b, 6, none⟩ = some (.int .i64 mi) := h1.cell 6
  have c12 : w.cell? ⟨b, 12, none⟩ = some (.slice Ab nb cb) := h1.cell 12
  have lb := h1.lt
  have HST : Hid (0 ≤ st ∧ st ≤ 12) := Lib.hid ⟨hs0, hs1⟩
  have HHP : Hid (P ≤ 60) := Lib.hid (by omega)
  have HPP : Hid (pc.P = P) := Lib.hid hP
  clear hMm hM hF hN2 hS hT hT8 h1 h2 hm hnb hP hbu hwi hmi hch hng HT0 hs0 hs1 hp hp2 z3'
  go_enter Try.func43, Try.ntmps43
  go_wp2_with fail
  go_quiet (fail)
  go_wp2_with fail
  obtain ⟨wa, hwa⟩ : ∃ wa, w.drewN nq = wa := ⟨_, rfl⟩
  rw [hwa]
  have hba : Below w.heap.size w wa := by rw [← hwa]; exact below_drewN (Below.refl _ _) _
  have HHa := Lib.hid (HH1.out.kept hba)
  have HRa := Lib.hid (HR2.out.below hba)
  have HBA := Lib.hid hba
  have d12 : wa.cell? ⟨b, 12, none⟩ = some (.slice Ab nb cb) := HHa.out.cell 12
  have lba := HHa.out.lt
  clear hwa hba c4 c6 c12 lb
  go_wp2_with fail
  clear d12 lba
  go_loopw [3, 36] (fun s v wr => ∃ k N : Nat, k ≤ nb ∧ v = .int .i64 k ∧ s = .int .i64 N ∧ Hid (pc.totL k = N) ∧ Below wa.heap.size wa wr) (fun _ v _ => nb - (intOf v).toNat)
  case atStart => exact ⟨0, T0, by omega, rfl, congrArg (Value.int .i64) ZW.out, HTT, Below.refl _ _⟩
  case round =>
    obtain ⟨k, N, hk, rfl, rfl, hN, hb⟩ := hrel
    have HHr := Lib.hid (HHa.out.kept hb)
    have hle := HLe.out k hk
    rw [hN.out] at hle
    have hle2 : N ≤ 14000000000 := by
      have : k * 224000000 ≤ 60 * 224000000 := Nat.mul_le_mul_right _ (by omega)
      omega
    by_cases hlt : k < nb
    · as_aux_lemma =>
        obtain ⟨g, o, lo, hi, rfl, hg, hxy, d0, d1⟩ := rd_at HBL.out (HRa.out.below hb) hlt
        have hin := HMs.out k lo hi hxy
        have hml := HML.out k _ hxy
        have HSk := HSu.out k _ hxy
        rw [HPP.out] at hin
        have HMc := Lib.hid (fun W => HMsg.out lo hi W hin.1 hin.2.1 (by have := HHP.out; have := hin.2.2; omega))
        obtain ⟨q, hq⟩ : ∃ q, pc.msgI (lo, hi) = q := ⟨_, rfl⟩
        rw [hq] at hml HSk HMc
        obtain ⟨D, hD⟩ : ∃ D, F4 * q = D := ⟨_, rfl⟩
        have hD2 : D ≤ 28 * 8000000 := by rw [← hD]; exact Nat.mul_le_mul hF28 hml
        have zd : IntKind.i64.wrap ((F4 : Int) * (q : Int)) = (D : Int) := by rw [← Int.natCast_mul, hD]; exact wrap_ok _ (by omega) (by omega)
        rw [hD] at HSk
        have HSK : Hid (pc.totL (k + 1) = N + D) := Lib.hid (by rw [HSk, hN.out])
        have HB := Lib.hid hb
        have HNB : Hid (∀ W, wr.alloc (.cells #[.int .i64 lo, .int .i64 hi] 33) = W → Below wr.heap.size wr W ∧ Blk W wr.heap.size 33 #[.int .i64 lo, .int .i64 hi]) := Lib.hid (by
          rintro W rfl
          exact ⟨(Below.refl _ _).alloc (Nat.le_refl _) _, Blk.new _ _ _⟩)
        have i1 : (k : Int) < (nb : Int) := by omega
        have i2 : (0 : Int) ≤ (k : Int) := by omega
        clear hq hD hxy hin hml HSk hb hle hN
        go_wp2_with fail
        obtain ⟨w1, hw1⟩ : ∃ w1, wr.alloc (.cells #[.int .i64 lo, .int .i64 hi] 33) = w1 := ⟨_, rfl⟩
        obtain ⟨hb1, hr1⟩ := HNB.out _ hw1
        rw [hw1]
        have hH1 := HHr.out.kept hb1
        have c4 : w1.cell? ⟨b, 4, none⟩ = some (.int .i64 m) := hH1.cell 4
        have c9 : w1.cell? ⟨b, 9, none⟩ = some (.int .i64 ch) := hH1.cell 9
        have lb := hH1.lt
        have r0 : w1.cell? ⟨wr.heap.size, 0, none⟩ = some (.int .i64 lo) := hr1.cell 0
        have r1 : w1.cell? ⟨wr.heap.size, 1, none⟩ = some (.int .i64 hi) := hr1.cell 1
        have lr := hr1.lt
        have HB1 := Lib.hid (HB.out.trans (hb1.mono HB.out.size))
        clear hw1 hb1 hr1 HNB hH1 d0 d1 hg
        refine wp_region_early (Kept w1) [0, 1, 2, 3, 4, 5, 6, 7, 8, 9, 10, 11, 12, 13, 14, 15, 16, 17, 18, 19, 20, 21] [22, 23] [24, 25] (by kernel_rfl) (by kernel_rfl) (Kept.start w1) ?_
        simp only [List.filterMap_cons, List.filterMap_nil, List.getElem?_cons_succ, List.getElem?_cons_zero]
        refine early_step (.int .i64 N) rfl (fun W hW => ?_) ?_
        · obtain ⟨hc, -, -⟩ := hW
          go_simp
        go_simp
        refine early_step (.pointer (some ⟨b, 0, none⟩)) rfl (fun W hW => ?_) ?_
        · obtain ⟨hc, -, -⟩ := hW
          go_simp
        go_simp
        refine early_step (.pointer (some ⟨b, 0, none⟩)) rfl (fun W hW => ?_) ?_
        · obtain ⟨hc, -, -⟩ := hW
          go_simp
        go_simp
        refine early_step (.pointer (some ⟨b, 0, none⟩)) rfl (fun W hW => ?_) ?_
        · obtain ⟨hc, -, -⟩ := hW
          go_simp
        go_simp
        refine early_step (.pointer (some ⟨b, 0, none⟩)) rfl (fun W hW => ?_) ?_
        · obtain ⟨hc, -, -⟩ := hW
          go_simp
        go_simp
        refine early_step (.pointer (some ⟨b, 4, none⟩)) rfl (fun W hW => ?_) ?_
        · obtain ⟨hc, -, -⟩ := hW
          go_simp
        go_simp
        refine early_step (.int .i64 m) rfl (fun W hW => ?_) ?_
        · obtain ⟨hc, -, -⟩ := hW
          go_simp
        go_simp
        refine early_step (.int .i64 M) rfl (fun W hW => ?_) ?_
        · obtain ⟨hc, -, -⟩ := hW
          go_simp
        go_simp
        refine early_step (.int .i64 F4) rfl (fun W hW => ?_) ?_
        · obtain ⟨hc, -, -⟩ := hW
          go_simp
        go_simp
        refine early_step (.agg #[.int .i64 lo, .int .i64 hi]) rfl (fun W hW => ?_) ?_
        · obtain ⟨hc, -, -⟩ := hW
          go_simp
        go_simp
        refine early_step (.pointer (some ⟨b, 0, none⟩)) rfl (fun W hW => ?_) ?_
        · obtain ⟨hc, -, -⟩ := hW
          go_simp
        go_simp
        refine early_step (.pointer (some ⟨b, 0, none⟩)) rfl (fun W hW => ?_) ?_
        · obtain ⟨hc, -, -⟩ := hW
          go_simp
        go_simp
        refine early_step (.pointer (some ⟨b, 0, none⟩)) rfl (fun W hW => ?_) ?_
        · obtain ⟨hc, -, -⟩ := hW
          go_simp
        go_simp
        refine early_step (.pointer (some ⟨b, 0, none⟩)) rfl (fun W hW => ?_) ?_
        · obtain ⟨hc, -, -⟩ := hW
          go_simp
        go_simp
        refine early_step (.pointer (some ⟨b, 4, none⟩)) rfl (fun W hW => ?_) ?_
        · obtain ⟨hc, -, -⟩ := hW
          go_simp
        go_simp
        refine early_step (.int .i64 m) rfl (fun W hW => ?_) ?_
        · obtain ⟨hc, -, -⟩ := hW
          go_simp
        go_simp
        refine early_step (.pointer (some ⟨b, 0, none⟩)) rfl (fun W hW => ?_) ?_
        · obtain ⟨hc, -, -⟩ := hW
          go_simp
        go_simp
        refine early_step (.pointer (some ⟨b, 0, none⟩)) rfl (fun W hW => ?_) ?_
        · obtain ⟨hc, -, -⟩ := hW
          go_simp
        go_simp
        refine early_step (.pointer (some ⟨b, 0, none⟩)) rfl (fun W hW => ?_) ?_
        · obtain ⟨hc, -, -⟩ := hW
          go_simp
        go_simp
        refine early_step (.pointer (some ⟨b, 0, none⟩)) rfl (fun W hW => ?_) ?_
        · obtain ⟨hc, -, -⟩ := hW
          go_simp
        go_simp
        refine early_step (.pointer (some ⟨b, 9, none⟩)) rfl (fun W hW => ?_) ?_
        · obtain ⟨hc, -, -⟩ := hW
          go_simp
        go_simp
        refine early_step (.int .i64 ch) rfl (fun W hW => ?_) ?_
        · obtain ⟨hc, -, -⟩ := hW
          go_simp
        go_simp
        change RestW _ _ _ _ _ (_ :: _ :: []) _ _
        unfold RestW
        go_wp2_with fail
        ((with_reducible refine (HMc.out _).mono ?_); rintro e w2 ⟨rfl, hb2⟩)
        have hb2' : Below w1.heap.size w1 w2 := ((Kept.start w1).call hb2).2.2
        have HK2 := Lib.hid (Kept.of hb2')
        have HB2 := Lib.hid (HB1.out.trans (hb2'.mono HB1.out.size))
        clear hb2 hb2' c4 c9 lb r0 r1 lr
        go_wp2_with fail
        refine ⟨HK2.out, ?_⟩
        unfold RestW
        go_wp2_with fail
        refine ⟨HK2.out, ?_⟩
        unfold RestW
        change wpList _ _ _ (_ :: _ :: []) _ _
        go_wp2_with fail
        refine NoPanic.normal ?_
        go_wp2_with fail
        go_roundw
        case rel => exact ⟨k + 1, N + D, by omega, by go_num, by go_num, HSK, HB2.out⟩
        case measure => simp [intOf]; omega
    · obtain rfl : k = nb := by omega
      as_aux_lemma =>
        have c7 : wr.cell? ⟨b, 7, none⟩ = some (.int .i64 st) := HHr.out.cell 7
        have lb := HHr.out.lt
        obtain ⟨R, hR⟩ : ∃ R, (N : Int) * st = R := ⟨_, rfl⟩
        have hst := HST.out
        have hR0 : 0 ≤ R ∧ R ≤ 14000000000 * 12 := by
          rw [← hR]
          exact ⟨Int.mul_nonneg (by omega) hst.1, Int.mul_le_mul (by omega) hst.2 hst.1 (by omega)⟩
        have zr : IntKind.i64.wrap ((N : Int) * st) = R := by rw [hR]; exact wrap_ok _ (by omega) (by omega)
        have HRR : Hid (R = pc.totI st) := Lib.hid (by rw [HTI.out, hN.out, hR])
        have HB := Lib.hid (HBA.out.trans (hb.mono HBA.out.size))
        clear hst hR hb hN hle
        go_wp2_with fail
        go_ret
        exact ⟨ret_int HRR.out, HB.out⟩
end

end Go.Proofs.Ytkecpbdgcbgogaa
