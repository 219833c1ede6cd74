/-
  Contracts of package sgd: Apply.
-/
import Derived.Test.YtnnphileeeaibaaSgd
import Derived.Test.YtnnphileeeaibaaSizeS
namespace Go.Proofs.Ytnnphileeeaibaa
set_option linter.unusedVariables false
set_option linter.unusedSimpArgs false
open Go.RowKit

/-- The momentum and the parameters when k places from lo on are updated. -/
def applyM (mo sh : Int) (Ms gs : List Int) (lo k : Nat) : List Int := Ms.mapIdx fun j m => if lo ≤ j ∧ j < lo + k then updM mo sh m (gs.getD (j - lo) 0) else m
def applyP (ra mo sh : Int) (Ps Ms gs : List Int) (lo k : Nat) : List Int := Ps.mapIdx fun j p => if lo ≤ j ∧ j < lo + k then updP ra sh p (updM mo sh (Ms.getD j 0) (gs.getD (j - lo) 0)) else p
theorem applyM_length (mo sh : Int) (Ms gs : List Int) (lo k : Nat) : (applyM mo sh Ms gs lo k).length = Ms.length := by simp [applyM]
theorem applyP_length (ra mo sh : Int) (Ps Ms gs : List Int) (lo k : Nat) : (applyP ra mo sh Ps Ms gs lo k).length = Ps.length := by simp [applyP]
theorem applyM_get (mo sh : Int) (Ms gs : List Int) (lo k i : Nat) : (applyM mo sh Ms gs lo k)[i]? = Ms[i]?.map fun m => if lo ≤ i ∧ i < lo + k then updM mo sh m (gs.getD (i - lo) 0) else m := by simp [applyM]
theorem applyP_get (ra mo sh : Int) (Ps Ms gs : List Int) (lo k i : Nat) : (applyP ra mo sh Ps Ms gs lo k)[i]? = Ps[i]?.map fun p => if lo ≤ i ∧ i < lo + k then updP ra sh p (updM mo sh (Ms.getD i 0) (gs.getD (i - lo) 0)) else p := by simp [applyP]
theorem applyM_zero (mo sh : Int) (Ms gs : List Int) (lo : Nat) : applyM mo sh Ms gs lo 0 = Ms := by
  apply List.ext_getElem?
  intro i
  rw [applyM_get]
  cases Ms[i]? with
  | none => rfl
  | some x => simp; omega
theorem applyP_zero (ra mo sh : Int) (Ps Ms gs : List Int) (lo : Nat) : applyP ra mo sh Ps Ms gs lo 0 = Ps := by
  apply List.ext_getElem?
  intro i
  rw [applyP_get]
  cases Ps[i]? with
  | none => rfl
  | some x => simp; omega
theorem applyM_next (mo sh : Int) (Ms gs : List Int) (lo k : Nat) (m g : Int) (hm : Ms[lo + k]? = some m) (hg : gs[k]? = some g) : (applyM mo sh Ms gs lo k).set (lo + k) (updM mo sh m g) = applyM mo sh Ms gs lo (k + 1) := by
  apply List.ext_getElem?
  intro i
  rw [List.getElem?_set, applyM_get, applyM_get]
  by_cases e : lo + k = i
  · subst e
    have hlt : lo + k < Ms.length := (List.getElem?_eq_some_iff.1 hm).1
    rw [if_pos rfl, if_pos (by rw [applyM_length]; exact hlt), hm]
    simp [hg]
  · rw [if_neg e]
    cases Ms[i]? with
    | none => rfl
    | some x =>
      simp only [Option.map_some]
      congr 1
      by_cases h1 : lo ≤ i ∧ i < lo + k
      · rw [if_pos h1, if_pos (by omega)]
      · rw [if_neg h1, if_neg (by omega)]
theorem applyP_next (ra mo sh : Int) (Ps Ms gs : List Int) (lo k : Nat) (p m g : Int) (hp : Ps[lo + k]? = some p) (hm : Ms[lo + k]? = some m) (hg : gs[k]? = some g) : (applyP ra mo sh Ps Ms gs lo k).set (lo + k) (updP ra sh p (updM mo sh m g)) = applyP ra mo sh Ps Ms gs lo (k + 1) := by
  apply List.ext_getElem?
  intro i
  rw [List.getElem?_set, applyP_get, applyP_get]
  by_cases e : lo + k = i
  · subst e
    have hlt : lo + k < Ps.length := (List.getElem?_eq_some_iff.1 hp).1
    rw [if_pos rfl, if_pos (by rw [applyP_length]; exact hlt), hp]
    simp [hg, hm]
  · rw [if_neg e]
    cases Ps[i]? with
    | none => rfl
    | some x =>
      simp only [Option.map_some]
      congr 1
      by_cases h1 : lo ≤ i ∧ i < lo + k
      · rw [if_pos h1, if_pos (by omega)]
      · rw [if_neg h1, if_neg (by omega)]
theorem applyM_at (mo sh : Int) (Ms gs : List Int) (lo k : Nat) (m : Int) (hm : Ms[lo + k]? = some m) : (applyM mo sh Ms gs lo k)[lo + k]? = some m := by rw [applyM_get, hm]; simp
theorem applyP_at (ra mo sh : Int) (Ps Ms gs : List Int) (lo k : Nat) (p : Int) (hp : Ps[lo + k]? = some p) : (applyP ra mo sh Ps Ms gs lo k)[lo + k]? = some p := by rw [applyP_get, hp]; simp

def AllIn (l : List Int) : Prop := ∀ x ∈ l, In1 x

set_option maxHeartbeats 2000000 in
theorem apply_any (ra mo sh : Int) (AP AM AG : Option Addr) (N cP cM n cG lo hi bp bm base : Nat) (Ps Ms gs : List Int) (w : World) (hP : w.ownsRow base 2 1 (.slice AP N cP) N (iv Ps)) (hM : w.ownsRow base 2 1 (.slice AM N cM) N (iv Ms))
    (hap : 0 < N → AP = some ⟨bp, 0, none⟩ ∧ AM = some ⟨bm, 0, none⟩ ∧ bp ≠ bm) (hG : Rd w 1 AG n (iv gs)) (hgl : gs.length = n) (hGb : ∀ b o, AG = some ⟨b, o, none⟩ → 0 < n → b ≠ bp ∧ b ≠ bm) (hhi : hi = lo + n) (hfit : hi ≤ N) (hN : N ≤ 1000000)
    (hra : In1 ra) (hmo : In1 mo) (hPi : AllIn Ps) (hMi : AllIn Ms) :
    Calls Try.prog 21 #[.agg #[.int .i64 ra, .int .i64 mo, .int .i64 sh], .agg #[.slice AP N cP, .slice AM N cM], .agg #[.int .i64 lo, .int .i64 hi], .slice AG n cG] w fun e w' => e = .returned (.bool true) ∧
      w'.ownsRow base 2 1 (.slice AP N cP) N (iv (applyP ra mo sh Ps Ms gs lo n)) ∧ w'.ownsRow base 2 1 (.slice AM N cM) N (iv (applyM mo sh Ms gs lo n)) ∧ But (fun b => 0 < N ∧ (b = bp ∨ b = bm)) w w' := by
  have hPl : Ps.length = N := by have := hP.1; rw [iv_length] at this; omega
  have hMl : Ms.length = N := by have := hM.1; rw [iv_length] at this; omega
  have HP := Lib.hid hP
  have HM := Lib.hid hM
  have HAP := Lib.hid hap
  have HG := Lib.hid hG
  have HGL := Lib.hid hgl
  have HGB := Lib.hid hGb
  have HHI := Lib.hid hhi
  have HPL := Lib.hid hPl
  have HML := Lib.hid hMl
  have HPI := Lib.hid hPi
  have HMI := Lib.hid hMi
  have h1 : lo ≤ hi := by omega
  have h2 : lo + n ≤ N := by omega
  have HSz := Lib.hid (fun W => size_of lo hi n W hhi (by omega) (by omega))
  clear hP hM hap hG hgl hGb hhi hPl hMl hPi hMi
  go_enter Try.func21, Try.ntmps21
  go_wp2_with fail
  obtain ⟨w0, hw0⟩ : ∃ w0, ((w.alloc (.cells #[.int .i64 ra, .int .i64 mo, .int .i64 sh] 35)).alloc (.cells #[.slice AP N cP, .slice AM N cM] 31)).alloc (.cells #[.int .i64 lo, .int .i64 hi] 47) = w0 := ⟨_, rfl⟩
  have k0 : Below w.heap.size w w0 := by rw [← hw0]; exact (((Below.refl _ _).alloc (Nat.le_refl _) _).alloc (by simp) _).alloc (by simp <;> omega) _
  have hR0 : Blk w0 w.heap.size 35 #[.int .i64 ra, .int .i64 mo, .int .i64 sh] := by rw [← hw0]; exact ((Blk.new w _ _).alloc _).alloc _
  have hS0 : Blk w0 (w.heap.size + 1) 31 #[.slice AP N cP, .slice AM N cM] := by rw [← hw0]; exact (Blk.new' _ _ (by simp)).alloc _
  have hA0 : Blk w0 (w.heap.size + 1 + 1) 47 #[.int .i64 lo, .int .i64 hi] := by rw [← hw0]; exact Blk.new' _ _ (by simp)
  rw [hw0]
  clear hw0
  ((with_reducible refine (HSz.out _).mono ?_); rintro e w1 ⟨rfl, hb1⟩)
  have hA1 := hA0.kept hb1
  have q0 : w1.cell? ⟨w.heap.size + 1 + 1, 0, none⟩ = some (.int .i64 lo) := hA1.cell 0
  have q1 : w1.cell? ⟨w.heap.size + 1 + 1, 1, none⟩ = some (.int .i64 hi) := hA1.cell 1
  have hn1 : ((n : Int) != (n : Int)) = false := by simp
  go_wp2_with fail
  ((with_reducible refine (HSz.out _).mono ?_); rintro e w2 ⟨rfl, hb2⟩)
  have HK2 := Lib.hid (((Kept.of k0).call hb1).call hb2).2.2
  have HR2 := Lib.hid ((hR0.kept hb1).kept hb2)
  have HS2 := Lib.hid ((hS0.kept hb1).kept hb2)
  have HA2 := Lib.hid (hA1.kept hb2)
  clear hA1 q0 q1 hn1 hb1 hb2 k0 hR0 hS0 hA0
  go_wp2_with fail
  go_loopw [46] (fun c wr => ∃ k : Nat, k ≤ n ∧ c = .int .i64 k ∧ wr.ownsRow base 2 1 (.slice AP N cP) N (iv (applyP ra mo sh Ps Ms gs lo k)) ∧ wr.ownsRow base 2 1 (.slice AM N cM) N (iv (applyM mo sh Ms gs lo k)) ∧ But (fun b => 0 < N ∧ (b = bp ∨ b = bm)) w wr ∧
      Blk wr w.heap.size 35 #[.int .i64 ra, .int .i64 mo, .int .i64 sh] ∧ Blk wr (w.heap.size + 1) 31 #[.slice AP N cP, .slice AM N cM] ∧ Blk wr (w.heap.size + 1 + 1) 47 #[.int .i64 lo, .int .i64 hi]) (fun c _ => n - (intOf c).toNat)
  case atStart => exact ⟨0, by omega, rfl, by rw [applyP_zero]; exact own_below HP.out HK2.out, by rw [applyM_zero]; exact own_below HM.out HK2.out, But.of_below _ HK2.out, HR2.out, HS2.out, HA2.out⟩
  case round =>
    obtain ⟨k, hk, rfl, hP, hM, hB, hR, hS, hA⟩ := hrel
    by_cases hlt : k < n
    · obtain ⟨e1, e2, hne⟩ := HAP.out (by omega)
      subst e1 e2
      have hbp := (HP.out.lt bp rfl).2
      have hbm := (HM.out.lt bm rfl).2
      have hPk : lo + k < Ps.length := by rw [HPL.out]; omega
      have hMk : lo + k < Ms.length := by rw [HML.out]; omega
      have hGk : k < gs.length := by rw [HGL.out]; exact hlt
      have gP := List.getElem?_eq_getElem hPk
      have gM := List.getElem?_eq_getElem hMk
      have gG := List.getElem?_eq_getElem hGk
      have iP := HPI.out _ (List.getElem_mem hPk)
      have iM := HMI.out _ (List.getElem_mem hMk)
      generalize Ps[lo + k] = p at gP iP
      generalize Ms[lo + k] = m at gM iM
      generalize gs[k] = g at gG
      obtain ⟨b, o, g', rfl, hbl, hg', cg⟩ := iv_at HGL.out (HG.out.but hB (fun b o e h0 hh => by have := HGB.out b o e h0; omega)) hlt
      obtain rfl : g' = g := by rw [gG] at hg'; injection hg' with e; exact e.symm
      obtain ⟨j, hj⟩ : ∃ j, lo + k = j := ⟨_, rfl⟩
      rw [hj] at gP gM
      have HU := Lib.hid (fun W (kW : Kept wr W) => update_any ra mo sh p m g' bp bm j N N cP cM base _ _ W (own_below hP kW.2.2) (own_below hM kW.2.2) (by rw [← hj]; exact applyP_at _ _ _ _ _ _ _ _ _ (by rw [hj]; exact gP)) (by rw [← hj]; exact applyM_at _ _ _ _ _ _ _ (by rw [hj]; exact gM)) hne hra hmo iP iM)
      have HPn := Lib.hid (applyP_next ra mo sh Ps Ms gs lo k p m g' (by rw [hj]; exact gP) (by rw [hj]; exact gM) gG)
      have HMn := Lib.hid (applyM_next mo sh Ms gs lo k m g' (by rw [hj]; exact gM) gG)
      have c0 : wr.cell? ⟨w.heap.size, 0, none⟩ = some (.int .i64 ra) := hR.cell 0
      have c1 : wr.cell? ⟨w.heap.size, 1, none⟩ = some (.int .i64 mo) := hR.cell 1
      have c2 : wr.cell? ⟨w.heap.size, 2, none⟩ = some (.int .i64 sh) := hR.cell 2
      have c3 : wr.cell? ⟨w.heap.size + 1, 0, none⟩ = some (.slice (some ⟨bp, 0, none⟩) N cP) := hS.cell 0
      have c4 : wr.cell? ⟨w.heap.size + 1, 1, none⟩ = some (.slice (some ⟨bm, 0, none⟩) N cM) := hS.cell 1
      have c5 : wr.cell? ⟨w.heap.size + 1 + 1, 0, none⟩ = some (.int .i64 lo) := hA.cell 0
      have lt0 := hA.lt
      have lt1 := hS.lt
      have lt2 := hR.lt
      have z1 : IntKind.i64.wrap ((lo : Int) + (k : Int)) = (j : Int) := by rw [IntWalk.i64_in _ (by omega)]; omega
      have z2 : (lo : Int) + (k : Int) = (j : Int) := by omega
      have i1 : (0 : Int) ≤ (j : Int) := by omega
      have i2 : (j : Int) < (N : Int) := by omega
      have i3 : (0 : Int) ≤ (k : Int) := by omega
      have i4 : (k : Int) < (n : Int) := by omega
      have HJ := Lib.hid hj
      have HB3 := Lib.hid hB
      have HR3 := Lib.hid hR
      have HS3 := Lib.hid hS
      have HA3 := Lib.hid hA
      clear hP hM hB hR hS hA gP gM gG hg' hj hPk hMk hGk
      go_wp2_with fail
      have KC := fun (u : KW wr) b o h => KW.cells u b o h
      refine wp_region_mix' wr [] [0, 1, 2, 3, 4, 5, 6, 7, 8, 9, 10, 11, 12, 13, 14, 15, 16, 17, 18] 19 [] (by kernel_rfl) (by kernel_rfl) (by kernel_rfl) (Kept.of (Below.refl _ _)) ?_
      simp only [PureW, List.filterMap_cons, List.filterMap_nil, List.getElem?_cons_succ, List.getElem?_cons_zero]
      change wpQuiet _ _ _ _ (_ :: _ :: _ :: _ :: _ :: _ :: _ :: _ :: _ :: _ :: _ :: _ :: _ :: _ :: _ :: _ :: _ :: _ :: _ :: []) _
      iterate 19 (go_big_quiet_step (fail))
      refine wpQuiet_nil ?_
      rintro ⟨w4, k4⟩
      change wpList _ _ _ (_ :: []) _ _
      dsimp only
      clear KC
      go_wp2_with fail
      ((with_reducible refine (HU.out _ k4).mono ?_); rintro e w5 ⟨rfl, hP5, hM5, hB5⟩)
      have HP5 := Lib.hid hP5
      have HM5 := Lib.hid hM5
      have HB5 := Lib.hid ((But.of_below (fun b => b = bp ∨ b = bm) k4.2.2).trans hB5)
      clear hP5 hM5 hB5 k4 HU c0 c1 c2 c3 c4 c5 cg z1 z2
      go_wp2_with fail
      refine NoPanic.normal ?_
      go_wp2
      go_roundw
      case rel => exact ⟨k + 1, by omega, by go_num, by rw [← HPn.out, HJ.out]; exact HP5.out, by rw [← HMn.out, HJ.out]; exact HM5.out, HB3.out.trans (HB5.out.mono (fun i _ h => ⟨by omega, h⟩)), HR3.out.but HB5.out (by omega), HS3.out.but HB5.out (by omega), HA3.out.but HB5.out (by omega)⟩
      case measure => simp [intOf]; omega
    · obtain rfl : k = n := by omega
      go_wp2
      go_ret
      exact ⟨rfl, hP, hM, hB⟩

end Go.Proofs.Ytnnphileeeaibaa
