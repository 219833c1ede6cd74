/-
  Contracts of package sgd: Apply where it changes nothing; Next.
-/
import Derived.Test.YtnnphileeeaibaaSgd3
namespace Go.Proofs.Ytnnphileeeaibaa
set_option linter.unusedVariables false
set_option linter.unusedSimpArgs false
open Go.RowKit

/-- Whether Apply takes a range and a gradient. -/
def canApply (N M : Nat) (lo hi : Int) (n : Nat) : Bool := decide (N = M ∧ 0 ≤ lo ∧ lo ≤ hi ∧ hi ≤ N ∧ (n : Int) = hi - lo)

set_option maxHeartbeats 1000000 in
theorem apply_not (ra mo sh lo hi : Int) (AP AM AG : Option Addr) (N M cP cM n cG : Nat) (w : World) (hN : N ≤ 1000000) (hM : M ≤ 1000000) (hn : n ≤ 1000000) (hbad : canApply N M lo hi n = false) :
    Calls Try.prog 21 #[.agg #[.int .i64 ra, .int .i64 mo, .int .i64 sh], .agg #[.slice AP N cP, .slice AM M cM], .agg #[.int .i64 lo, .int .i64 hi], .slice AG n cG] w fun e w' => e = .returned (.bool false) ∧ Below w.heap.size w w' := by
  have hb : ¬ (N = M ∧ 0 ≤ lo ∧ lo ≤ hi ∧ hi ≤ N ∧ (n : Int) = hi - lo) := by simpa [canApply] using hbad
  clear hbad
  have fin : Below w.heap.size w (((w.alloc (.cells #[.int .i64 ra, .int .i64 mo, .int .i64 sh] 35)).alloc (.cells #[.slice AP N cP, .slice AM M cM] 31)).alloc (.cells #[.int .i64 lo, .int .i64 hi] 47)) :=
    (((Below.refl _ _).alloc (Nat.le_refl _) _).alloc (by simp) _).alloc (by simp <;> omega) _
  have HF := Lib.hid fin
  clear fin
  by_cases h1 : N = M
  · subst h1
    by_cases h2 : lo < 0
    · clear hb
      go_enter Try.func21, Try.ntmps21
      go_wp2_with fail
      go_ret
      exact ⟨rfl, HF.out⟩
    · by_cases h3 : hi < lo
      · clear hb
        have h2' : (0 : Int) ≤ lo := by omega
        go_enter Try.func21, Try.ntmps21
        go_wp2_with fail
        go_ret
        exact ⟨rfl, HF.out⟩
      · by_cases h4 : (N : Int) < hi
        · clear hb
          have h2' : (0 : Int) ≤ lo := by omega
          have h3' : lo ≤ hi := by omega
          go_enter Try.func21, Try.ntmps21
          go_wp2_with fail
          go_ret
          exact ⟨rfl, HF.out⟩
        · obtain ⟨l, rfl⟩ := Int.eq_ofNat_of_zero_le (show 0 ≤ lo by omega)
          obtain ⟨h, rfl⟩ := Int.eq_ofNat_of_zero_le (show 0 ≤ hi by omega)
          obtain ⟨d, hd⟩ : ∃ d, h = l + d := ⟨h - l, by omega⟩
          have d1 : ((n : Int) != (d : Int)) = true := by simp; omega
          have h3' : l ≤ h := by omega
          have h4' : h ≤ N := by omega
          have HSz := Lib.hid (fun W => size_of l h d W hd (by omega) (by omega))
          clear hb hd h2 h3 h4
          go_enter Try.func21, Try.ntmps21
          go_wp2_with fail
          ((with_reducible refine (HSz.out _).mono ?_); rintro e w1 ⟨rfl, hb1⟩)
          go_wp2_with fail
          go_ret
          exact ⟨rfl, ((Kept.of HF.out).call hb1).2.2⟩
  · have d1 : ((N : Int) != (M : Int)) = true := by simp; omega
    clear hb
    go_enter Try.func21, Try.ntmps21
    go_wp2_with fail
    go_ret
    exact ⟨rfl, HF.out⟩

/-- The state that Next returns. -/
def nextP (ra mo sh : Int) (Ps Ms gs : List Int) : List Int := applyP ra mo sh Ps Ms gs 0 Ps.length
def nextM (mo sh : Int) (Ms gs : List Int) : List Int := applyM mo sh Ms gs 0 Ms.length

def NextRet (w : World) (N : Nat) (Ps Ms : List Int) (en : Ending) (w' : World) : Prop :=
  ∃ AP cP AM cM, en = .returned (.tuple #[.agg #[.slice AP N cP, .slice AM N cM], .bool true]) ∧ w'.ownsRow w.heap.size 2 1 (.slice AP N cP) N (iv Ps) ∧ w'.ownsRow w.heap.size 2 1 (.slice AM N cM) N (iv Ms) ∧
    (∀ g h, (Value.slice AP N cP).ownBlock = some g → (Value.slice AM N cM).ownBlock = some h → g < h) ∧ Below w.heap.size w w'

set_option maxHeartbeats 1000000 in
theorem next13_not (ra mo sh : Int) (A B AG : Option Addr) (N M c d n cG : Nat) (Ps Ms : List Int) (w : World) (hPl : Ps.length = N) (hMl : Ms.length = M) (hP : Rd w 1 A N (iv Ps)) (hM : Rd w 1 B M (iv Ms)) (hN : N ≤ 1000000) (hM' : M ≤ 1000000) (hn : n ≤ 1000000) (hbad : ¬ (n = N ∧ N = M)) :
    Calls Try.prog 17 #[.agg #[.int .i64 ra, .int .i64 mo, .int .i64 sh], .agg #[.slice A N c, .slice B M d], .slice AG n cG] w fun e w' => e = .returned (.tuple #[.agg #[.slice none 0 0, .slice none 0 0], .bool false]) ∧ Below w.heap.size w w' := by
  have HC := Lib.hid (fun W (hb : Below w.heap.size w W) => sgdClone_any A B N M c d Ps Ms W hPl hMl (hP.below hb) (hM.below hb) hN hM')
  clear hP hM hPl hMl
  go_enter Try.func17, Try.ntmps17
  go_wp2_with fail
  obtain ⟨w0, hw0⟩ : ∃ w0, ((w.alloc (.cells #[.int .i64 ra, .int .i64 mo, .int .i64 sh] 35)).alloc (.cells #[.slice A N c, .slice B M d] 31)).alloc (.cells #[.slice none 0 0, .slice none 0 0] 31) = w0 := ⟨_, rfl⟩
  have k0 : Below w.heap.size w w0 := by rw [← hw0]; exact (((Below.refl _ _).alloc (Nat.le_refl _) _).alloc (by simp) _).alloc (by simp <;> omega) _
  have hR0 : Blk w0 w.heap.size 35 #[.int .i64 ra, .int .i64 mo, .int .i64 sh] := by rw [← hw0]; exact ((Blk.new w _ _).alloc _).alloc _
  have hS0 : Blk w0 (w.heap.size + 1) 31 #[.slice A N c, .slice B M d] := by rw [← hw0]; exact (Blk.new' _ _ (by simp)).alloc _
  have hZ0 : Blk w0 (w.heap.size + 1 + 1) 31 #[.slice none 0 0, .slice none 0 0] := by rw [← hw0]; exact Blk.new' _ _ (by simp)
  rw [hw0]
  clear hw0
  ((with_reducible refine (HC.out w0 k0).mono ?_); rintro e w1 ⟨AP, cP, AM, cM, rfl, hOP, hOM, hlt, hb1⟩)
  have hR1 := hR0.kept hb1
  have hS1 := hS0.kept hb1
  have hZ1 := hZ0.kept hb1
  have a0 : w1.cell? ⟨w.heap.size, 0, none⟩ = some (.int .i64 ra) := hR1.cell 0
  have a1 : w1.cell? ⟨w.heap.size, 1, none⟩ = some (.int .i64 mo) := hR1.cell 1
  have a2 : w1.cell? ⟨w.heap.size, 2, none⟩ = some (.int .i64 sh) := hR1.cell 2
  have b0 : w1.cell? ⟨w.heap.size + 1, 0, none⟩ = some (.slice A N c) := hS1.cell 0
  have z0 : w1.cell? ⟨w.heap.size + 1 + 1, 0, none⟩ = some (.slice none 0 0) := hZ1.cell 0
  have z1 : w1.cell? ⟨w.heap.size + 1 + 1, 1, none⟩ = some (.slice none 0 0) := hZ1.cell 1
  have f0 := hZ1.frozen 0
  have f1 := hZ1.frozen 1
  have zlt := hZ1.lt
  have zl0 := hR1.lt
  have zl1 := hS1.lt
  have HZ1 := Lib.hid hZ1
  have HK1 := Lib.hid (((Kept.of k0).call hb1).2.2)
  clear k0 hR0 hS0 hZ0 hOP hOM hlt hb1 hR1 hS1 hZ1 HC
  by_cases hnN : n = N
  · subst hnN
    have HA := Lib.hid (fun W => apply_not ra mo sh 0 n AP AM AG n M cP cM n cG W (by omega) (by omega) (by omega) (by simp [canApply]; omega))
    clear hbad
    go_wp2_with fail
    ((with_reducible refine (HA.out _).mono ?_); rintro e w2 ⟨rfl, hb2⟩)
    have hZ2 := (HZ1.out.alloc _).kept hb2
    have y0 : w2.cell? ⟨w.heap.size + 1 + 1, 0, none⟩ = some (.slice none 0 0) := hZ2.cell 0
    have y1 : w2.cell? ⟨w.heap.size + 1 + 1, 1, none⟩ = some (.slice none 0 0) := hZ2.cell 1
    have g0 := hZ2.frozen 0
    have g1 := hZ2.frozen 1
    have HZ2 := Lib.hid hZ2
    have HK2 := Lib.hid (((Kept.of HK1.out).alloc _).call hb2).2.2
    have hs2 := HK2.out.size
    clear hZ2 hb2
    go_wp2
    exact bodyPost_ret (v := .tuple #[.agg #[.slice none 0 0, .slice none 0 0], .bool false]) (by simp [results, Try.results17, go_sem, y0, y1]) rfl ⟨rfl, below_gr HK2.out hs2 (store2' HZ2.out _ _).1 (by omega)⟩
  · have d1 : ((n : Int) != (N : Int)) = true := by simp; omega
    have hs1 := HK1.out.size
    clear hbad
    go_wp2
    exact bodyPost_ret (v := .tuple #[.agg #[.slice none 0 0, .slice none 0 0], .bool false]) (by simp [results, Try.results17, go_sem, z0, z1, zlt]) rfl ⟨rfl, (below_gr HK1.out hs1 (store2' HZ1.out _ _).1 (by omega)).alloc (by simp [World.setCell]; omega) _⟩

set_option maxHeartbeats 1000000 in
theorem next13_some (ra mo sh : Int) (A B AG : Option Addr) (N c d cG : Nat) (Ps Ms gs : List Int) (w : World) (hPl : Ps.length = N) (hMl : Ms.length = N) (hgl : gs.length = N) (hP : Rd w 1 A N (iv Ps)) (hM : Rd w 1 B N (iv Ms)) (hG : Rd w 1 AG N (iv gs)) (hN : N ≤ 1000000)
    (hra : In1 ra) (hmo : In1 mo) (hPi : AllIn Ps) (hMi : AllIn Ms) :
    Calls Try.prog 17 #[.agg #[.int .i64 ra, .int .i64 mo, .int .i64 sh], .agg #[.slice A N c, .slice B N d], .slice AG N cG] w (NextRet w N (nextP ra mo sh Ps Ms gs) (nextM mo sh Ms gs)) := by
  have HC := Lib.hid (fun W (hb : Below w.heap.size w W) => sgdClone_any A B N N c d Ps Ms W hPl hMl (hP.below hb) (hM.below hb) hN hN)
  have HG := Lib.hid hG
  have HGL := Lib.hid hgl
  have HPi := Lib.hid hPi
  have HMi := Lib.hid hMi
  have HPL := Lib.hid hPl
  have HML := Lib.hid hMl
  clear hP hM hPl hMl hG hgl hPi hMi
  go_enter Try.func17, Try.ntmps17
  go_wp2_with fail
  obtain ⟨w0, hw0⟩ : ∃ w0, ((w.alloc (.cells #[.int .i64 ra, .int .i64 mo, .int .i64 sh] 35)).alloc (.cells #[.slice A N c, .slice B N d] 31)).alloc (.cells #[.slice none 0 0, .slice none 0 0] 31) = w0 := ⟨_, rfl⟩
  have k0 : Below w.heap.size w w0 := by rw [← hw0]; exact (((Below.refl _ _).alloc (Nat.le_refl _) _).alloc (by simp) _).alloc (by simp <;> omega) _
  have hR0 : Blk w0 w.heap.size 35 #[.int .i64 ra, .int .i64 mo, .int .i64 sh] := by rw [← hw0]; exact ((Blk.new w _ _).alloc _).alloc _
  have hS0 : Blk w0 (w.heap.size + 1) 31 #[.slice A N c, .slice B N d] := by rw [← hw0]; exact (Blk.new' _ _ (by simp)).alloc _
  have hZ0 : Blk w0 (w.heap.size + 1 + 1) 31 #[.slice none 0 0, .slice none 0 0] := by rw [← hw0]; exact Blk.new' _ _ (by simp)
  rw [hw0]
  clear hw0
  ((with_reducible refine (HC.out w0 k0).mono ?_); rintro e w1 ⟨AP, cP, AM, cM, rfl, hOP, hOM, hlt, hb1⟩)
  have hR1 := hR0.kept hb1
  have hS1 := hS0.kept hb1
  have hZ1 := hZ0.kept hb1
  have a0 : w1.cell? ⟨w.heap.size, 0, none⟩ = some (.int .i64 ra) := hR1.cell 0
  have a1 : w1.cell? ⟨w.heap.size, 1, none⟩ = some (.int .i64 mo) := hR1.cell 1
  have a2 : w1.cell? ⟨w.heap.size, 2, none⟩ = some (.int .i64 sh) := hR1.cell 2
  have b0 : w1.cell? ⟨w.heap.size + 1, 0, none⟩ = some (.slice A N c) := hS1.cell 0
  have zlt := hZ1.lt
  have zl0 := hR1.lt
  have zl1 := hS1.lt
  have zw := hZ0.lt
  have HZ1 := Lib.hid hZ1
  have HK1 := Lib.hid (((Kept.of k0).call hb1).2.2)
  have HOP := Lib.hid hOP
  have HOM := Lib.hid hOM
  have HLT := Lib.hid hlt
  obtain ⟨bp, bm, hap⟩ : ∃ bp bm, (0 < N → AP = some ⟨bp, 0, none⟩ ∧ AM = some ⟨bm, 0, none⟩ ∧ bp ≠ bm) := by
    rcases Nat.eq_zero_or_pos N with h0 | h0
    · exact ⟨0, 0, fun h => by omega⟩
    · obtain ⟨_, _, q1, _, _, q6⟩ := own_form hOP
      obtain ⟨_, _, r1, _, _, r6⟩ := own_form hOM
      injection q1 with q4
      injection r1 with r4
      subst q4 r4
      obtain ⟨g, rfl, _, _⟩ := q6 h0
      obtain ⟨h, rfl, _, _⟩ := r6 h0
      exact ⟨g, h, fun _ => ⟨rfl, rfl, by have := hlt g h rfl rfl; omega⟩⟩
  have HAP := Lib.hid hap
  have hbb : 0 < N → w0.heap.size ≤ bp ∧ w0.heap.size ≤ bm := fun h0 => by
    obtain ⟨e1, e2, _⟩ := hap h0
    subst e1 e2
    exact ⟨(hOP.lt bp rfl).1, (hOM.lt bm rfl).1⟩
  have HBB := Lib.hid hbb
  have HA := Lib.hid (fun (W : World) (hb : Below w1.heap.size w1 W) => apply_any ra mo sh AP AM AG N cP cM N cG 0 N bp bm w0.heap.size Ps Ms gs W (own_below hOP hb) (own_below hOM hb) hap (HG.out.below (((Kept.of ((Kept.of k0).call hb1).2.2).call hb).2.2)) HGL.out (fun b o e h0 => by have h1 := HG.out.lt b o e h0; have h2 := hbb h0; omega) (by omega) (Nat.le_refl _) hN hra hmo HPi.out HMi.out)
  clear k0 hR0 hS0 hZ0 hOP hOM hlt hb1 hR1 hS1 hZ1 HC hap hbb
  go_wp2_with fail
  have ha := HA.out (w1.alloc (.cells #[.slice AP N cP, .slice AM N cM] 31)) ((Below.refl _ _).alloc (Nat.le_refl _) _)
  have e0 : ((0 : Nat) : Int) = 0 := rfl
  rw [e0] at ha
  have HA2 := Lib.hid ha
  clear ha HA e0
  ((with_reducible refine HA2.out.mono ?_); rintro e w2 ⟨rfl, hP2, hM2, hB2⟩)
  have hZ2 := (HZ1.out.alloc (.cells #[.slice AP N cP, .slice AM N cM] 31)).but hB2 (fun h => by have := HBB.out h.1; omega)
  have hQ2 := (Blk.new w1 31 #[.slice AP N cP, .slice AM N cM]).but hB2 (fun h => by
    obtain ⟨e1, e2, _⟩ := HAP.out h.1
    subst e1 e2
    have h1 := (HOP.out.lt bp rfl).2
    have h2 := (HOM.out.lt bm rfl).2
    omega)
  have y0 : w2.cell? ⟨w.heap.size + 1 + 1, 0, none⟩ = some (.slice none 0 0) := hZ2.cell 0
  have y1 : w2.cell? ⟨w.heap.size + 1 + 1, 1, none⟩ = some (.slice none 0 0) := hZ2.cell 1
  have g0 := hZ2.frozen 0
  have g1 := hZ2.frozen 1
  have u0 : w2.cell? ⟨w1.heap.size, 0, none⟩ = some (.slice AP N cP) := hQ2.cell 0
  have u1 : w2.cell? ⟨w1.heap.size, 1, none⟩ = some (.slice AM N cM) := hQ2.cell 1
  have HZ2 := Lib.hid hZ2
  have HP2 := Lib.hid hP2
  have HM2 := Lib.hid hM2
  have hw1s := HK1.out.size
  have HK2 := Lib.hid (HK1.out.trans (((Below.refl w.heap.size w1).alloc hw1s _).trans (hB2.below (B := w.heap.size) (by simp; omega) (fun i h => by have := HBB.out h.1; omega))))
  have hs2 := HK2.out.size
  clear hZ2 hQ2 hP2 hM2 hB2
  go_wp2
  have hst := store2' HZ2.out (.slice AP N cP) (.slice AM N cM)
  refine bodyPost_ret (v := .tuple #[.agg #[.slice AP N cP, .slice AM N cM], .bool true]) (by simp [results, Try.results17, go_sem, y0, y1]) rfl ⟨AP, cP, AM, cM, rfl, ?_, ?_, HLT.out, below_gr HK2.out hs2 hst.1 (by omega)⟩
  · have := own_base (HP2.out.kept hst.1 (.inr (own_blk_ne HP2.out HZ2.out (by decide)))) (show w.heap.size ≤ w0.heap.size by omega)
    rw [nextP, HPL.out]
    exact this
  · have := own_base (HM2.out.kept hst.1 (.inr (own_blk_ne HM2.out HZ2.out (by decide)))) (show w.heap.size ≤ w0.heap.size by omega)
    rw [nextM, HML.out]
    exact this

end Go.Proofs.Ytnnphileeeaibaa
