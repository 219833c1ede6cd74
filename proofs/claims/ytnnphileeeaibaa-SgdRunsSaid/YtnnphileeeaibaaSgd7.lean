/-
  The reference's Apply.
-/
import Derived.Test.YtnnphileeeaibaaSgdNexts
namespace Go.Proofs.Ytnnphileeeaibaa
set_option linter.unusedVariables false
set_option linter.unusedSimpArgs false
open Go.RowKit

set_option maxHeartbeats 1000000 in
theorem refApply13_not (ra mo sh lo hi : Int) (AP AM AG : Option Addr) (N M cP cM n cG : Nat) (w : World) (hN : N ≤ 1000000) (hM : M ≤ 1000000) (hn : n ≤ 1000000) (hbad : canApply N M lo hi n = false) :
    Calls Try.prog 22 #[.agg #[.int .i64 ra, .int .i64 mo, .int .i64 sh], .agg #[.slice AP N cP, .slice AM M cM], .agg #[.int .i64 lo, .int .i64 hi], .slice AG n cG] w fun e w' => e = .returned (.tuple #[.agg #[.slice AP N cP, .slice AM M cM], .bool false]) ∧ Below w.heap.size w w' := by
  have hb : ¬ (N = M ∧ 0 ≤ lo ∧ lo ≤ hi ∧ hi ≤ N ∧ (n : Int) = hi - lo) := by simpa [canApply] using hbad
  clear hbad
  by_cases h1 : N = M
  · subst h1
    by_cases h2 : lo < 0
    · clear hb
      go_enter Try.func22, Try.ntmps22
      go_wp2_with fail
      exact bodyPost_ret (v := .tuple #[.agg #[.slice AP N cP, .slice AM N cM], .bool false]) (by simp [results, Try.results22, go_sem]) rfl ⟨rfl, ((((Below.refl _ _).alloc (Nat.le_refl _) _).alloc (by simp) _).alloc (by simp <;> omega) _).alloc (by simp <;> omega) _⟩
    · by_cases h3 : hi < lo
      · clear hb
        have h2' : (0 : Int) ≤ lo := by omega
        go_enter Try.func22, Try.ntmps22
        go_wp2_with fail
        exact bodyPost_ret (v := .tuple #[.agg #[.slice AP N cP, .slice AM N cM], .bool false]) (by simp [results, Try.results22, go_sem]) rfl ⟨rfl, ((((Below.refl _ _).alloc (Nat.le_refl _) _).alloc (by simp) _).alloc (by simp <;> omega) _).alloc (by simp <;> omega) _⟩
      · by_cases h4 : (N : Int) < hi
        · clear hb
          have h2' : (0 : Int) ≤ lo := by omega
          have h3' : lo ≤ hi := by omega
          go_enter Try.func22, Try.ntmps22
          go_wp2_with fail
          exact bodyPost_ret (v := .tuple #[.agg #[.slice AP N cP, .slice AM N cM], .bool false]) (by simp [results, Try.results22, go_sem]) rfl ⟨rfl, ((((Below.refl _ _).alloc (Nat.le_refl _) _).alloc (by simp) _).alloc (by simp <;> omega) _).alloc (by simp <;> omega) _⟩
        · obtain ⟨l, rfl⟩ := Int.eq_ofNat_of_zero_le (show 0 ≤ lo by omega)
          obtain ⟨h, rfl⟩ := Int.eq_ofNat_of_zero_le (show 0 ≤ hi by omega)
          have z1 : IntKind.i64.wrap ((h : Int) - (l : Int)) = (h : Int) - (l : Int) := by rw [wrapEq]; unfold wrap64; omega
          have d1 : ((n : Int) != ((h : Int) - (l : Int))) = true := by simp; omega
          have h3' : l ≤ h := by omega
          have h4' : h ≤ N := by omega
          clear hb h2 h3 h4
          go_enter Try.func22, Try.ntmps22
          go_wp2_with fail
          exact bodyPost_ret (v := .tuple #[.agg #[.slice AP N cP, .slice AM N cM], .bool false]) (by simp [results, Try.results22, go_sem]) rfl ⟨rfl, ((((Below.refl _ _).alloc (Nat.le_refl _) _).alloc (by simp) _).alloc (by simp <;> omega) _).alloc (by simp <;> omega) _⟩
  · have d1 : ((N : Int) != (M : Int)) = true := by simp; omega
    clear hb
    go_enter Try.func22, Try.ntmps22
    go_wp2_with fail
    exact bodyPost_ret (v := .tuple #[.agg #[.slice AP N cP, .slice AM M cM], .bool false]) (by simp [results, Try.results22, go_sem]) rfl ⟨rfl, ((((Below.refl _ _).alloc (Nat.le_refl _) _).alloc (by simp) _).alloc (by simp <;> omega) _).alloc (by simp <;> omega) _⟩

/-- A piece of a row. -/
theorem rd_sub {w : World} {A : Option Addr} {N : Nat} {xs : List Value} (h : Rd w 1 A N xs) (hx : xs.length = N) (lo n c : Nat) (hfit : lo + n ≤ N) (hc : N ≤ c) : Rd w 1 (if c = lo then A else A.map (fun x => x.add lo)) n ((xs.drop lo).take n) := by
  refine ⟨by simp; omega, fun h0 => ?_⟩
  obtain ⟨b, o, rfl, hlt, hcell⟩ := h.2 (by omega)
  rw [if_neg (by omega)]
  refine ⟨b, o + lo, by rw [Option.map_some]; congr 1; unfold Addr.add; by_cases hj : lo = 0 <;> simp [hj], hlt, fun j u hu => ?_⟩
  rw [List.getElem?_take] at hu
  split at hu
  · rw [List.getElem?_drop] at hu
    rw [Nat.add_assoc]
    exact hcell (lo + j) u hu
  · cases hu
theorem iv_sub (l : List Int) (lo n : Nat) : ((iv l).drop lo).take n = iv ((l.drop lo).take n) := by simp [iv]
theorem sub_len {l : List Int} {N : Nat} (h : l.length = N) (lo n : Nat) (hfit : lo + n ≤ N) : ((l.drop lo).take n).length = n := by simp; omega
theorem sub_in {l : List Int} (h : AllIn l) (lo n : Nat) : AllIn ((l.drop lo).take n) := fun x hx => h x (List.mem_of_mem_drop (List.mem_of_mem_take hx))
theorem sub_get (l : List Int) (lo n k : Nat) (hk : k < n) : ((l.drop lo).take n)[k]? = l[lo + k]? := by rw [List.getElem?_take, if_pos hk, List.getElem?_drop]

/-- What Apply's first region reads stays. -/
theorem held7 {ra mo sh : Int} {A B : Option Addr} {N c d lo hi g : Nat} {w W : World} (hR : Blk W g 23 #[.int .i64 ra, .int .i64 mo, .int .i64 sh]) (hS : Blk W (g + 1) 26 #[.slice A N c, .slice B N d]) (hA : Blk W (g + 1 + 1) 43 #[.int .i64 lo, .int .i64 hi]) (hb : Below w.heap.size w W) :
    (W.cell? ⟨g, 0, none⟩ = some (.int .i64 ra) ∧ W.cell? ⟨g, 1, none⟩ = some (.int .i64 mo) ∧ W.cell? ⟨g, 2, none⟩ = some (.int .i64 sh) ∧ W.cell? ⟨g + 1, 0, none⟩ = some (.slice A N c) ∧ W.cell? ⟨g + 1, 1, none⟩ = some (.slice B N d) ∧ W.cell? ⟨g + 1 + 1, 0, none⟩ = some (.int .i64 lo) ∧ W.cell? ⟨g + 1 + 1, 1, none⟩ = some (.int .i64 hi)) ∧ Below w.heap.size w W :=
  ⟨⟨hR.cell 0, hR.cell 1, hR.cell 2, hS.cell 0, hS.cell 1, hA.cell 0, hA.cell 1⟩, hb⟩

theorem held8 {A B : Option Addr} {N c d g : Nat} {w W : World} (hS : Blk W g 26 #[.slice A N c, .slice B N d]) (hb : Below w.heap.size w W) :
    (W.cell? ⟨g, 0, none⟩ = some (.slice A N c) ∧ W.cell? ⟨g, 1, none⟩ = some (.slice B N d)) ∧ Below w.heap.size w W :=
  ⟨⟨hS.cell 0, hS.cell 1⟩, hb⟩

set_option maxHeartbeats 2000000 in
set_option maxRecDepth 100000 in
theorem refApply13_some (ra mo sh : Int) (A B AG : Option Addr) (N c d n cG lo hi : Nat) (Ps Ms gs : List Int) (w : World) (hPl : Ps.length = N) (hMl : Ms.length = N) (hgl : gs.length = n) (hP : Rd w 1 A N (iv Ps)) (hM : Rd w 1 B N (iv Ms)) (hG : Rd w 1 AG n (iv gs)) (hhi : hi = lo + n) (hfit : hi ≤ N) (hN : N ≤ 1000000) (hNc : N ≤ c) (hNd : N ≤ d)
    (hra : In1 ra) (hmo : In1 mo) (hPi : AllIn Ps) (hMi : AllIn Ms) :
    Calls Try.prog 22 #[.agg #[.int .i64 ra, .int .i64 mo, .int .i64 sh], .agg #[.slice A N c, .slice B N d], .agg #[.int .i64 lo, .int .i64 hi], .slice AG n cG] w fun e w' => ∃ AP cP AM cM, e = .returned (.tuple #[.agg #[.slice AP N cP, .slice AM N cM], .bool true]) ∧
      w'.ownsRow w.heap.size 2 1 (.slice AP N cP) N (iv (applyP ra mo sh Ps Ms gs lo n)) ∧ w'.ownsRow w.heap.size 2 1 (.slice AM N cM) N (iv (applyM mo sh Ms gs lo n)) ∧ Below w.heap.size w w' := by
  have z1 : IntKind.i64.wrap ((hi : Int) - (lo : Int)) = (n : Int) := by rw [wrapEq]; unfold wrap64; omega
  have e1 : (hi : Int) - (lo : Int) = (n : Int) := by omega
  have e2 : lo ≤ hi := by omega
  have e4 : hi ≤ c := by omega
  have e5 : hi ≤ d := by omega
  have HHI := Lib.hid hhi
  have HP := Lib.hid hP
  have HM := Lib.hid hM
  have HG := Lib.hid hG
  have HPL := Lib.hid hPl
  have HML := Lib.hid hMl
  have HGL := Lib.hid hgl
  have HPi := Lib.hid hPi
  have HMi := Lib.hid hMi
  clear hhi hP hM hG hPl hMl hgl hPi hMi
  go_enter Try.func22, Try.ntmps22
  go_upto_region 3 with (fail)
  obtain ⟨w0, hw0⟩ : ∃ w0, (((w.alloc (.cells #[.int .i64 ra, .int .i64 mo, .int .i64 sh] 23)).alloc (.cells #[.slice A N c, .slice B N d] 26)).alloc (.cells #[.int .i64 lo, .int .i64 hi] 43)).alloc (.cells #[.slice none 0 0, .slice none 0 0] 26) = w0 := ⟨_, rfl⟩
  have k0 : Below w.heap.size w w0 := by rw [← hw0]; exact ((((Below.refl _ _).alloc (Nat.le_refl _) _).alloc (by simp) _).alloc (by simp <;> omega) _).alloc (by simp <;> omega) _
  have hR0 : Blk w0 w.heap.size 23 #[.int .i64 ra, .int .i64 mo, .int .i64 sh] := by rw [← hw0]; exact (((Blk.new w _ _).alloc _).alloc _).alloc _
  have hS0 : Blk w0 (w.heap.size + 1) 26 #[.slice A N c, .slice B N d] := by rw [← hw0]; exact ((Blk.new' _ _ (by simp)).alloc _).alloc _
  have hA0 : Blk w0 (w.heap.size + 1 + 1) 43 #[.int .i64 lo, .int .i64 hi] := by rw [← hw0]; exact (Blk.new' _ _ (by simp)).alloc _
  have hZ0 : Blk w0 (w.heap.size + 1 + 1 + 1) 26 #[.slice none 0 0, .slice none 0 0] := by rw [← hw0]; exact Blk.new' _ _ (by simp)
  rw [hw0]
  clear hw0
  have l3 := hA0.lt
  have k00 := Lib.hid k0
  have HR0 := Lib.hid hR0
  have HS0 := Lib.hid hS0
  have HA0 := Lib.hid hA0
  have HZ0 := Lib.hid hZ0
  have s0 := held7 (w := w) hR0.drew hS0.drew hA0.drew k0.drew
  obtain ⟨A', hA'⟩ : ∃ A', (if c = lo then A else Option.map (fun x => x.add lo) A) = A' := ⟨_, rfl⟩
  obtain ⟨B', hB'⟩ : ∃ B', (if d = lo then B else Option.map (fun x => x.add lo) B) = B' := ⟨_, rfl⟩
  have e3 : hi - lo = n := by omega
  have HC := Lib.hid (fun W (hb : Below w.heap.size w W) => refNext13_some ra mo sh A' B' AG n (c - lo) (d - lo) cG ((Ps.drop lo).take n) ((Ms.drop lo).take n) gs W (sub_len HPL.out lo n (by omega)) (sub_len HML.out lo n (by omega)) HGL.out (by rw [← hA', ← iv_sub]; exact (rd_sub HP.out (by rw [iv_length, HPL.out]) lo n c (by omega) hNc).below hb) (by rw [← hB', ← iv_sub]; exact (rd_sub HM.out (by rw [iv_length, HML.out]) lo n d (by omega) hNd).below hb) (HG.out.below hb) (by omega) hra hmo (sub_in HPi.out _ _) (sub_in HMi.out _ _))
  clear hR0 hS0 hA0 hZ0 k0
  have t0 := held7 (w := w) (HR0.out.alloc (.cells #[.slice none 0 0, .slice none 0 0] 26)).drew (HS0.out.alloc (.cells #[.slice none 0 0, .slice none 0 0] 26)).drew (HA0.out.alloc (.cells #[.slice none 0 0, .slice none 0 0] 26)).drew ((Kept.of s0.2).alloc (.cells #[.slice none 0 0, .slice none 0 0] 26)).2.2
  go_cut [10, 11] (fun s10 s11 wc => ∃ (u : Nat) (AX AY : Option Addr) (cX cY : Nat), s10 = .pointer (some ⟨u, 0, none⟩) ∧ s11 = .bool true ∧ w0.heap.size ≤ u ∧ Kept w0 wc ∧ Blk wc u 26 #[.slice AX n cX, .slice AY n cY] ∧ wc.ownsRow w0.heap.size 2 1 (.slice AX n cX) n (iv (nextP ra mo sh ((Ps.drop lo).take n) ((Ms.drop lo).take n) gs)) ∧ wc.ownsRow w0.heap.size 2 1 (.slice AY n cY) n (iv (nextM mo sh ((Ms.drop lo).take n) gs)))
  case first =>
    go_region_held3 (fun w' => (w'.cell? ⟨w.heap.size, 0, none⟩ = some (.int .i64 ra) ∧ w'.cell? ⟨w.heap.size, 1, none⟩ = some (.int .i64 mo) ∧ w'.cell? ⟨w.heap.size, 2, none⟩ = some (.int .i64 sh) ∧ w'.cell? ⟨w.heap.size + 1, 0, none⟩ = some (.slice A N c) ∧ w'.cell? ⟨w.heap.size + 1, 1, none⟩ = some (.slice B N d) ∧ w'.cell? ⟨w.heap.size + 1 + 1, 0, none⟩ = some (.int .i64 lo) ∧ w'.cell? ⟨w.heap.size + 1 + 1, 1, none⟩ = some (.int .i64 hi)) ∧ Below w.heap.size w w') (first | exact s0 | exact t0 | exact s1 | exact t1 | exact held7 (HR1.out.alloc _) (HS1.out.alloc _) (HA1.out.alloc _) ((Kept.of s1.2).alloc _).2.2 | exact t2) (first
      | (go_at_call 18; (with_reducible refine (HC.out w0.drew s0.2).mono ?_); rintro e w1 ⟨AX, cX, AY, cY, rfl, hOX, hOY, hb1⟩; have HR1 := Lib.hid (HR0.out.drew.kept hb1); have HS1 := Lib.hid (HS0.out.drew.kept hb1); have HA1 := Lib.hid (HA0.out.drew.kept hb1); have s1 := held7 (w := w) HR1.out HS1.out HA1.out (((Kept.of s0.2).call hb1).2.2); have HOX := Lib.hid hOX; have HOY := Lib.hid hOY; have HKK := Lib.hid ((Kept.start w0).call hb1); clear hOX hOY hb1)
      | (go_at_call 18; (with_reducible refine (HC.out (w0.alloc (.cells #[.slice none 0 0, .slice none 0 0] 26)).drew t0.2).mono ?_); rintro e w1 ⟨AX, cX, AY, cY, rfl, hOX, hOY, hb1⟩; have HB1 := Lib.hid ((Blk.new w0 26 #[.slice none 0 0, .slice none 0 0]).drew.kept hb1); have HR1 := Lib.hid ((HR0.out.alloc (.cells #[.slice none 0 0, .slice none 0 0] 26)).drew.kept hb1); have HS1 := Lib.hid ((HS0.out.alloc (.cells #[.slice none 0 0, .slice none 0 0] 26)).drew.kept hb1); have HA1 := Lib.hid ((HA0.out.alloc (.cells #[.slice none 0 0, .slice none 0 0] 26)).drew.kept hb1); have t1 := held7 (w := w) HR1.out HS1.out HA1.out (((Kept.of t0.2).call hb1).2.2); have HOX := Lib.hid hOX; have HOY := Lib.hid hOY; have HKK := Lib.hid (((Kept.of (Below.refl _ w0)).alloc (.cells #[.slice none 0 0, .slice none 0 0] 26)).drew.call hb1); have d0 : w1.cell? ⟨w0.heap.size, 0, none⟩ = some (.slice none 0 0) := HB1.out.cell 0; have d1 : w1.cell? ⟨w0.heap.size, 1, none⟩ = some (.slice none 0 0) := HB1.out.cell 1; have f0 := HB1.out.frozen 0; have f1 := HB1.out.frozen 1; have hst := store2' HB1.out (.slice AX n cX) (.slice AY n cY); have HST := Lib.hid hst; have t2 := held7 (w := w) (HR1.out.grown hst.1 (by simp <;> omega)) (HS1.out.grown hst.1 (by simp <;> omega)) (HA1.out.grown hst.1 (by simp <;> omega)) (below_gr t1.2 t1.2.size hst.1 (by omega)); clear hst hOX hOY hb1))
    all_goals go_wp2_with fail
    all_goals go_meet
    all_goals first
      | exact ⟨_, _, _, _, _, rfl, rfl, HKK.out.2.1, HKK.out.alloc _, Blk.new _ _ _, own_below HOX.out ((Below.refl _ _).alloc (Nat.le_refl _) _), own_below HOY.out ((Below.refl _ _).alloc (Nat.le_refl _) _)⟩
      | exact ⟨_, _, _, _, _, rfl, rfl, Nat.le_refl _, Kept.of (below_gr HKK.out.2.2 HKK.out.2.1 HST.out.1 (Nat.le_refl _)), HST.out.2, own_base (HOX.out.kept HST.out.1 (.inr (own_blk_ne HOX.out HB1.out (by decide)))) (by simp), own_base (HOY.out.kept HST.out.1 (.inr (own_blk_ne HOY.out HB1.out (by decide)))) (by simp)⟩
  case rest =>
    rename World => wq
    obtain ⟨u, AX, AY, cX, cY, rfl, rfl, hu, kk, hbu, hOX, hOY⟩ := hcut
    have k0c := ((Kept.of k00.out).call kk.2.2).2.2
    have hSc := HS0.out.kept kk.2.2
    have HRc := Lib.hid (HR0.out.kept kk.2.2)
    have HAc := Lib.hid (HA0.out.kept kk.2.2)
    have HZc := Lib.hid (HZ0.out.kept kk.2.2)
    have HSc := Lib.hid hSc
    have HU := Lib.hid hbu
    have HX := Lib.hid hOX
    have HY := Lib.hid hOY
    have HKc := Lib.hid k0c
    have lu := hbu.lt
    have lS := hSc.lt
    have hz0c := kk.2.1
    have s0 := held8 (w := wq) hSc.drew (Below.refl _ wq).drew
    have t0 := held8 (w := wq) (hSc.alloc (.cells #[.slice none 0 0, .slice none 0 0] 26)).drew ((Kept.of (Below.refl _ wq)).alloc (.cells #[.slice none 0 0, .slice none 0 0] 26)).drew.2.2
    have C1 := Lib.hid (fun W (hb : Below wq.heap.size wq W) => refClone_any A N c Ps W HPL.out ((HP.out.below HKc.out).below hb) (by omega))
    have C2 := Lib.hid (fun W (hb : Below wq.heap.size wq W) => refClone_any B N d Ms W HML.out ((HM.out.below HKc.out).below hb) (by omega))
    clear k0c hSc hbu hOX hOY kk HC
    go_upto_region 4 with (fail)
    go_cut [12] (fun s12 wd => ∃ (v : Nat) (AP AM : Option Addr) (cP cM : Nat), s12 = .pointer (some ⟨v, 0, none⟩) ∧ wq.heap.size ≤ v ∧ Kept wq wd ∧ Blk wd v 26 #[.slice AP N cP, .slice AM N cM] ∧ wd.ownsRow wq.heap.size 2 1 (.slice AP N cP) N (iv Ps) ∧ wd.ownsRow wq.heap.size 2 1 (.slice AM N cM) N (iv Ms) ∧ (∀ g h, (Value.slice AP N cP).ownBlock = some g → (Value.slice AM N cM).ownBlock = some h → g < h))
    case first =>
      go_region_held3 (fun w' => (w'.cell? ⟨w.heap.size + 1, 0, none⟩ = some (.slice A N c) ∧ w'.cell? ⟨w.heap.size + 1, 1, none⟩ = some (.slice B N d)) ∧ Below wq.heap.size wq w') (first | exact s0 | exact t0 | exact s1 | exact held8 (HS1.out.alloc _) ((Kept.of s1.2).alloc _).2.2 | exact s2 | exact held8 (HS2.out.alloc _) ((Kept.of s2.2).alloc _).2.2 | exact s3) (first
        | (go_at_call 16; (with_reducible refine (C1.out wq.drew s0.2).mono ?_); rintro e w1 ⟨A1, c1, rfl, hown1, hb1⟩; have HS1 := Lib.hid (HSc.out.drew.kept hb1); have s1 := held8 (w := wq) HS1.out ((Kept.of s0.2).call hb1).2.2; have HO1 := Lib.hid hown1; have z1 := s1.2.size; clear hown1 hb1)
        | (go_at_call 16; (with_reducible refine (C1.out (wq.alloc (.cells #[.slice none 0 0, .slice none 0 0] 26)).drew t0.2).mono ?_); rintro e w1 ⟨A1, c1, rfl, hown1, hb1⟩; have HS1 := Lib.hid ((HSc.out.alloc (.cells #[.slice none 0 0, .slice none 0 0] 26)).drew.kept hb1); have HB1 := Lib.hid ((Blk.new wq 26 #[.slice none 0 0, .slice none 0 0]).drew.kept hb1); have s1 := held8 (w := wq) HS1.out ((Kept.of t0.2).call hb1).2.2; have HO1 := Lib.hid (own_base hown1 (by simp : wq.heap.size ≤ _)); have z1 := s1.2.size; clear hown1 hb1)
        | (go_at_call 16; (with_reducible refine (C2.out w1 s1.2).mono ?_); rintro e w2 ⟨A2, c2, rfl, hown2, hb2⟩; have HB2 := Lib.hid (HB1.out.kept hb2); have HS2 := Lib.hid (HS1.out.kept hb2); have s2 := held8 (w := wq) HS2.out ((Kept.of s1.2).call hb2).2.2; have HO2 := Lib.hid hown2; have HO12 := Lib.hid (own_below HO1.out hb2); have d0 : w2.cell? ⟨wq.heap.size, 0, none⟩ = some (.slice none 0 0) := HB2.out.cell 0; have d1 : w2.cell? ⟨wq.heap.size, 1, none⟩ = some (.slice none 0 0) := HB2.out.cell 1; have f0 := HB2.out.frozen 0; have f1 := HB2.out.frozen 1; have hst := store2' HB2.out (.slice A1 N c1) (.slice A2 N c2); have HST := Lib.hid hst; have s3 := held8 (w := wq) (HS2.out.grown hst.1 (by simp <;> omega)) (below_gr s2.2 s2.2.size hst.1 (by omega)); clear hst; clear hown2 hb2)
        | (go_at_call 16; (with_reducible refine (C2.out w1 s1.2).mono ?_); rintro e w2 ⟨A2, c2, rfl, hown2, hb2⟩; have HS2 := Lib.hid (HS1.out.kept hb2); have s2 := held8 (w := wq) HS2.out ((Kept.of s1.2).call hb2).2.2; have HO2 := Lib.hid hown2; have HO12 := Lib.hid (own_below HO1.out hb2); clear hown2 hb2)
        | (go_at_call 16; (with_reducible refine (C2.out (w1.alloc (.cells #[.slice none 0 0, .slice none 0 0] 26)) ((Kept.of s1.2).alloc _).2.2).mono ?_); rintro e w2 ⟨A2, c2, rfl, hown2, hb2⟩; have HB2 := Lib.hid ((Blk.new w1 26 #[.slice none 0 0, .slice none 0 0]).kept hb2); have HS2 := Lib.hid ((HS1.out.alloc (.cells #[.slice none 0 0, .slice none 0 0] 26)).kept hb2); have s2 := held8 (w := wq) HS2.out (((Kept.of s1.2).alloc (.cells #[.slice none 0 0, .slice none 0 0] 26)).call hb2).2.2; have HO2 := Lib.hid (own_base hown2 (by simp : w1.heap.size ≤ _)); have HO12 := Lib.hid (own_below (own_below HO1.out ((Below.refl _ _).alloc (Nat.le_refl _) (.cells #[.slice none 0 0, .slice none 0 0] 26))) hb2); have d0 : w2.cell? ⟨w1.heap.size, 0, none⟩ = some (.slice none 0 0) := HB2.out.cell 0; have d1 : w2.cell? ⟨w1.heap.size, 1, none⟩ = some (.slice none 0 0) := HB2.out.cell 1; have f0 := HB2.out.frozen 0; have f1 := HB2.out.frozen 1; have hst := store2' HB2.out (.slice A1 N c1) (.slice A2 N c2); have HST := Lib.hid hst; have s3 := held8 (w := wq) (HS2.out.grown hst.1 (by simp <;> omega)) (below_gr s2.2 s2.2.size hst.1 (by omega)); clear hst; clear hown2 hb2))
      all_goals go_wp2_with fail
      all_goals go_meet
      all_goals first
        | exact ⟨_, _, _, _, _, rfl, s2.2.size, (Kept.of s2.2).alloc _, Blk.new _ _ _, own_below HO12.out ((Below.refl _ _).alloc (Nat.le_refl _) _), own_base (own_below HO2.out ((Below.refl _ _).alloc (Nat.le_refl _) _)) s1.2.size, fun g h hg hh => by have h1 := (HO1.out.lt g hg).2; have h2 := (HO2.out.lt h hh).1; omega⟩
        | exact ⟨_, _, _, _, _, rfl, by first | exact Nat.le_refl _ | exact s1.2.size, Kept.of s3.2, HST.out.2, own_base (HO12.out.kept HST.out.1 (.inr (own_blk_ne HO12.out HB2.out (by decide)))) (by simp), own_base (HO2.out.kept HST.out.1 (.inr (own_blk_ne HO2.out HB2.out (by decide)))) s1.2.size, fun g h hg hh => by have h1 := (HO1.out.lt g hg).2; have h2 := (HO2.out.lt h hh).1; omega⟩
    case rest =>
      obtain ⟨v, AP, AM, cP, cM, rfl, hv, kk, hV, hOP, hOM, hsep⟩ := hcut
      have HSEP := Lib.hid hsep
      have HU' := Lib.hid (HU.out.kept kk.2.2)
      have HA' := Lib.hid (HAc.out.kept kk.2.2)
      have HZ' := Lib.hid (HZc.out.kept kk.2.2)
      have HX' := Lib.hid (Rd.of_own (own_below HX.out kk.2.2))
      have HY' := Lib.hid (Rd.of_own (own_below HY.out kk.2.2))
      have zX : Hid (∀ b o, AX = some ⟨b, o, none⟩ → 0 < n → b < wq.heap.size) := Lib.hid (fun b o e h0 => (own_rd_block HX.out b o e).2)
      have zY : Hid (∀ b o, AY = some ⟨b, o, none⟩ → 0 < n → b < wq.heap.size) := Lib.hid (fun b o e h0 => (own_rd_block HY.out b o e).2)
      have HV := Lib.hid hV
      have HOP := Lib.hid hOP
      have HOM := Lib.hid hOM
      have HKd := Lib.hid (((Kept.of HKc.out).call kk.2.2).2.2)
      have hzcd := kk.2.1
      have lv := hV.lt
      clear hsep kk hV hOP hOM s0 t0 C1 C2 HU HAc HZc HSc HRc
      go_wp2_with fail
      go_loopw [13] (fun i wr => ∃ k : Nat, k ≤ n ∧ i = .int .i64 k ∧ wr.ownsRow wq.heap.size 2 1 (.slice AP N cP) N (iv (applyP ra mo sh Ps Ms gs lo k)) ∧ wr.ownsRow wq.heap.size 2 1 (.slice AM N cM) N (iv (applyM mo sh Ms gs lo k)) ∧ But (fun b => (Value.slice AP N cP).ownBlock = some b ∨ (Value.slice AM N cM).ownBlock = some b) wc wr) (fun i _ => n - (intOf i).toNat)
      case atStart => exact ⟨0, by omega, rfl, by rw [applyP_zero]; exact HOP.out, by rw [applyM_zero]; exact HOM.out, But.refl _ _⟩
      case round =>
        obtain ⟨k, hk, rfl, hP, hM, hB⟩ := hrel
        have gPb : ∀ g, (Value.slice AP N cP).ownBlock = some g → wq.heap.size ≤ g ∧ g < wr.heap.size := hP.lt
        have gMb : ∀ g, (Value.slice AM N cM).ownBlock = some g → wq.heap.size ≤ g ∧ g < wr.heap.size := hM.lt
        have nV : ¬ ((Value.slice AP N cP).ownBlock = some v ∨ (Value.slice AM N cM).ownBlock = some v) := fun h => by
          rcases h with h | h
          · exact own_blk_ne HOP.out HV.out (by decide) h
          · exact own_blk_ne HOM.out HV.out (by decide) h
        have far : ∀ b, b < wq.heap.size → ¬ ((Value.slice AP N cP).ownBlock = some b ∨ (Value.slice AM N cM).ownBlock = some b) := fun b hb h => by
          rcases h with h | h
          · have := gPb b h; omega
          · have := gMb b h; omega
        have hV := HV.out.but hB nV
        have hA := HA'.out.but hB (far _ (by omega))
        have hU := HU'.out.but hB (far _ (by omega))
        have hZ := HZ'.out.but hB (far _ (by omega))
        have hX := HX'.out.but hB (fun b o e h0 => far b (zX.out b o e h0))
        have hY := HY'.out.but hB (fun b o e h0 => far b (zY.out b o e h0))
        by_cases hlt : k < n
        · obtain ⟨j, hj⟩ : ∃ j, lo + k = j := ⟨_, rfl⟩
          have hNn : 0 < N := by omega
          obtain ⟨_, _, qa, _, _, qb⟩ := own_form hP
          injection qa with qa
          subst qa
          obtain ⟨gp, rfl, _, hgp⟩ := qb hNn
          obtain ⟨_, _, qa, _, _, qb'⟩ := own_form hM
          injection qa with qa
          subst qa
          obtain ⟨gm, rfl, _, hgm⟩ := qb' hNn
          have hgpm : gp < gm := HSEP.out gp gm rfl rfl
          have hsP := sub_len HPL.out lo n (by omega)
          have hsM := sub_len HML.out lo n (by omega)
          obtain ⟨bX, oX, p', rfl, hbX, hp', cX'⟩ := iv_at (by rw [nextP_length, hsP]) hX hlt
          obtain ⟨bY, oY, m', rfl, hbY, hm', cY'⟩ := iv_at (by rw [nextM_length, hsM]) hY hlt
          obtain ⟨p, hp⟩ : ∃ p, Ps[lo + k]? = some p := ⟨_, List.getElem?_eq_getElem (by rw [HPL.out]; omega)⟩
          obtain ⟨m, hm⟩ : ∃ m, Ms[lo + k]? = some m := ⟨_, List.getElem?_eq_getElem (by rw [HML.out]; omega)⟩
          obtain ⟨g, hg⟩ : ∃ g, gs[k]? = some g := ⟨_, List.getElem?_eq_getElem (by rw [HGL.out]; omega)⟩
          have e1 := nextP_get ra mo sh ((Ps.drop lo).take n) ((Ms.drop lo).take n) gs k p m g (by rw [sub_get _ _ _ _ hlt]; exact hp) (by rw [sub_get _ _ _ _ hlt]; exact hm) hg
          have e2 := nextM_get mo sh ((Ms.drop lo).take n) gs k m g (by rw [sub_get _ _ _ _ hlt]; exact hm) hg
          have f1 : p' = updP ra sh p (updM mo sh m g) := by rw [hp'] at e1; injection e1
          have f2 : m' = updM mo sh m g := by rw [hm'] at e2; injection e2
          have HNP : Hid ((applyP ra mo sh Ps Ms gs lo k).set j p' = applyP ra mo sh Ps Ms gs lo (k + 1)) := Lib.hid (by rw [f1, ← hj]; exact applyP_next ra mo sh Ps Ms gs lo k p m g hp hm hg)
          have HNM : Hid ((applyM mo sh Ms gs lo k).set j m' = applyM mo sh Ms gs lo (k + 1)) := Lib.hid (by rw [f2, ← hj]; exact applyM_next mo sh Ms gs lo k m g hm hg)
          have z2 : IntKind.i64.wrap ((lo : Int) + (k : Int)) = (j : Int) := by rw [wrapEq]; unfold wrap64; omega
          have i1 : (0 : Int) ≤ (k : Int) := by omega
          have i2 : (k : Int) < (n : Int) := by omega
          have i3 : (0 : Int) ≤ (j : Int) := by omega
          have i4 : (j : Int) < (N : Int) := by omega
          have v0 : wr.cell? ⟨v, 0, none⟩ = some (.slice (some ⟨gp, 0, none⟩) N cP) := hV.cell 0
          have a0 : wr.cell? ⟨w.heap.size + 1 + 1, 0, none⟩ = some (.int .i64 lo) := hA.cell 0
          have u0 : wr.cell? ⟨u, 0, none⟩ = some (.slice (some ⟨bX, oX, none⟩) n cX) := hU.cell 0
          have lv1 := hV.lt
          have la1 := hA.lt
          have lu1 := hU.lt
          have HV1 := Lib.hid hV
          have HA1 := Lib.hid hA
          have HU1 := Lib.hid hU
          have HX1 := Lib.hid hX
          have HY1 := Lib.hid hY
          have HP1 := Lib.hid hP
          have HM1 := Lib.hid hM
          have HB1 := Lib.hid hB
          have HJ := Lib.hid hj
          have HBX := Lib.hid (zX.out bX oX rfl (by omega))
          have HBY := Lib.hid (zY.out bY oY rfl (by omega))
          have gp1 := (gPb gp rfl).1
          have gm1 := (gMb gm rfl).1
          clear hV hA hU hX hY hP hM hB hZ e1 e2 f1 f2 hp' hm' hsP hsM hp hm hg hj qb qb' gPb gMb nV far
          go_wp2_with fail
          refine wp_region_mix' wr [] [0, 1, 2, 3, 4, 5, 6, 7, 8, 9, 10, 11] 12 [] (by kernel_rfl) (by kernel_rfl) (by kernel_rfl) (Kept.of (Below.refl _ _)) ?_
          simp only [PureW, List.filterMap_cons, List.filterMap_nil, List.getElem?_cons_succ, List.getElem?_cons_zero]
          go_simp
          change wpQuiet _ _ _ _ (_ :: _ :: _ :: _ :: _ :: _ :: _ :: _ :: _ :: _ :: _ :: _ :: []) _
          have KC := fun (u : KW wr) b o h => KW.cells u b o h
          iterate 12 (go_big_quiet_step (fail))
          refine wpQuiet_nil ?_
          rintro ⟨w1, k1⟩
          change wpList _ _ _ (_ :: []) _ _
          dsimp only
          clear KC
          have hP1 := own_below HP1.out k1.2.2
          obtain ⟨x0, hx0⟩ : ∃ x0, (applyP ra mo sh Ps Ms gs lo k)[j]? = some x0 := ⟨_, List.getElem?_eq_getElem (by rw [applyP_length, HPL.out]; omega)⟩
          have cp1 : w1.cell? ⟨gp, j, none⟩ = some (.int .i64 x0) := own_cell hP1 hx0
          have fp1 : w1.frozen? ⟨gp, j, none⟩ = false := hP1.frozenAt j
          have HP2 := Lib.hid hP1
          have HK1 := Lib.hid k1.2.2
          clear hP1 hx0 k1 v0 a0 u0 cX'
          go_wp2_with fail
          refine NoPanic.normal ?_
          go_wp2_with fail
          obtain ⟨w2, hw2⟩ : ∃ w2, w1.setCell ⟨gp, j, none⟩ (.int .i64 p') = w2 := ⟨_, rfl⟩
          have hst := HP2.out.stored j (.int .i64 p')
          rw [hw2] at hst ⊢
          have HP3 := Lib.hid hst.1
          have hM3 := (own_below HM1.out HK1.out).kept hst.2 (.inr (by simp [Value.ownBlock]; omega))
          have hV3 := (HV1.out.kept HK1.out).other HP2.out hst.2 (by decide)
          have hA3 := (HA1.out.kept HK1.out).grown hst.2 (by simp; omega)
          have hU3 := (HU1.out.kept HK1.out).grown hst.2 (by simp; omega)
          have HB3 := Lib.hid ((HB1.out.call HK1.out).trans (But.of_gr hst.2 (.inl rfl)))
          have hbY2 := HBY.out
          have hzw := HB1.out.size
          have hzw1 := HK1.out.size
          have cY2 : w2.cell? ⟨bY, oY + k, none⟩ = some (.int .i64 m') := (gr_cell hst.2 (by omega) (by omega)).trans ((HK1.out.cell (p := ⟨bY, oY + k, none⟩) (show bY < wr.heap.size by omega)).trans cY')
          have v1 : w2.cell? ⟨v, 1, none⟩ = some (.slice (some ⟨gm, 0, none⟩) N cM) := hV3.cell 1
          have a0 : w2.cell? ⟨w.heap.size + 1 + 1, 0, none⟩ = some (.int .i64 lo) := hA3.cell 0
          have u1 : w2.cell? ⟨u, 1, none⟩ = some (.slice (some ⟨bY, oY, none⟩) n cY) := hU3.cell 1
          have lv2 := hV3.lt
          have la2 := hA3.lt
          have lu2 := hU3.lt
          have lY2 : bY < w2.heap.size := by have := hst.2.size; omega
          have HM3 := Lib.hid hM3
          clear hst hM3 hV3 hA3 hU3 hw2 cp1 fp1 cY' lv1 la1 lu1
          refine wp_region_mix' w2 [] [0, 1, 2, 3, 4, 5, 6, 7, 8, 9, 10, 11] 12 [] (by kernel_rfl) (by kernel_rfl) (by kernel_rfl) (Kept.of (Below.refl _ _)) ?_
          simp only [PureW, List.filterMap_cons, List.filterMap_nil, List.getElem?_cons_succ, List.getElem?_cons_zero]
          go_simp
          change wpQuiet _ _ _ _ (_ :: _ :: _ :: _ :: _ :: _ :: _ :: _ :: _ :: _ :: _ :: _ :: []) _
          have KC := fun (u : KW w2) b o h => KW.cells u b o h
          iterate 12 (go_big_quiet_step (fail))
          refine wpQuiet_nil ?_
          rintro ⟨w3, k3⟩
          change wpList _ _ _ (_ :: []) _ _
          dsimp only
          clear KC
          have hM4 := own_below HM3.out k3.2.2
          obtain ⟨x1, hx1⟩ : ∃ x1, (applyM mo sh Ms gs lo k)[j]? = some x1 := ⟨_, List.getElem?_eq_getElem (by rw [applyM_length, HML.out]; omega)⟩
          have cm1 : w3.cell? ⟨gm, j, none⟩ = some (.int .i64 x1) := own_cell hM4 hx1
          have fm1 : w3.frozen? ⟨gm, j, none⟩ = false := hM4.frozenAt j
          have HM4 := Lib.hid hM4
          have HP4 := Lib.hid (own_below HP3.out k3.2.2)
          have HB4 := Lib.hid (HB3.out.call k3.2.2)
          clear hM4 hx1 k3 v1 a0 u1 cY2
          go_wp2_with fail
          refine NoPanic.normal ?_
          go_wp2_with fail
          have hst := HM4.out.stored j (.int .i64 m')
          go_roundw
          case rel => exact ⟨k + 1, by omega, by go_num, by rw [← HNP.out, ← iv_set]; exact HP4.out.kept hst.2 (.inr (by simp [Value.ownBlock]; omega)), by rw [← HNM.out, ← iv_set]; exact hst.1, HB4.out.trans (But.of_gr hst.2 (.inr rfl))⟩
          case measure => simp [intOf]; omega
        · obtain rfl : k = n := by omega
          have o0 : wr.cell? ⟨v, 0, none⟩ = some (.slice AP N cP) := hV.cell 0
          have o1 : wr.cell? ⟨v, 1, none⟩ = some (.slice AM N cM) := hV.cell 1
          have z0 : wr.cell? ⟨w.heap.size + 1 + 1 + 1, 0, none⟩ = some (.slice none 0 0) := hZ.cell 0
          have z1' : wr.cell? ⟨w.heap.size + 1 + 1 + 1, 1, none⟩ = some (.slice none 0 0) := hZ.cell 1
          have g0 := hZ.frozen 0
          have g1 := hZ.frozen 1
          have lz := hZ.lt
          have lv1 := hV.lt
          have HZ1 := Lib.hid hZ
          have HP1 := Lib.hid hP
          have HM1 := Lib.hid hM
          have HKr := Lib.hid (HKd.out.trans (hB.below (B := w.heap.size) HKd.out.size (fun i h => by
            rcases h with h | h
            · have := gPb i h; have := HKc.out.size; omega
            · have := gMb i h; have := HKc.out.size; omega)))
          clear hV hA hU hX hY hP hM hB hZ gPb gMb nV far
          go_wp2_with fail
          have hst := store2' HZ1.out (.slice AP N cP) (.slice AM N cM)
          refine bodyPost_ret (v := .tuple #[.agg #[.slice AP N cP, .slice AM N cM], .bool true]) (by simp [results, Try.results22, go_sem, z0, z1', lz]) rfl ⟨AP, cP, AM, cM, rfl, ?_, ?_, below_gr HKr.out HKr.out.size hst.1 (by omega)⟩
          · exact own_base (HP1.out.kept hst.1 (.inr (own_blk_ne HP1.out HZ1.out (by decide)))) HKc.out.size
          · exact own_base (HM1.out.kept hst.1 (.inr (own_blk_ne HM1.out HZ1.out (by decide)))) HKc.out.size

end Go.Proofs.Ytnnphileeeaibaa
