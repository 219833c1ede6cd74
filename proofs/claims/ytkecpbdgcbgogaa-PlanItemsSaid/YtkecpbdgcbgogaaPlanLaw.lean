/-
  What the statements on plans share: Back, all, Same, alive.
-/
import Derived.Test.YtkecpbdgcbgogaaPlanRef4
namespace Go.Proofs.Ytkecpbdgcbgogaa
set_option linter.unusedVariables false
set_option linter.unusedSimpArgs false
set_option maxRecDepth 100000
open Go.RowKit

abbrev itV (k1 k2 k3 : Int) (sd ad : Bool) (s b p r i x y : Int) : Value := .agg #[.int .i64 k1, .int .i64 k2, .int .i64 k3, .bool sd, .bool ad, .int .i64 s, .int .i64 b, .int .i64 p, .int .i64 r, .int .i64 i, .int .i64 x, .int .i64 y]

set_option maxHeartbeats 1000000 in
theorem back20_any (k1 k2 k3 : Int) (sd ad : Bool) (s b p r i x y : Int) (w : World) :
    Calls Try.prog 40 #[itV k1 k2 k3 sd ad s b p r i x y] w fun e w' => e = .returned (itV k1 k2 k3 sd ad s b p r i x y) ∧ Below w.heap.size w w' := by
  have HX : Hid (∀ W, (((w.alloc (.cells #[.int .i64 k1, .int .i64 k2, .int .i64 k3, .bool sd, .bool ad, .int .i64 s, .int .i64 b, .int .i64 p, .int .i64 r, .int .i64 i, .int .i64 x, .int .i64 y] 78)).alloc (.cells #[.int .i64 k1, .int .i64 k2, .int .i64 k3, .bool sd, .bool ad, .int .i64 s, .int .i64 b, .int .i64 p, .int .i64 r, .int .i64 i, .int .i64 x, .int .i64 y] 87)).alloc (.cells #[.bool sd, .bool ad, .int .i64 s, .int .i64 b, .int .i64 p, .int .i64 r, .int .i64 i, .int .i64 x, .int .i64 y] 85)) = W →
      Below w.heap.size w W ∧ Blk W (w.heap.size + 1) 87 #[.int .i64 k1, .int .i64 k2, .int .i64 k3, .bool sd, .bool ad, .int .i64 s, .int .i64 b, .int .i64 p, .int .i64 r, .int .i64 i, .int .i64 x, .int .i64 y]) := Lib.hid (by
    rintro W rfl
    exact ⟨(((Below.refl _ _).alloc (Nat.le_refl _) _).alloc (by simp) _).alloc (by simp <;> omega) _, (Blk.new' _ _ (by simp)).alloc _⟩)
  go_enter Try.func40, Try.ntmps40
  go_wp2_with fail
  obtain ⟨W, hW⟩ : ∃ W, (((w.alloc (.cells #[.int .i64 k1, .int .i64 k2, .int .i64 k3, .bool sd, .bool ad, .int .i64 s, .int .i64 b, .int .i64 p, .int .i64 r, .int .i64 i, .int .i64 x, .int .i64 y] 78)).alloc (.cells #[.int .i64 k1, .int .i64 k2, .int .i64 k3, .bool sd, .bool ad, .int .i64 s, .int .i64 b, .int .i64 p, .int .i64 r, .int .i64 i, .int .i64 x, .int .i64 y] 87)).alloc (.cells #[.bool sd, .bool ad, .int .i64 s, .int .i64 b, .int .i64 p, .int .i64 r, .int .i64 i, .int .i64 x, .int .i64 y] 85)) = W := ⟨_, rfl⟩
  obtain ⟨hb, hBk⟩ := HX.out W hW
  rw [hW]
  have p0 : W.cell? ⟨w.heap.size + 1, 0, none⟩ = some (.int .i64 k1) := hBk.cell 0
  have p1 : W.cell? ⟨w.heap.size + 1, 1, none⟩ = some (.int .i64 k2) := hBk.cell 1
  have p2 : W.cell? ⟨w.heap.size + 1, 2, none⟩ = some (.int .i64 k3) := hBk.cell 2
  have p3 : W.cell? ⟨w.heap.size + 1, 3, none⟩ = some (.bool sd) := hBk.cell 3
  have p4 : W.cell? ⟨w.heap.size + 1, 4, none⟩ = some (.bool ad) := hBk.cell 4
  have p5 : W.cell? ⟨w.heap.size + 1, 5, none⟩ = some (.int .i64 s) := hBk.cell 5
  have p6 : W.cell? ⟨w.heap.size + 1, 6, none⟩ = some (.int .i64 b) := hBk.cell 6
  have p7 : W.cell? ⟨w.heap.size + 1, 7, none⟩ = some (.int .i64 p) := hBk.cell 7
  have p8 : W.cell? ⟨w.heap.size + 1, 8, none⟩ = some (.int .i64 r) := hBk.cell 8
  have p9 : W.cell? ⟨w.heap.size + 1, 9, none⟩ = some (.int .i64 i) := hBk.cell 9
  have p10 : W.cell? ⟨w.heap.size + 1, 10, none⟩ = some (.int .i64 x) := hBk.cell 10
  have p11 : W.cell? ⟨w.heap.size + 1, 11, none⟩ = some (.int .i64 y) := hBk.cell 11
  have lp := hBk.lt
  exact bodyPost_ret (v := itV k1 k2 k3 sd ad s b p r i x y) (by simp [results, Try.results40, go_sem, p0, p1, p2, p3, p4, p5, p6, p7, p8, p9, p10, p11, lp]) rfl ⟨rfl, hb⟩

theorem guardItem_ref : Try.prog.eqGuardType Try.prog.depth 87 = false := by kernel_rfl
attribute [go_sem] guardItem_ref

/-- The cells of an item, one by one. -/
theorem item12 {w : World} {A : Option Addr} {n k : Nat} {l : List RItem} (hl : l.length = n) (h : Rd w 12 A n (itemsV l)) (hk : k < n) :
    ∃ g o k1 k2 k3 sd ad s b p r i x y, A = some ⟨g, o, none⟩ ∧ g < w.heap.size ∧ l[k]? = some ((k1, k2, k3), ((sd, ad), (s, b, p, r, i), (x, y))) ∧
      w.cell? ⟨g, o + k * 12, none⟩ = some (.int .i64 k1) ∧ w.cell? ⟨g, o + k * 12 + 1, none⟩ = some (.int .i64 k2) ∧ w.cell? ⟨g, o + k * 12 + 2, none⟩ = some (.int .i64 k3) ∧ w.cell? ⟨g, o + k * 12 + 3, none⟩ = some (.bool sd) ∧ w.cell? ⟨g, o + k * 12 + 4, none⟩ = some (.bool ad) ∧ w.cell? ⟨g, o + k * 12 + 5, none⟩ = some (.int .i64 s) ∧ w.cell? ⟨g, o + k * 12 + 6, none⟩ = some (.int .i64 b) ∧ w.cell? ⟨g, o + k * 12 + 7, none⟩ = some (.int .i64 p) ∧ w.cell? ⟨g, o + k * 12 + 8, none⟩ = some (.int .i64 r) ∧ w.cell? ⟨g, o + k * 12 + 9, none⟩ = some (.int .i64 i) ∧ w.cell? ⟨g, o + k * 12 + 10, none⟩ = some (.int .i64 x) ∧ w.cell? ⟨g, o + k * 12 + 11, none⟩ = some (.int .i64 y) := by
  obtain ⟨g, o, ⟨⟨k1, k2, k3⟩, ⟨sd, ad⟩, ⟨s, b, p, r, i⟩, x, y⟩, hA, hg, hy, hc⟩ := item_cells hl h hk
  refine ⟨g, o, k1, k2, k3, sd, ad, s, b, p, r, i, x, y, hA, hg, hy, by have := hc 0 _ (by omega) rfl; simpa [Nat.add_assoc] using this, by have := hc 1 _ (by omega) rfl; simpa [Nat.add_assoc] using this, by have := hc 2 _ (by omega) rfl; simpa [Nat.add_assoc] using this, by have := hc 3 _ (by omega) rfl; simpa [Nat.add_assoc] using this, by have := hc 4 _ (by omega) rfl; simpa [Nat.add_assoc] using this, by have := hc 5 _ (by omega) rfl; simpa [Nat.add_assoc] using this, by have := hc 6 _ (by omega) rfl; simpa [Nat.add_assoc] using this, by have := hc 7 _ (by omega) rfl; simpa [Nat.add_assoc] using this, by have := hc 8 _ (by omega) rfl; simpa [Nat.add_assoc] using this, by have := hc 9 _ (by omega) rfl; simpa [Nat.add_assoc] using this, by have := hc 10 _ (by omega) rfl; simpa [Nat.add_assoc] using this, by have := hc 11 _ (by omega) rfl; simpa [Nat.add_assoc] using this⟩

section
variable (A B : Option Addr) (n c d : Nat) (l : List RItem) (w : World)

set_option maxHeartbeats 2000000 in
/-- Same on two rows that are the same. -/
theorem same20_any (hl : l.length = n) (h : Rd w 12 A n (itemsV l)) (h' : Rd w 12 B n (itemsV l)) (hn : n ≤ 1000000000) :
    Calls Try.prog 32 #[.slice A n c, .slice B n d] w fun e w' => e = .returned (.bool true) ∧ Below w.heap.size w w' := by
  have HL := Lib.hid hl
  have HR := Lib.hid h
  have HR' := Lib.hid h'
  clear hl h h'
  go_enter Try.func32, Try.ntmps32
  go_wp2_with fail
  go_loopw [5] (fun i wr => ∃ k : Nat, k ≤ n ∧ i = .int .i64 k ∧ Below w.heap.size w wr) (fun i _ => n - (intOf i).toNat)
  case atStart => exact ⟨0, by omega, rfl, Below.refl _ _⟩
  case round =>
    obtain ⟨k, hk, rfl, hB⟩ := hrel
    by_cases hlt : k < n
    · obtain ⟨g, o, k1, k2, k3, sd, ad, s, b, p, r, i, x, y, rfl, hg, hx, e0, e1, e2, e3, e4, e5, e6, e7, e8, e9, e10, e11⟩ := item12 HL.out (HR.out.below hB) hlt
      obtain ⟨g', o', k1', k2', k3', sd', ad', s', b', p', r', i', x', y', rfl, hg', hx', d0, d1, d2, d3, d4, d5, d6, d7, d8, d9, d10, d11⟩ := item12 HL.out (HR'.out.below hB) hlt
      rw [hx] at hx'
      injection hx' with hx'
      simp only [Prod.mk.injEq] at hx'
      obtain ⟨⟨rfl, rfl, rfl⟩, ⟨rfl, rfl⟩, ⟨rfl, rfl, rfl, rfl, rfl⟩, rfl, rfl⟩ := hx'
      have i1 : (0 : Int) ≤ (k : Int) := by omega
      have i2 : (k : Int) < (n : Int) := by omega
      have HB := Lib.hid hB
      clear hx hB
      go_wp2_with fail
      go_quiet (fail)
      go_wp2_with fail
      go_roundw
      case rel => exact ⟨k + 1, by omega, by go_num, below_drewN HB.out _⟩
      case measure => simp [intOf]; omega
    · go_wp2
      go_ret
      exact ⟨rfl, hB⟩

set_option maxHeartbeats 2000000 in
theorem all20_any (hl : l.length = n) (h : Rd w 12 A n (itemsV l)) (hn : n ≤ 1000000000) :
    Calls Try.prog 33 #[.slice A n c] w (OwnRet w 87 12 n (itemsV l)) := by
  have HL := Lib.hid hl
  have HR := Lib.hid h
  clear hl h
  go_enter Try.func33, Try.ntmps33
  go_wp2_with fail
  go_loopw [3, 8] (fun v u wr => ∃ k : Nat, k ≤ n ∧ u = .int .i64 k ∧ RSt w.heap.size (l.take k) v wr ∧ Below w.heap.size w wr) (fun _ u _ => n - (intOf u).toNat)
  case atStart => exact ⟨0, by omega, rfl, ⟨none, 0, 0, rfl, rfl, by simpa [itemsV_nil] using World.ownsRow_nil w w.heap.size 87 12⟩, Below.refl _ _⟩
  case round =>
    obtain ⟨k, hk, rfl, hst, hb⟩ := hrel
    obtain ⟨A1, c1, n1, hn1, rfl, hown⟩ := hst
    have HN1 := Lib.hid hn1
    have hnk : n1 = k := by rw [← hn1, List.length_take, HL.out]; omega
    subst hnk
    have HOW := Lib.hid hown
    have HB := Lib.hid hb
    by_cases hlt : n1 < n
    · obtain ⟨g, o, k1, k2, k3, sd, ad, s, b, p, r, i, x, y, rfl, hg, hx, e0, e1, e2, e3, e4, e5, e6, e7, e8, e9, e10, e11⟩ := item12 HL.out (HR.out.below hb) hlt
      have HTK : Hid (l.take (n1 + 1) = l.take n1 ++ [((k1, k2, k3), ((sd, ad), (s, b, p, r, i), (x, y)))]) := Lib.hid (by
        obtain ⟨h1, h2⟩ := List.getElem?_eq_some_iff.1 hx
        rw [List.take_succ_eq_append_getElem h1, h2])
      have i1 : (0 : Int) ≤ (n1 : Int) := by omega
      have i2 : (n1 : Int) < (n : Int) := by omega
      have HBA := Lib.hid (fun W => back20_any k1 k2 k3 sd ad s b p r i x y W)
      have hsz := hb.size
      clear hx hown hb hn1
      go_wp2_with fail
      ((with_reducible refine (HBA.out _).mono ?_); rintro e w2 ⟨rfl, hb2⟩)
      have hb2' : Below wr.heap.size wr w2 := (((Below.refl _ _).alloc (Nat.le_refl _) _).trans (hb2.mono (by simp)))
      have HO2 := Lib.hid (own_below HOW.out hb2')
      have HB2 := Lib.hid (HB.out.trans (hb2'.mono hsz))
      have hz2 : w.heap.size ≤ w2.heap.size := HB2.out.size
      clear hb2 hb2' e0 e1 e2 e3 e4 e5 e6 e7 e8 e9 e10 e11
      go_wp2_with (at_builtin; go_must (refine wpList_pushL slRItem rfl _ _ rfl w.heap.size (.slice A1 n1 c1) n1 (itemsV (l.take n1)) rfl HO2.out #[.int .i64 k1, .int .i64 k2, .int .i64 k3, .bool sd, .bool ad, .int .i64 s, .int .i64 b, .int .i64 p, .int .i64 r, .int .i64 i, .int .i64 x, .int .i64 y] w2.heap.size rfl rfl rfl (itemV_cells ((k1, k2, k3), ((sd, ad), (s, b, p, r, i), (x, y)))) (by unfold maxLen; omega) (by omega) hz2 ?_); intro A3 c3 w3 hown3 hb3 hg3 _)
      have HST : Hid (RSt w.heap.size (l.take n1 ++ [((k1, k2, k3), ((sd, ad), (s, b, p, r, i), (x, y)))]) (.slice A3 (n1 + 1) c3) w3) := Lib.hid (RSt.push ((k1, k2, k3), ((sd, ad), (s, b, p, r, i), (x, y))) HN1.out HO2.out hown3 hb3 hg3).1
      have HB3 := Lib.hid (HB2.out.trans hb3)
      clear hown3 hb3 hg3
      go_wp2_with fail
      go_roundw
      case rel => exact ⟨n1 + 1, by omega, by go_num, by rw [HTK.out]; exact HST.out, HB3.out⟩
      case measure => simp [intOf]; omega
    · obtain rfl : n1 = n := by omega
      rw [List.take_of_length_le (by rw [HL.out]; exact Nat.le_refl _)] at hown
      have HOW2 := Lib.hid hown
      clear hown hb hn1
      go_wp2_with fail
      go_ret
      exact ⟨A1, c1, rfl, HOW2.out, HB.out⟩
end

/-- The example of the chapter. -/
def cfgA : Cfg := ⟨1, 0, 0, 1, 1, 1, 1, 2, 1, 1, 1⟩
def pcA : PlC := ⟨2, 2, 1, 1, 1, 1⟩
theorem pcA_ok : pcA.Ok := by constructor <;> decide
theorem fitsA : Fits pcA cfgA := by constructor <;> decide
theorem okA : okCfg [1, 1] cfgA = true := by decide
theorem stepA : pcA.stepI 1 0 0 = [plainI 1 0 0, plainI 2 0 0, plainI 5 0 0, plainI 6 0 0] := by rfl

set_option maxHeartbeats 1000000 in
theorem alive20_any (w : World) : Calls Try.prog 30 #[] w fun e w' => e = .returned (.bool true) ∧ Below w.heap.size w w' := by
  have HX : Hid (∀ W, w.alloc (.cells #[.int .i64 1, .int .i64 1] 3) = W → Below w.heap.size w W ∧ Rd W 1 (some ⟨w.heap.size, 0, none⟩) 2 (iv [1, 1])) := Lib.hid (by
    rintro W rfl
    refine ⟨(Below.refl _ _).alloc (Nat.le_refl _) _, rfl, fun _ => ⟨w.heap.size, 0, rfl, by simp, fun j u hu => ?_⟩⟩
    rw [Nat.zero_add, (Blk.new w 3 #[.int .i64 1, .int .i64 1]).cell j, ← hu]
    match j with
    | 0 => rfl
    | 1 => rfl
    | j + 2 => simp [iv])
  have HN := Lib.hid (fun W (r : Rd W 1 (some ⟨w.heap.size, 0, none⟩) 2 (iv [1, 1])) => planNew_good (some ⟨w.heap.size, 0, none⟩) 2 2 [1, 1] cfgA 2 W pcA pcA_ok rfl r (by omega) (by omega) okA rfl rfl rfl rfl rfl rfl)
  dsimp only [cfgA] at HN
  have HS := Lib.hid (fun b W (h : PlanAt W b pcA cfgA (some ⟨w.heap.size, 0, none⟩) 2 2) => planStep_any pcA cfgA (some ⟨w.heap.size, 0, none⟩) 2 2 b 0 0 W pcA_ok fitsA h)
  go_enter Try.func30, Try.ntmps30
  go_wp2_with fail
  obtain ⟨w0, hw0⟩ : ∃ w0, w.alloc (.cells #[.int .i64 1, .int .i64 1] 3) = w0 := ⟨_, rfl⟩
  obtain ⟨hB0, hR0⟩ := HX.out _ hw0
  rw [hw0]
  ((with_reducible refine (HN.out _ hR0).mono ?_); rintro e w1 ⟨b, rfl, hpl, hb1⟩)
  have HB1 := Lib.hid (hB0.trans (hb1.mono hB0.size))
  have HP := Lib.hid hpl
  clear hw0 hB0 hR0 hb1 hpl HX HN
  go_wp2_with fail
  have HSb := HS.out b w1 HP.out
  ((with_reducible refine HSb.mono ?_); rintro e w2 ⟨A2, c2, rfl, hown, hb2⟩)
  have HB2 := Lib.hid (HB1.out.trans (hb2.mono HB1.out.size))
  have hst : pcA.stepI cfgA.st 0 0 = [plainI 1 0 0, plainI 2 0 0, plainI 5 0 0, plainI 6 0 0] := stepA
  have h4 : (pcA.stepI cfgA.st 0 0).length = 4 := by rw [hst]; rfl
  rw [h4] at hown ⊢
  rw [hst] at hown
  have hrd := Rd.of_own hown
  obtain ⟨g, o, k1, k2, k3, sd, ad, s, bb, p, r, i, x, y, rfl, hg, hx, e0, -⟩ := item12 rfl hrd (show 0 < 4 by omega)
  obtain ⟨g', o', k1', k2', k3', sd', ad', s', bb', p', r', i', x', y', hA, -, hx', e1, -⟩ := item12 rfl hrd (show 1 < 4 by omega)
  injection hA with hA
  injection hA with hg1 ho1
  subst hg1 ho1
  obtain ⟨g', o', l1, l2, l3, sd', ad', s', bb', p', r', i', x', y', hA, -, hy, e2, -⟩ := item12 rfl hrd (show 2 < 4 by omega)
  injection hA with hA
  injection hA with hg1 ho1
  subst hg1 ho1
  obtain ⟨g', o', m1, m2, m3, sd', ad', s', bb', p', r', i', x', y', hA, -, hz, e3, -⟩ := item12 rfl hrd (show 3 < 4 by omega)
  injection hA with hA
  injection hA with hg1 ho1
  subst hg1 ho1
  have q0 : k1 = 1 := by injection hx with hx; injection hx with hx _; injection hx with hx _; exact hx.symm
  have q1 : k1' = 2 := by injection hx' with hx; injection hx with hx _; injection hx with hx _; exact hx.symm
  have q2 : l1 = 5 := by injection hy with hx; injection hx with hx _; injection hx with hx _; exact hx.symm
  have q3 : m1 = 6 := by injection hz with hx; injection hx with hx _; injection hx with hx _; exact hx.symm
  subst q0 q1 q2 q3
  have d0 : w2.cell? ⟨g, o, none⟩ = some (.int .i64 1) := e0
  have d1 : w2.cell? ⟨g, o + 12, none⟩ = some (.int .i64 2) := e1
  have d2 : w2.cell? ⟨g, o + 24, none⟩ = some (.int .i64 5) := e2
  have d3 : w2.cell? ⟨g, o + 36, none⟩ = some (.int .i64 6) := e3
  clear hx hx' hy hz hown hb2 hrd hst h4 HSb e0 e1 e2 e3
  go_wp2_with fail
  go_ret
  exact ⟨rfl, HB2.out⟩

end Go.Proofs.Ytkecpbdgcbgogaa
