/-
  The methods of a plan: Item, Buckets, Total.
-/
import Derived.Test.YtkecpbdgcbgogaaPlanMeth
namespace Go.Proofs.Ytkecpbdgcbgogaa
set_option linter.unusedVariables false
set_option linter.unusedSimpArgs false
set_option maxRecDepth 100000
open Go.RowKit

theorem rv_ones (l : List (Int × Int)) : ∀ u ∈ rv l, u.oneCell' = true := fun u h => rv_one u l h

set_option maxHeartbeats 400000 in
theorem cloneR_any (A : Option Addr) (n cap : Nat) (l : List (Int × Int)) (w : World) (hl : l.length = n) (h : Rd w 2 A n (rv l)) (hn : n ≤ 1000000) :
    Calls Try.prog 67 #[.slice A n cap] w (OwnRet w 33 2 n (rv l)) := by
  have HR := Lib.hid h
  have HL := Lib.hid hl
  have hq := fun (w : World) (a : Option Addr) (n c : Nat) => Lib.run_eql_slice_nil (P := Try.prog) w 89 33 a n c 0 0 Try.underlying89
  clear h hl
  cases A with
  | none =>
    have hn0 : n = 0 := by
      rcases Nat.eq_zero_or_pos n with h0 | h0
      · exact h0
      · obtain ⟨b, o, h, _⟩ := HR.out.2 h0; cases h
    subst hn0
    have hl0 : l = [] := List.eq_nil_of_length_eq_zero HL.out
    subst hl0
    go_enter Try.func67, Try.ntmps67
    go_wp2
    go_ret
    exact ⟨none, 0, rfl, by simpa [rv] using World.ownsRow_nil _ _ _ _, Below.refl _ _⟩
  | some ad =>
    go_enter Try.func67, Try.ntmps67
    go_wp2_with (at_builtin; go_must (refine wpList_appendAll slPart rfl _ _ rfl w.heap.size _ 0 [] rfl (World.ownsRow_lit w #[] 0 (Nat.le_refl _) (by unfold maxLen; omega) rfl) (some ad) n cap (rv l) rfl (HR.out.alloc _) (rv_ones l) (by unfold maxLen; omega) (by omega) (by simp) ?_); intro A' cap' w1 hown1 hb1)
    go_ret
    exact ⟨A', cap', by simp, by simpa using hown1, ((Below.refl _ _).alloc (Nat.le_refl _) _).trans hb1⟩

theorem set12 {w : World} {g : Nat} {t : TypeId} {a0 a1 a2 a3 a4 a5 a6 a7 a8 a9 a10 a11 : Value} (h : Blk w g t #[a0, a1, a2, a3, a4, a5, a6, a7, a8, a9, a10, a11]) (b0 b1 b2 b3 b4 b5 b6 b7 b8 b9 b10 b11 : Value) :
    ∃ W, W = ((((((((((((w.setCell ⟨g, 0, none⟩ b0).setCell ⟨g, 1, none⟩ b1).setCell ⟨g, 2, none⟩ b2).setCell ⟨g, 3, none⟩ b3).setCell ⟨g, 4, none⟩ b4).setCell ⟨g, 5, none⟩ b5).setCell ⟨g, 6, none⟩ b6).setCell ⟨g, 7, none⟩ b7).setCell ⟨g, 8, none⟩ b8).setCell ⟨g, 9, none⟩ b9).setCell ⟨g, 10, none⟩ b10).setCell ⟨g, 11, none⟩ b11) ∧ w.grownBy W (some g) ∧ Blk W g t #[b0, b1, b2, b3, b4, b5, b6, b7, b8, b9, b10, b11] :=
  ⟨_, rfl, (gr_set (p := ⟨g, 11, none⟩) (gr_set (p := ⟨g, 10, none⟩) (gr_set (p := ⟨g, 9, none⟩) (gr_set (p := ⟨g, 8, none⟩) (gr_set (p := ⟨g, 7, none⟩) (gr_set (p := ⟨g, 6, none⟩) (gr_set (p := ⟨g, 5, none⟩) (gr_set (p := ⟨g, 4, none⟩) (gr_set (p := ⟨g, 3, none⟩) (gr_set (p := ⟨g, 2, none⟩) (gr_set (p := ⟨g, 1, none⟩) (gr_set (p := ⟨g, 0, none⟩) (World.grownBy.refl w _) (.inl rfl) b0) (.inl rfl) b1) (.inl rfl) b2) (.inl rfl) b3) (.inl rfl) b4) (.inl rfl) b5) (.inl rfl) b6) (.inl rfl) b7) (.inl rfl) b8) (.inl rfl) b9) (.inl rfl) b10) (.inl rfl) b11), by simpa using ((((((((((((h.set_ 0 b0).set_ 1 b1).set_ 2 b2).set_ 3 b3).set_ 4 b4).set_ 5 b5).set_ 6 b6).set_ 7 b7).set_ 8 b8).set_ 9 b9).set_ 10 b10).set_ 11 b11)⟩

def zeroItemV : Value := .agg #[.int .i64 0, .int .i64 0, .int .i64 0, .bool false, .bool false, .int .i64 0, .int .i64 0, .int .i64 0, .int .i64 0, .int .i64 0, .int .i64 0, .int .i64 0]

section
variable (pc : PlC) (c : Cfg) (A : Option Addr) (n cap b : Nat) (x t i : Int) (w : World)

theorem planBuckets_any (hp : pc.Ok) (h : PlanAt w b pc c A n cap) :
    Calls Try.prog 41 #[.pointer (some ⟨b, 0, none⟩)] w (OwnRet w 33 2 pc.nb (rv pc.bks)) := by
  obtain ⟨Ab, cb, Ag, cg, Al, cl, h1, h2, h3, h4, _⟩ := h
  have c12 : w.cell? ⟨b, 12, none⟩ = some (.slice Ab pc.nb cb) := h1.cell 12
  have lb := h1.lt
  have HC := Lib.hid (cloneR_any Ab pc.nb cb pc.bks w pc.bks_length h2 (by have := PlC.nb_le hp; omega))
  clear h1 h2 h3 h4 hp
  go_enter Try.func41, Try.ntmps41
  go_wp2_with fail
  ((with_reducible refine HC.out.mono ?_); rintro e w1 ⟨A1, c1, rfl, hown, hb⟩)
  have HO := Lib.hid (And.intro hown hb)
  clear hown hb
  go_wp2_with fail
  go_ret
  exact ⟨A1, c1, rfl, HO.out.1, HO.out.2⟩
theorem planBuckets_nil : Calls Try.prog 41 #[.pointer none] w fun e w' => e = .returned (.slice none 0 0) ∧ w = w' := by
  go_enter Try.func41, Try.ntmps41
  go_wp2_with fail
  go_ret
  exact ⟨rfl, rfl⟩
theorem planTotal_nil : Calls Try.prog 43 #[.pointer none] w fun e w' => e = .returned (.int .i64 0) ∧ w = w' := by
  go_enter Try.func43, Try.ntmps43
  go_wp2_with fail
  go_ret
  exact ⟨rfl, rfl⟩

set_option maxHeartbeats 1000000 in
theorem planItem_nil : Calls Try.prog 39 #[.pointer none, .int .i64 x, .int .i64 i] w fun e w' => e = .returned (.tuple #[zeroItemV, .bool false]) ∧ Below w.heap.size w w' := by
  have HL := Lib.hid (fun W => planLen_nil x W)
  go_enter Try.func39, Try.ntmps39
  go_wp2_with fail
  ((with_reducible refine (HL.out _).mono ?_); rintro e w1 ⟨rfl, rfl⟩)
  go_wp2_with fail
  go_quiet (fail)
  go_wp2_with fail
  have hb0 : Blk ((w.alloc (.cells #[.int .i64 0, .int .i64 0, .int .i64 0, .bool false, .bool false, .int .i64 0, .int .i64 0, .int .i64 0, .int .i64 0, .int .i64 0, .int .i64 0, .int .i64 0] 78)).drewN nq) w.heap.size 78 #[.int .i64 0, .int .i64 0, .int .i64 0, .bool false, .bool false, .int .i64 0, .int .i64 0, .int .i64 0, .int .i64 0, .int .i64 0, .int .i64 0, .int .i64 0] := (Blk.new w _ _).drewN _
  obtain ⟨W, hW, hgr, hBk⟩ := set12 hb0 (.int .i64 0) (.int .i64 0) (.int .i64 0) (.bool false) (.bool false) (.int .i64 0) (.int .i64 0) (.int .i64 0) (.int .i64 0) (.int .i64 0) (.int .i64 0) (.int .i64 0)
  rw [← hW]
  have p0 := hBk.cell 0
  have p1 := hBk.cell 1
  have p2 := hBk.cell 2
  have p3 := hBk.cell 3
  have p4 := hBk.cell 4
  have p5 := hBk.cell 5
  have p6 := hBk.cell 6
  have p7 := hBk.cell 7
  have p8 := hBk.cell 8
  have p9 := hBk.cell 9
  have p10 := hBk.cell 10
  have p11 := hBk.cell 11
  have lp := hBk.lt
  simp only [List.getElem?_toArray, List.getElem?_cons_zero, List.getElem?_cons_succ] at p0 p1 p2 p3 p4 p5 p6 p7 p8 p9 p10 p11
  refine bodyPost_ret (v := .tuple #[zeroItemV, .bool false]) (by simp [results, Try.results39, go_sem, zeroItemV, p0, p1, p2, p3, p4, p5, p6, p7, p8, p9, p10, p11, lp]) rfl ⟨rfl, below_gr (below_drewN ((Below.refl _ _).alloc (Nat.le_refl _) _) _) (by simp) hgr (Nat.le_refl _)⟩

/-- The place of an item that there is. -/
def PlC.isAt (pc : PlC) (st x i : Int) : Prop := 0 ≤ x ∧ x < pc.m ∧ 0 ≤ i ∧ i / (pc.lenI x : Int) < st

set_option maxHeartbeats 2000000 in
theorem planItem_none (hi63 : i ≤ 9223372036854775807) (hno : ¬ pc.isAt c.st x i) (h : PlanAt w b pc c A n cap) :
    Calls Try.prog 39 #[.pointer (some ⟨b, 0, none⟩), .int .i64 x, .int .i64 i] w fun e w' => e = .returned (.tuple #[zeroItemV, .bool false]) ∧ Below w.heap.size w w' := by
  have HLe := Lib.hid (fun W (h : PlanAt W b pc c A n cap) => planLen_any pc c A n cap b x W h)
  have hb1 : Below w.heap.size w (w.alloc (.cells #[.int .i64 0, .int .i64 0, .int .i64 0, .bool false, .bool false, .int .i64 0, .int .i64 0, .int .i64 0, .int .i64 0, .int .i64 0, .int .i64 0, .int .i64 0] 78)) := (Below.refl _ _).alloc (Nat.le_refl _) _
  have HPA := Lib.hid (h.kept hb1)
  obtain ⟨Ab, cb, Ag, cg, Al, cl, h1, -, -, -, -⟩ := h
  have HPos := Lib.hid (pc.lenI_pos x)
  have HNO := Lib.hid hno
  obtain ⟨q, hq⟩ : ∃ q, pc.lenI x = q := ⟨_, rfl⟩
  have c7 : w.cell? ⟨b, 7, none⟩ = some (.int .i64 c.st) := h1.cell 7
  have lb := h1.lt
  by_cases hq0 : q = 0
  · subst hq0
    have HQ := Lib.hid hq
    clear h1 hb1 hno hq c7
    go_enter Try.func39, Try.ntmps39
    go_wp2_with fail
    ((with_reducible refine (HLe.out _ HPA.out).mono ?_); rintro e w1 ⟨rfl, rfl⟩)
    rw [HQ.out]
    go_wp2_with fail
    go_quiet (fail)
    go_wp2_with fail
    have hb0 : Blk ((w.alloc (.cells #[.int .i64 0, .int .i64 0, .int .i64 0, .bool false, .bool false, .int .i64 0, .int .i64 0, .int .i64 0, .int .i64 0, .int .i64 0, .int .i64 0, .int .i64 0] 78)).drewN nq) w.heap.size 78 #[.int .i64 0, .int .i64 0, .int .i64 0, .bool false, .bool false, .int .i64 0, .int .i64 0, .int .i64 0, .int .i64 0, .int .i64 0, .int .i64 0, .int .i64 0] := (Blk.new w _ _).drewN _
    obtain ⟨W, hW, hgr, hBk⟩ := set12 hb0 (.int .i64 0) (.int .i64 0) (.int .i64 0) (.bool false) (.bool false) (.int .i64 0) (.int .i64 0) (.int .i64 0) (.int .i64 0) (.int .i64 0) (.int .i64 0) (.int .i64 0)
    rw [← hW]
    have p0 := hBk.cell 0
    have p1 := hBk.cell 1
    have p2 := hBk.cell 2
    have p3 := hBk.cell 3
    have p4 := hBk.cell 4
    have p5 := hBk.cell 5
    have p6 := hBk.cell 6
    have p7 := hBk.cell 7
    have p8 := hBk.cell 8
    have p9 := hBk.cell 9
    have p10 := hBk.cell 10
    have p11 := hBk.cell 11
    have lp := hBk.lt
    simp only [List.getElem?_toArray, List.getElem?_cons_zero, List.getElem?_cons_succ] at p0 p1 p2 p3 p4 p5 p6 p7 p8 p9 p10 p11
    refine bodyPost_ret (v := .tuple #[zeroItemV, .bool false]) (by simp [results, Try.results39, go_sem, zeroItemV, p0, p1, p2, p3, p4, p5, p6, p7, p8, p9, p10, p11, lp]) rfl ⟨rfl, below_gr (below_drewN ((Below.refl _ _).alloc (Nat.le_refl _) _) _) (by simp) hgr (Nat.le_refl _)⟩
  · have e0 : ((q : Int) == 0) = false := by simp; omega
    have HQ := Lib.hid hq
    by_cases hi0 : i < 0
    · have e1 : decide (i < 0) = true := decide_eq_true hi0
      clear h1 hb1 hno hq c7
      go_enter Try.func39, Try.ntmps39
      go_wp2_with fail
      ((with_reducible refine (HLe.out _ HPA.out).mono ?_); rintro e w1 ⟨rfl, rfl⟩)
      rw [HQ.out]
      go_wp2_with fail
      go_quiet (fail)
      go_wp2_with fail
      have hb0 : Blk ((w.alloc (.cells #[.int .i64 0, .int .i64 0, .int .i64 0, .bool false, .bool false, .int .i64 0, .int .i64 0, .int .i64 0, .int .i64 0, .int .i64 0, .int .i64 0, .int .i64 0] 78)).drewN nq) w.heap.size 78 #[.int .i64 0, .int .i64 0, .int .i64 0, .bool false, .bool false, .int .i64 0, .int .i64 0, .int .i64 0, .int .i64 0, .int .i64 0, .int .i64 0, .int .i64 0] := (Blk.new w _ _).drewN _
      obtain ⟨W, hW, hgr, hBk⟩ := set12 hb0 (.int .i64 0) (.int .i64 0) (.int .i64 0) (.bool false) (.bool false) (.int .i64 0) (.int .i64 0) (.int .i64 0) (.int .i64 0) (.int .i64 0) (.int .i64 0) (.int .i64 0)
      rw [← hW]
      have p0 := hBk.cell 0
      have p1 := hBk.cell 1
      have p2 := hBk.cell 2
      have p3 := hBk.cell 3
      have p4 := hBk.cell 4
      have p5 := hBk.cell 5
      have p6 := hBk.cell 6
      have p7 := hBk.cell 7
      have p8 := hBk.cell 8
      have p9 := hBk.cell 9
      have p10 := hBk.cell 10
      have p11 := hBk.cell 11
      have lp := hBk.lt
      simp only [List.getElem?_toArray, List.getElem?_cons_zero, List.getElem?_cons_succ] at p0 p1 p2 p3 p4 p5 p6 p7 p8 p9 p10 p11
      refine bodyPost_ret (v := .tuple #[zeroItemV, .bool false]) (by simp [results, Try.results39, go_sem, zeroItemV, p0, p1, p2, p3, p4, p5, p6, p7, p8, p9, p10, p11, lp]) rfl ⟨rfl, below_gr (below_drewN ((Below.refl _ _).alloc (Nat.le_refl _) _) _) (by simp) hgr (Nat.le_refl _)⟩
    · obtain ⟨ii, rfl⟩ := Int.eq_ofNat_of_zero_le (show 0 ≤ i by omega)
      have e1 : decide ((ii : Int) < 0) = false := decide_eq_false (by omega)
      have hxx := HPos.out.2 (by rw [hq]; exact hq0)
      have hge : c.st ≤ ((ii / q : Nat) : Int) := by
        apply Classical.byContradiction
        intro hlt
        exact hno ⟨hxx.1, hxx.2, by omega, by rw [hq]; exact (by omega : ((ii / q : Nat) : Int) < c.st)⟩
      have hdle : ii / q ≤ ii := Nat.div_le_self _ _
      obtain ⟨d, hd⟩ : ∃ d, ii / q = d := ⟨_, rfl⟩
      rw [hd] at hge hdle
      have hqi : (ii : Int) / (q : Int) = (d : Int) := by rw [← hd]; rfl
      have zq : IntKind.i64.wrap ((ii : Int) / (q : Int)) = (d : Int) := by rw [hqi]; exact IntWalk.i64_in _ (by omega)
      have zn : ¬ q = 0 := hq0
      have e2 : decide (c.st ≤ (d : Int)) = true := decide_eq_true hge
      clear h1 hb1 hno hq hxx hqi hd hge
      go_enter Try.func39, Try.ntmps39
      go_wp2_with fail
      ((with_reducible refine (HLe.out _ HPA.out).mono ?_); rintro e w1 ⟨rfl, rfl⟩)
      rw [HQ.out]
      go_wp2_with fail
      go_quiet (fail)
      go_wp2_with fail
      have hb0 : Blk ((w.alloc (.cells #[.int .i64 0, .int .i64 0, .int .i64 0, .bool false, .bool false, .int .i64 0, .int .i64 0, .int .i64 0, .int .i64 0, .int .i64 0, .int .i64 0, .int .i64 0] 78)).drewN nq) w.heap.size 78 #[.int .i64 0, .int .i64 0, .int .i64 0, .bool false, .bool false, .int .i64 0, .int .i64 0, .int .i64 0, .int .i64 0, .int .i64 0, .int .i64 0, .int .i64 0] := (Blk.new w _ _).drewN _
      obtain ⟨W, hW, hgr, hBk⟩ := set12 hb0 (.int .i64 0) (.int .i64 0) (.int .i64 0) (.bool false) (.bool false) (.int .i64 0) (.int .i64 0) (.int .i64 0) (.int .i64 0) (.int .i64 0) (.int .i64 0) (.int .i64 0)
      rw [← hW]
      have p0 := hBk.cell 0
      have p1 := hBk.cell 1
      have p2 := hBk.cell 2
      have p3 := hBk.cell 3
      have p4 := hBk.cell 4
      have p5 := hBk.cell 5
      have p6 := hBk.cell 6
      have p7 := hBk.cell 7
      have p8 := hBk.cell 8
      have p9 := hBk.cell 9
      have p10 := hBk.cell 10
      have p11 := hBk.cell 11
      have lp := hBk.lt
      simp only [List.getElem?_toArray, List.getElem?_cons_zero, List.getElem?_cons_succ] at p0 p1 p2 p3 p4 p5 p6 p7 p8 p9 p10 p11
      refine bodyPost_ret (v := .tuple #[zeroItemV, .bool false]) (by simp [results, Try.results39, go_sem, zeroItemV, p0, p1, p2, p3, p4, p5, p6, p7, p8, p9, p10, p11, lp]) rfl ⟨rfl, below_gr (below_drewN ((Below.refl _ _).alloc (Nat.le_refl _) _) _) (by simp) hgr (Nat.le_refl _)⟩

set_option maxHeartbeats 4000000 in
theorem planItem_some (hp : pc.Ok) (hf : Fits pc c) (k q d r : Nat) (y : RItem) (hx : x < pc.m) (hx0 : 0 ≤ x) (hk63 : k ≤ 9223372036854775807) (hq : pc.lenI x = q) (hd : k / q = d) (hr : k % q = r) (hlt : (d : Int) < c.st) (hy : (pc.itemsI x d)[r]? = some y) (h : PlanAt w b pc c A n cap) :
    Calls Try.prog 39 #[.pointer (some ⟨b, 0, none⟩), .int .i64 x, .int .i64 k] w fun e w' => e = .returned (.tuple #[.agg (itemV y).toArray, .bool true]) ∧ Below w.heap.size w w' := by
  have HLe := Lib.hid (fun W (h : PlanAt W b pc c A n cap) => planLen_any pc c A n cap b x W h)
  obtain ⟨w1, hw1⟩ : ∃ w1, w.alloc (.cells #[.int .i64 0, .int .i64 0, .int .i64 0, .bool false, .bool false, .int .i64 0, .int .i64 0, .int .i64 0, .int .i64 0, .int .i64 0, .int .i64 0, .int .i64 0] 78) = w1 := ⟨_, rfl⟩
  have hb1 : Below w.heap.size w w1 := by rw [← hw1]; exact (Below.refl _ _).alloc (Nat.le_refl _) _
  have hr1 : Blk w1 w.heap.size 78 #[.int .i64 0, .int .i64 0, .int .i64 0, .bool false, .bool false, .int .i64 0, .int .i64 0, .int .i64 0, .int .i64 0, .int .i64 0, .int .i64 0, .int .i64 0] := by rw [← hw1]; exact Blk.new _ _ _
  have HPA := Lib.hid (h.kept hb1)
  obtain ⟨Ab, cb, Ag, cg, Al, cl, h1, h2, h3, -, -⟩ := h.kept hb1
  have HI := Lib.hid (fun W a1 a2 => items20_any pc c A n cap Ab cb Ag cg x d W hp hf.wk hf.ch hf.mi a1 a2)
  have HR2 := Lib.hid h2
  have HR3 := Lib.hid h3
  have HH1 := Lib.hid h1
  have HR1 := Lib.hid hr1
  have HB1 := Lib.hid hb1
  have HW1 := Lib.hid hw1
  have hqpos : pc.lenI x ≠ 0 := (pc.lenI_pos x).1 ⟨hx0, hx⟩
  have hlen : (pc.itemsI x d).length = q := by
    rw [← hq, pc.itemsI_len x d 0]
    exact (if_pos ⟨hx0, hx⟩).symm
  rw [hq] at hqpos
  have hrq : r < q := by rw [← hr]; exact Nat.mod_lt _ (by omega)
  obtain ⟨NI, hNI⟩ : ∃ NI, (pc.itemsI x d).length = NI := ⟨_, rfl⟩
  rw [hNI] at HI hlen
  subst hlen
  have HNI := Lib.hid hNI
  have HQ := Lib.hid hq
  have HY := Lib.hid hy
  have hdle : d ≤ k := by rw [← hd]; exact Nat.div_le_self _ _
  have hqi : (k : Int) / (NI : Int) = (d : Int) := by rw [← hd]; rfl
  have hri : (k : Int).tmod (NI : Int) = (r : Int) := by rw [← hr]; rfl
  have zq : IntKind.i64.wrap ((k : Int) / (NI : Int)) = (d : Int) := by rw [hqi]; exact IntWalk.i64_in _ (by omega)
  have zn : ¬ NI = 0 := hqpos
  have e0 : ((NI : Int) == 0) = false := by simp; omega
  have e1 : decide ((k : Int) < 0) = false := decide_eq_false (by omega)
  have e2 : decide (c.st ≤ (d : Int)) = false := decide_eq_false (by omega)
  have s7 : w1.cell? ⟨b, 7, none⟩ = some (.int .i64 c.st) := h1.cell 7
  have lb := h1.lt
  have hz1 : w.heap.size < w1.heap.size := hr1.lt
  have hbsb : b ≠ w.heap.size := HH1.out.ne_ hr1 (by decide)
  clear h1 h2 h3 hb1 hr1 hw1 hqi hd hr hq hy hNI h
  go_enter Try.func39, Try.ntmps39
  go_wp2_with fail
  rw [HW1.out]
  ((with_reducible refine (HLe.out _ HPA.out).mono ?_); rintro e wx ⟨rfl, rfl⟩)
  rw [HQ.out]
  go_wp2_with fail
  go_quiet (fail)
  go_wp2_with fail
  obtain ⟨wa, hwa⟩ : ∃ wa, w1.drewN nq = wa := ⟨_, rfl⟩
  rw [hwa]
  have hba : Below w1.heap.size w1 wa := by rw [← hwa]; exact below_drewN (Below.refl _ _) _
  have h1 := HH1.out.kept hba
  clear s7
  have s0 := h1.cell 0
  have s1 := h1.cell 1
  have s2 := h1.cell 2
  have s3 := h1.cell 3
  have s4 := h1.cell 4
  have s5 := h1.cell 5
  have s6 := h1.cell 6
  have s7 := h1.cell 7
  have s8 := h1.cell 8
  have s9 := h1.cell 9
  have s10 := h1.cell 10
  have s11 := h1.cell 11
  have s12 := h1.cell 12
  have s13 := h1.cell 13
  simp only [List.getElem?_toArray, List.getElem?_cons_zero, List.getElem?_cons_succ] at s0 s1 s2 s3 s4 s5 s6 s7 s8 s9 s10 s11 s12 s13
  have lba := h1.lt
  have HRa2 := Lib.hid (HR2.out.below hba)
  have HRa3 := Lib.hid (HR3.out.below hba)
  have HRa1 := Lib.hid (HR1.out.kept hba)
  have HBA := Lib.hid (HB1.out.trans (hba.mono HB1.out.size))
  have hra1 := HRa1.out.lt
  clear hwa h1 hba HR2 HR3 HR1 HB1 HH1 HW1 HPA HLe lb
  refine wp_region_early (Kept wa) [0, 1, 2, 3, 4, 5, 6, 7, 9, 10, 11] [8, 12, 13] [14, 15] (by kernel_rfl) (by kernel_rfl) (Kept.start wa) ?_
  simp only [List.filterMap_cons, List.filterMap_nil, List.getElem?_cons_succ, List.getElem?_cons_zero]
  refine early_step (.pointer (some ⟨b, 0, none⟩)) rfl (fun W hW => ?_) ?_
  · obtain ⟨hc, -, -⟩ := hW
    go_simp
  go_simp
  refine early_step (.pointer (some ⟨b, 0, none⟩)) rfl (fun W hW => ?_) ?_
  · obtain ⟨hc, -, -⟩ := hW
    go_simp
  go_simp
  refine early_step (.pointer (some ⟨b, 0, none⟩)) rfl (fun W hW => ?_) ?_
  · obtain ⟨hc, -, -⟩ := hW
    go_simp
  go_simp
  refine early_step (setV A n cap c Ab pc.nb cb Ag (cnt pc.nb pc.wi) cg) rfl (fun W hW => ?_) ?_
  · obtain ⟨hc, -, -⟩ := hW
    go_simp
  go_simp
  refine early_step (.int .i64 x) rfl (fun W hW => ?_) ?_
  · obtain ⟨hc, -, -⟩ := hW
    go_simp
  go_simp
  refine early_step (.int .i64 k) rfl (fun W hW => ?_) ?_
  · obtain ⟨hc, -, -⟩ := hW
    go_simp
  go_simp
  refine early_step (.int .i64 NI) rfl (fun W hW => ?_) ?_
  · obtain ⟨hc, -, -⟩ := hW
    go_simp
  go_simp
  refine early_step (.int .i64 d) rfl (fun W hW => ?_) ?_
  · obtain ⟨hc, -, -⟩ := hW
    go_simp
  go_simp
  refine early_step (.int .i64 k) rfl (fun W hW => ?_) ?_
  · obtain ⟨hc, -, -⟩ := hW
    go_simp
  go_simp
  refine early_step (.int .i64 NI) rfl (fun W hW => ?_) ?_
  · obtain ⟨hc, -, -⟩ := hW
    go_simp
  go_simp
  refine early_step (.int .i64 r) rfl (fun W hW => ?_) ?_
  · obtain ⟨hc, -, -⟩ := hW
    go_simp
  go_simp
  change RestW _ _ _ _ _ (_ :: _ :: _ :: []) _ _
  unfold RestW
  go_wp2_with fail
  ((with_reducible refine (HI.out _ (HRa2.out.below (Below.refl _ _).drew) (HRa3.out.below (Below.refl _ _).drew)).mono ?_); rintro e w3 ⟨A3, c3, rfl, hown3, hb3⟩)
  have hb3' : Below wa.heap.size wa w3 := ((Kept.start wa).call hb3).2.2
  have HK3 := Lib.hid (Kept.of hb3')
  have HR3 := Lib.hid (HRa1.out.kept hb3')
  have HB3 := Lib.hid (HBA.out.trans (hb3'.mono HBA.out.size))
  obtain ⟨g, o, y', hA3, hg, hyy, hy⟩ := item_cells HNI.out (Rd.of_own hown3) hrq
  subst hA3
  rw [HY.out] at hyy
  injection hyy with hyy
  subst hyy
  obtain ⟨⟨k1, k2, k3⟩, ⟨sd, ad⟩, ⟨s, bk, p, r2, e⟩, u, v⟩ := y
  simp only [itemV, actV, List.cons_append, List.nil_append] at hy
  have y0 : w3.cell? ⟨g, o + r * 12, none⟩ = some (.int .i64 k1) := by
    have := hy 0 _ (by omega) rfl
    simpa [Nat.add_assoc] using this
  have y1 : w3.cell? ⟨g, o + r * 12 + 1, none⟩ = some (.int .i64 k2) := by
    have := hy 1 _ (by omega) rfl
    simpa [Nat.add_assoc] using this
  have y2 : w3.cell? ⟨g, o + r * 12 + 2, none⟩ = some (.int .i64 k3) := by
    have := hy 2 _ (by omega) rfl
    simpa [Nat.add_assoc] using this
  have y3 : w3.cell? ⟨g, o + r * 12 + 3, none⟩ = some (.bool sd) := by
    have := hy 3 _ (by omega) rfl
    simpa [Nat.add_assoc] using this
  have y4 : w3.cell? ⟨g, o + r * 12 + 4, none⟩ = some (.bool ad) := by
    have := hy 4 _ (by omega) rfl
    simpa [Nat.add_assoc] using this
  have y5 : w3.cell? ⟨g, o + r * 12 + 5, none⟩ = some (.int .i64 s) := by
    have := hy 5 _ (by omega) rfl
    simpa [Nat.add_assoc] using this
  have y6 : w3.cell? ⟨g, o + r * 12 + 6, none⟩ = some (.int .i64 bk) := by
    have := hy 6 _ (by omega) rfl
    simpa [Nat.add_assoc] using this
  have y7 : w3.cell? ⟨g, o + r * 12 + 7, none⟩ = some (.int .i64 p) := by
    have := hy 7 _ (by omega) rfl
    simpa [Nat.add_assoc] using this
  have y8 : w3.cell? ⟨g, o + r * 12 + 8, none⟩ = some (.int .i64 r2) := by
    have := hy 8 _ (by omega) rfl
    simpa [Nat.add_assoc] using this
  have y9 : w3.cell? ⟨g, o + r * 12 + 9, none⟩ = some (.int .i64 e) := by
    have := hy 9 _ (by omega) rfl
    simpa [Nat.add_assoc] using this
  have y10 : w3.cell? ⟨g, o + r * 12 + 10, none⟩ = some (.int .i64 u) := by
    have := hy 10 _ (by omega) rfl
    simpa [Nat.add_assoc] using this
  have y11 : w3.cell? ⟨g, o + r * 12 + 11, none⟩ = some (.int .i64 v) := by
    have := hy 11 _ (by omega) rfl
    simpa [Nat.add_assoc] using this
  have i1 : (0 : Int) ≤ (r : Int) := by omega
  have i2 : (r : Int) < (NI : Int) := by omega
  have hgs : g ≠ w.heap.size := by
    rcases hown3.2 with ⟨hv, _⟩ | ⟨g', cap', cur, hv, hbg, hh, _⟩
    · injection hv with h _ _; cases h
    · injection hv with h _ _
      injection h with h
      injection h with h
      have : wa.drew.heap.size ≤ g := by rw [h]; exact hbg
      have h4 : wa.heap.size ≤ g := this
      omega
  have lp := HR3.out.lt
  clear hown3 hb3 hb3' hy s0 s1 s2 s3 s4 s5 s6 s7 s8 s9 s10 s11 s12 s13 lba
  go_wp2_with fail
  refine ⟨HK3.out, ?_⟩
  unfold RestW
  go_wp2_with fail
  refine ⟨HK3.out, ?_⟩
  unfold RestW
  go_wp2_with fail
  refine ⟨HK3.out, ?_⟩
  unfold RestW
  change wpList _ _ _ (_ :: _ :: []) _ _
  have q0 := HR3.out.cell 0
  have q1 := HR3.out.cell 1
  have q2 := HR3.out.cell 2
  have q3 := HR3.out.cell 3
  have q4 := HR3.out.cell 4
  have q5 := HR3.out.cell 5
  have q6 := HR3.out.cell 6
  have q7 := HR3.out.cell 7
  have q8 := HR3.out.cell 8
  have q9 := HR3.out.cell 9
  have q10 := HR3.out.cell 10
  have q11 := HR3.out.cell 11
  simp only [List.getElem?_toArray, List.getElem?_cons_zero, List.getElem?_cons_succ] at q0 q1 q2 q3 q4 q5 q6 q7 q8 q9 q10 q11
  have z0 := HR3.out.frozen 0
  have z1 := HR3.out.frozen 1
  have z2 := HR3.out.frozen 2
  have z3 := HR3.out.frozen 3
  have z4 := HR3.out.frozen 4
  have z5 := HR3.out.frozen 5
  have z6 := HR3.out.frozen 6
  have z7 := HR3.out.frozen 7
  have z8 := HR3.out.frozen 8
  have z9 := HR3.out.frozen 9
  have z10 := HR3.out.frozen 10
  have z11 := HR3.out.frozen 11
  go_wp2_with fail
  refine NoPanic.normal ?_
  go_wp2_with fail
  obtain ⟨W, hW, hgr, hBk⟩ := set12 HR3.out (.int .i64 k1) (.int .i64 k2) (.int .i64 k3) (.bool sd) (.bool ad) (.int .i64 s) (.int .i64 bk) (.int .i64 p) (.int .i64 r2) (.int .i64 e) (.int .i64 u) (.int .i64 v)
  rw [← hW]
  have p0 := hBk.cell 0
  have p1 := hBk.cell 1
  have p2 := hBk.cell 2
  have p3 := hBk.cell 3
  have p4 := hBk.cell 4
  have p5 := hBk.cell 5
  have p6 := hBk.cell 6
  have p7 := hBk.cell 7
  have p8 := hBk.cell 8
  have p9 := hBk.cell 9
  have p10 := hBk.cell 10
  have p11 := hBk.cell 11
  have lp := hBk.lt
  simp only [List.getElem?_toArray, List.getElem?_cons_zero, List.getElem?_cons_succ] at p0 p1 p2 p3 p4 p5 p6 p7 p8 p9 p10 p11
  refine bodyPost_ret (v := .tuple #[.agg #[.int .i64 k1, .int .i64 k2, .int .i64 k3, .bool sd, .bool ad, .int .i64 s, .int .i64 bk, .int .i64 p, .int .i64 r2, .int .i64 e, .int .i64 u, .int .i64 v], .bool true]) (by simp [results, Try.results39, go_sem, p0, p1, p2, p3, p4, p5, p6, p7, p8, p9, p10, p11, lp]) rfl ⟨rfl, below_gr HB3.out HB3.out.size hgr (Nat.le_refl _)⟩
end

end Go.Proofs.Ytkecpbdgcbgogaa
