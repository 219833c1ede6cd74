/-
  The methods of a plan.
-/
import Derived.Test.YtkecpbdgcbgogaaPlanNew
namespace Go.Proofs.Ytkecpbdgcbgogaa
set_option linter.unusedVariables false
set_option linter.unusedSimpArgs false
set_option maxRecDepth 100000
open Go.RowKit

structure Fits (pc : PlC) (c : Cfg) : Prop where
  wk : c.wk = pc.m
  ch : c.ch = pc.ch
  mi : c.mi = pc.mi
  wi : c.wi = pc.wi
  bu : c.bu = pc.bu
  s0 : 0 ≤ c.st
  s1 : c.st ≤ 12

/-- The number of items of a worker in a step. -/
def PlC.lenI (pc : PlC) (x : Int) : Nat := if 0 ≤ x ∧ x < pc.m then (pc.itemsI x 0).length else 0
def PlC.stepI (pc : PlC) (st x t : Int) : List RItem := if 0 ≤ x ∧ x < pc.m ∧ 0 ≤ t ∧ t < st then pc.itemsI x t else []
theorem PlC.lenI_in (pc : PlC) (k : Nat) (h : k < pc.m) : pc.lenI k = (pc.itemsI (k : Int) 0).length := if_pos (by omega)
theorem PlC.lenI_out (pc : PlC) (x : Int) (h : ¬ (0 ≤ x ∧ x < pc.m)) : pc.lenI x = 0 := if_neg h

section
variable (pc : PlC) (c : Cfg) (A : Option Addr) (n cap b : Nat) (x t : Int) (w : World)

set_option maxHeartbeats 400000 in
theorem planLen_any (h : PlanAt w b pc c A n cap) :
    Calls Try.prog 36 #[.pointer (some ⟨b, 0, none⟩), .int .i64 x] w fun e w' => e = .returned (.int .i64 (pc.lenI x)) ∧ w = w' := by
  obtain ⟨Ab, cb, Ag, cg, Al, cl, h1, _, _, h4, _⟩ := h
  have c14 : w.cell? ⟨b, 14, none⟩ = some (.slice Al pc.m cl) := h1.cell 14
  have lb := h1.lt
  have HLL := Lib.hid pc.lensL_length
  by_cases hx : 0 ≤ x ∧ x < pc.m
  · obtain ⟨k, rfl⟩ := Int.eq_ofNat_of_zero_le hx.1
    have hk : k < pc.m := by omega
    have hkl : k < pc.lensL.length := by rw [HLL.out]; exact hk
    obtain ⟨g, o, y, rfl, hg, hy, d0⟩ := iv_at HLL.out h4 hk
    have e0 := pc.lensL_at k hk
    rw [hy] at e0
    injection e0 with e0
    have HE : Hid (y = (pc.lenI (k : Int) : Nat)) := Lib.hid (by rw [pc.lenI_in k hk]; exact e0)
    obtain ⟨m, hm⟩ : ∃ m, pc.m = m := ⟨_, rfl⟩
    rw [hm] at c14 hk
    have i1 : decide ((k : Int) < 0) = false := decide_eq_false (by omega)
    have i2 : decide ((m : Int) ≤ (k : Int)) = false := decide_eq_false (by omega)
    have i3 : (0 : Int) ≤ (k : Int) := by omega
    have i4 : (k : Int) < (m : Int) := by omega
    clear h1 h4 hy e0 hm hx hkl HLL
    go_enter Try.func36, Try.ntmps36
    go_wp2_with fail
    go_ret
    exact ⟨ret_int HE.out, rfl⟩
  · have HE : Hid ((0 : Int) = (pc.lenI x : Nat)) := Lib.hid (by rw [pc.lenI_out x hx]; rfl)
    obtain ⟨m, hm⟩ : ∃ m, pc.m = m := ⟨_, rfl⟩
    rw [hm] at c14 hx
    clear h1 h4 hm HLL
    by_cases h0 : x < 0
    · have i1 : decide (x < 0) = true := decide_eq_true h0
      go_enter Try.func36, Try.ntmps36
      go_wp2_with fail
      go_ret
      exact ⟨ret_int HE.out, rfl⟩
    · have i1 : decide (x < 0) = false := decide_eq_false h0
      have i2 : decide ((m : Int) ≤ x) = true := decide_eq_true (by omega)
      clear hx
      go_enter Try.func36, Try.ntmps36
      go_wp2_with fail
      go_ret
      exact ⟨ret_int HE.out, rfl⟩

theorem planLen_nil : Calls Try.prog 36 #[.pointer none, .int .i64 x] w fun e w' => e = .returned (.int .i64 0) ∧ w = w' := by
  go_enter Try.func36, Try.ntmps36
  go_wp2_with fail
  go_ret
  exact ⟨rfl, rfl⟩

theorem PlC.lenI_pos (pc : PlC) (x : Int) : 0 ≤ x ∧ x < pc.m ↔ pc.lenI x ≠ 0 := by
  unfold PlC.lenI
  split
  · rename_i h
    have := pc.itemsI_pos x 0
    constructor
    · intro _; omega
    · intro _; exact h
  · rename_i h; simp [h]

set_option maxHeartbeats 1000000 in
theorem planStep_any (hp : pc.Ok) (hf : Fits pc c) (h : PlanAt w b pc c A n cap) :
    Calls Try.prog 34 #[.pointer (some ⟨b, 0, none⟩), .int .i64 x, .int .i64 t] w (OwnRet w 78 12 (pc.stepI c.st x t).length (itemsV (pc.stepI c.st x t))) := by
  have HLe := Lib.hid (fun x => planLen_any pc c A n cap b x w h)
  obtain ⟨Ab, cb, Ag, cg, Al, cl, h1, h2, h3, h4, _⟩ := h
  have HI := Lib.hid (items20_any pc c A n cap Ab cb Ag cg x t w hp hf.wk hf.ch hf.mi h2 h3)
  have HPos := Lib.hid (pc.lenI_pos x)
  obtain ⟨q, hq⟩ : ∃ q, pc.lenI x = q := ⟨_, rfl⟩
  have HLx := HLe.out x
  rw [hq] at HLx HPos
  have HLX := Lib.hid HLx
  clear hq HLx HLe
  have no : ¬ (0 ≤ x ∧ x < pc.m ∧ 0 ≤ t ∧ t < c.st) → ∀ w' : World, w = w' → OwnRet w 78 12 (pc.stepI c.st x t).length (itemsV (pc.stepI c.st x t)) (.returned (.slice none 0 0)) w' := by
    rintro hno w' rfl
    rw [show pc.stepI c.st x t = [] from if_neg hno]
    exact ⟨none, 0, rfl, World.ownsRow_nil _ _ _ _, Below.refl _ _⟩
  have HNO := Lib.hid no
  clear no
  by_cases hq0 : q = 0
  · subst hq0
    have HX : Hid (¬ (0 ≤ x ∧ x < pc.m ∧ 0 ≤ t ∧ t < c.st)) := Lib.hid (fun hh => (HPos.out.1 ⟨hh.1, hh.2.1⟩) rfl)
    clear h1 h2 h3 h4 hf
    go_enter Try.func34, Try.ntmps34
    go_wp2_with fail
    ((with_reducible refine HLX.out.mono ?_); rintro e w1 ⟨rfl, rfl⟩)
    go_wp2_with fail
    go_ret
    exact HNO.out HX.out _ rfl
  · have hxx := HPos.out.2 hq0
    have e0 : ((q : Int) == 0) = false := by simp; omega
    have hx1 := hxx.1
    have HXM := Lib.hid hxx.2
    by_cases ht0 : t < 0
    · have e1 : decide (t < 0) = true := decide_eq_true ht0
      have HX : Hid (¬ (0 ≤ x ∧ x < pc.m ∧ 0 ≤ t ∧ t < c.st)) := Lib.hid (fun hh => by omega)
      clear h1 h2 h3 h4 hf hxx
      go_enter Try.func34, Try.ntmps34
      go_wp2_with fail
      ((with_reducible refine HLX.out.mono ?_); rintro e w1 ⟨rfl, rfl⟩)
      go_wp2_with fail
      go_ret
      exact HNO.out HX.out _ rfl
    · have e1 : decide (t < 0) = false := decide_eq_false ht0
      have c7 : w.cell? ⟨b, 7, none⟩ = some (.int .i64 c.st) := h1.cell 7
      have lb := h1.lt
      by_cases ht1 : c.st ≤ t
      · have e2 : decide (c.st ≤ t) = true := decide_eq_true ht1
        have HX : Hid (¬ (0 ≤ x ∧ x < pc.m ∧ 0 ≤ t ∧ t < c.st)) := Lib.hid (fun hh => by omega)
        clear h1 h2 h3 h4 hf hxx
        go_enter Try.func34, Try.ntmps34
        go_wp2_with fail
        ((with_reducible refine HLX.out.mono ?_); rintro e w1 ⟨rfl, rfl⟩)
        go_wp2_with fail
        go_ret
        exact HNO.out HX.out _ rfl
      · have e2 : decide (c.st ≤ t) = false := decide_eq_false ht1
        have HX : Hid (pc.stepI c.st x t = pc.itemsI x t) := Lib.hid (if_pos ⟨hxx.1, hxx.2, by omega, by omega⟩)
        have s0 : w.cell? ⟨b, 0, none⟩ = some (.slice A n cap) := h1.cell 0
        have s1 : w.cell? ⟨b, 1, none⟩ = some (.int .i64 c.sh) := h1.cell 1
        have s2 : w.cell? ⟨b, 2, none⟩ = some (.int .i64 c.ra) := h1.cell 2
        have s3 : w.cell? ⟨b, 3, none⟩ = some (.int .i64 c.mo) := h1.cell 3
        have s4 : w.cell? ⟨b, 4, none⟩ = some (.int .i64 c.wk) := h1.cell 4
        have s5 : w.cell? ⟨b, 5, none⟩ = some (.int .i64 c.ba) := h1.cell 5
        have s6 : w.cell? ⟨b, 6, none⟩ = some (.int .i64 c.mi) := h1.cell 6
        have s8 : w.cell? ⟨b, 8, none⟩ = some (.int .i64 c.bu) := h1.cell 8
        have s9 : w.cell? ⟨b, 9, none⟩ = some (.int .i64 c.ch) := h1.cell 9
        have s10 : w.cell? ⟨b, 10, none⟩ = some (.int .i64 c.wi) := h1.cell 10
        have s11 : w.cell? ⟨b, 11, none⟩ = some (.int .i64 c.ca) := h1.cell 11
        have s12 : w.cell? ⟨b, 12, none⟩ = some (.slice Ab pc.nb cb) := h1.cell 12
        have s13 : w.cell? ⟨b, 13, none⟩ = some (.slice Ag (cnt pc.nb pc.wi) cg) := h1.cell 13
        clear h1 h2 h3 h4 hf hxx
        go_enter Try.func34, Try.ntmps34
        go_wp2_with fail
        ((with_reducible refine HLX.out.mono ?_); rintro e w1 ⟨rfl, rfl⟩)
        go_wp2_with fail
        ((with_reducible refine HI.out.mono ?_); rintro e w2 ⟨A2, c2, rfl, hown2, hb2⟩)
        have HO := Lib.hid (And.intro hown2 hb2)
        clear hown2 hb2
        go_wp2_with fail
        go_ret
        rw [HX.out]
        exact ⟨A2, c2, rfl, HO.out.1, HO.out.2⟩

theorem planStep_nil : Calls Try.prog 34 #[.pointer none, .int .i64 x, .int .i64 t] w fun e w' => e = .returned (.slice none 0 0) ∧ w = w' := by
  have HL := Lib.hid (fun W => planLen_nil x W)
  go_enter Try.func34, Try.ntmps34
  go_wp2_with fail
  ((with_reducible refine (HL.out _).mono ?_); rintro e w1 ⟨rfl, rfl⟩)
  go_wp2_with fail
  go_ret
  exact ⟨rfl, rfl⟩
end

end Go.Proofs.Ytkecpbdgcbgogaa
