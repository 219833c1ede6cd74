/-
  Contracts of package sgd: copies of states.
-/
import Derived.Test.YtnnphileeeaibaaSgd2
namespace Go.Proofs.Ytnnphileeeaibaa
set_option linter.unusedVariables false
set_option linter.unusedSimpArgs false
open Go.RowKit

/-- A state in memory of the call's own comes back. -/
def StRet (w : World) (N M : Nat) (Ps Ms : List Int) (en : Ending) (w' : World) : Prop :=
  ∃ AP cP AM cM, en = .returned (.agg #[.slice AP N cP, .slice AM M cM]) ∧ w'.ownsRow w.heap.size 2 1 (.slice AP N cP) N (iv Ps) ∧ w'.ownsRow w.heap.size 2 1 (.slice AM M cM) M (iv Ms) ∧
    (∀ g h, (Value.slice AP N cP).ownBlock = some g → (Value.slice AM M cM).ownBlock = some h → g < h) ∧ Below w.heap.size w w'

set_option maxHeartbeats 1000000 in
theorem sgdClone_any (A B : Option Addr) (N M c d : Nat) (Ps Ms : List Int) (w : World) (hPl : Ps.length = N) (hMl : Ms.length = M) (hP : Rd w 1 A N (iv Ps)) (hM : Rd w 1 B M (iv Ms)) (hN : N ≤ 1000000) (hM' : M ≤ 1000000) :
    Calls Try.prog 37 #[.agg #[.slice A N c, .slice B M d]] w (StRet w N M Ps Ms) := by
  have HPL := Lib.hid hPl
  have HML := Lib.hid hMl
  have HP := Lib.hid hP
  have HM := Lib.hid hM
  clear hPl hMl hP hM
  go_enter Try.func37, Try.ntmps37
  go_wp2_with fail
  obtain ⟨w0, hw0⟩ : ∃ w0, (w.alloc (.cells #[.slice A N c, .slice B M d] 31)).alloc (.cells #[.slice none 0 0, .slice none 0 0] 31) = w0 := ⟨_, rfl⟩
  have k0 : Below w.heap.size w w0 := by rw [← hw0]; exact ((Below.refl _ _).alloc (Nat.le_refl _) _).alloc (by simp) _
  have hA0 : Blk w0 w.heap.size 31 #[.slice A N c, .slice B M d] := by rw [← hw0]; exact (Blk.new w _ _).alloc _
  have hR0 : Blk w0 (w.heap.size + 1) 31 #[.slice none 0 0, .slice none 0 0] := by rw [← hw0]; exact Blk.new' _ _ (by simp)
  rw [hw0]
  clear hw0
  have s0 : (w0.drew.cell? ⟨w.heap.size, 0, none⟩ = some (.slice A N c) ∧ w0.drew.cell? ⟨w.heap.size, 1, none⟩ = some (.slice B M d)) ∧ Below w.heap.size w w0.drew := ⟨⟨hA0.cell 0, hA0.cell 1⟩, k0.drew⟩
  have HA0 := Lib.hid hA0
  have HR0 := Lib.hid hR0
  have HC1 := Lib.hid (fun W (hb : Below w.heap.size w W) => vecClone_any A N c Ps W HPL.out (HP.out.below hb) (by omega))
  have HC2 := Lib.hid (fun W (hb : Below w.heap.size w W) => vecClone_any B M d Ms W HML.out (HM.out.below hb) (by omega))
  clear hA0 hR0 k0
  go_region_held3 (fun w' => (w'.cell? ⟨w.heap.size, 0, none⟩ = some (.slice A N c) ∧ w'.cell? ⟨w.heap.size, 1, none⟩ = some (.slice B M d)) ∧ Below w.heap.size w w') (first | exact s0 | exact s1 | exact s2 | exact s3) (first
    | (go_at_call 58; (with_reducible refine (HC1.out w0.drew s0.2).mono ?_); rintro e w1 ⟨A1, c1, rfl, hown1, hb1⟩; have HA1 := Lib.hid (HA0.out.drew.kept hb1); have HR1 := Lib.hid (HR0.out.drew.kept hb1); have s1 : (w1.cell? ⟨w.heap.size, 0, none⟩ = some (.slice A N c) ∧ w1.cell? ⟨w.heap.size, 1, none⟩ = some (.slice B M d)) ∧ Below w.heap.size w w1 := ⟨⟨HA1.out.cell 0, HA1.out.cell 1⟩, ((Kept.of s0.2).call hb1).2.2⟩; have HO1 := Lib.hid hown1; clear hown1 hb1)
    | (go_at_call 58; (with_reducible refine (HC2.out w1 s1.2).mono ?_); rintro e w2 ⟨A2, c2, rfl, hown2, hb2⟩; have HA2 := Lib.hid (HA1.out.kept hb2); have HR2 := Lib.hid (HR1.out.kept hb2); have s2 : (w2.cell? ⟨w.heap.size, 0, none⟩ = some (.slice A N c) ∧ w2.cell? ⟨w.heap.size, 1, none⟩ = some (.slice B M d)) ∧ Below w.heap.size w w2 := ⟨⟨HA2.out.cell 0, HA2.out.cell 1⟩, ((Kept.of s1.2).call hb2).2.2⟩; have HO2 := Lib.hid hown2; have HO12 := Lib.hid (own_below HO1.out hb2); have d0 : w2.cell? ⟨w.heap.size + 1, 0, none⟩ = some (.slice none 0 0) := HR2.out.cell 0; have d1 : w2.cell? ⟨w.heap.size + 1, 1, none⟩ = some (.slice none 0 0) := HR2.out.cell 1; have f0 := HR2.out.frozen 0; have f1 := HR2.out.frozen 1; have s3 : (((w2.setCell ⟨w.heap.size + 1, 0, none⟩ (.slice A1 N c1)).setCell ⟨w.heap.size + 1, 1, none⟩ (.slice A2 M c2)).cell? ⟨w.heap.size, 0, none⟩ = some (.slice A N c) ∧ ((w2.setCell ⟨w.heap.size + 1, 0, none⟩ (.slice A1 N c1)).setCell ⟨w.heap.size + 1, 1, none⟩ (.slice A2 M c2)).cell? ⟨w.heap.size, 1, none⟩ = some (.slice B M d)) ∧ Below w.heap.size w ((w2.setCell ⟨w.heap.size + 1, 0, none⟩ (.slice A1 N c1)).setCell ⟨w.heap.size + 1, 1, none⟩ (.slice A2 M c2)) := ⟨⟨(HA2.out.grown (store2' HR2.out _ _).1 (by simp)).cell 0, (HA2.out.grown (store2' HR2.out _ _).1 (by simp)).cell 1⟩, below_gr s2.2 s2.2.size (store2' HR2.out _ _).1 (by omega)⟩; clear hown2 hb2))
  go_wp2
  have hst := store2' HR2.out (.slice A1 N c1) (.slice A2 M c2)
  refine bodyPost_ret (v := .agg #[.slice A1 N c1, .slice A2 M c2]) (by simp [results, Try.results37, go_sem, d0, d1]) rfl ⟨A1, c1, A2, c2, rfl, ?_, ?_, fun g h hg hh => ?_, s3.2⟩
  · exact own_base (HO12.out.kept hst.1 (.inr (own_blk_ne HO12.out HR2.out (by decide)))) s0.2.size
  · exact own_base (HO2.out.kept hst.1 (.inr (own_blk_ne HO2.out HR2.out (by decide)))) s1.2.size
  · have h1 := (HO1.out.lt g hg).2
    have h2 := (HO2.out.lt h hh).1
    omega

set_option maxHeartbeats 1000000 in
theorem given13_any (A B : Option Addr) (N M c d : Nat) (Ps Ms : List Int) (w : World) (hPl : Ps.length = N) (hMl : Ms.length = M) (hP : Rd w 1 A N (iv Ps)) (hM : Rd w 1 B M (iv Ms)) (hN : N ≤ 1000000) (hM' : M ≤ 1000000) :
    Calls Try.prog 15 #[.agg #[.slice A N c, .slice B M d]] w (StRet w N M Ps Ms) := by
  have HPL := Lib.hid hPl
  have HML := Lib.hid hMl
  have HP := Lib.hid hP
  have HM := Lib.hid hM
  clear hPl hMl hP hM
  go_enter Try.func15, Try.ntmps15
  go_wp2_with fail
  obtain ⟨w0, hw0⟩ : ∃ w0, (w.alloc (.cells #[.slice A N c, .slice B M d] 26)).alloc (.cells #[.slice none 0 0, .slice none 0 0] 31) = w0 := ⟨_, rfl⟩
  have k0 : Below w.heap.size w w0 := by rw [← hw0]; exact ((Below.refl _ _).alloc (Nat.le_refl _) _).alloc (by simp) _
  have hA0 : Blk w0 w.heap.size 26 #[.slice A N c, .slice B M d] := by rw [← hw0]; exact (Blk.new w _ _).alloc _
  have hR0 : Blk w0 (w.heap.size + 1) 31 #[.slice none 0 0, .slice none 0 0] := by rw [← hw0]; exact Blk.new' _ _ (by simp)
  rw [hw0]
  clear hw0
  have s0 : (w0.drew.cell? ⟨w.heap.size, 0, none⟩ = some (.slice A N c) ∧ w0.drew.cell? ⟨w.heap.size, 1, none⟩ = some (.slice B M d)) ∧ Below w.heap.size w w0.drew := ⟨⟨hA0.cell 0, hA0.cell 1⟩, k0.drew⟩
  have HA0 := Lib.hid hA0
  have HR0 := Lib.hid hR0
  have HC1 := Lib.hid (fun W (hb : Below w.heap.size w W) => refClone_any A N c Ps W HPL.out (HP.out.below hb) (by omega))
  have HC2 := Lib.hid (fun W (hb : Below w.heap.size w W) => refClone_any B M d Ms W HML.out (HM.out.below hb) (by omega))
  clear hA0 hR0 k0
  go_region_held3 (fun w' => (w'.cell? ⟨w.heap.size, 0, none⟩ = some (.slice A N c) ∧ w'.cell? ⟨w.heap.size, 1, none⟩ = some (.slice B M d)) ∧ Below w.heap.size w w') (first | exact s0 | exact s1 | exact s2 | exact s3) (first
    | (go_at_call 16; (with_reducible refine (HC1.out w0.drew s0.2).mono ?_); rintro e w1 ⟨A1, c1, rfl, hown1, hb1⟩; have HA1 := Lib.hid (HA0.out.drew.kept hb1); have HR1 := Lib.hid (HR0.out.drew.kept hb1); have s1 : (w1.cell? ⟨w.heap.size, 0, none⟩ = some (.slice A N c) ∧ w1.cell? ⟨w.heap.size, 1, none⟩ = some (.slice B M d)) ∧ Below w.heap.size w w1 := ⟨⟨HA1.out.cell 0, HA1.out.cell 1⟩, ((Kept.of s0.2).call hb1).2.2⟩; have HO1 := Lib.hid hown1; clear hown1 hb1)
    | (go_at_call 16; (with_reducible refine (HC2.out w1 s1.2).mono ?_); rintro e w2 ⟨A2, c2, rfl, hown2, hb2⟩; have HA2 := Lib.hid (HA1.out.kept hb2); have HR2 := Lib.hid (HR1.out.kept hb2); have s2 : (w2.cell? ⟨w.heap.size, 0, none⟩ = some (.slice A N c) ∧ w2.cell? ⟨w.heap.size, 1, none⟩ = some (.slice B M d)) ∧ Below w.heap.size w w2 := ⟨⟨HA2.out.cell 0, HA2.out.cell 1⟩, ((Kept.of s1.2).call hb2).2.2⟩; have HO2 := Lib.hid hown2; have HO12 := Lib.hid (own_below HO1.out hb2); have d0 : w2.cell? ⟨w.heap.size + 1, 0, none⟩ = some (.slice none 0 0) := HR2.out.cell 0; have d1 : w2.cell? ⟨w.heap.size + 1, 1, none⟩ = some (.slice none 0 0) := HR2.out.cell 1; have f0 := HR2.out.frozen 0; have f1 := HR2.out.frozen 1; have s3 : (((w2.setCell ⟨w.heap.size + 1, 0, none⟩ (.slice A1 N c1)).setCell ⟨w.heap.size + 1, 1, none⟩ (.slice A2 M c2)).cell? ⟨w.heap.size, 0, none⟩ = some (.slice A N c) ∧ ((w2.setCell ⟨w.heap.size + 1, 0, none⟩ (.slice A1 N c1)).setCell ⟨w.heap.size + 1, 1, none⟩ (.slice A2 M c2)).cell? ⟨w.heap.size, 1, none⟩ = some (.slice B M d)) ∧ Below w.heap.size w ((w2.setCell ⟨w.heap.size + 1, 0, none⟩ (.slice A1 N c1)).setCell ⟨w.heap.size + 1, 1, none⟩ (.slice A2 M c2)) := ⟨⟨(HA2.out.grown (store2' HR2.out _ _).1 (by simp)).cell 0, (HA2.out.grown (store2' HR2.out _ _).1 (by simp)).cell 1⟩, below_gr s2.2 s2.2.size (store2' HR2.out _ _).1 (by omega)⟩; clear hown2 hb2))
  go_wp2
  have hst := store2' HR2.out (.slice A1 N c1) (.slice A2 M c2)
  refine bodyPost_ret (v := .agg #[.slice A1 N c1, .slice A2 M c2]) (by simp [results, Try.results15, go_sem, d0, d1]) rfl ⟨A1, c1, A2, c2, rfl, ?_, ?_, fun g h hg hh => ?_, s3.2⟩
  · exact own_base (HO12.out.kept hst.1 (.inr (own_blk_ne HO12.out HR2.out (by decide)))) s0.2.size
  · exact own_base (HO2.out.kept hst.1 (.inr (own_blk_ne HO2.out HR2.out (by decide)))) s1.2.size
  · have h1 := (HO1.out.lt g hg).2
    have h2 := (HO2.out.lt h hh).1
    omega

end Go.Proofs.Ytnnphileeeaibaa
