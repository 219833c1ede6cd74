/-
  Contracts: SameAll.
-/
import Derived.Test.YtnnphileeeaibaaRefRun
namespace Go.Proofs.Ytnnphileeeaibaa
set_option linter.unusedVariables false
set_option linter.unusedSimpArgs false
set_option maxRecDepth 100000
open Go.RowKit

set_option maxHeartbeats 2000000 in
/-- Two rows of states that hold the same numbers. -/
theorem sameAll_any (S S' : Option Addr) (m cS cS' N M : Nat) (l l' : List StS) (f : Nat → List Int × List Int) (w : World) (hl : l.length = m) (hl' : l'.length = m) (hm : m ≤ 1000) (h : Rd w 2 S m (stv N M l)) (h' : Rd w 2 S' m (stv N M l'))
    (hr : ∀ i s, l[i]? = some s → Rd w 1 s.1 N (iv (f (i + 1)).1) ∧ Rd w 1 s.2.2.1 M (iv (f (i + 1)).2)) (hr' : ∀ i s, l'[i]? = some s → Rd w 1 s.1 N (iv (f (i + 1)).1) ∧ Rd w 1 s.2.2.1 M (iv (f (i + 1)).2)) (hf : ∀ i, (f i).1.length = N ∧ (f i).2.length = M) (hN : N ≤ 1000000) (hM : M ≤ 1000000) :
    Calls Try.prog 32 #[.slice S m cS, .slice S' m cS'] w fun e w' => e = .returned (.bool true) ∧ Below w.heap.size w w' := by
  have HL := Lib.hid hl
  have HL' := Lib.hid hl'
  have HH := Lib.hid h
  have HH' := Lib.hid h'
  have HR := Lib.hid hr
  have HR' := Lib.hid hr'
  have HF := Lib.hid hf
  clear hl hl' h h' hr hr' hf
  go_enter Try.func32, Try.ntmps32
  go_wp2_with fail
  go_loopw [5] (fun i wr => ∃ j : Nat, j ≤ m ∧ i = .int .i64 j ∧ Below w.heap.size w wr) (fun i _ => m - (intOf i).toNat)
  case atStart => exact ⟨0, by omega, rfl, Below.refl _ _⟩
  case round =>
    obtain ⟨j, hj, rfl, hb⟩ := hrel
    by_cases hlt : j < m
    · obtain ⟨s, hs⟩ : ∃ s, l[j]? = some s := ⟨_, List.getElem?_eq_getElem (by rw [HL.out]; exact hlt)⟩
      obtain ⟨s', hs'⟩ : ∃ s, l'[j]? = some s := ⟨_, List.getElem?_eq_getElem (by rw [HL'.out]; exact hlt)⟩
      obtain ⟨gb, go, rfl, ltg, hcg⟩ := (HH.out.below hb).2 (by omega)
      obtain ⟨gb', go', rfl, ltg', hcg'⟩ := (HH'.out.below hb).2 (by omega)
      obtain ⟨v0, v1⟩ := stv_get N M l j s hs
      obtain ⟨v0', v1'⟩ := stv_get N M l' j s' hs'
      have c0 := hcg _ _ v0
      have c1 := hcg _ _ v1
      have c0' := hcg' _ _ v0'
      have c1' := hcg' _ _ v1'
      rw [← Nat.add_assoc] at c1 c1'
      obtain ⟨q1, q2⟩ := HR.out j s hs
      obtain ⟨q1', q2'⟩ := HR'.out j s' hs'
      have C := Lib.hid (fun (u : KW wr) => kept_true2 (refSame13_any s.1 s.2.2.1 s'.1 s'.2.2.1 N M N M s.2.1 s.2.2.2 s'.2.1 s'.2.2.2 _ _ _ _ u.w (HF.out (j + 1)).1 (HF.out (j + 1)).2 (HF.out (j + 1)).1 (HF.out (j + 1)).2 ((q1.below hb).kept u.h) ((q2.below hb).kept u.h) ((q1'.below hb).kept u.h) ((q2'.below hb).kept u.h) hN hM hN hM))
      have HB := Lib.hid hb
      obtain ⟨a1, a2, a3, a4⟩ := s
      obtain ⟨b1, b2, b3, b4⟩ := s'
      clear hcg hcg' v0 v1 v0' v1' q1 q2 q1' q2' hs hs' hb
      go_wp2_with fail
      have KC := fun (u : KW wr) b o h => KW.cells u b o h
      refine wp_region_kept wr (by kernel_rfl) (by kernel_rfl) (Kept.of (Below.refl _ _)) ?_
      repeat (go_big_quiet_step ((go_at_call 19; with_reducible exact kept_call (C.out _))))
      refine wpQuiet_nil ?_
      rintro _ ⟨⟨w9, k9⟩, rfl⟩
      clear KC c0 c1 c0' c1'
      go_wp2
      go_roundw
      case rel => exact ⟨j + 1, by omega, by go_num, ((Kept.of HB.out).call k9.2.2).2.2⟩
      case measure => simp [intOf]; omega
    · obtain rfl : j = m := by omega
      go_wp2
      go_ret
      exact ⟨rfl, hb⟩

end Go.Proofs.Ytnnphileeeaibaa
