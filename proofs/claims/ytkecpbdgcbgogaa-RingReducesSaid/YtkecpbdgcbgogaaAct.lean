/-
  Contracts on actions: Back, the reference's Same, and what a round's closure adds.
-/
import Derived.Test.YtkecpbdgcbgogaaSegs2
import Derived.Test.YtkecpbdgcbgogaaRingLaw1
import Derived.Test.YtkecpbdgcbgogaaActPlain
import Derived.Test.YtkecpbdgcbgogaaEarly
import Derived.Test.YtkecpbdgcbgogaaPush
import Derived.Deep.DeepCutAuto
namespace Go.Proofs.Ytkecpbdgcbgogaa
set_option linter.unusedVariables false
set_option linter.unusedSimpArgs false
open Go.RowKit

theorem slAct : Sl Try.prog 32 76 (.agg #[.bool false, .bool false, .int .i64 0, .int .i64 0, .int .i64 0, .int .i64 0, .int .i64 0, .int .i64 0, .int .i64 0]) 9 64 := ⟨Try.underlying32, by kernel_rfl, rfl, by omega⟩
theorem slRefAct : Sl Try.prog 30 85 (.agg #[.bool false, .bool false, .int .i64 0, .int .i64 0, .int .i64 0, .int .i64 0, .int .i64 0, .int .i64 0, .int .i64 0]) 9 64 := ⟨Try.underlying30, by kernel_rfl, rfl, by omega⟩

set_option maxHeartbeats 1000000 in
theorem back19_any (A : Option Addr) (n cap : Nat) (l : List RAct) (w : World) (hl : l.length = n) (h : Rd w 9 A n (acts l)) (hn : n ≤ 1000000) :
    Calls Try.prog 15 #[.slice A n cap] w (OwnRet w 85 9 n (acts l)) := by
  have HL := Lib.hid hl
  have HR := Lib.hid h
  clear hl h
  go_enter Try.func15, Try.ntmps15
  go_wp2_with fail
  go_loopw [3, 8] (fun v c wr => ∃ k : Nat, k ≤ n ∧ c = .int .i64 k ∧ CollA w 85 k (l.take k) v wr) (fun _ c _ => n - (intOf c).toNat)
  case atStart => exact ⟨0, by omega, rfl, CollA.start _ _⟩
  case round =>
    obtain ⟨k, hk, rfl, hcoll⟩ := hrel
    by_cases hlt : k < n
    · obtain ⟨b, o, sd, ad, s, bu, p, r, i, x, y, rfl, hbl, hx, c0, c1, c2, c3, c4, c5, c6, c7, c8⟩ := act_cells HL.out (HR.out.below hcoll.2.2) hlt
      have HX := Lib.hid hx
      clear hx
      have hsz := hcoll.2.2.size
      go_wp2_with (at_builtin; go_must (refine wpList_push slRefAct rfl _ _ rfl w.heap.size _ k (acts (l.take k)) rfl (hcoll.2.1.alloc _) (actV ((sd, ad), (s, bu, p, r, i), (x, y))).toArray _ rfl (by simp) rfl (actV_cells _) (by unfold maxLen; omega) (by omega) (by simp; omega) ?_); intro A' cap' w1 hown1 hb1)
      go_roundw
      case rel =>
        refine ⟨k + 1, by omega, by go_num, ?_⟩
        obtain ⟨h1, h2⟩ := List.getElem?_eq_some_iff.1 HX.out
        rw [List.take_succ_eq_append_getElem h1, h2]
        exact hcoll.next hown1 (((Below.refl _ _).alloc hsz _).trans hb1)
      case measure => simp [intOf]; omega
    · obtain rfl : k = n := by omega
      rw [List.take_of_length_le (by rw [HL.out]; exact Nat.le_refl _)] at hcoll
      go_wp2
      go_ret
      exact hcoll.done

theorem guardAct_ref : Try.prog.eqGuardType Try.prog.depth 85 = false := by kernel_rfl
attribute [go_sem] guardAct_ref

set_option maxHeartbeats 1000000 in
/-- Same on two rows that are the same. -/
theorem same19_any (A B : Option Addr) (n c d : Nat) (l : List RAct) (w : World) (hl : l.length = n) (h : Rd w 9 A n (acts l)) (h' : Rd w 9 B n (acts l)) (hn : n ≤ 1000000) :
    Calls Try.prog 14 #[.slice A n c, .slice B n d] w fun e w' => e = .returned (.bool true) ∧ Below w.heap.size w w' := by
  have HL := Lib.hid hl
  have HR := Lib.hid h
  have HR' := Lib.hid h'
  clear hl h h'
  go_enter Try.func14, Try.ntmps14
  go_wp2_with fail
  go_loopw [5] (fun i wr => ∃ k : Nat, k ≤ n ∧ i = .int .i64 k ∧ Below w.heap.size w wr) (fun i _ => n - (intOf i).toNat)
  case atStart => exact ⟨0, by omega, rfl, Below.refl _ _⟩
  case round =>
    obtain ⟨k, hk, rfl, hB⟩ := hrel
    by_cases hlt : k < n
    · obtain ⟨b, o, sd, ad, s, bu, p, r, i, x, y, rfl, hbl, hx, c0, c1, c2, c3, c4, c5, c6, c7, c8⟩ := act_cells HL.out (HR.out.below hB) hlt
      obtain ⟨b', o', sd', ad', s', bu', p', r', i', x', y', rfl, hbl', hx', d0, d1, d2, d3, d4, d5, d6, d7, d8⟩ := act_cells HL.out (HR'.out.below hB) hlt
      rw [hx] at hx'
      injection hx' with hx'
      simp only [Prod.mk.injEq] at hx'
      obtain ⟨⟨rfl, rfl⟩, ⟨rfl, rfl, rfl, rfl, rfl⟩, rfl, rfl⟩ := hx'
      have i1 : (0 : Int) ≤ (k : Int) := by omega
      have i2 : (k : Int) < (n : Int) := by omega
      have HB := Lib.hid hB
      clear hx hB
      go_wp2_with fail
      go_quiet (fail)
      go_wp2_with fail
      go_roundw
      case rel => exact ⟨k + 1, by omega, by go_num, below_drewN HB.out _⟩
      case measure => simp [intOf]; omega
    · go_wp2
      go_ret
      exact ⟨rfl, hB⟩

end Go.Proofs.Ytkecpbdgcbgogaa
