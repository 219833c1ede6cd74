/-
  PartFinds: Of returns the result of the reference: the walk.
-/
import Derived.Test.YtmnmjjackffnjaaPart4
namespace Go.Proofs.Ytmnmjjackffnjaa
set_option linter.unusedVariables false
set_option linter.unusedSimpArgs false
open Go.RowKit

set_option maxHeartbeats 1000000 in
theorem partFinds_any (A : Option Addr) (n cap : Nat) (l : List (Int × Int)) (i : Int) (w : World) (hm : n ≤ 9223372036854775807) (hl : l.length = n) (h : Rd w 2 A n (rv l)) :
    Calls Try.prog 5 #[.slice A n cap, .int .i64 i] w fun e w' => e = .returned (.bool true) ∧ Below w.heap.size w w' := by
  have HL := Lib.hid hl
  have HR := Lib.hid h
  clear hl h
  by_cases hn : 300 < n
  · go_enter Try.func5, Try.ntmps5
    go_wp2_with fail
    ((with_reducible refine (alive04_any _).mono ?_); rintro e w1 ⟨rfl, hb1⟩)
    go_wp2
    go_ret
    exact ⟨rfl, hb1⟩
  · go_enter Try.func5, Try.ntmps5
    go_wp2_with fail
    ((with_reducible refine (alive04_any _).mono ?_); rintro e w1 ⟨rfl, hb1⟩)
    go_wp2_with fail
    ((with_reducible refine (given04_any A n cap l _ HL.out (HR.out.below hb1) (by omega)).mono ?_); rintro e w2 ⟨A', cap', rfl, hown, hb2⟩)
    go_wp2_with fail
    ((with_reducible refine (of_any i A' n cap' l _ HL.out (Rd.of_own hown) (by omega)).mono ?_); rintro e w3 ⟨rfl, hb3⟩)
    have k := ((Kept.of hb1).call hb2).call hb3
    clear hb1 hb2 hb3 hown
    go_wp2_with fail
    ((with_reducible refine (refOf_any i A n cap l _ HL.out (HR.out.kept k) (by omega)).mono ?_); rintro e w4 ⟨rfl, hb4⟩)
    go_wp2
    go_ret
    exact ⟨rfl, (k.call hb4).2.2⟩

end Go.Proofs.Ytmnmjjackffnjaa
