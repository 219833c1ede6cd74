/-
  No cell of these rows narrows 'for every input' (looked for: loops, veiled, ifaces, maps, wideKeys, modest, calm, conditions, laid).
  DERIVED. THE GIVEN ROWS OF THIS SEAT. 9 by the template 'for every input the law returns true; each argument reads behind the call as it read before'; 0 by the template 'total and deterministic' (their statements: YtkecpbdgcbgogaaTotals.lean).
  GIVEN WITH THE SEED: the statements are not yours to turn. If you find one false, say at which input.
  Laid BY PROGRAM, IN A SANDBOX (cutbox-rows.mjs): the forced cells as the released guide's own fill.sh prints them over the translation 4cd17d7092362ce8… (all of the seat's roots in one cut). By AI agents, Wed Nov 11 2026. No macro, syntax, notation, axiom, sorry.
-/
import Derived.Test.YtkecpbdgcbgogaaChecked
import GoSem.Claim
import GoSem.ClaimJoined
import GoSem.ClaimMapViews
import Derived.JoinedTies
import Derived.KernelRfl
namespace Go.Proofs.Ytkecpbdgcbgogaa
/- THE CELL 'sum', in the pinned program and in every row, IS THE sha256 OF THE DUMP (.gsa) THAT YtkecpbdgcbgogaaProg.lean LOADS. Nothing in Lean hashes anything: it is a label: what it is worth is what the hold of that sum in a sandbox is worth. -/
noncomputable def Try.pinned : Pinned := { name := "ytkecpbdgcbgogaa", sum := "4cd17d7092362ce8921e953e95fd46387cba0a6c99e0f321646103b839785d50", checked := Try.checked }
namespace Rows
def none {H : Type} : Left H := { results := [], args := [] }

/-- 'sakialaw19.RingRounds': WHATEVER THE INPUT: true; the input reads as it did. -/
def ringRoundsSpec : ChangeSpec := { name := "ringRounds", fn := fun _ => fun
  | [d1, d2] => { results := [.lit (.bool true)], args := [d1, d2] }
  | _ => none }
def ringRoundsRow : OpenClaim := { program := "ytkecpbdgcbgogaa", sum := "4cd17d7092362ce8921e953e95fd46387cba0a6c99e0f321646103b839785d50", func := "sakia/sakialaw19.RingRounds", spec := "ringRounds", unfollowed := true, recurses := true, apart := false }
def RingRoundsSaid : Prop := ringRoundsRow.holds Try.pinned (OpenSpec.ofChange ringRoundsSpec)

/-- ITS FALSE NEIGHBOUR: 'it returns false'. Refute it at one input. -/
def ringRoundsWrong : ChangeSpec := { name := "ringRounds", fn := fun _ => fun
  | [d1, d2] => { results := [.lit (.bool false)], args := [d1, d2] }
  | _ => none }
def RingRoundsWrongFalsely : Prop := ringRoundsRow.holds Try.pinned (OpenSpec.ofChange ringRoundsWrong)

/-- 'sakialaw19.RingPairs': WHATEVER THE INPUT: true; the input reads as it did. -/
def ringPairsSpec : ChangeSpec := { name := "ringPairs", fn := fun _ => fun
  | [d] => { results := [.lit (.bool true)], args := [d] }
  | _ => none }
def ringPairsRow : OpenClaim := { program := "ytkecpbdgcbgogaa", sum := "4cd17d7092362ce8921e953e95fd46387cba0a6c99e0f321646103b839785d50", func := "sakia/sakialaw19.RingPairs", spec := "ringPairs", unfollowed := true, recurses := true, apart := false }
def RingPairsSaid : Prop := ringPairsRow.holds Try.pinned (OpenSpec.ofChange ringPairsSpec)

/-- ITS FALSE NEIGHBOUR: 'it returns false'. Refute it at one input. -/
def ringPairsWrong : ChangeSpec := { name := "ringPairs", fn := fun _ => fun
  | [d] => { results := [.lit (.bool false)], args := [d] }
  | _ => none }
def RingPairsWrongFalsely : Prop := ringPairsRow.holds Try.pinned (OpenSpec.ofChange ringPairsWrong)

/-- 'sakialaw19.RingReduces': WHATEVER THE INPUT: true; the input reads as it did. -/
def ringReducesSpec : ChangeSpec := { name := "ringReduces", fn := fun _ => fun
  | [d1, d2] => { results := [.lit (.bool true)], args := [d1, d2] }
  | _ => none }
def ringReducesRow : OpenClaim := { program := "ytkecpbdgcbgogaa", sum := "4cd17d7092362ce8921e953e95fd46387cba0a6c99e0f321646103b839785d50", func := "sakia/sakialaw19.RingReduces", spec := "ringReduces", unfollowed := true, recurses := true, apart := false }
def RingReducesSaid : Prop := ringReducesRow.holds Try.pinned (OpenSpec.ofChange ringReducesSpec)

/-- ITS FALSE NEIGHBOUR: 'it returns false'. Refute it at one input. -/
def ringReducesWrong : ChangeSpec := { name := "ringReduces", fn := fun _ => fun
  | [d1, d2] => { results := [.lit (.bool false)], args := [d1, d2] }
  | _ => none }
def RingReducesWrongFalsely : Prop := ringReducesRow.holds Try.pinned (OpenSpec.ofChange ringReducesWrong)

/-- 'sakialaw20.PlanSteps': WHATEVER THE INPUT: true; the input reads as it did. -/
def planStepsSpec : ChangeSpec := { name := "planSteps", fn := fun _ => fun
  | [d1, d2, d3] => { results := [.lit (.bool true)], args := [d1, d2, d3] }
  | _ => none }
def planStepsRow : OpenClaim := { program := "ytkecpbdgcbgogaa", sum := "4cd17d7092362ce8921e953e95fd46387cba0a6c99e0f321646103b839785d50", func := "sakia/sakialaw20.PlanSteps", spec := "planSteps", unfollowed := true, recurses := true, apart := false }
def PlanStepsSaid : Prop := planStepsRow.holds Try.pinned (OpenSpec.ofChange planStepsSpec)

/-- ITS FALSE NEIGHBOUR: 'it returns false'. Refute it at one input. -/
def planStepsWrong : ChangeSpec := { name := "planSteps", fn := fun _ => fun
  | [d1, d2, d3] => { results := [.lit (.bool false)], args := [d1, d2, d3] }
  | _ => none }
def PlanStepsWrongFalsely : Prop := planStepsRow.holds Try.pinned (OpenSpec.ofChange planStepsWrong)

/-- 'sakialaw20.PlanWindows': WHATEVER THE INPUT: true; the input reads as it did. -/
def planWindowsSpec : ChangeSpec := { name := "planWindows", fn := fun _ => fun
  | [d1, d2] => { results := [.lit (.bool true)], args := [d1, d2] }
  | _ => none }
def planWindowsRow : OpenClaim := { program := "ytkecpbdgcbgogaa", sum := "4cd17d7092362ce8921e953e95fd46387cba0a6c99e0f321646103b839785d50", func := "sakia/sakialaw20.PlanWindows", spec := "planWindows", unfollowed := true, recurses := true, apart := false }
def PlanWindowsSaid : Prop := planWindowsRow.holds Try.pinned (OpenSpec.ofChange planWindowsSpec)

/-- ITS FALSE NEIGHBOUR: 'it returns false'. Refute it at one input. -/
def planWindowsWrong : ChangeSpec := { name := "planWindows", fn := fun _ => fun
  | [d1, d2] => { results := [.lit (.bool false)], args := [d1, d2] }
  | _ => none }
def PlanWindowsWrongFalsely : Prop := planWindowsRow.holds Try.pinned (OpenSpec.ofChange planWindowsWrong)

/-- 'sakialaw20.PlanItems': WHATEVER THE INPUT: true; the input reads as it did. -/
def planItemsSpec : ChangeSpec := { name := "planItems", fn := fun _ => fun
  | [d1, d2, d3] => { results := [.lit (.bool true)], args := [d1, d2, d3] }
  | _ => none }
def planItemsRow : OpenClaim := { program := "ytkecpbdgcbgogaa", sum := "4cd17d7092362ce8921e953e95fd46387cba0a6c99e0f321646103b839785d50", func := "sakia/sakialaw20.PlanItems", spec := "planItems", unfollowed := true, recurses := true, apart := false }
def PlanItemsSaid : Prop := planItemsRow.holds Try.pinned (OpenSpec.ofChange planItemsSpec)

/-- ITS FALSE NEIGHBOUR: 'it returns false'. Refute it at one input. -/
def planItemsWrong : ChangeSpec := { name := "planItems", fn := fun _ => fun
  | [d1, d2, d3] => { results := [.lit (.bool false)], args := [d1, d2, d3] }
  | _ => none }
def PlanItemsWrongFalsely : Prop := planItemsRow.holds Try.pinned (OpenSpec.ofChange planItemsWrong)

/-- 'sakialaw20.PlanMakes': WHATEVER THE INPUT: true; the input reads as it did. -/
def planMakesSpec : ChangeSpec := { name := "planMakes", fn := fun _ => fun
  | [d] => { results := [.lit (.bool true)], args := [d] }
  | _ => none }
def planMakesRow : OpenClaim := { program := "ytkecpbdgcbgogaa", sum := "4cd17d7092362ce8921e953e95fd46387cba0a6c99e0f321646103b839785d50", func := "sakia/sakialaw20.PlanMakes", spec := "planMakes", unfollowed := true, recurses := true, apart := false }
def PlanMakesSaid : Prop := planMakesRow.holds Try.pinned (OpenSpec.ofChange planMakesSpec)

/-- ITS FALSE NEIGHBOUR: 'it returns false'. Refute it at one input. -/
def planMakesWrong : ChangeSpec := { name := "planMakes", fn := fun _ => fun
  | [d] => { results := [.lit (.bool false)], args := [d] }
  | _ => none }
def PlanMakesWrongFalsely : Prop := planMakesRow.holds Try.pinned (OpenSpec.ofChange planMakesWrong)

/-- 'sakialaw20.PlanTotals': WHATEVER THE INPUT: true; the input reads as it did. -/
def planTotalsSpec : ChangeSpec := { name := "planTotals", fn := fun _ => fun
  | [d] => { results := [.lit (.bool true)], args := [d] }
  | _ => none }
def planTotalsRow : OpenClaim := { program := "ytkecpbdgcbgogaa", sum := "4cd17d7092362ce8921e953e95fd46387cba0a6c99e0f321646103b839785d50", func := "sakia/sakialaw20.PlanTotals", spec := "planTotals", unfollowed := true, recurses := true, apart := false }
def PlanTotalsSaid : Prop := planTotalsRow.holds Try.pinned (OpenSpec.ofChange planTotalsSpec)

/-- ITS FALSE NEIGHBOUR: 'it returns false'. Refute it at one input. -/
def planTotalsWrong : ChangeSpec := { name := "planTotals", fn := fun _ => fun
  | [d] => { results := [.lit (.bool false)], args := [d] }
  | _ => none }
def PlanTotalsWrongFalsely : Prop := planTotalsRow.holds Try.pinned (OpenSpec.ofChange planTotalsWrong)

/-- 'sakialaw20.PlanPairs': WHATEVER THE INPUT: true; the input reads as it did. -/
def planPairsSpec : ChangeSpec := { name := "planPairs", fn := fun _ => fun
  | [d1, d2, d3] => { results := [.lit (.bool true)], args := [d1, d2, d3] }
  | _ => none }
def planPairsRow : OpenClaim := { program := "ytkecpbdgcbgogaa", sum := "4cd17d7092362ce8921e953e95fd46387cba0a6c99e0f321646103b839785d50", func := "sakia/sakialaw20.PlanPairs", spec := "planPairs", unfollowed := true, recurses := true, apart := false }
def PlanPairsSaid : Prop := planPairsRow.holds Try.pinned (OpenSpec.ofChange planPairsSpec)

/-- ITS FALSE NEIGHBOUR: 'it returns false'. Refute it at one input. -/
def planPairsWrong : ChangeSpec := { name := "planPairs", fn := fun _ => fun
  | [d1, d2, d3] => { results := [.lit (.bool false)], args := [d1, d2, d3] }
  | _ => none }
def PlanPairsWrongFalsely : Prop := planPairsRow.holds Try.pinned (OpenSpec.ofChange planPairsWrong)

/- THE SECOND FORM. 'bulk': how many values and letters a reading holds, each counted each time it is reached (what is shared counts as often as it is met; a slice's spare places count too). A statement '..UptoSaid' is the law's where the arguments, and the package variables that the reading takes, are together of bulk at most 1048576: NARROWER than '..Said'. Prove '..Said' where nothing that the law and all that it calls make is longer than what came in: it says more and counts as full. Else prove '..UptoSaid'. A law counts once. -/
mutual
def uptoBulk {H : Type} : DataW H → Nat
  | .lit (.string bytes) => bytes.length + 1
  | .lit _ => 1
  | .nil => 1
  | .ptr d => uptoBulk d + 1
  | .slice elems spare => uptoBulkAll elems + uptoBulkAll spare + 1
  | .agg parts => uptoBulkAll parts + 1
  | .iface _ d => uptoBulk d + 1
  | .map entries => uptoBulkEntries entries + 1
  | .held _ => 1
def uptoBulkAll {H : Type} : List (DataW H) → Nat
  | [] => 0
  | d :: r => uptoBulk d + uptoBulkAll r
def uptoBulkEntries {H : Type} : List (Lit × DataW H) → Nat
  | [] => 0
  | x :: r => uptoBulkEntry x + uptoBulkEntries r
def uptoBulkEntry {H : Type} : Lit × DataW H → Nat
  | (.string bytes, d) => bytes.length + uptoBulk d + 1
  | (_, d) => uptoBulk d + 1
 end
def uptoSmall : (H : Type) → List (DataW H) → Bool := fun _ ds => decide (uptoBulkAll ds ≤ 1048576)
def OpenSpec.upto (s : _root_.Go.ChangeSpec) : _root_.Go.OpenSpec := { _root_.Go.OpenSpec.ofChange s with cond := some uptoSmall }

/-- 'sakialaw19.RingRounds', WHERE WHAT IT READS IS OF BULK AT MOST 1048576: true; the input reads as it did. -/
def ringRoundsUptoRow : OpenClaim := { program := "ytkecpbdgcbgogaa", sum := "4cd17d7092362ce8921e953e95fd46387cba0a6c99e0f321646103b839785d50", func := "sakia/sakialaw19.RingRounds", spec := "ringRounds", unfollowed := true, recurses := true, apart := false, narrowed := true }
def RingRoundsUptoSaid : Prop := ringRoundsUptoRow.holds Try.pinned (OpenSpec.upto ringRoundsSpec)

/-- 'sakialaw19.RingPairs', WHERE WHAT IT READS IS OF BULK AT MOST 1048576: true; the input reads as it did. -/
def ringPairsUptoRow : OpenClaim := { program := "ytkecpbdgcbgogaa", sum := "4cd17d7092362ce8921e953e95fd46387cba0a6c99e0f321646103b839785d50", func := "sakia/sakialaw19.RingPairs", spec := "ringPairs", unfollowed := true, recurses := true, apart := false, narrowed := true }
def RingPairsUptoSaid : Prop := ringPairsUptoRow.holds Try.pinned (OpenSpec.upto ringPairsSpec)

/-- 'sakialaw19.RingReduces', WHERE WHAT IT READS IS OF BULK AT MOST 1048576: true; the input reads as it did. -/
def ringReducesUptoRow : OpenClaim := { program := "ytkecpbdgcbgogaa", sum := "4cd17d7092362ce8921e953e95fd46387cba0a6c99e0f321646103b839785d50", func := "sakia/sakialaw19.RingReduces", spec := "ringReduces", unfollowed := true, recurses := true, apart := false, narrowed := true }
def RingReducesUptoSaid : Prop := ringReducesUptoRow.holds Try.pinned (OpenSpec.upto ringReducesSpec)

/-- 'sakialaw20.PlanSteps', WHERE WHAT IT READS IS OF BULK AT MOST 1048576: true; the input reads as it did. -/
def planStepsUptoRow : OpenClaim := { program := "ytkecpbdgcbgogaa", sum := "4cd17d7092362ce8921e953e95fd46387cba0a6c99e0f321646103b839785d50", func := "sakia/sakialaw20.PlanSteps", spec := "planSteps", unfollowed := true, recurses := true, apart := false, narrowed := true }
def PlanStepsUptoSaid : Prop := planStepsUptoRow.holds Try.pinned (OpenSpec.upto planStepsSpec)

/-- 'sakialaw20.PlanWindows', WHERE WHAT IT READS IS OF BULK AT MOST 1048576: true; the input reads as it did. -/
def planWindowsUptoRow : OpenClaim := { program := "ytkecpbdgcbgogaa", sum := "4cd17d7092362ce8921e953e95fd46387cba0a6c99e0f321646103b839785d50", func := "sakia/sakialaw20.PlanWindows", spec := "planWindows", unfollowed := true, recurses := true, apart := false, narrowed := true }
def PlanWindowsUptoSaid : Prop := planWindowsUptoRow.holds Try.pinned (OpenSpec.upto planWindowsSpec)

/-- 'sakialaw20.PlanItems', WHERE WHAT IT READS IS OF BULK AT MOST 1048576: true; the input reads as it did. -/
def planItemsUptoRow : OpenClaim := { program := "ytkecpbdgcbgogaa", sum := "4cd17d7092362ce8921e953e95fd46387cba0a6c99e0f321646103b839785d50", func := "sakia/sakialaw20.PlanItems", spec := "planItems", unfollowed := true, recurses := true, apart := false, narrowed := true }
def PlanItemsUptoSaid : Prop := planItemsUptoRow.holds Try.pinned (OpenSpec.upto planItemsSpec)

/-- 'sakialaw20.PlanMakes', WHERE WHAT IT READS IS OF BULK AT MOST 1048576: true; the input reads as it did. -/
def planMakesUptoRow : OpenClaim := { program := "ytkecpbdgcbgogaa", sum := "4cd17d7092362ce8921e953e95fd46387cba0a6c99e0f321646103b839785d50", func := "sakia/sakialaw20.PlanMakes", spec := "planMakes", unfollowed := true, recurses := true, apart := false, narrowed := true }
def PlanMakesUptoSaid : Prop := planMakesUptoRow.holds Try.pinned (OpenSpec.upto planMakesSpec)

/-- 'sakialaw20.PlanTotals', WHERE WHAT IT READS IS OF BULK AT MOST 1048576: true; the input reads as it did. -/
def planTotalsUptoRow : OpenClaim := { program := "ytkecpbdgcbgogaa", sum := "4cd17d7092362ce8921e953e95fd46387cba0a6c99e0f321646103b839785d50", func := "sakia/sakialaw20.PlanTotals", spec := "planTotals", unfollowed := true, recurses := true, apart := false, narrowed := true }
def PlanTotalsUptoSaid : Prop := planTotalsUptoRow.holds Try.pinned (OpenSpec.upto planTotalsSpec)

/-- 'sakialaw20.PlanPairs', WHERE WHAT IT READS IS OF BULK AT MOST 1048576: true; the input reads as it did. -/
def planPairsUptoRow : OpenClaim := { program := "ytkecpbdgcbgogaa", sum := "4cd17d7092362ce8921e953e95fd46387cba0a6c99e0f321646103b839785d50", func := "sakia/sakialaw20.PlanPairs", spec := "planPairs", unfollowed := true, recurses := true, apart := false, narrowed := true }
def PlanPairsUptoSaid : Prop := planPairsUptoRow.holds Try.pinned (OpenSpec.upto planPairsSpec)

end Rows
end Go.Proofs.Ytkecpbdgcbgogaa
