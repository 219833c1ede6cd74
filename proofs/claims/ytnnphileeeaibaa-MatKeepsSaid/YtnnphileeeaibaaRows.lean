/-
  No cell of these rows narrows 'for every input' (looked for: loops, veiled, ifaces, maps, wideKeys, modest, calm, conditions, laid).
  DERIVED. THE GIVEN ROWS OF THIS SEAT. 10 by the template 'for every input the law returns true; each argument reads behind the call as it read before'; 0 by the template 'total and deterministic' (their statements: YtnnphileeeaibaaTotals.lean).
  GIVEN WITH THE SEED: the statements are not yours to turn. If you find one false, say at which input.
  Laid BY PROGRAM, IN A SANDBOX (cutbox-rows.mjs): the forced cells as the released guide's own fill.sh prints them over the translation 17fbb6b295b7be60… (all of the seat's roots in one cut). By AI agents, Wed Nov 11 2026. No macro, syntax, notation, axiom, sorry.
-/
import Derived.Test.YtnnphileeeaibaaChecked
import GoSem.Claim
import GoSem.ClaimJoined
import GoSem.ClaimMapViews
import Derived.JoinedTies
import Derived.KernelRfl
namespace Go.Proofs.Ytnnphileeeaibaa
/- THE CELL 'sum', in the pinned program and in every row, IS THE sha256 OF THE DUMP (.gsa) THAT YtnnphileeeaibaaProg.lean LOADS. Nothing in Lean hashes anything: it is a label: what it is worth is what the hold of that sum in a sandbox is worth. -/
noncomputable def Try.pinned : Pinned := { name := "ytnnphileeeaibaa", sum := "17fbb6b295b7be60f02eeb9b5bb99b808d6bf80bae66735967be234de4161f86", checked := Try.checked }
namespace Rows
def none {H : Type} : Left H := { results := [], args := [] }

/-- 'sakialaw13.SgdNexts': WHATEVER THE INPUT: true; the input reads as it did. -/
def sgdNextsSpec : ChangeSpec := { name := "sgdNexts", fn := fun _ => fun
  | [d1, d2, d3] => { results := [.lit (.bool true)], args := [d1, d2, d3] }
  | _ => none }
def sgdNextsRow : OpenClaim := { program := "ytnnphileeeaibaa", sum := "17fbb6b295b7be60f02eeb9b5bb99b808d6bf80bae66735967be234de4161f86", func := "sakia/sakialaw13.SgdNexts", spec := "sgdNexts", unfollowed := true, recurses := true, apart := false }
def SgdNextsSaid : Prop := sgdNextsRow.holds Try.pinned (OpenSpec.ofChange sgdNextsSpec)

/-- ITS FALSE NEIGHBOUR: 'it returns false'. Refute it at one input. -/
def sgdNextsWrong : ChangeSpec := { name := "sgdNexts", fn := fun _ => fun
  | [d1, d2, d3] => { results := [.lit (.bool false)], args := [d1, d2, d3] }
  | _ => none }
def SgdNextsWrongFalsely : Prop := sgdNextsRow.holds Try.pinned (OpenSpec.ofChange sgdNextsWrong)

/-- 'sakialaw13.SgdApplies': WHATEVER THE INPUT: true; the input reads as it did. -/
def sgdAppliesSpec : ChangeSpec := { name := "sgdApplies", fn := fun _ => fun
  | [d1, d2, d3] => { results := [.lit (.bool true)], args := [d1, d2, d3] }
  | _ => none }
def sgdAppliesRow : OpenClaim := { program := "ytnnphileeeaibaa", sum := "17fbb6b295b7be60f02eeb9b5bb99b808d6bf80bae66735967be234de4161f86", func := "sakia/sakialaw13.SgdApplies", spec := "sgdApplies", unfollowed := true, recurses := true, apart := false }
def SgdAppliesSaid : Prop := sgdAppliesRow.holds Try.pinned (OpenSpec.ofChange sgdAppliesSpec)

/-- ITS FALSE NEIGHBOUR: 'it returns false'. Refute it at one input. -/
def sgdAppliesWrong : ChangeSpec := { name := "sgdApplies", fn := fun _ => fun
  | [d1, d2, d3] => { results := [.lit (.bool false)], args := [d1, d2, d3] }
  | _ => none }
def SgdAppliesWrongFalsely : Prop := sgdAppliesRow.holds Try.pinned (OpenSpec.ofChange sgdAppliesWrong)

/-- 'sakialaw07.MatOuters': WHATEVER THE INPUT: true; the input reads as it did. -/
def matOutersSpec : ChangeSpec := { name := "matOuters", fn := fun _ => fun
  | [d1, d2, d3] => { results := [.lit (.bool true)], args := [d1, d2, d3] }
  | _ => none }
def matOutersRow : OpenClaim := { program := "ytnnphileeeaibaa", sum := "17fbb6b295b7be60f02eeb9b5bb99b808d6bf80bae66735967be234de4161f86", func := "sakia/sakialaw07.MatOuters", spec := "matOuters", unfollowed := true, recurses := true, apart := false }
def MatOutersSaid : Prop := matOutersRow.holds Try.pinned (OpenSpec.ofChange matOutersSpec)

/-- ITS FALSE NEIGHBOUR: 'it returns false'. Refute it at one input. -/
def matOutersWrong : ChangeSpec := { name := "matOuters", fn := fun _ => fun
  | [d1, d2, d3] => { results := [.lit (.bool false)], args := [d1, d2, d3] }
  | _ => none }
def MatOutersWrongFalsely : Prop := matOutersRow.holds Try.pinned (OpenSpec.ofChange matOutersWrong)

/-- 'sakialaw13.SgdRuns': WHATEVER THE INPUT: true; the input reads as it did. -/
def sgdRunsSpec : ChangeSpec := { name := "sgdRuns", fn := fun _ => fun
  | [d1, d2, d3] => { results := [.lit (.bool true)], args := [d1, d2, d3] }
  | _ => none }
def sgdRunsRow : OpenClaim := { program := "ytnnphileeeaibaa", sum := "17fbb6b295b7be60f02eeb9b5bb99b808d6bf80bae66735967be234de4161f86", func := "sakia/sakialaw13.SgdRuns", spec := "sgdRuns", unfollowed := true, recurses := true, apart := false }
def SgdRunsSaid : Prop := sgdRunsRow.holds Try.pinned (OpenSpec.ofChange sgdRunsSpec)

/-- ITS FALSE NEIGHBOUR: 'it returns false'. Refute it at one input. -/
def sgdRunsWrong : ChangeSpec := { name := "sgdRuns", fn := fun _ => fun
  | [d1, d2, d3] => { results := [.lit (.bool false)], args := [d1, d2, d3] }
  | _ => none }
def SgdRunsWrongFalsely : Prop := sgdRunsRow.holds Try.pinned (OpenSpec.ofChange sgdRunsWrong)

/-- 'sakialaw13.SgdPieces': WHATEVER THE INPUT: true; the input reads as it did. -/
def sgdPiecesSpec : ChangeSpec := { name := "sgdPieces", fn := fun _ => fun
  | [d1, d2, d3] => { results := [.lit (.bool true)], args := [d1, d2, d3] }
  | _ => none }
def sgdPiecesRow : OpenClaim := { program := "ytnnphileeeaibaa", sum := "17fbb6b295b7be60f02eeb9b5bb99b808d6bf80bae66735967be234de4161f86", func := "sakia/sakialaw13.SgdPieces", spec := "sgdPieces", unfollowed := true, recurses := true, apart := false }
def SgdPiecesSaid : Prop := sgdPiecesRow.holds Try.pinned (OpenSpec.ofChange sgdPiecesSpec)

/-- ITS FALSE NEIGHBOUR: 'it returns false'. Refute it at one input. -/
def sgdPiecesWrong : ChangeSpec := { name := "sgdPieces", fn := fun _ => fun
  | [d1, d2, d3] => { results := [.lit (.bool false)], args := [d1, d2, d3] }
  | _ => none }
def SgdPiecesWrongFalsely : Prop := sgdPiecesRow.holds Try.pinned (OpenSpec.ofChange sgdPiecesWrong)

/-- 'sakialaw13.SgdCopies': WHATEVER THE INPUT: true; the input reads as it did. -/
def sgdCopiesSpec : ChangeSpec := { name := "sgdCopies", fn := fun _ => fun
  | [d1, d2] => { results := [.lit (.bool true)], args := [d1, d2] }
  | _ => none }
def sgdCopiesRow : OpenClaim := { program := "ytnnphileeeaibaa", sum := "17fbb6b295b7be60f02eeb9b5bb99b808d6bf80bae66735967be234de4161f86", func := "sakia/sakialaw13.SgdCopies", spec := "sgdCopies", unfollowed := true, recurses := true, apart := false }
def SgdCopiesSaid : Prop := sgdCopiesRow.holds Try.pinned (OpenSpec.ofChange sgdCopiesSpec)

/-- ITS FALSE NEIGHBOUR: 'it returns false'. Refute it at one input. -/
def sgdCopiesWrong : ChangeSpec := { name := "sgdCopies", fn := fun _ => fun
  | [d1, d2] => { results := [.lit (.bool false)], args := [d1, d2] }
  | _ => none }
def SgdCopiesWrongFalsely : Prop := sgdCopiesRow.holds Try.pinned (OpenSpec.ofChange sgdCopiesWrong)

/-- 'sakialaw07.MatMakes': WHATEVER THE INPUT: true; the input reads as it did. -/
def matMakesSpec : ChangeSpec := { name := "matMakes", fn := fun _ => fun
  | [d1, d2, d3] => { results := [.lit (.bool true)], args := [d1, d2, d3] }
  | _ => none }
def matMakesRow : OpenClaim := { program := "ytnnphileeeaibaa", sum := "17fbb6b295b7be60f02eeb9b5bb99b808d6bf80bae66735967be234de4161f86", func := "sakia/sakialaw07.MatMakes", spec := "matMakes", unfollowed := true, recurses := true, apart := false }
def MatMakesSaid : Prop := matMakesRow.holds Try.pinned (OpenSpec.ofChange matMakesSpec)

/-- ITS FALSE NEIGHBOUR: 'it returns false'. Refute it at one input. -/
def matMakesWrong : ChangeSpec := { name := "matMakes", fn := fun _ => fun
  | [d1, d2, d3] => { results := [.lit (.bool false)], args := [d1, d2, d3] }
  | _ => none }
def MatMakesWrongFalsely : Prop := matMakesRow.holds Try.pinned (OpenSpec.ofChange matMakesWrong)

/-- 'sakialaw07.MatKeeps': WHATEVER THE INPUT: true; the input reads as it did. -/
def matKeepsSpec : ChangeSpec := { name := "matKeeps", fn := fun _ => fun
  | [d1, d2] => { results := [.lit (.bool true)], args := [d1, d2] }
  | _ => none }
def matKeepsRow : OpenClaim := { program := "ytnnphileeeaibaa", sum := "17fbb6b295b7be60f02eeb9b5bb99b808d6bf80bae66735967be234de4161f86", func := "sakia/sakialaw07.MatKeeps", spec := "matKeeps", unfollowed := true, recurses := true, apart := false }
def MatKeepsSaid : Prop := matKeepsRow.holds Try.pinned (OpenSpec.ofChange matKeepsSpec)

/-- ITS FALSE NEIGHBOUR: 'it returns false'. Refute it at one input. -/
def matKeepsWrong : ChangeSpec := { name := "matKeeps", fn := fun _ => fun
  | [d1, d2] => { results := [.lit (.bool false)], args := [d1, d2] }
  | _ => none }
def MatKeepsWrongFalsely : Prop := matKeepsRow.holds Try.pinned (OpenSpec.ofChange matKeepsWrong)

/-- 'sakialaw07.MatProducts': WHATEVER THE INPUT: true; the input reads as it did. -/
def matProductsSpec : ChangeSpec := { name := "matProducts", fn := fun _ => fun
  | [d1, d2, d3] => { results := [.lit (.bool true)], args := [d1, d2, d3] }
  | _ => none }
def matProductsRow : OpenClaim := { program := "ytnnphileeeaibaa", sum := "17fbb6b295b7be60f02eeb9b5bb99b808d6bf80bae66735967be234de4161f86", func := "sakia/sakialaw07.MatProducts", spec := "matProducts", unfollowed := true, recurses := true, apart := false }
def MatProductsSaid : Prop := matProductsRow.holds Try.pinned (OpenSpec.ofChange matProductsSpec)

/-- ITS FALSE NEIGHBOUR: 'it returns false'. Refute it at one input. -/
def matProductsWrong : ChangeSpec := { name := "matProducts", fn := fun _ => fun
  | [d1, d2, d3] => { results := [.lit (.bool false)], args := [d1, d2, d3] }
  | _ => none }
def MatProductsWrongFalsely : Prop := matProductsRow.holds Try.pinned (OpenSpec.ofChange matProductsWrong)

/-- 'sakialaw07.MatTurns': WHATEVER THE INPUT: true; the input reads as it did. -/
def matTurnsSpec : ChangeSpec := { name := "matTurns", fn := fun _ => fun
  | [d1, d2, d3] => { results := [.lit (.bool true)], args := [d1, d2, d3] }
  | _ => none }
def matTurnsRow : OpenClaim := { program := "ytnnphileeeaibaa", sum := "17fbb6b295b7be60f02eeb9b5bb99b808d6bf80bae66735967be234de4161f86", func := "sakia/sakialaw07.MatTurns", spec := "matTurns", unfollowed := true, recurses := true, apart := false }
def MatTurnsSaid : Prop := matTurnsRow.holds Try.pinned (OpenSpec.ofChange matTurnsSpec)

/-- ITS FALSE NEIGHBOUR: 'it returns false'. Refute it at one input. -/
def matTurnsWrong : ChangeSpec := { name := "matTurns", fn := fun _ => fun
  | [d1, d2, d3] => { results := [.lit (.bool false)], args := [d1, d2, d3] }
  | _ => none }
def MatTurnsWrongFalsely : Prop := matTurnsRow.holds Try.pinned (OpenSpec.ofChange matTurnsWrong)

/- THE SECOND FORM. 'bulk': how many values and letters a reading holds, each counted each time it is reached (what is shared counts as often as it is met; a slice's spare places count too). A statement '..UptoSaid' is the law's where the arguments, and the package variables that the reading takes, are together of bulk at most 1048576: NARROWER than '..Said'. Prove '..Said' where nothing that the law and all that it calls make is longer than what came in: it says more and counts as full. Else prove '..UptoSaid'. A law counts once. -/
mutual
def uptoBulk {H : Type} : DataW H → Nat
  | .lit (.string bytes) => bytes.length + 1
  | .lit _ => 1
  | .nil => 1
  | .ptr d => uptoBulk d + 1
  | .slice elems spare => uptoBulkAll elems + uptoBulkAll spare + 1
  | .agg parts => uptoBulkAll parts + 1
  | .iface _ d => uptoBulk d + 1
  | .map entries => uptoBulkEntries entries + 1
  | .held _ => 1
def uptoBulkAll {H : Type} : List (DataW H) → Nat
  | [] => 0
  | d :: r => uptoBulk d + uptoBulkAll r
def uptoBulkEntries {H : Type} : List (Lit × DataW H) → Nat
  | [] => 0
  | x :: r => uptoBulkEntry x + uptoBulkEntries r
def uptoBulkEntry {H : Type} : Lit × DataW H → Nat
  | (.string bytes, d) => bytes.length + uptoBulk d + 1
  | (_, d) => uptoBulk d + 1
 end
def uptoSmall : (H : Type) → List (DataW H) → Bool := fun _ ds => decide (uptoBulkAll ds ≤ 1048576)
def OpenSpec.upto (s : _root_.Go.ChangeSpec) : _root_.Go.OpenSpec := { _root_.Go.OpenSpec.ofChange s with cond := some uptoSmall }

/-- 'sakialaw13.SgdNexts', WHERE WHAT IT READS IS OF BULK AT MOST 1048576: true; the input reads as it did. -/
def sgdNextsUptoRow : OpenClaim := { program := "ytnnphileeeaibaa", sum := "17fbb6b295b7be60f02eeb9b5bb99b808d6bf80bae66735967be234de4161f86", func := "sakia/sakialaw13.SgdNexts", spec := "sgdNexts", unfollowed := true, recurses := true, apart := false, narrowed := true }
def SgdNextsUptoSaid : Prop := sgdNextsUptoRow.holds Try.pinned (OpenSpec.upto sgdNextsSpec)

/-- 'sakialaw13.SgdApplies', WHERE WHAT IT READS IS OF BULK AT MOST 1048576: true; the input reads as it did. -/
def sgdAppliesUptoRow : OpenClaim := { program := "ytnnphileeeaibaa", sum := "17fbb6b295b7be60f02eeb9b5bb99b808d6bf80bae66735967be234de4161f86", func := "sakia/sakialaw13.SgdApplies", spec := "sgdApplies", unfollowed := true, recurses := true, apart := false, narrowed := true }
def SgdAppliesUptoSaid : Prop := sgdAppliesUptoRow.holds Try.pinned (OpenSpec.upto sgdAppliesSpec)

/-- 'sakialaw07.MatOuters', WHERE WHAT IT READS IS OF BULK AT MOST 1048576: true; the input reads as it did. -/
def matOutersUptoRow : OpenClaim := { program := "ytnnphileeeaibaa", sum := "17fbb6b295b7be60f02eeb9b5bb99b808d6bf80bae66735967be234de4161f86", func := "sakia/sakialaw07.MatOuters", spec := "matOuters", unfollowed := true, recurses := true, apart := false, narrowed := true }
def MatOutersUptoSaid : Prop := matOutersUptoRow.holds Try.pinned (OpenSpec.upto matOutersSpec)

/-- 'sakialaw13.SgdRuns', WHERE WHAT IT READS IS OF BULK AT MOST 1048576: true; the input reads as it did. -/
def sgdRunsUptoRow : OpenClaim := { program := "ytnnphileeeaibaa", sum := "17fbb6b295b7be60f02eeb9b5bb99b808d6bf80bae66735967be234de4161f86", func := "sakia/sakialaw13.SgdRuns", spec := "sgdRuns", unfollowed := true, recurses := true, apart := false, narrowed := true }
def SgdRunsUptoSaid : Prop := sgdRunsUptoRow.holds Try.pinned (OpenSpec.upto sgdRunsSpec)

/-- 'sakialaw13.SgdPieces', WHERE WHAT IT READS IS OF BULK AT MOST 1048576: true; the input reads as it did. -/
def sgdPiecesUptoRow : OpenClaim := { program := "ytnnphileeeaibaa", sum := "17fbb6b295b7be60f02eeb9b5bb99b808d6bf80bae66735967be234de4161f86", func := "sakia/sakialaw13.SgdPieces", spec := "sgdPieces", unfollowed := true, recurses := true, apart := false, narrowed := true }
def SgdPiecesUptoSaid : Prop := sgdPiecesUptoRow.holds Try.pinned (OpenSpec.upto sgdPiecesSpec)

/-- 'sakialaw13.SgdCopies', WHERE WHAT IT READS IS OF BULK AT MOST 1048576: true; the input reads as it did. -/
def sgdCopiesUptoRow : OpenClaim := { program := "ytnnphileeeaibaa", sum := "17fbb6b295b7be60f02eeb9b5bb99b808d6bf80bae66735967be234de4161f86", func := "sakia/sakialaw13.SgdCopies", spec := "sgdCopies", unfollowed := true, recurses := true, apart := false, narrowed := true }
def SgdCopiesUptoSaid : Prop := sgdCopiesUptoRow.holds Try.pinned (OpenSpec.upto sgdCopiesSpec)

/-- 'sakialaw07.MatMakes', WHERE WHAT IT READS IS OF BULK AT MOST 1048576: true; the input reads as it did. -/
def matMakesUptoRow : OpenClaim := { program := "ytnnphileeeaibaa", sum := "17fbb6b295b7be60f02eeb9b5bb99b808d6bf80bae66735967be234de4161f86", func := "sakia/sakialaw07.MatMakes", spec := "matMakes", unfollowed := true, recurses := true, apart := false, narrowed := true }
def MatMakesUptoSaid : Prop := matMakesUptoRow.holds Try.pinned (OpenSpec.upto matMakesSpec)

/-- 'sakialaw07.MatKeeps', WHERE WHAT IT READS IS OF BULK AT MOST 1048576: true; the input reads as it did. -/
def matKeepsUptoRow : OpenClaim := { program := "ytnnphileeeaibaa", sum := "17fbb6b295b7be60f02eeb9b5bb99b808d6bf80bae66735967be234de4161f86", func := "sakia/sakialaw07.MatKeeps", spec := "matKeeps", unfollowed := true, recurses := true, apart := false, narrowed := true }
def MatKeepsUptoSaid : Prop := matKeepsUptoRow.holds Try.pinned (OpenSpec.upto matKeepsSpec)

/-- 'sakialaw07.MatProducts', WHERE WHAT IT READS IS OF BULK AT MOST 1048576: true; the input reads as it did. -/
def matProductsUptoRow : OpenClaim := { program := "ytnnphileeeaibaa", sum := "17fbb6b295b7be60f02eeb9b5bb99b808d6bf80bae66735967be234de4161f86", func := "sakia/sakialaw07.MatProducts", spec := "matProducts", unfollowed := true, recurses := true, apart := false, narrowed := true }
def MatProductsUptoSaid : Prop := matProductsUptoRow.holds Try.pinned (OpenSpec.upto matProductsSpec)

/-- 'sakialaw07.MatTurns', WHERE WHAT IT READS IS OF BULK AT MOST 1048576: true; the input reads as it did. -/
def matTurnsUptoRow : OpenClaim := { program := "ytnnphileeeaibaa", sum := "17fbb6b295b7be60f02eeb9b5bb99b808d6bf80bae66735967be234de4161f86", func := "sakia/sakialaw07.MatTurns", spec := "matTurns", unfollowed := true, recurses := true, apart := false, narrowed := true }
def MatTurnsUptoSaid : Prop := matTurnsUptoRow.holds Try.pinned (OpenSpec.upto matTurnsSpec)

end Rows
end Go.Proofs.Ytnnphileeeaibaa
