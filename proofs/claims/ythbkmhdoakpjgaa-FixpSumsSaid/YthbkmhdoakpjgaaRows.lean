/-
  No cell of these rows narrows 'for every input' (looked for: loops, veiled, ifaces, maps, wideKeys, modest, calm, conditions, laid).
  DERIVED. THE GIVEN ROWS OF THIS SEAT. 12 by the template 'for every input the law returns true; each argument reads behind the call as it read before'; 0 by the template 'total and deterministic' (their statements: YthbkmhdoakpjgaaTotals.lean).
  GIVEN WITH THE SEED: the statements are not yours to turn. If you find one false, say at which input.
  Laid BY PROGRAM, IN A SANDBOX (cutbox-rows.mjs): the forced cells as the released guide's own fill.sh prints them over the translation 1cbada13654f1327… (all of the seat's roots in one cut). By AI agents, Wed Nov 11 2026. No macro, syntax, notation, axiom, sorry.
-/
import Derived.Test.YthbkmhdoakpjgaaChecked
import GoSem.Claim
import GoSem.ClaimJoined
import GoSem.ClaimMapViews
import Derived.JoinedTies
import Derived.KernelRfl
namespace Go.Proofs.Ythbkmhdoakpjgaa
/- THE CELL 'sum', in the pinned program and in every row, IS THE sha256 OF THE DUMP (.gsa) THAT YthbkmhdoakpjgaaProg.lean LOADS. Nothing in Lean hashes anything: it is a label: what it is worth is what the hold of that sum in a sandbox is worth. -/
noncomputable def Try.pinned : Pinned := { name := "ythbkmhdoakpjgaa", sum := "1cbada13654f132726cbc5d762e09f3e43e7284eb8bd2a4cdab2080b97a2b9b5", checked := Try.checked }
namespace Rows
def none {H : Type} : Left H := { results := [], args := [] }

/-- 'sakialaw01.FixpProducts': WHATEVER THE INPUT: true; the input reads as it did. -/
def fixpProductsSpec : ChangeSpec := { name := "fixpProducts", fn := fun _ => fun
  | [d1, d2] => { results := [.lit (.bool true)], args := [d1, d2] }
  | _ => none }
def fixpProductsRow : OpenClaim := { program := "ythbkmhdoakpjgaa", sum := "1cbada13654f132726cbc5d762e09f3e43e7284eb8bd2a4cdab2080b97a2b9b5", func := "sakia/sakialaw01.FixpProducts", spec := "fixpProducts", apart := false }
def FixpProductsSaid : Prop := fixpProductsRow.holds Try.pinned (OpenSpec.ofChange fixpProductsSpec)

/-- ITS FALSE NEIGHBOUR: 'it returns false'. Refute it at one input. -/
def fixpProductsWrong : ChangeSpec := { name := "fixpProducts", fn := fun _ => fun
  | [d1, d2] => { results := [.lit (.bool false)], args := [d1, d2] }
  | _ => none }
def FixpProductsWrongFalsely : Prop := fixpProductsRow.holds Try.pinned (OpenSpec.ofChange fixpProductsWrong)

/-- 'sakialaw01.FixpShifts': WHATEVER THE INPUT: true; the input reads as it did. -/
def fixpShiftsSpec : ChangeSpec := { name := "fixpShifts", fn := fun _ => fun
  | [d1, d2, d3] => { results := [.lit (.bool true)], args := [d1, d2, d3] }
  | _ => none }
def fixpShiftsRow : OpenClaim := { program := "ythbkmhdoakpjgaa", sum := "1cbada13654f132726cbc5d762e09f3e43e7284eb8bd2a4cdab2080b97a2b9b5", func := "sakia/sakialaw01.FixpShifts", spec := "fixpShifts", apart := false }
def FixpShiftsSaid : Prop := fixpShiftsRow.holds Try.pinned (OpenSpec.ofChange fixpShiftsSpec)

/-- ITS FALSE NEIGHBOUR: 'it returns false'. Refute it at one input. -/
def fixpShiftsWrong : ChangeSpec := { name := "fixpShifts", fn := fun _ => fun
  | [d1, d2, d3] => { results := [.lit (.bool false)], args := [d1, d2, d3] }
  | _ => none }
def FixpShiftsWrongFalsely : Prop := fixpShiftsRow.holds Try.pinned (OpenSpec.ofChange fixpShiftsWrong)

/-- 'sakialaw01.FixpFloors': WHATEVER THE INPUT: true; the input reads as it did. -/
def fixpFloorsSpec : ChangeSpec := { name := "fixpFloors", fn := fun _ => fun
  | [d1, d2, d3] => { results := [.lit (.bool true)], args := [d1, d2, d3] }
  | _ => none }
def fixpFloorsRow : OpenClaim := { program := "ythbkmhdoakpjgaa", sum := "1cbada13654f132726cbc5d762e09f3e43e7284eb8bd2a4cdab2080b97a2b9b5", func := "sakia/sakialaw01.FixpFloors", spec := "fixpFloors", apart := false }
def FixpFloorsSaid : Prop := fixpFloorsRow.holds Try.pinned (OpenSpec.ofChange fixpFloorsSpec)

/-- ITS FALSE NEIGHBOUR: 'it returns false'. Refute it at one input. -/
def fixpFloorsWrong : ChangeSpec := { name := "fixpFloors", fn := fun _ => fun
  | [d1, d2, d3] => { results := [.lit (.bool false)], args := [d1, d2, d3] }
  | _ => none }
def FixpFloorsWrongFalsely : Prop := fixpFloorsRow.holds Try.pinned (OpenSpec.ofChange fixpFloorsWrong)

/-- 'sakialaw03.VecAdds': WHATEVER THE INPUT: true; the input reads as it did. -/
def vecAddsSpec : ChangeSpec := { name := "vecAdds", fn := fun _ => fun
  | [d1, d2] => { results := [.lit (.bool true)], args := [d1, d2] }
  | _ => none }
def vecAddsRow : OpenClaim := { program := "ythbkmhdoakpjgaa", sum := "1cbada13654f132726cbc5d762e09f3e43e7284eb8bd2a4cdab2080b97a2b9b5", func := "sakia/sakialaw03.VecAdds", spec := "vecAdds", unfollowed := true, recurses := true, apart := false }
def VecAddsSaid : Prop := vecAddsRow.holds Try.pinned (OpenSpec.ofChange vecAddsSpec)

/-- ITS FALSE NEIGHBOUR: 'it returns false'. Refute it at one input. -/
def vecAddsWrong : ChangeSpec := { name := "vecAdds", fn := fun _ => fun
  | [d1, d2] => { results := [.lit (.bool false)], args := [d1, d2] }
  | _ => none }
def VecAddsWrongFalsely : Prop := vecAddsRow.holds Try.pinned (OpenSpec.ofChange vecAddsWrong)

/-- 'sakialaw03.VecHashes': WHATEVER THE INPUT: true; the input reads as it did. -/
def vecHashesSpec : ChangeSpec := { name := "vecHashes", fn := fun _ => fun
  | [d] => { results := [.lit (.bool true)], args := [d] }
  | _ => none }
def vecHashesRow : OpenClaim := { program := "ythbkmhdoakpjgaa", sum := "1cbada13654f132726cbc5d762e09f3e43e7284eb8bd2a4cdab2080b97a2b9b5", func := "sakia/sakialaw03.VecHashes", spec := "vecHashes", unfollowed := true, recurses := true, apart := false }
def VecHashesSaid : Prop := vecHashesRow.holds Try.pinned (OpenSpec.ofChange vecHashesSpec)

/-- ITS FALSE NEIGHBOUR: 'it returns false'. Refute it at one input. -/
def vecHashesWrong : ChangeSpec := { name := "vecHashes", fn := fun _ => fun
  | [d] => { results := [.lit (.bool false)], args := [d] }
  | _ => none }
def VecHashesWrongFalsely : Prop := vecHashesRow.holds Try.pinned (OpenSpec.ofChange vecHashesWrong)

/-- 'sakialaw03.VecChanges': WHATEVER THE INPUT: true; the input reads as it did. -/
def vecChangesSpec : ChangeSpec := { name := "vecChanges", fn := fun _ => fun
  | [d1, d2, d3] => { results := [.lit (.bool true)], args := [d1, d2, d3] }
  | _ => none }
def vecChangesRow : OpenClaim := { program := "ythbkmhdoakpjgaa", sum := "1cbada13654f132726cbc5d762e09f3e43e7284eb8bd2a4cdab2080b97a2b9b5", func := "sakia/sakialaw03.VecChanges", spec := "vecChanges", unfollowed := true, recurses := true, apart := false }
def VecChangesSaid : Prop := vecChangesRow.holds Try.pinned (OpenSpec.ofChange vecChangesSpec)

/-- ITS FALSE NEIGHBOUR: 'it returns false'. Refute it at one input. -/
def vecChangesWrong : ChangeSpec := { name := "vecChanges", fn := fun _ => fun
  | [d1, d2, d3] => { results := [.lit (.bool false)], args := [d1, d2, d3] }
  | _ => none }
def VecChangesWrongFalsely : Prop := vecChangesRow.holds Try.pinned (OpenSpec.ofChange vecChangesWrong)

/-- 'sakialaw01.FixpMuls': WHATEVER THE INPUT: true; the input reads as it did. -/
def fixpMulsSpec : ChangeSpec := { name := "fixpMuls", fn := fun _ => fun
  | [d1, d2, d3] => { results := [.lit (.bool true)], args := [d1, d2, d3] }
  | _ => none }
def fixpMulsRow : OpenClaim := { program := "ythbkmhdoakpjgaa", sum := "1cbada13654f132726cbc5d762e09f3e43e7284eb8bd2a4cdab2080b97a2b9b5", func := "sakia/sakialaw01.FixpMuls", spec := "fixpMuls", apart := false }
def FixpMulsSaid : Prop := fixpMulsRow.holds Try.pinned (OpenSpec.ofChange fixpMulsSpec)

/-- ITS FALSE NEIGHBOUR: 'it returns false'. Refute it at one input. -/
def fixpMulsWrong : ChangeSpec := { name := "fixpMuls", fn := fun _ => fun
  | [d1, d2, d3] => { results := [.lit (.bool false)], args := [d1, d2, d3] }
  | _ => none }
def FixpMulsWrongFalsely : Prop := fixpMulsRow.holds Try.pinned (OpenSpec.ofChange fixpMulsWrong)

/-- 'sakialaw03.VecSums': WHATEVER THE INPUT: true; the input reads as it did. -/
def vecSumsSpec : ChangeSpec := { name := "vecSums", fn := fun _ => fun
  | [d1, d2] => { results := [.lit (.bool true)], args := [d1, d2] }
  | _ => none }
def vecSumsRow : OpenClaim := { program := "ythbkmhdoakpjgaa", sum := "1cbada13654f132726cbc5d762e09f3e43e7284eb8bd2a4cdab2080b97a2b9b5", func := "sakia/sakialaw03.VecSums", spec := "vecSums", unfollowed := true, recurses := true, apart := false }
def VecSumsSaid : Prop := vecSumsRow.holds Try.pinned (OpenSpec.ofChange vecSumsSpec)

/-- ITS FALSE NEIGHBOUR: 'it returns false'. Refute it at one input. -/
def vecSumsWrong : ChangeSpec := { name := "vecSums", fn := fun _ => fun
  | [d1, d2] => { results := [.lit (.bool false)], args := [d1, d2] }
  | _ => none }
def VecSumsWrongFalsely : Prop := vecSumsRow.holds Try.pinned (OpenSpec.ofChange vecSumsWrong)

/-- 'sakialaw03.VecSame': WHATEVER THE INPUT: true; the input reads as it did. -/
def vecSameSpec : ChangeSpec := { name := "vecSame", fn := fun _ => fun
  | [d1, d2] => { results := [.lit (.bool true)], args := [d1, d2] }
  | _ => none }
def vecSameRow : OpenClaim := { program := "ythbkmhdoakpjgaa", sum := "1cbada13654f132726cbc5d762e09f3e43e7284eb8bd2a4cdab2080b97a2b9b5", func := "sakia/sakialaw03.VecSame", spec := "vecSame", unfollowed := true, recurses := true, apart := false }
def VecSameSaid : Prop := vecSameRow.holds Try.pinned (OpenSpec.ofChange vecSameSpec)

/-- ITS FALSE NEIGHBOUR: 'it returns false'. Refute it at one input. -/
def vecSameWrong : ChangeSpec := { name := "vecSame", fn := fun _ => fun
  | [d1, d2] => { results := [.lit (.bool false)], args := [d1, d2] }
  | _ => none }
def VecSameWrongFalsely : Prop := vecSameRow.holds Try.pinned (OpenSpec.ofChange vecSameWrong)

/-- 'sakialaw01.FixpGates': WHATEVER THE INPUT: true; the input reads as it did. -/
def fixpGatesSpec : ChangeSpec := { name := "fixpGates", fn := fun _ => fun
  | [d1, d2] => { results := [.lit (.bool true)], args := [d1, d2] }
  | _ => none }
def fixpGatesRow : OpenClaim := { program := "ythbkmhdoakpjgaa", sum := "1cbada13654f132726cbc5d762e09f3e43e7284eb8bd2a4cdab2080b97a2b9b5", func := "sakia/sakialaw01.FixpGates", spec := "fixpGates", unfollowed := true, recurses := true, apart := false }
def FixpGatesSaid : Prop := fixpGatesRow.holds Try.pinned (OpenSpec.ofChange fixpGatesSpec)

/-- ITS FALSE NEIGHBOUR: 'it returns false'. Refute it at one input. -/
def fixpGatesWrong : ChangeSpec := { name := "fixpGates", fn := fun _ => fun
  | [d1, d2] => { results := [.lit (.bool false)], args := [d1, d2] }
  | _ => none }
def FixpGatesWrongFalsely : Prop := fixpGatesRow.holds Try.pinned (OpenSpec.ofChange fixpGatesWrong)

/-- 'sakialaw01.FixpSums': WHATEVER THE INPUT: true; the input reads as it did. -/
def fixpSumsSpec : ChangeSpec := { name := "fixpSums", fn := fun _ => fun
  | [d1, d2] => { results := [.lit (.bool true)], args := [d1, d2] }
  | _ => none }
def fixpSumsRow : OpenClaim := { program := "ythbkmhdoakpjgaa", sum := "1cbada13654f132726cbc5d762e09f3e43e7284eb8bd2a4cdab2080b97a2b9b5", func := "sakia/sakialaw01.FixpSums", spec := "fixpSums", unfollowed := true, recurses := true, apart := false }
def FixpSumsSaid : Prop := fixpSumsRow.holds Try.pinned (OpenSpec.ofChange fixpSumsSpec)

/-- ITS FALSE NEIGHBOUR: 'it returns false'. Refute it at one input. -/
def fixpSumsWrong : ChangeSpec := { name := "fixpSums", fn := fun _ => fun
  | [d1, d2] => { results := [.lit (.bool false)], args := [d1, d2] }
  | _ => none }
def FixpSumsWrongFalsely : Prop := fixpSumsRow.holds Try.pinned (OpenSpec.ofChange fixpSumsWrong)

/-- 'sakialaw03.VecProducts': WHATEVER THE INPUT: true; the input reads as it did. -/
def vecProductsSpec : ChangeSpec := { name := "vecProducts", fn := fun _ => fun
  | [d1, d2, d3] => { results := [.lit (.bool true)], args := [d1, d2, d3] }
  | _ => none }
def vecProductsRow : OpenClaim := { program := "ythbkmhdoakpjgaa", sum := "1cbada13654f132726cbc5d762e09f3e43e7284eb8bd2a4cdab2080b97a2b9b5", func := "sakia/sakialaw03.VecProducts", spec := "vecProducts", unfollowed := true, recurses := true, apart := false }
def VecProductsSaid : Prop := vecProductsRow.holds Try.pinned (OpenSpec.ofChange vecProductsSpec)

/-- ITS FALSE NEIGHBOUR: 'it returns false'. Refute it at one input. -/
def vecProductsWrong : ChangeSpec := { name := "vecProducts", fn := fun _ => fun
  | [d1, d2, d3] => { results := [.lit (.bool false)], args := [d1, d2, d3] }
  | _ => none }
def VecProductsWrongFalsely : Prop := vecProductsRow.holds Try.pinned (OpenSpec.ofChange vecProductsWrong)

/- THE SECOND FORM. 'bulk': how many values and letters a reading holds, each counted each time it is reached (what is shared counts as often as it is met; a slice's spare places count too). A statement '..UptoSaid' is the law's where the arguments, and the package variables that the reading takes, are together of bulk at most 1048576: NARROWER than '..Said'. Prove '..Said' where nothing that the law and all that it calls make is longer than what came in: it says more and counts as full. Else prove '..UptoSaid'. A law counts once. -/
mutual
def uptoBulk {H : Type} : DataW H → Nat
  | .lit (.string bytes) => bytes.length + 1
  | .lit _ => 1
  | .nil => 1
  | .ptr d => uptoBulk d + 1
  | .slice elems spare => uptoBulkAll elems + uptoBulkAll spare + 1
  | .agg parts => uptoBulkAll parts + 1
  | .iface _ d => uptoBulk d + 1
  | .map entries => uptoBulkEntries entries + 1
  | .held _ => 1
def uptoBulkAll {H : Type} : List (DataW H) → Nat
  | [] => 0
  | d :: r => uptoBulk d + uptoBulkAll r
def uptoBulkEntries {H : Type} : List (Lit × DataW H) → Nat
  | [] => 0
  | x :: r => uptoBulkEntry x + uptoBulkEntries r
def uptoBulkEntry {H : Type} : Lit × DataW H → Nat
  | (.string bytes, d) => bytes.length + uptoBulk d + 1
  | (_, d) => uptoBulk d + 1
 end
def uptoSmall : (H : Type) → List (DataW H) → Bool := fun _ ds => decide (uptoBulkAll ds ≤ 1048576)
def OpenSpec.upto (s : _root_.Go.ChangeSpec) : _root_.Go.OpenSpec := { _root_.Go.OpenSpec.ofChange s with cond := some uptoSmall }

/-- 'sakialaw01.FixpProducts', WHERE WHAT IT READS IS OF BULK AT MOST 1048576: true; the input reads as it did. -/
def fixpProductsUptoRow : OpenClaim := { program := "ythbkmhdoakpjgaa", sum := "1cbada13654f132726cbc5d762e09f3e43e7284eb8bd2a4cdab2080b97a2b9b5", func := "sakia/sakialaw01.FixpProducts", spec := "fixpProducts", apart := false, narrowed := true }
def FixpProductsUptoSaid : Prop := fixpProductsUptoRow.holds Try.pinned (OpenSpec.upto fixpProductsSpec)

/-- 'sakialaw01.FixpShifts', WHERE WHAT IT READS IS OF BULK AT MOST 1048576: true; the input reads as it did. -/
def fixpShiftsUptoRow : OpenClaim := { program := "ythbkmhdoakpjgaa", sum := "1cbada13654f132726cbc5d762e09f3e43e7284eb8bd2a4cdab2080b97a2b9b5", func := "sakia/sakialaw01.FixpShifts", spec := "fixpShifts", apart := false, narrowed := true }
def FixpShiftsUptoSaid : Prop := fixpShiftsUptoRow.holds Try.pinned (OpenSpec.upto fixpShiftsSpec)

/-- 'sakialaw01.FixpFloors', WHERE WHAT IT READS IS OF BULK AT MOST 1048576: true; the input reads as it did. -/
def fixpFloorsUptoRow : OpenClaim := { program := "ythbkmhdoakpjgaa", sum := "1cbada13654f132726cbc5d762e09f3e43e7284eb8bd2a4cdab2080b97a2b9b5", func := "sakia/sakialaw01.FixpFloors", spec := "fixpFloors", apart := false, narrowed := true }
def FixpFloorsUptoSaid : Prop := fixpFloorsUptoRow.holds Try.pinned (OpenSpec.upto fixpFloorsSpec)

/-- 'sakialaw03.VecAdds', WHERE WHAT IT READS IS OF BULK AT MOST 1048576: true; the input reads as it did. -/
def vecAddsUptoRow : OpenClaim := { program := "ythbkmhdoakpjgaa", sum := "1cbada13654f132726cbc5d762e09f3e43e7284eb8bd2a4cdab2080b97a2b9b5", func := "sakia/sakialaw03.VecAdds", spec := "vecAdds", unfollowed := true, recurses := true, apart := false, narrowed := true }
def VecAddsUptoSaid : Prop := vecAddsUptoRow.holds Try.pinned (OpenSpec.upto vecAddsSpec)

/-- 'sakialaw03.VecHashes', WHERE WHAT IT READS IS OF BULK AT MOST 1048576: true; the input reads as it did. -/
def vecHashesUptoRow : OpenClaim := { program := "ythbkmhdoakpjgaa", sum := "1cbada13654f132726cbc5d762e09f3e43e7284eb8bd2a4cdab2080b97a2b9b5", func := "sakia/sakialaw03.VecHashes", spec := "vecHashes", unfollowed := true, recurses := true, apart := false, narrowed := true }
def VecHashesUptoSaid : Prop := vecHashesUptoRow.holds Try.pinned (OpenSpec.upto vecHashesSpec)

/-- 'sakialaw03.VecChanges', WHERE WHAT IT READS IS OF BULK AT MOST 1048576: true; the input reads as it did. -/
def vecChangesUptoRow : OpenClaim := { program := "ythbkmhdoakpjgaa", sum := "1cbada13654f132726cbc5d762e09f3e43e7284eb8bd2a4cdab2080b97a2b9b5", func := "sakia/sakialaw03.VecChanges", spec := "vecChanges", unfollowed := true, recurses := true, apart := false, narrowed := true }
def VecChangesUptoSaid : Prop := vecChangesUptoRow.holds Try.pinned (OpenSpec.upto vecChangesSpec)

/-- 'sakialaw01.FixpMuls', WHERE WHAT IT READS IS OF BULK AT MOST 1048576: true; the input reads as it did. -/
def fixpMulsUptoRow : OpenClaim := { program := "ythbkmhdoakpjgaa", sum := "1cbada13654f132726cbc5d762e09f3e43e7284eb8bd2a4cdab2080b97a2b9b5", func := "sakia/sakialaw01.FixpMuls", spec := "fixpMuls", apart := false, narrowed := true }
def FixpMulsUptoSaid : Prop := fixpMulsUptoRow.holds Try.pinned (OpenSpec.upto fixpMulsSpec)

/-- 'sakialaw03.VecSums', WHERE WHAT IT READS IS OF BULK AT MOST 1048576: true; the input reads as it did. -/
def vecSumsUptoRow : OpenClaim := { program := "ythbkmhdoakpjgaa", sum := "1cbada13654f132726cbc5d762e09f3e43e7284eb8bd2a4cdab2080b97a2b9b5", func := "sakia/sakialaw03.VecSums", spec := "vecSums", unfollowed := true, recurses := true, apart := false, narrowed := true }
def VecSumsUptoSaid : Prop := vecSumsUptoRow.holds Try.pinned (OpenSpec.upto vecSumsSpec)

/-- 'sakialaw03.VecSame', WHERE WHAT IT READS IS OF BULK AT MOST 1048576: true; the input reads as it did. -/
def vecSameUptoRow : OpenClaim := { program := "ythbkmhdoakpjgaa", sum := "1cbada13654f132726cbc5d762e09f3e43e7284eb8bd2a4cdab2080b97a2b9b5", func := "sakia/sakialaw03.VecSame", spec := "vecSame", unfollowed := true, recurses := true, apart := false, narrowed := true }
def VecSameUptoSaid : Prop := vecSameUptoRow.holds Try.pinned (OpenSpec.upto vecSameSpec)

/-- 'sakialaw01.FixpGates', WHERE WHAT IT READS IS OF BULK AT MOST 1048576: true; the input reads as it did. -/
def fixpGatesUptoRow : OpenClaim := { program := "ythbkmhdoakpjgaa", sum := "1cbada13654f132726cbc5d762e09f3e43e7284eb8bd2a4cdab2080b97a2b9b5", func := "sakia/sakialaw01.FixpGates", spec := "fixpGates", unfollowed := true, recurses := true, apart := false, narrowed := true }
def FixpGatesUptoSaid : Prop := fixpGatesUptoRow.holds Try.pinned (OpenSpec.upto fixpGatesSpec)

/-- 'sakialaw01.FixpSums', WHERE WHAT IT READS IS OF BULK AT MOST 1048576: true; the input reads as it did. -/
def fixpSumsUptoRow : OpenClaim := { program := "ythbkmhdoakpjgaa", sum := "1cbada13654f132726cbc5d762e09f3e43e7284eb8bd2a4cdab2080b97a2b9b5", func := "sakia/sakialaw01.FixpSums", spec := "fixpSums", unfollowed := true, recurses := true, apart := false, narrowed := true }
def FixpSumsUptoSaid : Prop := fixpSumsUptoRow.holds Try.pinned (OpenSpec.upto fixpSumsSpec)

/-- 'sakialaw03.VecProducts', WHERE WHAT IT READS IS OF BULK AT MOST 1048576: true; the input reads as it did. -/
def vecProductsUptoRow : OpenClaim := { program := "ythbkmhdoakpjgaa", sum := "1cbada13654f132726cbc5d762e09f3e43e7284eb8bd2a4cdab2080b97a2b9b5", func := "sakia/sakialaw03.VecProducts", spec := "vecProducts", unfollowed := true, recurses := true, apart := false, narrowed := true }
def VecProductsUptoSaid : Prop := vecProductsUptoRow.holds Try.pinned (OpenSpec.upto vecProductsSpec)

end Rows
end Go.Proofs.Ythbkmhdoakpjgaa
