/-
  No cell of these rows narrows 'for every input' (looked for: loops, veiled, ifaces, maps, wideKeys, modest, calm, conditions, laid).
  DERIVED. THE GIVEN ROWS OF THIS SEAT. 12 by the template 'for every input the law returns true; each argument reads behind the call as it read before'; 0 by the template 'total and deterministic' (their statements: YtmnmjjackffnjaaTotals.lean).
  GIVEN WITH THE SEED: the statements are not yours to turn. If you find one false, say at which input.
  Laid BY PROGRAM, IN A SANDBOX (cutbox-rows.mjs): the forced cells as the released guide's own fill.sh prints them over the translation 6c11e34bbea4e6ca… (all of the seat's roots in one cut). By AI agents, Wed Nov 11 2026. No macro, syntax, notation, axiom, sorry.
-/
import Derived.Test.YtmnmjjackffnjaaChecked
import GoSem.Claim
import GoSem.ClaimJoined
import GoSem.ClaimMapViews
import Derived.JoinedTies
import Derived.KernelRfl
namespace Go.Proofs.Ytmnmjjackffnjaa
/- THE CELL 'sum', in the pinned program and in every row, IS THE sha256 OF THE DUMP (.gsa) THAT YtmnmjjackffnjaaProg.lean LOADS. Nothing in Lean hashes anything: it is a label: what it is worth is what the hold of that sum in a sandbox is worth. -/
noncomputable def Try.pinned : Pinned := { name := "ytmnmjjackffnjaa", sum := "6c11e34bbea4e6ca07f8380b2e561650a0fd5b78fe9b85244e467d90937dfcc6", checked := Try.checked }
namespace Rows
def none {H : Type} : Left H := { results := [], args := [] }

/-- 'sakialaw19.RingSegments': WHATEVER THE INPUT: true; the input reads as it did. -/
def ringSegmentsSpec : ChangeSpec := { name := "ringSegments", fn := fun _ => fun
  | [d1, d2, d3] => { results := [.lit (.bool true)], args := [d1, d2, d3] }
  | _ => none }
def ringSegmentsRow : OpenClaim := { program := "ytmnmjjackffnjaa", sum := "6c11e34bbea4e6ca07f8380b2e561650a0fd5b78fe9b85244e467d90937dfcc6", func := "sakia/sakialaw19.RingSegments", spec := "ringSegments", unfollowed := true, recurses := true, apart := false }
def RingSegmentsSaid : Prop := ringSegmentsRow.holds Try.pinned (OpenSpec.ofChange ringSegmentsSpec)

/-- ITS FALSE NEIGHBOUR: 'it returns false'. Refute it at one input. -/
def ringSegmentsWrong : ChangeSpec := { name := "ringSegments", fn := fun _ => fun
  | [d1, d2, d3] => { results := [.lit (.bool false)], args := [d1, d2, d3] }
  | _ => none }
def RingSegmentsWrongFalsely : Prop := ringSegmentsRow.holds Try.pinned (OpenSpec.ofChange ringSegmentsWrong)

/-- 'sakialaw19.RingOwners': WHATEVER THE INPUT: true; the input reads as it did. -/
def ringOwnersSpec : ChangeSpec := { name := "ringOwners", fn := fun _ => fun
  | [d1, d2] => { results := [.lit (.bool true)], args := [d1, d2] }
  | _ => none }
def ringOwnersRow : OpenClaim := { program := "ytmnmjjackffnjaa", sum := "6c11e34bbea4e6ca07f8380b2e561650a0fd5b78fe9b85244e467d90937dfcc6", func := "sakia/sakialaw19.RingOwners", spec := "ringOwners", unfollowed := true, recurses := true, apart := false }
def RingOwnersSaid : Prop := ringOwnersRow.holds Try.pinned (OpenSpec.ofChange ringOwnersSpec)

/-- ITS FALSE NEIGHBOUR: 'it returns false'. Refute it at one input. -/
def ringOwnersWrong : ChangeSpec := { name := "ringOwners", fn := fun _ => fun
  | [d1, d2] => { results := [.lit (.bool false)], args := [d1, d2] }
  | _ => none }
def RingOwnersWrongFalsely : Prop := ringOwnersRow.holds Try.pinned (OpenSpec.ofChange ringOwnersWrong)

/-- 'sakialaw04.PartFinds': WHATEVER THE INPUT: true; the input reads as it did. -/
def partFindsSpec : ChangeSpec := { name := "partFinds", fn := fun _ => fun
  | [d1, d2] => { results := [.lit (.bool true)], args := [d1, d2] }
  | _ => none }
def partFindsRow : OpenClaim := { program := "ytmnmjjackffnjaa", sum := "6c11e34bbea4e6ca07f8380b2e561650a0fd5b78fe9b85244e467d90937dfcc6", func := "sakia/sakialaw04.PartFinds", spec := "partFinds", unfollowed := true, recurses := true, apart := false }
def PartFindsSaid : Prop := partFindsRow.holds Try.pinned (OpenSpec.ofChange partFindsSpec)

/-- ITS FALSE NEIGHBOUR: 'it returns false'. Refute it at one input. -/
def partFindsWrong : ChangeSpec := { name := "partFinds", fn := fun _ => fun
  | [d1, d2] => { results := [.lit (.bool false)], args := [d1, d2] }
  | _ => none }
def PartFindsWrongFalsely : Prop := partFindsRow.holds Try.pinned (OpenSpec.ofChange partFindsWrong)

/-- 'sakialaw15.BucketDivides': WHATEVER THE INPUT: true; the input reads as it did. -/
def bucketDividesSpec : ChangeSpec := { name := "bucketDivides", fn := fun _ => fun
  | [d1, d2] => { results := [.lit (.bool true)], args := [d1, d2] }
  | _ => none }
def bucketDividesRow : OpenClaim := { program := "ytmnmjjackffnjaa", sum := "6c11e34bbea4e6ca07f8380b2e561650a0fd5b78fe9b85244e467d90937dfcc6", func := "sakia/sakialaw15.BucketDivides", spec := "bucketDivides", apart := false }
def BucketDividesSaid : Prop := bucketDividesRow.holds Try.pinned (OpenSpec.ofChange bucketDividesSpec)

/-- ITS FALSE NEIGHBOUR: 'it returns false'. Refute it at one input. -/
def bucketDividesWrong : ChangeSpec := { name := "bucketDivides", fn := fun _ => fun
  | [d1, d2] => { results := [.lit (.bool false)], args := [d1, d2] }
  | _ => none }
def BucketDividesWrongFalsely : Prop := bucketDividesRow.holds Try.pinned (OpenSpec.ofChange bucketDividesWrong)

/-- 'sakialaw04.PartSizes': WHATEVER THE INPUT: true; the input reads as it did. -/
def partSizesSpec : ChangeSpec := { name := "partSizes", fn := fun _ => fun
  | [d1, d2] => { results := [.lit (.bool true)], args := [d1, d2] }
  | _ => none }
def partSizesRow : OpenClaim := { program := "ytmnmjjackffnjaa", sum := "6c11e34bbea4e6ca07f8380b2e561650a0fd5b78fe9b85244e467d90937dfcc6", func := "sakia/sakialaw04.PartSizes", spec := "partSizes", unfollowed := true, recurses := true, apart := false }
def PartSizesSaid : Prop := partSizesRow.holds Try.pinned (OpenSpec.ofChange partSizesSpec)

/-- ITS FALSE NEIGHBOUR: 'it returns false'. Refute it at one input. -/
def partSizesWrong : ChangeSpec := { name := "partSizes", fn := fun _ => fun
  | [d1, d2] => { results := [.lit (.bool false)], args := [d1, d2] }
  | _ => none }
def PartSizesWrongFalsely : Prop := partSizesRow.holds Try.pinned (OpenSpec.ofChange partSizesWrong)

/-- 'sakialaw04.PartEvens': WHATEVER THE INPUT: true; the input reads as it did. -/
def partEvensSpec : ChangeSpec := { name := "partEvens", fn := fun _ => fun
  | [d1, d2] => { results := [.lit (.bool true)], args := [d1, d2] }
  | _ => none }
def partEvensRow : OpenClaim := { program := "ytmnmjjackffnjaa", sum := "6c11e34bbea4e6ca07f8380b2e561650a0fd5b78fe9b85244e467d90937dfcc6", func := "sakia/sakialaw04.PartEvens", spec := "partEvens", unfollowed := true, recurses := true, apart := false }
def PartEvensSaid : Prop := partEvensRow.holds Try.pinned (OpenSpec.ofChange partEvensSpec)

/-- ITS FALSE NEIGHBOUR: 'it returns false'. Refute it at one input. -/
def partEvensWrong : ChangeSpec := { name := "partEvens", fn := fun _ => fun
  | [d1, d2] => { results := [.lit (.bool false)], args := [d1, d2] }
  | _ => none }
def PartEvensWrongFalsely : Prop := partEvensRow.holds Try.pinned (OpenSpec.ofChange partEvensWrong)

/-- 'sakialaw04.PartCovers': WHATEVER THE INPUT: true; the input reads as it did. -/
def partCoversSpec : ChangeSpec := { name := "partCovers", fn := fun _ => fun
  | [d1, d2] => { results := [.lit (.bool true)], args := [d1, d2] }
  | _ => none }
def partCoversRow : OpenClaim := { program := "ytmnmjjackffnjaa", sum := "6c11e34bbea4e6ca07f8380b2e561650a0fd5b78fe9b85244e467d90937dfcc6", func := "sakia/sakialaw04.PartCovers", spec := "partCovers", unfollowed := true, recurses := true, apart := false }
def PartCoversSaid : Prop := partCoversRow.holds Try.pinned (OpenSpec.ofChange partCoversSpec)

/-- ITS FALSE NEIGHBOUR: 'it returns false'. Refute it at one input. -/
def partCoversWrong : ChangeSpec := { name := "partCovers", fn := fun _ => fun
  | [d1, d2] => { results := [.lit (.bool false)], args := [d1, d2] }
  | _ => none }
def PartCoversWrongFalsely : Prop := partCoversRow.holds Try.pinned (OpenSpec.ofChange partCoversWrong)

/-- 'sakialaw04.PartBlocks': WHATEVER THE INPUT: true; the input reads as it did. -/
def partBlocksSpec : ChangeSpec := { name := "partBlocks", fn := fun _ => fun
  | [d1, d2] => { results := [.lit (.bool true)], args := [d1, d2] }
  | _ => none }
def partBlocksRow : OpenClaim := { program := "ytmnmjjackffnjaa", sum := "6c11e34bbea4e6ca07f8380b2e561650a0fd5b78fe9b85244e467d90937dfcc6", func := "sakia/sakialaw04.PartBlocks", spec := "partBlocks", unfollowed := true, recurses := true, apart := false }
def PartBlocksSaid : Prop := partBlocksRow.holds Try.pinned (OpenSpec.ofChange partBlocksSpec)

/-- ITS FALSE NEIGHBOUR: 'it returns false'. Refute it at one input. -/
def partBlocksWrong : ChangeSpec := { name := "partBlocks", fn := fun _ => fun
  | [d1, d2] => { results := [.lit (.bool false)], args := [d1, d2] }
  | _ => none }
def PartBlocksWrongFalsely : Prop := partBlocksRow.holds Try.pinned (OpenSpec.ofChange partBlocksWrong)

/-- 'sakialaw15.BucketSegments': WHATEVER THE INPUT: true; the input reads as it did. -/
def bucketSegmentsSpec : ChangeSpec := { name := "bucketSegments", fn := fun _ => fun
  | [d1, d2, d3] => { results := [.lit (.bool true)], args := [d1, d2, d3] }
  | _ => none }
def bucketSegmentsRow : OpenClaim := { program := "ytmnmjjackffnjaa", sum := "6c11e34bbea4e6ca07f8380b2e561650a0fd5b78fe9b85244e467d90937dfcc6", func := "sakia/sakialaw15.BucketSegments", spec := "bucketSegments", unfollowed := true, recurses := true, apart := false }
def BucketSegmentsSaid : Prop := bucketSegmentsRow.holds Try.pinned (OpenSpec.ofChange bucketSegmentsSpec)

/-- ITS FALSE NEIGHBOUR: 'it returns false'. Refute it at one input. -/
def bucketSegmentsWrong : ChangeSpec := { name := "bucketSegments", fn := fun _ => fun
  | [d1, d2, d3] => { results := [.lit (.bool false)], args := [d1, d2, d3] }
  | _ => none }
def BucketSegmentsWrongFalsely : Prop := bucketSegmentsRow.holds Try.pinned (OpenSpec.ofChange bucketSegmentsWrong)

/-- 'sakialaw15.BucketChunks': WHATEVER THE INPUT: true; the input reads as it did. -/
def bucketChunksSpec : ChangeSpec := { name := "bucketChunks", fn := fun _ => fun
  | [d1, d2, d3] => { results := [.lit (.bool true)], args := [d1, d2, d3] }
  | _ => none }
def bucketChunksRow : OpenClaim := { program := "ytmnmjjackffnjaa", sum := "6c11e34bbea4e6ca07f8380b2e561650a0fd5b78fe9b85244e467d90937dfcc6", func := "sakia/sakialaw15.BucketChunks", spec := "bucketChunks", unfollowed := true, recurses := true, apart := false }
def BucketChunksSaid : Prop := bucketChunksRow.holds Try.pinned (OpenSpec.ofChange bucketChunksSpec)

/-- ITS FALSE NEIGHBOUR: 'it returns false'. Refute it at one input. -/
def bucketChunksWrong : ChangeSpec := { name := "bucketChunks", fn := fun _ => fun
  | [d1, d2, d3] => { results := [.lit (.bool false)], args := [d1, d2, d3] }
  | _ => none }
def BucketChunksWrongFalsely : Prop := bucketChunksRow.holds Try.pinned (OpenSpec.ofChange bucketChunksWrong)

/-- 'sakialaw15.BucketFinds': WHATEVER THE INPUT: true; the input reads as it did. -/
def bucketFindsSpec : ChangeSpec := { name := "bucketFinds", fn := fun _ => fun
  | [d1, d2] => { results := [.lit (.bool true)], args := [d1, d2] }
  | _ => none }
def bucketFindsRow : OpenClaim := { program := "ytmnmjjackffnjaa", sum := "6c11e34bbea4e6ca07f8380b2e561650a0fd5b78fe9b85244e467d90937dfcc6", func := "sakia/sakialaw15.BucketFinds", spec := "bucketFinds", unfollowed := true, recurses := true, apart := false }
def BucketFindsSaid : Prop := bucketFindsRow.holds Try.pinned (OpenSpec.ofChange bucketFindsSpec)

/-- ITS FALSE NEIGHBOUR: 'it returns false'. Refute it at one input. -/
def bucketFindsWrong : ChangeSpec := { name := "bucketFinds", fn := fun _ => fun
  | [d1, d2] => { results := [.lit (.bool false)], args := [d1, d2] }
  | _ => none }
def BucketFindsWrongFalsely : Prop := bucketFindsRow.holds Try.pinned (OpenSpec.ofChange bucketFindsWrong)

/-- 'sakialaw15.BucketCovers': WHATEVER THE INPUT: true; the input reads as it did. -/
def bucketCoversSpec : ChangeSpec := { name := "bucketCovers", fn := fun _ => fun
  | [d1, d2] => { results := [.lit (.bool true)], args := [d1, d2] }
  | _ => none }
def bucketCoversRow : OpenClaim := { program := "ytmnmjjackffnjaa", sum := "6c11e34bbea4e6ca07f8380b2e561650a0fd5b78fe9b85244e467d90937dfcc6", func := "sakia/sakialaw15.BucketCovers", spec := "bucketCovers", unfollowed := true, recurses := true, apart := false }
def BucketCoversSaid : Prop := bucketCoversRow.holds Try.pinned (OpenSpec.ofChange bucketCoversSpec)

/-- ITS FALSE NEIGHBOUR: 'it returns false'. Refute it at one input. -/
def bucketCoversWrong : ChangeSpec := { name := "bucketCovers", fn := fun _ => fun
  | [d1, d2] => { results := [.lit (.bool false)], args := [d1, d2] }
  | _ => none }
def BucketCoversWrongFalsely : Prop := bucketCoversRow.holds Try.pinned (OpenSpec.ofChange bucketCoversWrong)

/- THE SECOND FORM. 'bulk': how many values and letters a reading holds, each counted each time it is reached (what is shared counts as often as it is met; a slice's spare places count too). A statement '..UptoSaid' is the law's where the arguments, and the package variables that the reading takes, are together of bulk at most 1048576: NARROWER than '..Said'. Prove '..Said' where nothing that the law and all that it calls make is longer than what came in: it says more and counts as full. Else prove '..UptoSaid'. A law counts once. -/
mutual
def uptoBulk {H : Type} : DataW H → Nat
  | .lit (.string bytes) => bytes.length + 1
  | .lit _ => 1
  | .nil => 1
  | .ptr d => uptoBulk d + 1
  | .slice elems spare => uptoBulkAll elems + uptoBulkAll spare + 1
  | .agg parts => uptoBulkAll parts + 1
  | .iface _ d => uptoBulk d + 1
  | .map entries => uptoBulkEntries entries + 1
  | .held _ => 1
def uptoBulkAll {H : Type} : List (DataW H) → Nat
  | [] => 0
  | d :: r => uptoBulk d + uptoBulkAll r
def uptoBulkEntries {H : Type} : List (Lit × DataW H) → Nat
  | [] => 0
  | x :: r => uptoBulkEntry x + uptoBulkEntries r
def uptoBulkEntry {H : Type} : Lit × DataW H → Nat
  | (.string bytes, d) => bytes.length + uptoBulk d + 1
  | (_, d) => uptoBulk d + 1
 end
def uptoSmall : (H : Type) → List (DataW H) → Bool := fun _ ds => decide (uptoBulkAll ds ≤ 1048576)
def OpenSpec.upto (s : _root_.Go.ChangeSpec) : _root_.Go.OpenSpec := { _root_.Go.OpenSpec.ofChange s with cond := some uptoSmall }

/-- 'sakialaw19.RingSegments', WHERE WHAT IT READS IS OF BULK AT MOST 1048576: true; the input reads as it did. -/
def ringSegmentsUptoRow : OpenClaim := { program := "ytmnmjjackffnjaa", sum := "6c11e34bbea4e6ca07f8380b2e561650a0fd5b78fe9b85244e467d90937dfcc6", func := "sakia/sakialaw19.RingSegments", spec := "ringSegments", unfollowed := true, recurses := true, apart := false, narrowed := true }
def RingSegmentsUptoSaid : Prop := ringSegmentsUptoRow.holds Try.pinned (OpenSpec.upto ringSegmentsSpec)

/-- 'sakialaw19.RingOwners', WHERE WHAT IT READS IS OF BULK AT MOST 1048576: true; the input reads as it did. -/
def ringOwnersUptoRow : OpenClaim := { program := "ytmnmjjackffnjaa", sum := "6c11e34bbea4e6ca07f8380b2e561650a0fd5b78fe9b85244e467d90937dfcc6", func := "sakia/sakialaw19.RingOwners", spec := "ringOwners", unfollowed := true, recurses := true, apart := false, narrowed := true }
def RingOwnersUptoSaid : Prop := ringOwnersUptoRow.holds Try.pinned (OpenSpec.upto ringOwnersSpec)

/-- 'sakialaw04.PartFinds', WHERE WHAT IT READS IS OF BULK AT MOST 1048576: true; the input reads as it did. -/
def partFindsUptoRow : OpenClaim := { program := "ytmnmjjackffnjaa", sum := "6c11e34bbea4e6ca07f8380b2e561650a0fd5b78fe9b85244e467d90937dfcc6", func := "sakia/sakialaw04.PartFinds", spec := "partFinds", unfollowed := true, recurses := true, apart := false, narrowed := true }
def PartFindsUptoSaid : Prop := partFindsUptoRow.holds Try.pinned (OpenSpec.upto partFindsSpec)

/-- 'sakialaw15.BucketDivides', WHERE WHAT IT READS IS OF BULK AT MOST 1048576: true; the input reads as it did. -/
def bucketDividesUptoRow : OpenClaim := { program := "ytmnmjjackffnjaa", sum := "6c11e34bbea4e6ca07f8380b2e561650a0fd5b78fe9b85244e467d90937dfcc6", func := "sakia/sakialaw15.BucketDivides", spec := "bucketDivides", apart := false, narrowed := true }
def BucketDividesUptoSaid : Prop := bucketDividesUptoRow.holds Try.pinned (OpenSpec.upto bucketDividesSpec)

/-- 'sakialaw04.PartSizes', WHERE WHAT IT READS IS OF BULK AT MOST 1048576: true; the input reads as it did. -/
def partSizesUptoRow : OpenClaim := { program := "ytmnmjjackffnjaa", sum := "6c11e34bbea4e6ca07f8380b2e561650a0fd5b78fe9b85244e467d90937dfcc6", func := "sakia/sakialaw04.PartSizes", spec := "partSizes", unfollowed := true, recurses := true, apart := false, narrowed := true }
def PartSizesUptoSaid : Prop := partSizesUptoRow.holds Try.pinned (OpenSpec.upto partSizesSpec)

/-- 'sakialaw04.PartEvens', WHERE WHAT IT READS IS OF BULK AT MOST 1048576: true; the input reads as it did. -/
def partEvensUptoRow : OpenClaim := { program := "ytmnmjjackffnjaa", sum := "6c11e34bbea4e6ca07f8380b2e561650a0fd5b78fe9b85244e467d90937dfcc6", func := "sakia/sakialaw04.PartEvens", spec := "partEvens", unfollowed := true, recurses := true, apart := false, narrowed := true }
def PartEvensUptoSaid : Prop := partEvensUptoRow.holds Try.pinned (OpenSpec.upto partEvensSpec)

/-- 'sakialaw04.PartCovers', WHERE WHAT IT READS IS OF BULK AT MOST 1048576: true; the input reads as it did. -/
def partCoversUptoRow : OpenClaim := { program := "ytmnmjjackffnjaa", sum := "6c11e34bbea4e6ca07f8380b2e561650a0fd5b78fe9b85244e467d90937dfcc6", func := "sakia/sakialaw04.PartCovers", spec := "partCovers", unfollowed := true, recurses := true, apart := false, narrowed := true }
def PartCoversUptoSaid : Prop := partCoversUptoRow.holds Try.pinned (OpenSpec.upto partCoversSpec)

/-- 'sakialaw04.PartBlocks', WHERE WHAT IT READS IS OF BULK AT MOST 1048576: true; the input reads as it did. -/
def partBlocksUptoRow : OpenClaim := { program := "ytmnmjjackffnjaa", sum := "6c11e34bbea4e6ca07f8380b2e561650a0fd5b78fe9b85244e467d90937dfcc6", func := "sakia/sakialaw04.PartBlocks", spec := "partBlocks", unfollowed := true, recurses := true, apart := false, narrowed := true }
def PartBlocksUptoSaid : Prop := partBlocksUptoRow.holds Try.pinned (OpenSpec.upto partBlocksSpec)

/-- 'sakialaw15.BucketSegments', WHERE WHAT IT READS IS OF BULK AT MOST 1048576: true; the input reads as it did. -/
def bucketSegmentsUptoRow : OpenClaim := { program := "ytmnmjjackffnjaa", sum := "6c11e34bbea4e6ca07f8380b2e561650a0fd5b78fe9b85244e467d90937dfcc6", func := "sakia/sakialaw15.BucketSegments", spec := "bucketSegments", unfollowed := true, recurses := true, apart := false, narrowed := true }
def BucketSegmentsUptoSaid : Prop := bucketSegmentsUptoRow.holds Try.pinned (OpenSpec.upto bucketSegmentsSpec)

/-- 'sakialaw15.BucketChunks', WHERE WHAT IT READS IS OF BULK AT MOST 1048576: true; the input reads as it did. -/
def bucketChunksUptoRow : OpenClaim := { program := "ytmnmjjackffnjaa", sum := "6c11e34bbea4e6ca07f8380b2e561650a0fd5b78fe9b85244e467d90937dfcc6", func := "sakia/sakialaw15.BucketChunks", spec := "bucketChunks", unfollowed := true, recurses := true, apart := false, narrowed := true }
def BucketChunksUptoSaid : Prop := bucketChunksUptoRow.holds Try.pinned (OpenSpec.upto bucketChunksSpec)

/-- 'sakialaw15.BucketFinds', WHERE WHAT IT READS IS OF BULK AT MOST 1048576: true; the input reads as it did. -/
def bucketFindsUptoRow : OpenClaim := { program := "ytmnmjjackffnjaa", sum := "6c11e34bbea4e6ca07f8380b2e561650a0fd5b78fe9b85244e467d90937dfcc6", func := "sakia/sakialaw15.BucketFinds", spec := "bucketFinds", unfollowed := true, recurses := true, apart := false, narrowed := true }
def BucketFindsUptoSaid : Prop := bucketFindsUptoRow.holds Try.pinned (OpenSpec.upto bucketFindsSpec)

/-- 'sakialaw15.BucketCovers', WHERE WHAT IT READS IS OF BULK AT MOST 1048576: true; the input reads as it did. -/
def bucketCoversUptoRow : OpenClaim := { program := "ytmnmjjackffnjaa", sum := "6c11e34bbea4e6ca07f8380b2e561650a0fd5b78fe9b85244e467d90937dfcc6", func := "sakia/sakialaw15.BucketCovers", spec := "bucketCovers", unfollowed := true, recurses := true, apart := false, narrowed := true }
def BucketCoversUptoSaid : Prop := bucketCoversUptoRow.holds Try.pinned (OpenSpec.upto bucketCoversSpec)

end Rows
end Go.Proofs.Ytmnmjjackffnjaa
