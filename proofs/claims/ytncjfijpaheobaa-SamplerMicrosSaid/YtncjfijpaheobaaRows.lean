/-
  No cell of these rows narrows 'for every input' (looked for: loops, veiled, ifaces, maps, wideKeys, modest, calm, conditions, laid).
  DERIVED. THE GIVEN ROWS OF THIS SEAT. 12 by the template 'for every input the law returns true; each argument reads behind the call as it read before'; 0 by the template 'total and deterministic' (their statements: YtncjfijpaheobaaTotals.lean).
  GIVEN WITH THE SEED: the statements are not yours to turn. If you find one false, say at which input.
  Laid BY PROGRAM, IN A SANDBOX (cutbox-rows.mjs): the forced cells as the released guide's own fill.sh prints them over the translation 03b754754408ee5a… (all of the seat's roots in one cut). By AI agents, Wed Nov 11 2026. No macro, syntax, notation, axiom, sorry.
-/
import Derived.Test.YtncjfijpaheobaaChecked
import GoSem.Claim
import GoSem.ClaimJoined
import GoSem.ClaimMapViews
import Derived.JoinedTies
import Derived.KernelRfl
namespace Go.Proofs.Ytncjfijpaheobaa
/- THE CELL 'sum', in the pinned program and in every row, IS THE sha256 OF THE DUMP (.gsa) THAT YtncjfijpaheobaaProg.lean LOADS. Nothing in Lean hashes anything: it is a label: what it is worth is what the hold of that sum in a sandbox is worth. -/
noncomputable def Try.pinned : Pinned := { name := "ytncjfijpaheobaa", sum := "03b754754408ee5adcd4a89bd37ab750b96d60daccb442c75e53a3098d1ad5db", checked := Try.checked }
namespace Rows
def none {H : Type} : Left H := { results := [], args := [] }

/-- 'sakialaw05.DrawNexts': WHATEVER THE INPUT: true; the input reads as it did. -/
def drawNextsSpec : ChangeSpec := { name := "drawNexts", fn := fun _ => fun
  | [d1, d2] => { results := [.lit (.bool true)], args := [d1, d2] }
  | _ => none }
def drawNextsRow : OpenClaim := { program := "ytncjfijpaheobaa", sum := "03b754754408ee5adcd4a89bd37ab750b96d60daccb442c75e53a3098d1ad5db", func := "sakia/sakialaw05.DrawNexts", spec := "drawNexts", unfollowed := true, recurses := true, apart := false }
def DrawNextsSaid : Prop := drawNextsRow.holds Try.pinned (OpenSpec.ofChange drawNextsSpec)

/-- ITS FALSE NEIGHBOUR: 'it returns false'. Refute it at one input. -/
def drawNextsWrong : ChangeSpec := { name := "drawNexts", fn := fun _ => fun
  | [d1, d2] => { results := [.lit (.bool false)], args := [d1, d2] }
  | _ => none }
def DrawNextsWrongFalsely : Prop := drawNextsRow.holds Try.pinned (OpenSpec.ofChange drawNextsWrong)

/-- 'sakialaw05.DrawClones': WHATEVER THE INPUT: true; the input reads as it did. -/
def drawClonesSpec : ChangeSpec := { name := "drawClones", fn := fun _ => fun
  | [d1, d2, d3] => { results := [.lit (.bool true)], args := [d1, d2, d3] }
  | _ => none }
def drawClonesRow : OpenClaim := { program := "ytncjfijpaheobaa", sum := "03b754754408ee5adcd4a89bd37ab750b96d60daccb442c75e53a3098d1ad5db", func := "sakia/sakialaw05.DrawClones", spec := "drawClones", unfollowed := true, recurses := true, apart := false }
def DrawClonesSaid : Prop := drawClonesRow.holds Try.pinned (OpenSpec.ofChange drawClonesSpec)

/-- ITS FALSE NEIGHBOUR: 'it returns false'. Refute it at one input. -/
def drawClonesWrong : ChangeSpec := { name := "drawClones", fn := fun _ => fun
  | [d1, d2, d3] => { results := [.lit (.bool false)], args := [d1, d2, d3] }
  | _ => none }
def DrawClonesWrongFalsely : Prop := drawClonesRow.holds Try.pinned (OpenSpec.ofChange drawClonesWrong)

/-- 'sakialaw05.DrawAlls': WHATEVER THE INPUT: true; the input reads as it did. -/
def drawAllsSpec : ChangeSpec := { name := "drawAlls", fn := fun _ => fun
  | [d1, d2, d3] => { results := [.lit (.bool true)], args := [d1, d2, d3] }
  | _ => none }
def drawAllsRow : OpenClaim := { program := "ytncjfijpaheobaa", sum := "03b754754408ee5adcd4a89bd37ab750b96d60daccb442c75e53a3098d1ad5db", func := "sakia/sakialaw05.DrawAlls", spec := "drawAlls", unfollowed := true, recurses := true, apart := false }
def DrawAllsSaid : Prop := drawAllsRow.holds Try.pinned (OpenSpec.ofChange drawAllsSpec)

/-- ITS FALSE NEIGHBOUR: 'it returns false'. Refute it at one input. -/
def drawAllsWrong : ChangeSpec := { name := "drawAlls", fn := fun _ => fun
  | [d1, d2, d3] => { results := [.lit (.bool false)], args := [d1, d2, d3] }
  | _ => none }
def DrawAllsWrongFalsely : Prop := drawAllsRow.holds Try.pinned (OpenSpec.ofChange drawAllsWrong)

/-- 'sakialaw05.DrawMany': WHATEVER THE INPUT: true; the input reads as it did. -/
def drawManySpec : ChangeSpec := { name := "drawMany", fn := fun _ => fun
  | [d1, d2] => { results := [.lit (.bool true)], args := [d1, d2] }
  | _ => none }
def drawManyRow : OpenClaim := { program := "ytncjfijpaheobaa", sum := "03b754754408ee5adcd4a89bd37ab750b96d60daccb442c75e53a3098d1ad5db", func := "sakia/sakialaw05.DrawMany", spec := "drawMany", unfollowed := true, recurses := true, apart := false }
def DrawManySaid : Prop := drawManyRow.holds Try.pinned (OpenSpec.ofChange drawManySpec)

/-- ITS FALSE NEIGHBOUR: 'it returns false'. Refute it at one input. -/
def drawManyWrong : ChangeSpec := { name := "drawMany", fn := fun _ => fun
  | [d1, d2] => { results := [.lit (.bool false)], args := [d1, d2] }
  | _ => none }
def DrawManyWrongFalsely : Prop := drawManyRow.holds Try.pinned (OpenSpec.ofChange drawManyWrong)

/-- 'sakialaw05.DrawKeeps': WHATEVER THE INPUT: true; the input reads as it did. -/
def drawKeepsSpec : ChangeSpec := { name := "drawKeeps", fn := fun _ => fun
  | [d] => { results := [.lit (.bool true)], args := [d] }
  | _ => none }
def drawKeepsRow : OpenClaim := { program := "ytncjfijpaheobaa", sum := "03b754754408ee5adcd4a89bd37ab750b96d60daccb442c75e53a3098d1ad5db", func := "sakia/sakialaw05.DrawKeeps", spec := "drawKeeps", unfollowed := true, recurses := true, apart := false }
def DrawKeepsSaid : Prop := drawKeepsRow.holds Try.pinned (OpenSpec.ofChange drawKeepsSpec)

/-- ITS FALSE NEIGHBOUR: 'it returns false'. Refute it at one input. -/
def drawKeepsWrong : ChangeSpec := { name := "drawKeeps", fn := fun _ => fun
  | [d] => { results := [.lit (.bool false)], args := [d] }
  | _ => none }
def DrawKeepsWrongFalsely : Prop := drawKeepsRow.holds Try.pinned (OpenSpec.ofChange drawKeepsWrong)

/-- 'sakialaw06.PermComposes': WHATEVER THE INPUT: true; the input reads as it did. -/
def permComposesSpec : ChangeSpec := { name := "permComposes", fn := fun _ => fun
  | [d1, d2] => { results := [.lit (.bool true)], args := [d1, d2] }
  | _ => none }
def permComposesRow : OpenClaim := { program := "ytncjfijpaheobaa", sum := "03b754754408ee5adcd4a89bd37ab750b96d60daccb442c75e53a3098d1ad5db", func := "sakia/sakialaw06.PermComposes", spec := "permComposes", unfollowed := true, recurses := true, apart := false }
def PermComposesSaid : Prop := permComposesRow.holds Try.pinned (OpenSpec.ofChange permComposesSpec)

/-- ITS FALSE NEIGHBOUR: 'it returns false'. Refute it at one input. -/
def permComposesWrong : ChangeSpec := { name := "permComposes", fn := fun _ => fun
  | [d1, d2] => { results := [.lit (.bool false)], args := [d1, d2] }
  | _ => none }
def PermComposesWrongFalsely : Prop := permComposesRow.holds Try.pinned (OpenSpec.ofChange permComposesWrong)

/-- 'sakialaw06.PermCycles': WHATEVER THE INPUT: true; the input reads as it did. -/
def permCyclesSpec : ChangeSpec := { name := "permCycles", fn := fun _ => fun
  | [d] => { results := [.lit (.bool true)], args := [d] }
  | _ => none }
def permCyclesRow : OpenClaim := { program := "ytncjfijpaheobaa", sum := "03b754754408ee5adcd4a89bd37ab750b96d60daccb442c75e53a3098d1ad5db", func := "sakia/sakialaw06.PermCycles", spec := "permCycles", unfollowed := true, recurses := true, apart := false }
def PermCyclesSaid : Prop := permCyclesRow.holds Try.pinned (OpenSpec.ofChange permCyclesSpec)

/-- ITS FALSE NEIGHBOUR: 'it returns false'. Refute it at one input. -/
def permCyclesWrong : ChangeSpec := { name := "permCycles", fn := fun _ => fun
  | [d] => { results := [.lit (.bool false)], args := [d] }
  | _ => none }
def PermCyclesWrongFalsely : Prop := permCyclesRow.holds Try.pinned (OpenSpec.ofChange permCyclesWrong)

/-- 'sakialaw06.PermInverses': WHATEVER THE INPUT: true; the input reads as it did. -/
def permInversesSpec : ChangeSpec := { name := "permInverses", fn := fun _ => fun
  | [d] => { results := [.lit (.bool true)], args := [d] }
  | _ => none }
def permInversesRow : OpenClaim := { program := "ytncjfijpaheobaa", sum := "03b754754408ee5adcd4a89bd37ab750b96d60daccb442c75e53a3098d1ad5db", func := "sakia/sakialaw06.PermInverses", spec := "permInverses", unfollowed := true, recurses := true, apart := false }
def PermInversesSaid : Prop := permInversesRow.holds Try.pinned (OpenSpec.ofChange permInversesSpec)

/-- ITS FALSE NEIGHBOUR: 'it returns false'. Refute it at one input. -/
def permInversesWrong : ChangeSpec := { name := "permInverses", fn := fun _ => fun
  | [d] => { results := [.lit (.bool false)], args := [d] }
  | _ => none }
def PermInversesWrongFalsely : Prop := permInversesRow.holds Try.pinned (OpenSpec.ofChange permInversesWrong)

/-- 'sakialaw06.PermDraws': WHATEVER THE INPUT: true; the input reads as it did. -/
def permDrawsSpec : ChangeSpec := { name := "permDraws", fn := fun _ => fun
  | [d] => { results := [.lit (.bool true)], args := [d] }
  | _ => none }
def permDrawsRow : OpenClaim := { program := "ytncjfijpaheobaa", sum := "03b754754408ee5adcd4a89bd37ab750b96d60daccb442c75e53a3098d1ad5db", func := "sakia/sakialaw06.PermDraws", spec := "permDraws", unfollowed := true, recurses := true, apart := false }
def PermDrawsSaid : Prop := permDrawsRow.holds Try.pinned (OpenSpec.ofChange permDrawsSpec)

/-- ITS FALSE NEIGHBOUR: 'it returns false'. Refute it at one input. -/
def permDrawsWrong : ChangeSpec := { name := "permDraws", fn := fun _ => fun
  | [d] => { results := [.lit (.bool false)], args := [d] }
  | _ => none }
def PermDrawsWrongFalsely : Prop := permDrawsRow.holds Try.pinned (OpenSpec.ofChange permDrawsWrong)

/-- 'sakialaw12.SamplerMakes': WHATEVER THE INPUT: true; the input reads as it did. -/
def samplerMakesSpec : ChangeSpec := { name := "samplerMakes", fn := fun _ => fun
  | [d1, d2] => { results := [.lit (.bool true)], args := [d1, d2] }
  | _ => none }
def samplerMakesRow : OpenClaim := { program := "ytncjfijpaheobaa", sum := "03b754754408ee5adcd4a89bd37ab750b96d60daccb442c75e53a3098d1ad5db", func := "sakia/sakialaw12.SamplerMakes", spec := "samplerMakes", unfollowed := true, recurses := true, apart := false }
def SamplerMakesSaid : Prop := samplerMakesRow.holds Try.pinned (OpenSpec.ofChange samplerMakesSpec)

/-- ITS FALSE NEIGHBOUR: 'it returns false'. Refute it at one input. -/
def samplerMakesWrong : ChangeSpec := { name := "samplerMakes", fn := fun _ => fun
  | [d1, d2] => { results := [.lit (.bool false)], args := [d1, d2] }
  | _ => none }
def SamplerMakesWrongFalsely : Prop := samplerMakesRow.holds Try.pinned (OpenSpec.ofChange samplerMakesWrong)

/-- 'sakialaw12.SamplerShards': WHATEVER THE INPUT: true; the input reads as it did. -/
def samplerShardsSpec : ChangeSpec := { name := "samplerShards", fn := fun _ => fun
  | [d1, d2, d3] => { results := [.lit (.bool true)], args := [d1, d2, d3] }
  | _ => none }
def samplerShardsRow : OpenClaim := { program := "ytncjfijpaheobaa", sum := "03b754754408ee5adcd4a89bd37ab750b96d60daccb442c75e53a3098d1ad5db", func := "sakia/sakialaw12.SamplerShards", spec := "samplerShards", unfollowed := true, recurses := true, apart := false }
def SamplerShardsSaid : Prop := samplerShardsRow.holds Try.pinned (OpenSpec.ofChange samplerShardsSpec)

/-- ITS FALSE NEIGHBOUR: 'it returns false'. Refute it at one input. -/
def samplerShardsWrong : ChangeSpec := { name := "samplerShards", fn := fun _ => fun
  | [d1, d2, d3] => { results := [.lit (.bool false)], args := [d1, d2, d3] }
  | _ => none }
def SamplerShardsWrongFalsely : Prop := samplerShardsRow.holds Try.pinned (OpenSpec.ofChange samplerShardsWrong)

/-- 'sakialaw12.SamplerMicros': WHATEVER THE INPUT: true; the input reads as it did. -/
def samplerMicrosSpec : ChangeSpec := { name := "samplerMicros", fn := fun _ => fun
  | [d1, d2, d3] => { results := [.lit (.bool true)], args := [d1, d2, d3] }
  | _ => none }
def samplerMicrosRow : OpenClaim := { program := "ytncjfijpaheobaa", sum := "03b754754408ee5adcd4a89bd37ab750b96d60daccb442c75e53a3098d1ad5db", func := "sakia/sakialaw12.SamplerMicros", spec := "samplerMicros", unfollowed := true, recurses := true, apart := false }
def SamplerMicrosSaid : Prop := samplerMicrosRow.holds Try.pinned (OpenSpec.ofChange samplerMicrosSpec)

/-- ITS FALSE NEIGHBOUR: 'it returns false'. Refute it at one input. -/
def samplerMicrosWrong : ChangeSpec := { name := "samplerMicros", fn := fun _ => fun
  | [d1, d2, d3] => { results := [.lit (.bool false)], args := [d1, d2, d3] }
  | _ => none }
def SamplerMicrosWrongFalsely : Prop := samplerMicrosRow.holds Try.pinned (OpenSpec.ofChange samplerMicrosWrong)

/- THE SECOND FORM. 'bulk': how many values and letters a reading holds, each counted each time it is reached (what is shared counts as often as it is met; a slice's spare places count too). A statement '..UptoSaid' is the law's where the arguments, and the package variables that the reading takes, are together of bulk at most 1048576: NARROWER than '..Said'. Prove '..Said' where nothing that the law and all that it calls make is longer than what came in: it says more and counts as full. Else prove '..UptoSaid'. A law counts once. -/
mutual
def uptoBulk {H : Type} : DataW H → Nat
  | .lit (.string bytes) => bytes.length + 1
  | .lit _ => 1
  | .nil => 1
  | .ptr d => uptoBulk d + 1
  | .slice elems spare => uptoBulkAll elems + uptoBulkAll spare + 1
  | .agg parts => uptoBulkAll parts + 1
  | .iface _ d => uptoBulk d + 1
  | .map entries => uptoBulkEntries entries + 1
  | .held _ => 1
def uptoBulkAll {H : Type} : List (DataW H) → Nat
  | [] => 0
  | d :: r => uptoBulk d + uptoBulkAll r
def uptoBulkEntries {H : Type} : List (Lit × DataW H) → Nat
  | [] => 0
  | x :: r => uptoBulkEntry x + uptoBulkEntries r
def uptoBulkEntry {H : Type} : Lit × DataW H → Nat
  | (.string bytes, d) => bytes.length + uptoBulk d + 1
  | (_, d) => uptoBulk d + 1
 end
def uptoSmall : (H : Type) → List (DataW H) → Bool := fun _ ds => decide (uptoBulkAll ds ≤ 1048576)
def OpenSpec.upto (s : _root_.Go.ChangeSpec) : _root_.Go.OpenSpec := { _root_.Go.OpenSpec.ofChange s with cond := some uptoSmall }

/-- 'sakialaw05.DrawNexts', WHERE WHAT IT READS IS OF BULK AT MOST 1048576: true; the input reads as it did. -/
def drawNextsUptoRow : OpenClaim := { program := "ytncjfijpaheobaa", sum := "03b754754408ee5adcd4a89bd37ab750b96d60daccb442c75e53a3098d1ad5db", func := "sakia/sakialaw05.DrawNexts", spec := "drawNexts", unfollowed := true, recurses := true, apart := false, narrowed := true }
def DrawNextsUptoSaid : Prop := drawNextsUptoRow.holds Try.pinned (OpenSpec.upto drawNextsSpec)

/-- 'sakialaw05.DrawClones', WHERE WHAT IT READS IS OF BULK AT MOST 1048576: true; the input reads as it did. -/
def drawClonesUptoRow : OpenClaim := { program := "ytncjfijpaheobaa", sum := "03b754754408ee5adcd4a89bd37ab750b96d60daccb442c75e53a3098d1ad5db", func := "sakia/sakialaw05.DrawClones", spec := "drawClones", unfollowed := true, recurses := true, apart := false, narrowed := true }
def DrawClonesUptoSaid : Prop := drawClonesUptoRow.holds Try.pinned (OpenSpec.upto drawClonesSpec)

/-- 'sakialaw05.DrawAlls', WHERE WHAT IT READS IS OF BULK AT MOST 1048576: true; the input reads as it did. -/
def drawAllsUptoRow : OpenClaim := { program := "ytncjfijpaheobaa", sum := "03b754754408ee5adcd4a89bd37ab750b96d60daccb442c75e53a3098d1ad5db", func := "sakia/sakialaw05.DrawAlls", spec := "drawAlls", unfollowed := true, recurses := true, apart := false, narrowed := true }
def DrawAllsUptoSaid : Prop := drawAllsUptoRow.holds Try.pinned (OpenSpec.upto drawAllsSpec)

/-- 'sakialaw05.DrawMany', WHERE WHAT IT READS IS OF BULK AT MOST 1048576: true; the input reads as it did. -/
def drawManyUptoRow : OpenClaim := { program := "ytncjfijpaheobaa", sum := "03b754754408ee5adcd4a89bd37ab750b96d60daccb442c75e53a3098d1ad5db", func := "sakia/sakialaw05.DrawMany", spec := "drawMany", unfollowed := true, recurses := true, apart := false, narrowed := true }
def DrawManyUptoSaid : Prop := drawManyUptoRow.holds Try.pinned (OpenSpec.upto drawManySpec)

/-- 'sakialaw05.DrawKeeps', WHERE WHAT IT READS IS OF BULK AT MOST 1048576: true; the input reads as it did. -/
def drawKeepsUptoRow : OpenClaim := { program := "ytncjfijpaheobaa", sum := "03b754754408ee5adcd4a89bd37ab750b96d60daccb442c75e53a3098d1ad5db", func := "sakia/sakialaw05.DrawKeeps", spec := "drawKeeps", unfollowed := true, recurses := true, apart := false, narrowed := true }
def DrawKeepsUptoSaid : Prop := drawKeepsUptoRow.holds Try.pinned (OpenSpec.upto drawKeepsSpec)

/-- 'sakialaw06.PermComposes', WHERE WHAT IT READS IS OF BULK AT MOST 1048576: true; the input reads as it did. -/
def permComposesUptoRow : OpenClaim := { program := "ytncjfijpaheobaa", sum := "03b754754408ee5adcd4a89bd37ab750b96d60daccb442c75e53a3098d1ad5db", func := "sakia/sakialaw06.PermComposes", spec := "permComposes", unfollowed := true, recurses := true, apart := false, narrowed := true }
def PermComposesUptoSaid : Prop := permComposesUptoRow.holds Try.pinned (OpenSpec.upto permComposesSpec)

/-- 'sakialaw06.PermCycles', WHERE WHAT IT READS IS OF BULK AT MOST 1048576: true; the input reads as it did. -/
def permCyclesUptoRow : OpenClaim := { program := "ytncjfijpaheobaa", sum := "03b754754408ee5adcd4a89bd37ab750b96d60daccb442c75e53a3098d1ad5db", func := "sakia/sakialaw06.PermCycles", spec := "permCycles", unfollowed := true, recurses := true, apart := false, narrowed := true }
def PermCyclesUptoSaid : Prop := permCyclesUptoRow.holds Try.pinned (OpenSpec.upto permCyclesSpec)

/-- 'sakialaw06.PermInverses', WHERE WHAT IT READS IS OF BULK AT MOST 1048576: true; the input reads as it did. -/
def permInversesUptoRow : OpenClaim := { program := "ytncjfijpaheobaa", sum := "03b754754408ee5adcd4a89bd37ab750b96d60daccb442c75e53a3098d1ad5db", func := "sakia/sakialaw06.PermInverses", spec := "permInverses", unfollowed := true, recurses := true, apart := false, narrowed := true }
def PermInversesUptoSaid : Prop := permInversesUptoRow.holds Try.pinned (OpenSpec.upto permInversesSpec)

/-- 'sakialaw06.PermDraws', WHERE WHAT IT READS IS OF BULK AT MOST 1048576: true; the input reads as it did. -/
def permDrawsUptoRow : OpenClaim := { program := "ytncjfijpaheobaa", sum := "03b754754408ee5adcd4a89bd37ab750b96d60daccb442c75e53a3098d1ad5db", func := "sakia/sakialaw06.PermDraws", spec := "permDraws", unfollowed := true, recurses := true, apart := false, narrowed := true }
def PermDrawsUptoSaid : Prop := permDrawsUptoRow.holds Try.pinned (OpenSpec.upto permDrawsSpec)

/-- 'sakialaw12.SamplerMakes', WHERE WHAT IT READS IS OF BULK AT MOST 1048576: true; the input reads as it did. -/
def samplerMakesUptoRow : OpenClaim := { program := "ytncjfijpaheobaa", sum := "03b754754408ee5adcd4a89bd37ab750b96d60daccb442c75e53a3098d1ad5db", func := "sakia/sakialaw12.SamplerMakes", spec := "samplerMakes", unfollowed := true, recurses := true, apart := false, narrowed := true }
def SamplerMakesUptoSaid : Prop := samplerMakesUptoRow.holds Try.pinned (OpenSpec.upto samplerMakesSpec)

/-- 'sakialaw12.SamplerShards', WHERE WHAT IT READS IS OF BULK AT MOST 1048576: true; the input reads as it did. -/
def samplerShardsUptoRow : OpenClaim := { program := "ytncjfijpaheobaa", sum := "03b754754408ee5adcd4a89bd37ab750b96d60daccb442c75e53a3098d1ad5db", func := "sakia/sakialaw12.SamplerShards", spec := "samplerShards", unfollowed := true, recurses := true, apart := false, narrowed := true }
def SamplerShardsUptoSaid : Prop := samplerShardsUptoRow.holds Try.pinned (OpenSpec.upto samplerShardsSpec)

/-- 'sakialaw12.SamplerMicros', WHERE WHAT IT READS IS OF BULK AT MOST 1048576: true; the input reads as it did. -/
def samplerMicrosUptoRow : OpenClaim := { program := "ytncjfijpaheobaa", sum := "03b754754408ee5adcd4a89bd37ab750b96d60daccb442c75e53a3098d1ad5db", func := "sakia/sakialaw12.SamplerMicros", spec := "samplerMicros", unfollowed := true, recurses := true, apart := false, narrowed := true }
def SamplerMicrosUptoSaid : Prop := samplerMicrosUptoRow.holds Try.pinned (OpenSpec.upto samplerMicrosSpec)

end Rows
end Go.Proofs.Ytncjfijpaheobaa
