/-
  NARROWER THAN 'FOR EVERY INPUT', by the rows' own cells (each row's printed sentence says how): TopRejects: calm.
  DERIVED. THE GIVEN ROWS OF THIS SEAT. 4 by the template 'for every input the law returns true; each argument reads behind the call as it read before'; 0 by the template 'total and deterministic' (their statements: YtkmaeipoaoikpaaGreatTotals.lean).
  GIVEN WITH THE SEED: the statements are not yours to turn. If you find one false, say at which input.
  Laid BY PROGRAM, IN A SANDBOX (cutbox-rows.mjs): the forced cells as the released guide's own fill.sh prints them over the translation 9504703728c5bb17… (all of the seat's roots in one cut). By AI agents, Wed Nov 11 2026. No macro, syntax, notation, axiom, sorry.
-/
import Derived.Test.YtkmaeipoaoikpaaGreatChecked
import GoSem.Claim
import GoSem.ClaimJoined
import GoSem.ClaimMapViews
import Derived.JoinedTies
import Derived.KernelRfl
namespace Go.Proofs.YtkmaeipoaoikpaaGreat
/- THE CELL 'sum', in the pinned program and in every row, IS THE sha256 OF THE DUMP (.gsa) THAT YtkmaeipoaoikpaaGreatProg.lean LOADS. Nothing in Lean hashes anything: it is a label: what it is worth is what the hold of that sum in a sandbox is worth. -/
noncomputable def Tryz.pinned : Pinned := { name := "ytkmaeipoaoikpaagreat", sum := "9504703728c5bb175b334aa4f50b67fb0c4d9e2c727c957aa0ca1f6de640628b", checked := Tryz.checked }
namespace Rows
def none {H : Type} : Left H := { results := [], args := [] }

/-- 'sakiatop.TopRejects': WHATEVER THE INPUT: true; the input reads as it did. -/
def topRejectsSpec : ChangeSpec := { name := "topRejects", fn := fun _ => fun
  | [d] => { results := [.lit (.bool true)], args := [d] }
  | _ => none }
def topRejectsRow : OpenClaim := { program := "ytkmaeipoaoikpaagreat", sum := "9504703728c5bb175b334aa4f50b67fb0c4d9e2c727c957aa0ca1f6de640628b", func := "sakia/sakiatop.TopRejects", spec := "topRejects", inPlace := ["(*sync.WaitGroup).Add", "internal/race.ReleaseMerge", "internal/race.Disable", "internal/race.Enable", "internal/synctest.IsInBubble", "internal/synctest.Associate[sync.WaitGroup]", "sync.fatal", "sync/atomic.OrUint64", "sync/atomic.AddUint64", "internal/race.Read", "sync/atomic.LoadUint64", "sync/atomic.StoreUint64", "internal/synctest.Disassociate[sync.WaitGroup]", "sync.runtime_Semrelease", "(*sync.WaitGroup).Done", "(*internal/sync.Mutex).Lock", "sync/atomic.CompareAndSwapInt32", "internal/race.Acquire", "(*internal/sync.Mutex).lockSlow", "internal/sync.runtime_canSpin", "internal/sync.runtime_doSpin", "internal/sync.throw", "internal/sync.runtime_nanotime", "internal/sync.runtime_SemacquireMutex", "sync/atomic.AddInt32", "(*internal/sync.Mutex).Unlock", "(*internal/sync.Mutex).unlockSlow", "internal/sync.fatal", "internal/sync.runtime_Semrelease", "(*sync.WaitGroup).Wait", "internal/synctest.IsAssociated[sync.WaitGroup]", "sync/atomic.CompareAndSwapUint64", "internal/race.Write", "sync.runtime_SemacquireWaitGroup"], unfollowed := true, recurses := true, leaving := true, apart := false, calm := true, outside := [.timePasses] }
def TopRejectsSaid : Prop := topRejectsRow.holds Tryz.pinned (OpenSpec.ofChange topRejectsSpec)

/-- ITS FALSE NEIGHBOUR: 'it returns false'. Refute it at one input. -/
def topRejectsWrong : ChangeSpec := { name := "topRejects", fn := fun _ => fun
  | [d] => { results := [.lit (.bool false)], args := [d] }
  | _ => none }
def TopRejectsWrongFalsely : Prop := topRejectsRow.holds Tryz.pinned (OpenSpec.ofChange topRejectsWrong)

/-- 'sakiatop.TopDivides': WHATEVER THE INPUT: true; the input reads as it did. -/
def topDividesSpec : ChangeSpec := { name := "topDivides", fn := fun _ => fun
  | [d1, d2] => { results := [.lit (.bool true)], args := [d1, d2] }
  | _ => none }
def topDividesRow : OpenClaim := { program := "ytkmaeipoaoikpaagreat", sum := "9504703728c5bb175b334aa4f50b67fb0c4d9e2c727c957aa0ca1f6de640628b", func := "sakia/sakiatop.TopDivides", spec := "topDivides", unfollowed := true, recurses := true, leaving := true, apart := false }
def TopDividesSaid : Prop := topDividesRow.holds Tryz.pinned (OpenSpec.ofChange topDividesSpec)

/-- ITS FALSE NEIGHBOUR: 'it returns false'. Refute it at one input. -/
def topDividesWrong : ChangeSpec := { name := "topDivides", fn := fun _ => fun
  | [d1, d2] => { results := [.lit (.bool false)], args := [d1, d2] }
  | _ => none }
def TopDividesWrongFalsely : Prop := topDividesRow.holds Tryz.pinned (OpenSpec.ofChange topDividesWrong)

/-- 'sakiatop.TopShards': WHATEVER THE INPUT: true; the input reads as it did. -/
def topShardsSpec : ChangeSpec := { name := "topShards", fn := fun _ => fun
  | [d1, d2] => { results := [.lit (.bool true)], args := [d1, d2] }
  | _ => none }
def topShardsRow : OpenClaim := { program := "ytkmaeipoaoikpaagreat", sum := "9504703728c5bb175b334aa4f50b67fb0c4d9e2c727c957aa0ca1f6de640628b", func := "sakia/sakiatop.TopShards", spec := "topShards", unfollowed := true, recurses := true, leaving := true, apart := false }
def TopShardsSaid : Prop := topShardsRow.holds Tryz.pinned (OpenSpec.ofChange topShardsSpec)

/-- ITS FALSE NEIGHBOUR: 'it returns false'. Refute it at one input. -/
def topShardsWrong : ChangeSpec := { name := "topShards", fn := fun _ => fun
  | [d1, d2] => { results := [.lit (.bool false)], args := [d1, d2] }
  | _ => none }
def TopShardsWrongFalsely : Prop := topShardsRow.holds Tryz.pinned (OpenSpec.ofChange topShardsWrong)

/-- 'sakiatop.TopEpochs': WHATEVER THE INPUT: true; the input reads as it did. -/
def topEpochsSpec : ChangeSpec := { name := "topEpochs", fn := fun _ => fun
  | [d1, d2] => { results := [.lit (.bool true)], args := [d1, d2] }
  | _ => none }
def topEpochsRow : OpenClaim := { program := "ytkmaeipoaoikpaagreat", sum := "9504703728c5bb175b334aa4f50b67fb0c4d9e2c727c957aa0ca1f6de640628b", func := "sakia/sakiatop.TopEpochs", spec := "topEpochs", unfollowed := true, recurses := true, leaving := true, apart := false }
def TopEpochsSaid : Prop := topEpochsRow.holds Tryz.pinned (OpenSpec.ofChange topEpochsSpec)

/-- ITS FALSE NEIGHBOUR: 'it returns false'. Refute it at one input. -/
def topEpochsWrong : ChangeSpec := { name := "topEpochs", fn := fun _ => fun
  | [d1, d2] => { results := [.lit (.bool false)], args := [d1, d2] }
  | _ => none }
def TopEpochsWrongFalsely : Prop := topEpochsRow.holds Tryz.pinned (OpenSpec.ofChange topEpochsWrong)

/- THE SECOND FORM. 'bulk': how many values and letters a reading holds, each counted each time it is reached (what is shared counts as often as it is met; a slice's spare places count too). A statement '..UptoSaid' is the law's where the arguments, and the package variables that the reading takes, are together of bulk at most 1048576: NARROWER than '..Said'. Prove '..Said' where nothing that the law and all that it calls make is longer than what came in: it says more and counts as full. Else prove '..UptoSaid'. A law counts once. -/
mutual
def uptoBulk {H : Type} : DataW H → Nat
  | .lit (.string bytes) => bytes.length + 1
  | .lit _ => 1
  | .nil => 1
  | .ptr d => uptoBulk d + 1
  | .slice elems spare => uptoBulkAll elems + uptoBulkAll spare + 1
  | .agg parts => uptoBulkAll parts + 1
  | .iface _ d => uptoBulk d + 1
  | .map entries => uptoBulkEntries entries + 1
  | .held _ => 1
def uptoBulkAll {H : Type} : List (DataW H) → Nat
  | [] => 0
  | d :: r => uptoBulk d + uptoBulkAll r
def uptoBulkEntries {H : Type} : List (Lit × DataW H) → Nat
  | [] => 0
  | x :: r => uptoBulkEntry x + uptoBulkEntries r
def uptoBulkEntry {H : Type} : Lit × DataW H → Nat
  | (.string bytes, d) => bytes.length + uptoBulk d + 1
  | (_, d) => uptoBulk d + 1
 end
def uptoSmall : (H : Type) → List (DataW H) → Bool := fun _ ds => decide (uptoBulkAll ds ≤ 1048576)
def OpenSpec.upto (s : _root_.Go.ChangeSpec) : _root_.Go.OpenSpec := { _root_.Go.OpenSpec.ofChange s with cond := some uptoSmall }

/-- 'sakiatop.TopRejects', WHERE WHAT IT READS IS OF BULK AT MOST 1048576: true; the input reads as it did. -/
def topRejectsUptoRow : OpenClaim := { program := "ytkmaeipoaoikpaagreat", sum := "9504703728c5bb175b334aa4f50b67fb0c4d9e2c727c957aa0ca1f6de640628b", func := "sakia/sakiatop.TopRejects", spec := "topRejects", inPlace := ["(*sync.WaitGroup).Add", "internal/race.ReleaseMerge", "internal/race.Disable", "internal/race.Enable", "internal/synctest.IsInBubble", "internal/synctest.Associate[sync.WaitGroup]", "sync.fatal", "sync/atomic.OrUint64", "sync/atomic.AddUint64", "internal/race.Read", "sync/atomic.LoadUint64", "sync/atomic.StoreUint64", "internal/synctest.Disassociate[sync.WaitGroup]", "sync.runtime_Semrelease", "(*sync.WaitGroup).Done", "(*internal/sync.Mutex).Lock", "sync/atomic.CompareAndSwapInt32", "internal/race.Acquire", "(*internal/sync.Mutex).lockSlow", "internal/sync.runtime_canSpin", "internal/sync.runtime_doSpin", "internal/sync.throw", "internal/sync.runtime_nanotime", "internal/sync.runtime_SemacquireMutex", "sync/atomic.AddInt32", "(*internal/sync.Mutex).Unlock", "(*internal/sync.Mutex).unlockSlow", "internal/sync.fatal", "internal/sync.runtime_Semrelease", "(*sync.WaitGroup).Wait", "internal/synctest.IsAssociated[sync.WaitGroup]", "sync/atomic.CompareAndSwapUint64", "internal/race.Write", "sync.runtime_SemacquireWaitGroup"], unfollowed := true, recurses := true, leaving := true, apart := false, calm := true, outside := [.timePasses], narrowed := true }
def TopRejectsUptoSaid : Prop := topRejectsUptoRow.holds Tryz.pinned (OpenSpec.upto topRejectsSpec)

/-- 'sakiatop.TopDivides', WHERE WHAT IT READS IS OF BULK AT MOST 1048576: true; the input reads as it did. -/
def topDividesUptoRow : OpenClaim := { program := "ytkmaeipoaoikpaagreat", sum := "9504703728c5bb175b334aa4f50b67fb0c4d9e2c727c957aa0ca1f6de640628b", func := "sakia/sakiatop.TopDivides", spec := "topDivides", unfollowed := true, recurses := true, leaving := true, apart := false, narrowed := true }
def TopDividesUptoSaid : Prop := topDividesUptoRow.holds Tryz.pinned (OpenSpec.upto topDividesSpec)

/-- 'sakiatop.TopShards', WHERE WHAT IT READS IS OF BULK AT MOST 1048576: true; the input reads as it did. -/
def topShardsUptoRow : OpenClaim := { program := "ytkmaeipoaoikpaagreat", sum := "9504703728c5bb175b334aa4f50b67fb0c4d9e2c727c957aa0ca1f6de640628b", func := "sakia/sakiatop.TopShards", spec := "topShards", unfollowed := true, recurses := true, leaving := true, apart := false, narrowed := true }
def TopShardsUptoSaid : Prop := topShardsUptoRow.holds Tryz.pinned (OpenSpec.upto topShardsSpec)

/-- 'sakiatop.TopEpochs', WHERE WHAT IT READS IS OF BULK AT MOST 1048576: true; the input reads as it did. -/
def topEpochsUptoRow : OpenClaim := { program := "ytkmaeipoaoikpaagreat", sum := "9504703728c5bb175b334aa4f50b67fb0c4d9e2c727c957aa0ca1f6de640628b", func := "sakia/sakiatop.TopEpochs", spec := "topEpochs", unfollowed := true, recurses := true, leaving := true, apart := false, narrowed := true }
def TopEpochsUptoSaid : Prop := topEpochsUptoRow.holds Tryz.pinned (OpenSpec.upto topEpochsSpec)

end Rows
end Go.Proofs.YtkmaeipoaoikpaaGreat
