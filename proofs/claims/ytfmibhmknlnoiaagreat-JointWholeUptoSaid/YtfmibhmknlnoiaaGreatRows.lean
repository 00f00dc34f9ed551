/-
  No cell of these rows narrows 'for every input' (looked for: loops, veiled, ifaces, maps, wideKeys, modest, calm, conditions, laid).
  DERIVED. THE GIVEN ROWS OF THIS SEAT. 3 by the template 'for every input the law returns true; each argument reads behind the call as it read before'; 0 by the template 'total and deterministic' (their statements: YtfmibhmknlnoiaaGreatTotals.lean).
  GIVEN WITH THE SEED: the statements are not yours to turn. If you find one false, say at which input.
  Laid BY PROGRAM, IN A SANDBOX (cutbox-rows.mjs): the forced cells as the released guide's own fill.sh prints them over the translation c3c6f305f8ca3b6f… (all of the seat's roots in one cut). By AI agents, Wed Nov 11 2026. No macro, syntax, notation, axiom, sorry.
-/
import Derived.Test.YtfmibhmknlnoiaaGreatChecked
import GoSem.Claim
import GoSem.ClaimJoined
import GoSem.ClaimMapViews
import Derived.JoinedTies
import Derived.KernelRfl
namespace Go.Proofs.YtfmibhmknlnoiaaGreat
/- THE CELL 'sum', in the pinned program and in every row, IS THE sha256 OF THE DUMP (.gsa) THAT YtfmibhmknlnoiaaGreatProg.lean LOADS. Nothing in Lean hashes anything: it is a label: what it is worth is what the hold of that sum in a sandbox is worth. -/
noncomputable def Tryz.pinned : Pinned := { name := "ytfmibhmknlnoiaagreat", sum := "c3c6f305f8ca3b6f57849937d012ebe214018abafb7a2c4b68def3745d92fb53", checked := Tryz.checked }
namespace Rows
def none {H : Type} : Left H := { results := [], args := [] }

/-- 'skeinlaw26.JointPlays': WHATEVER THE INPUT: true; the input reads as it did. -/
def jointPlaysSpec : ChangeSpec := { name := "jointPlays", fn := fun _ => fun
  | [d1, d2] => { results := [.lit (.bool true)], args := [d1, d2] }
  | _ => none }
def jointPlaysRow : OpenClaim := { program := "ytfmibhmknlnoiaagreat", sum := "c3c6f305f8ca3b6f57849937d012ebe214018abafb7a2c4b68def3745d92fb53", func := "skein/skeinlaw26.JointPlays", spec := "jointPlays", inPlace := ["sync/atomic.StoreInt64", "sync/atomic.LoadInt64", "sync/atomic.LoadPointer", "sync/atomic.LoadInt32", "sync/atomic.CompareAndSwapInt64", "sync/atomic.CompareAndSwapInt32", "sync/atomic.StorePointer", "(*sync.WaitGroup).Add", "internal/race.ReleaseMerge", "internal/race.Disable", "internal/race.Enable", "internal/synctest.IsInBubble", "internal/synctest.Associate[sync.WaitGroup]", "sync.fatal", "sync/atomic.OrUint64", "sync/atomic.AddUint64", "internal/race.Read", "sync/atomic.LoadUint64", "sync/atomic.StoreUint64", "internal/synctest.Disassociate[sync.WaitGroup]", "sync.runtime_Semrelease", "(*sync.WaitGroup).Done", "(*sync.WaitGroup).Wait", "internal/race.Acquire", "internal/synctest.IsAssociated[sync.WaitGroup]", "sync/atomic.CompareAndSwapUint64", "internal/race.Write", "sync.runtime_SemacquireWaitGroup"], unfollowed := true, recurses := true, leaving := true, apart := false }
def JointPlaysSaid : Prop := jointPlaysRow.holds Tryz.pinned (OpenSpec.ofChange jointPlaysSpec)

/-- ITS FALSE NEIGHBOUR: 'it returns false'. Refute it at one input. -/
def jointPlaysWrong : ChangeSpec := { name := "jointPlays", fn := fun _ => fun
  | [d1, d2] => { results := [.lit (.bool false)], args := [d1, d2] }
  | _ => none }
def JointPlaysWrongFalsely : Prop := jointPlaysRow.holds Tryz.pinned (OpenSpec.ofChange jointPlaysWrong)

/-- 'skeinlaw26.JointSums': WHATEVER THE INPUT: true; the input reads as it did. -/
def jointSumsSpec : ChangeSpec := { name := "jointSums", fn := fun _ => fun
  | [d1, d2] => { results := [.lit (.bool true)], args := [d1, d2] }
  | _ => none }
def jointSumsRow : OpenClaim := { program := "ytfmibhmknlnoiaagreat", sum := "c3c6f305f8ca3b6f57849937d012ebe214018abafb7a2c4b68def3745d92fb53", func := "skein/skeinlaw26.JointSums", spec := "jointSums", inPlace := ["sync/atomic.StoreInt64", "sync/atomic.LoadInt64", "sync/atomic.LoadPointer", "sync/atomic.LoadInt32", "sync/atomic.CompareAndSwapInt64", "sync/atomic.CompareAndSwapInt32", "sync/atomic.StorePointer", "(*sync.WaitGroup).Add", "internal/race.ReleaseMerge", "internal/race.Disable", "internal/race.Enable", "internal/synctest.IsInBubble", "internal/synctest.Associate[sync.WaitGroup]", "sync.fatal", "sync/atomic.OrUint64", "sync/atomic.AddUint64", "internal/race.Read", "sync/atomic.LoadUint64", "sync/atomic.StoreUint64", "internal/synctest.Disassociate[sync.WaitGroup]", "sync.runtime_Semrelease", "(*sync.WaitGroup).Done", "(*sync.WaitGroup).Wait", "internal/race.Acquire", "internal/synctest.IsAssociated[sync.WaitGroup]", "sync/atomic.CompareAndSwapUint64", "internal/race.Write", "sync.runtime_SemacquireWaitGroup"], unfollowed := true, recurses := true, leaving := true, apart := false }
def JointSumsSaid : Prop := jointSumsRow.holds Tryz.pinned (OpenSpec.ofChange jointSumsSpec)

/-- ITS FALSE NEIGHBOUR: 'it returns false'. Refute it at one input. -/
def jointSumsWrong : ChangeSpec := { name := "jointSums", fn := fun _ => fun
  | [d1, d2] => { results := [.lit (.bool false)], args := [d1, d2] }
  | _ => none }
def JointSumsWrongFalsely : Prop := jointSumsRow.holds Tryz.pinned (OpenSpec.ofChange jointSumsWrong)

/-- 'skeinlaw26.JointWhole': WHATEVER THE INPUT: true; the input reads as it did. -/
def jointWholeSpec : ChangeSpec := { name := "jointWhole", fn := fun _ => fun
  | [d1, d2, d3] => { results := [.lit (.bool true)], args := [d1, d2, d3] }
  | _ => none }
def jointWholeRow : OpenClaim := { program := "ytfmibhmknlnoiaagreat", sum := "c3c6f305f8ca3b6f57849937d012ebe214018abafb7a2c4b68def3745d92fb53", func := "skein/skeinlaw26.JointWhole", spec := "jointWhole", inPlace := ["sync/atomic.StoreInt64", "sync/atomic.LoadInt64", "sync/atomic.LoadPointer", "sync/atomic.LoadInt32", "sync/atomic.CompareAndSwapInt64", "sync/atomic.CompareAndSwapInt32", "sync/atomic.StorePointer", "(*sync.WaitGroup).Add", "internal/race.ReleaseMerge", "internal/race.Disable", "internal/race.Enable", "internal/synctest.IsInBubble", "internal/synctest.Associate[sync.WaitGroup]", "sync.fatal", "sync/atomic.OrUint64", "sync/atomic.AddUint64", "internal/race.Read", "sync/atomic.LoadUint64", "sync/atomic.StoreUint64", "internal/synctest.Disassociate[sync.WaitGroup]", "sync.runtime_Semrelease", "(*sync.WaitGroup).Done", "(*sync.WaitGroup).Wait", "internal/race.Acquire", "internal/synctest.IsAssociated[sync.WaitGroup]", "sync/atomic.CompareAndSwapUint64", "internal/race.Write", "sync.runtime_SemacquireWaitGroup"], unfollowed := true, recurses := true, leaving := true, apart := false }
def JointWholeSaid : Prop := jointWholeRow.holds Tryz.pinned (OpenSpec.ofChange jointWholeSpec)

/-- ITS FALSE NEIGHBOUR: 'it returns false'. Refute it at one input. -/
def jointWholeWrong : ChangeSpec := { name := "jointWhole", fn := fun _ => fun
  | [d1, d2, d3] => { results := [.lit (.bool false)], args := [d1, d2, d3] }
  | _ => none }
def JointWholeWrongFalsely : Prop := jointWholeRow.holds Tryz.pinned (OpenSpec.ofChange jointWholeWrong)

/- THE SECOND FORM. 'bulk': how many values and letters a reading holds, each counted each time it is reached (what is shared counts as often as it is met; a slice's spare places count too). A statement '..UptoSaid' is the law's where the arguments, and the package variables that the reading takes, are together of bulk at most 1048576: NARROWER than '..Said'. Prove '..Said' where nothing that the law and all that it calls make is longer than what came in: it says more and counts as full. Else prove '..UptoSaid'. A law counts once. -/
mutual
def uptoBulk {H : Type} : DataW H → Nat
  | .lit (.string bytes) => bytes.length + 1
  | .lit _ => 1
  | .nil => 1
  | .ptr d => uptoBulk d + 1
  | .slice elems spare => uptoBulkAll elems + uptoBulkAll spare + 1
  | .agg parts => uptoBulkAll parts + 1
  | .iface _ d => uptoBulk d + 1
  | .map entries => uptoBulkEntries entries + 1
  | .held _ => 1
def uptoBulkAll {H : Type} : List (DataW H) → Nat
  | [] => 0
  | d :: r => uptoBulk d + uptoBulkAll r
def uptoBulkEntries {H : Type} : List (Lit × DataW H) → Nat
  | [] => 0
  | x :: r => uptoBulkEntry x + uptoBulkEntries r
def uptoBulkEntry {H : Type} : Lit × DataW H → Nat
  | (.string bytes, d) => bytes.length + uptoBulk d + 1
  | (_, d) => uptoBulk d + 1
 end
def uptoSmall : (H : Type) → List (DataW H) → Bool := fun _ ds => decide (uptoBulkAll ds ≤ 1048576)
def OpenSpec.upto (s : _root_.Go.ChangeSpec) : _root_.Go.OpenSpec := { _root_.Go.OpenSpec.ofChange s with cond := some uptoSmall }

/-- 'skeinlaw26.JointPlays', WHERE WHAT IT READS IS OF BULK AT MOST 1048576: true; the input reads as it did. -/
def jointPlaysUptoRow : OpenClaim := { program := "ytfmibhmknlnoiaagreat", sum := "c3c6f305f8ca3b6f57849937d012ebe214018abafb7a2c4b68def3745d92fb53", func := "skein/skeinlaw26.JointPlays", spec := "jointPlays", inPlace := ["sync/atomic.StoreInt64", "sync/atomic.LoadInt64", "sync/atomic.LoadPointer", "sync/atomic.LoadInt32", "sync/atomic.CompareAndSwapInt64", "sync/atomic.CompareAndSwapInt32", "sync/atomic.StorePointer", "(*sync.WaitGroup).Add", "internal/race.ReleaseMerge", "internal/race.Disable", "internal/race.Enable", "internal/synctest.IsInBubble", "internal/synctest.Associate[sync.WaitGroup]", "sync.fatal", "sync/atomic.OrUint64", "sync/atomic.AddUint64", "internal/race.Read", "sync/atomic.LoadUint64", "sync/atomic.StoreUint64", "internal/synctest.Disassociate[sync.WaitGroup]", "sync.runtime_Semrelease", "(*sync.WaitGroup).Done", "(*sync.WaitGroup).Wait", "internal/race.Acquire", "internal/synctest.IsAssociated[sync.WaitGroup]", "sync/atomic.CompareAndSwapUint64", "internal/race.Write", "sync.runtime_SemacquireWaitGroup"], unfollowed := true, recurses := true, leaving := true, apart := false, narrowed := true }
def JointPlaysUptoSaid : Prop := jointPlaysUptoRow.holds Tryz.pinned (OpenSpec.upto jointPlaysSpec)

/-- 'skeinlaw26.JointSums', WHERE WHAT IT READS IS OF BULK AT MOST 1048576: true; the input reads as it did. -/
def jointSumsUptoRow : OpenClaim := { program := "ytfmibhmknlnoiaagreat", sum := "c3c6f305f8ca3b6f57849937d012ebe214018abafb7a2c4b68def3745d92fb53", func := "skein/skeinlaw26.JointSums", spec := "jointSums", inPlace := ["sync/atomic.StoreInt64", "sync/atomic.LoadInt64", "sync/atomic.LoadPointer", "sync/atomic.LoadInt32", "sync/atomic.CompareAndSwapInt64", "sync/atomic.CompareAndSwapInt32", "sync/atomic.StorePointer", "(*sync.WaitGroup).Add", "internal/race.ReleaseMerge", "internal/race.Disable", "internal/race.Enable", "internal/synctest.IsInBubble", "internal/synctest.Associate[sync.WaitGroup]", "sync.fatal", "sync/atomic.OrUint64", "sync/atomic.AddUint64", "internal/race.Read", "sync/atomic.LoadUint64", "sync/atomic.StoreUint64", "internal/synctest.Disassociate[sync.WaitGroup]", "sync.runtime_Semrelease", "(*sync.WaitGroup).Done", "(*sync.WaitGroup).Wait", "internal/race.Acquire", "internal/synctest.IsAssociated[sync.WaitGroup]", "sync/atomic.CompareAndSwapUint64", "internal/race.Write", "sync.runtime_SemacquireWaitGroup"], unfollowed := true, recurses := true, leaving := true, apart := false, narrowed := true }
def JointSumsUptoSaid : Prop := jointSumsUptoRow.holds Tryz.pinned (OpenSpec.upto jointSumsSpec)

/-- 'skeinlaw26.JointWhole', WHERE WHAT IT READS IS OF BULK AT MOST 1048576: true; the input reads as it did. -/
def jointWholeUptoRow : OpenClaim := { program := "ytfmibhmknlnoiaagreat", sum := "c3c6f305f8ca3b6f57849937d012ebe214018abafb7a2c4b68def3745d92fb53", func := "skein/skeinlaw26.JointWhole", spec := "jointWhole", inPlace := ["sync/atomic.StoreInt64", "sync/atomic.LoadInt64", "sync/atomic.LoadPointer", "sync/atomic.LoadInt32", "sync/atomic.CompareAndSwapInt64", "sync/atomic.CompareAndSwapInt32", "sync/atomic.StorePointer", "(*sync.WaitGroup).Add", "internal/race.ReleaseMerge", "internal/race.Disable", "internal/race.Enable", "internal/synctest.IsInBubble", "internal/synctest.Associate[sync.WaitGroup]", "sync.fatal", "sync/atomic.OrUint64", "sync/atomic.AddUint64", "internal/race.Read", "sync/atomic.LoadUint64", "sync/atomic.StoreUint64", "internal/synctest.Disassociate[sync.WaitGroup]", "sync.runtime_Semrelease", "(*sync.WaitGroup).Done", "(*sync.WaitGroup).Wait", "internal/race.Acquire", "internal/synctest.IsAssociated[sync.WaitGroup]", "sync/atomic.CompareAndSwapUint64", "internal/race.Write", "sync.runtime_SemacquireWaitGroup"], unfollowed := true, recurses := true, leaving := true, apart := false, narrowed := true }
def JointWholeUptoSaid : Prop := jointWholeUptoRow.holds Tryz.pinned (OpenSpec.upto jointWholeSpec)

end Rows
end Go.Proofs.YtfmibhmknlnoiaaGreat
