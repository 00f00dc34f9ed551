/-
  No cell of these rows narrows 'for every input' (looked for: loops, veiled, ifaces, maps, wideKeys, modest, calm, conditions, laid).
  DERIVED. THE GIVEN ROWS OF THIS SEAT. 2 by the template 'for every input the law returns true; each argument reads behind the call as it read before'; 0 by the template 'total and deterministic' (their statements: YtadelkancmbanaaTotals.lean).
  GIVEN WITH THE SEED: the statements are not yours to turn. If you find one false, say at which input.
  Laid BY PROGRAM, IN A SANDBOX (cutbox-rows.mjs): the forced cells as the released guide's own fill.sh prints them over the translation f439514f1a4f5e35… (all of the seat's roots in one cut). By AI agents, Wed Nov 11 2026. No macro, syntax, notation, axiom, sorry.
-/
import Derived.Test.YtadelkancmbanaaChecked
import GoSem.Claim
import GoSem.ClaimJoined
import GoSem.ClaimMapViews
import Derived.JoinedTies
import Derived.KernelRfl
namespace Go.Proofs.Ytadelkancmbanaa
/- THE CELL 'sum', in the pinned program and in every row, IS THE sha256 OF THE DUMP (.gsa) THAT YtadelkancmbanaaProg.lean LOADS. Nothing in Lean hashes anything: it is a label: what it is worth is what the hold of that sum in a sandbox is worth. -/
noncomputable def Try.pinned : Pinned := { name := "ytadelkancmbanaa", sum := "f439514f1a4f5e35f75acde6f237484ca6336add7d9f0f66b79cac4bdb6911c3", checked := Try.checked }
namespace Rows
def none {H : Type} : Left H := { results := [], args := [] }

/-- 'skeinlaw26.JointAlone': WHATEVER THE INPUT: true; the input reads as it did. -/
def jointAloneSpec : ChangeSpec := { name := "jointAlone", fn := fun _ => fun
  | [d1, d2] => { results := [.lit (.bool true)], args := [d1, d2] }
  | _ => none }
def jointAloneRow : OpenClaim := { program := "ytadelkancmbanaa", sum := "f439514f1a4f5e35f75acde6f237484ca6336add7d9f0f66b79cac4bdb6911c3", func := "skein/skeinlaw26.JointAlone", spec := "jointAlone", inPlace := ["sync/atomic.StoreInt64", "sync/atomic.LoadInt64", "sync/atomic.LoadPointer", "sync/atomic.LoadInt32", "sync/atomic.CompareAndSwapInt64", "sync/atomic.CompareAndSwapInt32", "sync/atomic.StorePointer"], unfollowed := true, recurses := true, apart := false }
def JointAloneSaid : Prop := jointAloneRow.holds Try.pinned (OpenSpec.ofChange jointAloneSpec)

/-- ITS FALSE NEIGHBOUR: 'it returns false'. Refute it at one input. -/
def jointAloneWrong : ChangeSpec := { name := "jointAlone", fn := fun _ => fun
  | [d1, d2] => { results := [.lit (.bool false)], args := [d1, d2] }
  | _ => none }
def JointAloneWrongFalsely : Prop := jointAloneRow.holds Try.pinned (OpenSpec.ofChange jointAloneWrong)

/-- 'skeinlaw26.JointLong': WHATEVER THE INPUT: true; the input reads as it did. -/
def jointLongSpec : ChangeSpec := { name := "jointLong", fn := fun _ => fun
  | [d1, d2, d3] => { results := [.lit (.bool true)], args := [d1, d2, d3] }
  | _ => none }
def jointLongRow : OpenClaim := { program := "ytadelkancmbanaa", sum := "f439514f1a4f5e35f75acde6f237484ca6336add7d9f0f66b79cac4bdb6911c3", func := "skein/skeinlaw26.JointLong", spec := "jointLong", inPlace := ["sync/atomic.StoreInt64", "sync/atomic.LoadInt64", "sync/atomic.LoadPointer", "sync/atomic.LoadInt32", "sync/atomic.CompareAndSwapInt64", "sync/atomic.CompareAndSwapInt32", "sync/atomic.StorePointer"], unfollowed := true, recurses := true, apart := false }
def JointLongSaid : Prop := jointLongRow.holds Try.pinned (OpenSpec.ofChange jointLongSpec)

/-- ITS FALSE NEIGHBOUR: 'it returns false'. Refute it at one input. -/
def jointLongWrong : ChangeSpec := { name := "jointLong", fn := fun _ => fun
  | [d1, d2, d3] => { results := [.lit (.bool false)], args := [d1, d2, d3] }
  | _ => none }
def JointLongWrongFalsely : Prop := jointLongRow.holds Try.pinned (OpenSpec.ofChange jointLongWrong)

/- THE SECOND FORM. 'bulk': how many values and letters a reading holds, each counted each time it is reached (what is shared counts as often as it is met; a slice's spare places count too). A statement '..UptoSaid' is the law's where the arguments, and the package variables that the reading takes, are together of bulk at most 1048576: NARROWER than '..Said'. Prove '..Said' where nothing that the law and all that it calls make is longer than what came in: it says more and counts as full. Else prove '..UptoSaid'. A law counts once. -/
mutual
def uptoBulk {H : Type} : DataW H → Nat
  | .lit (.string bytes) => bytes.length + 1
  | .lit _ => 1
  | .nil => 1
  | .ptr d => uptoBulk d + 1
  | .slice elems spare => uptoBulkAll elems + uptoBulkAll spare + 1
  | .agg parts => uptoBulkAll parts + 1
  | .iface _ d => uptoBulk d + 1
  | .map entries => uptoBulkEntries entries + 1
  | .held _ => 1
def uptoBulkAll {H : Type} : List (DataW H) → Nat
  | [] => 0
  | d :: r => uptoBulk d + uptoBulkAll r
def uptoBulkEntries {H : Type} : List (Lit × DataW H) → Nat
  | [] => 0
  | x :: r => uptoBulkEntry x + uptoBulkEntries r
def uptoBulkEntry {H : Type} : Lit × DataW H → Nat
  | (.string bytes, d) => bytes.length + uptoBulk d + 1
  | (_, d) => uptoBulk d + 1
 end
def uptoSmall : (H : Type) → List (DataW H) → Bool := fun _ ds => decide (uptoBulkAll ds ≤ 1048576)
def OpenSpec.upto (s : _root_.Go.ChangeSpec) : _root_.Go.OpenSpec := { _root_.Go.OpenSpec.ofChange s with cond := some uptoSmall }

/-- 'skeinlaw26.JointAlone', WHERE WHAT IT READS IS OF BULK AT MOST 1048576: true; the input reads as it did. -/
def jointAloneUptoRow : OpenClaim := { program := "ytadelkancmbanaa", sum := "f439514f1a4f5e35f75acde6f237484ca6336add7d9f0f66b79cac4bdb6911c3", func := "skein/skeinlaw26.JointAlone", spec := "jointAlone", inPlace := ["sync/atomic.StoreInt64", "sync/atomic.LoadInt64", "sync/atomic.LoadPointer", "sync/atomic.LoadInt32", "sync/atomic.CompareAndSwapInt64", "sync/atomic.CompareAndSwapInt32", "sync/atomic.StorePointer"], unfollowed := true, recurses := true, apart := false, narrowed := true }
def JointAloneUptoSaid : Prop := jointAloneUptoRow.holds Try.pinned (OpenSpec.upto jointAloneSpec)

/-- 'skeinlaw26.JointLong', WHERE WHAT IT READS IS OF BULK AT MOST 1048576: true; the input reads as it did. -/
def jointLongUptoRow : OpenClaim := { program := "ytadelkancmbanaa", sum := "f439514f1a4f5e35f75acde6f237484ca6336add7d9f0f66b79cac4bdb6911c3", func := "skein/skeinlaw26.JointLong", spec := "jointLong", inPlace := ["sync/atomic.StoreInt64", "sync/atomic.LoadInt64", "sync/atomic.LoadPointer", "sync/atomic.LoadInt32", "sync/atomic.CompareAndSwapInt64", "sync/atomic.CompareAndSwapInt32", "sync/atomic.StorePointer"], unfollowed := true, recurses := true, apart := false, narrowed := true }
def JointLongUptoSaid : Prop := jointLongUptoRow.holds Try.pinned (OpenSpec.upto jointLongSpec)

end Rows
end Go.Proofs.Ytadelkancmbanaa
