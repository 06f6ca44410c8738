/-
  No cell of these rows narrows 'for every input' (looked for: loops, veiled, ifaces, maps, wideKeys, modest, calm, conditions, laid).
  DERIVED. THE GIVEN ROWS OF THIS SEAT. 10 by the template 'for every input the law returns true; each argument reads behind the call as it read before'; 0 by the template 'total and deterministic' (their statements: YtdfdohajjgjbdaaTotals.lean).
  GIVEN WITH THE SEED: the statements are not yours to turn. If you find one false, say at which input.
  Laid BY PROGRAM, IN A SANDBOX (cutbox-rows.mjs): the forced cells as the released guide's own fill.sh prints them over the translation 55b12d3d7297695f… (all of the seat's roots in one cut). By AI agents, Wed Nov 11 2026. No macro, syntax, notation, axiom, sorry.
-/
import Derived.Test.YtdfdohajjgjbdaaChecked
import GoSem.Claim
import GoSem.ClaimJoined
import GoSem.ClaimMapViews
import Derived.JoinedTies
import Derived.KernelRfl
namespace Go.Proofs.Ytdfdohajjgjbdaa
/- THE CELL 'sum', in the pinned program and in every row, IS THE sha256 OF THE DUMP (.gsa) THAT YtdfdohajjgjbdaaProg.lean LOADS. Nothing in Lean hashes anything: it is a label: what it is worth is what the hold of that sum in a sandbox is worth. -/
noncomputable def Try.pinned : Pinned := { name := "ytdfdohajjgjbdaa", sum := "55b12d3d7297695f2cd520468b7be48c688b30011b71df8b4ec82181196748cf", checked := Try.checked }
namespace Rows
def none {H : Type} : Left H := { results := [], args := [] }

/-- 'columbarylaw11.BucketCuts': WHATEVER THE INPUT: true; the input reads as it did. -/
def bucketCutsSpec : ChangeSpec := { name := "bucketCuts", fn := fun _ => fun
  | [d1, d2, d3] => { results := [.lit (.bool true)], args := [d1, d2, d3] }
  | _ => none }
def bucketCutsRow : OpenClaim := { program := "ytdfdohajjgjbdaa", sum := "55b12d3d7297695f2cd520468b7be48c688b30011b71df8b4ec82181196748cf", func := "columbary/columbarylaw11.BucketCuts", spec := "bucketCuts", unfollowed := true, recurses := true, apart := false }
def BucketCutsSaid : Prop := bucketCutsRow.holds Try.pinned (OpenSpec.ofChange bucketCutsSpec)

/-- ITS FALSE NEIGHBOUR: 'it returns false'. Refute it at one input. -/
def bucketCutsWrong : ChangeSpec := { name := "bucketCuts", fn := fun _ => fun
  | [d1, d2, d3] => { results := [.lit (.bool false)], args := [d1, d2, d3] }
  | _ => none }
def BucketCutsWrongFalsely : Prop := bucketCutsRow.holds Try.pinned (OpenSpec.ofChange bucketCutsWrong)

/-- 'columbarylaw11.BucketShift': WHATEVER THE INPUT: true; the input reads as it did. -/
def bucketShiftSpec : ChangeSpec := { name := "bucketShift", fn := fun _ => fun
  | [d1, d2, d3] => { results := [.lit (.bool true)], args := [d1, d2, d3] }
  | _ => none }
def bucketShiftRow : OpenClaim := { program := "ytdfdohajjgjbdaa", sum := "55b12d3d7297695f2cd520468b7be48c688b30011b71df8b4ec82181196748cf", func := "columbary/columbarylaw11.BucketShift", spec := "bucketShift", unfollowed := true, recurses := true, apart := false }
def BucketShiftSaid : Prop := bucketShiftRow.holds Try.pinned (OpenSpec.ofChange bucketShiftSpec)

/-- ITS FALSE NEIGHBOUR: 'it returns false'. Refute it at one input. -/
def bucketShiftWrong : ChangeSpec := { name := "bucketShift", fn := fun _ => fun
  | [d1, d2, d3] => { results := [.lit (.bool false)], args := [d1, d2, d3] }
  | _ => none }
def BucketShiftWrongFalsely : Prop := bucketShiftRow.holds Try.pinned (OpenSpec.ofChange bucketShiftWrong)

/-- 'columbarylaw11.BucketTells': WHATEVER THE INPUT: true; the input reads as it did. -/
def bucketTellsSpec : ChangeSpec := { name := "bucketTells", fn := fun _ => fun
  | [d1, d2, d3] => { results := [.lit (.bool true)], args := [d1, d2, d3] }
  | _ => none }
def bucketTellsRow : OpenClaim := { program := "ytdfdohajjgjbdaa", sum := "55b12d3d7297695f2cd520468b7be48c688b30011b71df8b4ec82181196748cf", func := "columbary/columbarylaw11.BucketTells", spec := "bucketTells", unfollowed := true, recurses := true, apart := false }
def BucketTellsSaid : Prop := bucketTellsRow.holds Try.pinned (OpenSpec.ofChange bucketTellsSpec)

/-- ITS FALSE NEIGHBOUR: 'it returns false'. Refute it at one input. -/
def bucketTellsWrong : ChangeSpec := { name := "bucketTells", fn := fun _ => fun
  | [d1, d2, d3] => { results := [.lit (.bool false)], args := [d1, d2, d3] }
  | _ => none }
def BucketTellsWrongFalsely : Prop := bucketTellsRow.holds Try.pinned (OpenSpec.ofChange bucketTellsWrong)

/-- 'columbarylaw11.BucketWithin': WHATEVER THE INPUT: true; the input reads as it did. -/
def bucketWithinSpec : ChangeSpec := { name := "bucketWithin", fn := fun _ => fun
  | [d1, d2, d3] => { results := [.lit (.bool true)], args := [d1, d2, d3] }
  | _ => none }
def bucketWithinRow : OpenClaim := { program := "ytdfdohajjgjbdaa", sum := "55b12d3d7297695f2cd520468b7be48c688b30011b71df8b4ec82181196748cf", func := "columbary/columbarylaw11.BucketWithin", spec := "bucketWithin", unfollowed := true, recurses := true, apart := false }
def BucketWithinSaid : Prop := bucketWithinRow.holds Try.pinned (OpenSpec.ofChange bucketWithinSpec)

/-- ITS FALSE NEIGHBOUR: 'it returns false'. Refute it at one input. -/
def bucketWithinWrong : ChangeSpec := { name := "bucketWithin", fn := fun _ => fun
  | [d1, d2, d3] => { results := [.lit (.bool false)], args := [d1, d2, d3] }
  | _ => none }
def BucketWithinWrongFalsely : Prop := bucketWithinRow.holds Try.pinned (OpenSpec.ofChange bucketWithinWrong)

/-- 'columbarylaw11.BucketWhole': WHATEVER THE INPUT: true; the input reads as it did. -/
def bucketWholeSpec : ChangeSpec := { name := "bucketWhole", fn := fun _ => fun
  | [d1, d2, d3] => { results := [.lit (.bool true)], args := [d1, d2, d3] }
  | _ => none }
def bucketWholeRow : OpenClaim := { program := "ytdfdohajjgjbdaa", sum := "55b12d3d7297695f2cd520468b7be48c688b30011b71df8b4ec82181196748cf", func := "columbary/columbarylaw11.BucketWhole", spec := "bucketWhole", unfollowed := true, recurses := true, apart := false }
def BucketWholeSaid : Prop := bucketWholeRow.holds Try.pinned (OpenSpec.ofChange bucketWholeSpec)

/-- ITS FALSE NEIGHBOUR: 'it returns false'. Refute it at one input. -/
def bucketWholeWrong : ChangeSpec := { name := "bucketWhole", fn := fun _ => fun
  | [d1, d2, d3] => { results := [.lit (.bool false)], args := [d1, d2, d3] }
  | _ => none }
def BucketWholeWrongFalsely : Prop := bucketWholeRow.holds Try.pinned (OpenSpec.ofChange bucketWholeWrong)

/-- 'columbarylaw08.DeltaTells': WHATEVER THE INPUT: true; the input reads as it did. -/
def deltaTellsSpec : ChangeSpec := { name := "deltaTells", fn := fun _ => fun
  | [d] => { results := [.lit (.bool true)], args := [d] }
  | _ => none }
def deltaTellsRow : OpenClaim := { program := "ytdfdohajjgjbdaa", sum := "55b12d3d7297695f2cd520468b7be48c688b30011b71df8b4ec82181196748cf", func := "columbary/columbarylaw08.DeltaTells", spec := "deltaTells", unfollowed := true, recurses := true, apart := false }
def DeltaTellsSaid : Prop := deltaTellsRow.holds Try.pinned (OpenSpec.ofChange deltaTellsSpec)

/-- ITS FALSE NEIGHBOUR: 'it returns false'. Refute it at one input. -/
def deltaTellsWrong : ChangeSpec := { name := "deltaTells", fn := fun _ => fun
  | [d] => { results := [.lit (.bool false)], args := [d] }
  | _ => none }
def DeltaTellsWrongFalsely : Prop := deltaTellsRow.holds Try.pinned (OpenSpec.ofChange deltaTellsWrong)

/-- 'columbarylaw08.DeltaReads': WHATEVER THE INPUT: true; the input reads as it did. -/
def deltaReadsSpec : ChangeSpec := { name := "deltaReads", fn := fun _ => fun
  | [d] => { results := [.lit (.bool true)], args := [d] }
  | _ => none }
def deltaReadsRow : OpenClaim := { program := "ytdfdohajjgjbdaa", sum := "55b12d3d7297695f2cd520468b7be48c688b30011b71df8b4ec82181196748cf", func := "columbary/columbarylaw08.DeltaReads", spec := "deltaReads", unfollowed := true, recurses := true, apart := false }
def DeltaReadsSaid : Prop := deltaReadsRow.holds Try.pinned (OpenSpec.ofChange deltaReadsSpec)

/-- ITS FALSE NEIGHBOUR: 'it returns false'. Refute it at one input. -/
def deltaReadsWrong : ChangeSpec := { name := "deltaReads", fn := fun _ => fun
  | [d] => { results := [.lit (.bool false)], args := [d] }
  | _ => none }
def DeltaReadsWrongFalsely : Prop := deltaReadsRow.holds Try.pinned (OpenSpec.ofChange deltaReadsWrong)

/-- 'columbarylaw08.DeltaBack': WHATEVER THE INPUT: true; the input reads as it did. -/
def deltaBackSpec : ChangeSpec := { name := "deltaBack", fn := fun _ => fun
  | [d1, d2] => { results := [.lit (.bool true)], args := [d1, d2] }
  | _ => none }
def deltaBackRow : OpenClaim := { program := "ytdfdohajjgjbdaa", sum := "55b12d3d7297695f2cd520468b7be48c688b30011b71df8b4ec82181196748cf", func := "columbary/columbarylaw08.DeltaBack", spec := "deltaBack", unfollowed := true, recurses := true, apart := false }
def DeltaBackSaid : Prop := deltaBackRow.holds Try.pinned (OpenSpec.ofChange deltaBackSpec)

/-- ITS FALSE NEIGHBOUR: 'it returns false'. Refute it at one input. -/
def deltaBackWrong : ChangeSpec := { name := "deltaBack", fn := fun _ => fun
  | [d1, d2] => { results := [.lit (.bool false)], args := [d1, d2] }
  | _ => none }
def DeltaBackWrongFalsely : Prop := deltaBackRow.holds Try.pinned (OpenSpec.ofChange deltaBackWrong)

/-- 'columbarylaw08.DeltaSmall': WHATEVER THE INPUT: true; the input reads as it did. -/
def deltaSmallSpec : ChangeSpec := { name := "deltaSmall", fn := fun _ => fun
  | [d1, d2, d3] => { results := [.lit (.bool true)], args := [d1, d2, d3] }
  | _ => none }
def deltaSmallRow : OpenClaim := { program := "ytdfdohajjgjbdaa", sum := "55b12d3d7297695f2cd520468b7be48c688b30011b71df8b4ec82181196748cf", func := "columbary/columbarylaw08.DeltaSmall", spec := "deltaSmall", unfollowed := true, recurses := true, apart := false }
def DeltaSmallSaid : Prop := deltaSmallRow.holds Try.pinned (OpenSpec.ofChange deltaSmallSpec)

/-- ITS FALSE NEIGHBOUR: 'it returns false'. Refute it at one input. -/
def deltaSmallWrong : ChangeSpec := { name := "deltaSmall", fn := fun _ => fun
  | [d1, d2, d3] => { results := [.lit (.bool false)], args := [d1, d2, d3] }
  | _ => none }
def DeltaSmallWrongFalsely : Prop := deltaSmallRow.holds Try.pinned (OpenSpec.ofChange deltaSmallWrong)

/-- 'columbarylaw08.DeltaShift': WHATEVER THE INPUT: true; the input reads as it did. -/
def deltaShiftSpec : ChangeSpec := { name := "deltaShift", fn := fun _ => fun
  | [d1, d2] => { results := [.lit (.bool true)], args := [d1, d2] }
  | _ => none }
def deltaShiftRow : OpenClaim := { program := "ytdfdohajjgjbdaa", sum := "55b12d3d7297695f2cd520468b7be48c688b30011b71df8b4ec82181196748cf", func := "columbary/columbarylaw08.DeltaShift", spec := "deltaShift", unfollowed := true, recurses := true, apart := false }
def DeltaShiftSaid : Prop := deltaShiftRow.holds Try.pinned (OpenSpec.ofChange deltaShiftSpec)

/-- ITS FALSE NEIGHBOUR: 'it returns false'. Refute it at one input. -/
def deltaShiftWrong : ChangeSpec := { name := "deltaShift", fn := fun _ => fun
  | [d1, d2] => { results := [.lit (.bool false)], args := [d1, d2] }
  | _ => none }
def DeltaShiftWrongFalsely : Prop := deltaShiftRow.holds Try.pinned (OpenSpec.ofChange deltaShiftWrong)

/- THE SECOND FORM. 'bulk': how many values and letters a reading holds, each counted each time it is reached (what is shared counts as often as it is met; a slice's spare places count too). A statement '..UptoSaid' is the law's where the arguments, and the package variables that the reading takes, are together of bulk at most 1048576: NARROWER than '..Said'. Prove '..Said' where nothing that the law and all that it calls make is longer than what came in: it says more and counts as full. Else prove '..UptoSaid'. A law counts once. -/
mutual
def uptoBulk {H : Type} : DataW H → Nat
  | .lit (.string bytes) => bytes.length + 1
  | .lit _ => 1
  | .nil => 1
  | .ptr d => uptoBulk d + 1
  | .slice elems spare => uptoBulkAll elems + uptoBulkAll spare + 1
  | .agg parts => uptoBulkAll parts + 1
  | .iface _ d => uptoBulk d + 1
  | .map entries => uptoBulkEntries entries + 1
  | .held _ => 1
def uptoBulkAll {H : Type} : List (DataW H) → Nat
  | [] => 0
  | d :: r => uptoBulk d + uptoBulkAll r
def uptoBulkEntries {H : Type} : List (Lit × DataW H) → Nat
  | [] => 0
  | x :: r => uptoBulkEntry x + uptoBulkEntries r
def uptoBulkEntry {H : Type} : Lit × DataW H → Nat
  | (.string bytes, d) => bytes.length + uptoBulk d + 1
  | (_, d) => uptoBulk d + 1
 end
def uptoSmall : (H : Type) → List (DataW H) → Bool := fun _ ds => decide (uptoBulkAll ds ≤ 1048576)
def OpenSpec.upto (s : _root_.Go.ChangeSpec) : _root_.Go.OpenSpec := { _root_.Go.OpenSpec.ofChange s with cond := some uptoSmall }

/-- 'columbarylaw11.BucketCuts', WHERE WHAT IT READS IS OF BULK AT MOST 1048576: true; the input reads as it did. -/
def bucketCutsUptoRow : OpenClaim := { program := "ytdfdohajjgjbdaa", sum := "55b12d3d7297695f2cd520468b7be48c688b30011b71df8b4ec82181196748cf", func := "columbary/columbarylaw11.BucketCuts", spec := "bucketCuts", unfollowed := true, recurses := true, apart := false, narrowed := true }
def BucketCutsUptoSaid : Prop := bucketCutsUptoRow.holds Try.pinned (OpenSpec.upto bucketCutsSpec)

/-- 'columbarylaw11.BucketShift', WHERE WHAT IT READS IS OF BULK AT MOST 1048576: true; the input reads as it did. -/
def bucketShiftUptoRow : OpenClaim := { program := "ytdfdohajjgjbdaa", sum := "55b12d3d7297695f2cd520468b7be48c688b30011b71df8b4ec82181196748cf", func := "columbary/columbarylaw11.BucketShift", spec := "bucketShift", unfollowed := true, recurses := true, apart := false, narrowed := true }
def BucketShiftUptoSaid : Prop := bucketShiftUptoRow.holds Try.pinned (OpenSpec.upto bucketShiftSpec)

/-- 'columbarylaw11.BucketTells', WHERE WHAT IT READS IS OF BULK AT MOST 1048576: true; the input reads as it did. -/
def bucketTellsUptoRow : OpenClaim := { program := "ytdfdohajjgjbdaa", sum := "55b12d3d7297695f2cd520468b7be48c688b30011b71df8b4ec82181196748cf", func := "columbary/columbarylaw11.BucketTells", spec := "bucketTells", unfollowed := true, recurses := true, apart := false, narrowed := true }
def BucketTellsUptoSaid : Prop := bucketTellsUptoRow.holds Try.pinned (OpenSpec.upto bucketTellsSpec)

/-- 'columbarylaw11.BucketWithin', WHERE WHAT IT READS IS OF BULK AT MOST 1048576: true; the input reads as it did. -/
def bucketWithinUptoRow : OpenClaim := { program := "ytdfdohajjgjbdaa", sum := "55b12d3d7297695f2cd520468b7be48c688b30011b71df8b4ec82181196748cf", func := "columbary/columbarylaw11.BucketWithin", spec := "bucketWithin", unfollowed := true, recurses := true, apart := false, narrowed := true }
def BucketWithinUptoSaid : Prop := bucketWithinUptoRow.holds Try.pinned (OpenSpec.upto bucketWithinSpec)

/-- 'columbarylaw11.BucketWhole', WHERE WHAT IT READS IS OF BULK AT MOST 1048576: true; the input reads as it did. -/
def bucketWholeUptoRow : OpenClaim := { program := "ytdfdohajjgjbdaa", sum := "55b12d3d7297695f2cd520468b7be48c688b30011b71df8b4ec82181196748cf", func := "columbary/columbarylaw11.BucketWhole", spec := "bucketWhole", unfollowed := true, recurses := true, apart := false, narrowed := true }
def BucketWholeUptoSaid : Prop := bucketWholeUptoRow.holds Try.pinned (OpenSpec.upto bucketWholeSpec)

/-- 'columbarylaw08.DeltaTells', WHERE WHAT IT READS IS OF BULK AT MOST 1048576: true; the input reads as it did. -/
def deltaTellsUptoRow : OpenClaim := { program := "ytdfdohajjgjbdaa", sum := "55b12d3d7297695f2cd520468b7be48c688b30011b71df8b4ec82181196748cf", func := "columbary/columbarylaw08.DeltaTells", spec := "deltaTells", unfollowed := true, recurses := true, apart := false, narrowed := true }
def DeltaTellsUptoSaid : Prop := deltaTellsUptoRow.holds Try.pinned (OpenSpec.upto deltaTellsSpec)

/-- 'columbarylaw08.DeltaReads', WHERE WHAT IT READS IS OF BULK AT MOST 1048576: true; the input reads as it did. -/
def deltaReadsUptoRow : OpenClaim := { program := "ytdfdohajjgjbdaa", sum := "55b12d3d7297695f2cd520468b7be48c688b30011b71df8b4ec82181196748cf", func := "columbary/columbarylaw08.DeltaReads", spec := "deltaReads", unfollowed := true, recurses := true, apart := false, narrowed := true }
def DeltaReadsUptoSaid : Prop := deltaReadsUptoRow.holds Try.pinned (OpenSpec.upto deltaReadsSpec)

/-- 'columbarylaw08.DeltaBack', WHERE WHAT IT READS IS OF BULK AT MOST 1048576: true; the input reads as it did. -/
def deltaBackUptoRow : OpenClaim := { program := "ytdfdohajjgjbdaa", sum := "55b12d3d7297695f2cd520468b7be48c688b30011b71df8b4ec82181196748cf", func := "columbary/columbarylaw08.DeltaBack", spec := "deltaBack", unfollowed := true, recurses := true, apart := false, narrowed := true }
def DeltaBackUptoSaid : Prop := deltaBackUptoRow.holds Try.pinned (OpenSpec.upto deltaBackSpec)

/-- 'columbarylaw08.DeltaSmall', WHERE WHAT IT READS IS OF BULK AT MOST 1048576: true; the input reads as it did. -/
def deltaSmallUptoRow : OpenClaim := { program := "ytdfdohajjgjbdaa", sum := "55b12d3d7297695f2cd520468b7be48c688b30011b71df8b4ec82181196748cf", func := "columbary/columbarylaw08.DeltaSmall", spec := "deltaSmall", unfollowed := true, recurses := true, apart := false, narrowed := true }
def DeltaSmallUptoSaid : Prop := deltaSmallUptoRow.holds Try.pinned (OpenSpec.upto deltaSmallSpec)

/-- 'columbarylaw08.DeltaShift', WHERE WHAT IT READS IS OF BULK AT MOST 1048576: true; the input reads as it did. -/
def deltaShiftUptoRow : OpenClaim := { program := "ytdfdohajjgjbdaa", sum := "55b12d3d7297695f2cd520468b7be48c688b30011b71df8b4ec82181196748cf", func := "columbary/columbarylaw08.DeltaShift", spec := "deltaShift", unfollowed := true, recurses := true, apart := false, narrowed := true }
def DeltaShiftUptoSaid : Prop := deltaShiftUptoRow.holds Try.pinned (OpenSpec.upto deltaShiftSpec)

end Rows
end Go.Proofs.Ytdfdohajjgjbdaa
