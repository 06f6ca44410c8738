/-
  No cell of these rows narrows 'for every input' (looked for: loops, veiled, ifaces, maps, wideKeys, modest, calm, conditions, laid).
  DERIVED. THE GIVEN ROWS OF THIS SEAT. 12 by the template 'for every input the law returns true; each argument reads behind the call as it read before'; 0 by the template 'total and deterministic' (their statements: YtgomibebepmlhaaTotals.lean).
  GIVEN WITH THE SEED: the statements are not yours to turn. If you find one false, say at which input.
  Laid BY PROGRAM, IN A SANDBOX (cutbox-rows.mjs): the forced cells as the released guide's own fill.sh prints them over the translation 282fa67ae56c3bfc… (all of the seat's roots in one cut). By AI agents, Wed Nov 11 2026. No macro, syntax, notation, axiom, sorry.
-/
import Derived.Test.YtgomibebepmlhaaChecked
import GoSem.Claim
import GoSem.ClaimJoined
import GoSem.ClaimMapViews
import Derived.JoinedTies
import Derived.KernelRfl
namespace Go.Proofs.Ytgomibebepmlhaa
/- THE CELL 'sum', in the pinned program and in every row, IS THE sha256 OF THE DUMP (.gsa) THAT YtgomibebepmlhaaProg.lean LOADS. Nothing in Lean hashes anything: it is a label: what it is worth is what the hold of that sum in a sandbox is worth. -/
noncomputable def Try.pinned : Pinned := { name := "ytgomibebepmlhaa", sum := "282fa67ae56c3bfc65442ea6d18701f8964cc53f7f22d82d8b02390d01a803fa", checked := Try.checked }
namespace Rows
def none {H : Type} : Left H := { results := [], args := [] }

/-- 'columbarylaw11.BucketCuts': WHATEVER THE INPUT: true; the input reads as it did. -/
def bucketCutsSpec : ChangeSpec := { name := "bucketCuts", fn := fun _ => fun
  | [d1, d2, d3] => { results := [.lit (.bool true)], args := [d1, d2, d3] }
  | _ => none }
def bucketCutsRow : OpenClaim := { program := "ytgomibebepmlhaa", sum := "282fa67ae56c3bfc65442ea6d18701f8964cc53f7f22d82d8b02390d01a803fa", func := "columbary/columbarylaw11.BucketCuts", spec := "bucketCuts", unfollowed := true, recurses := true, apart := false }
def BucketCutsSaid : Prop := bucketCutsRow.holds Try.pinned (OpenSpec.ofChange bucketCutsSpec)

/-- ITS FALSE NEIGHBOUR: 'it returns false'. Refute it at one input. -/
def bucketCutsWrong : ChangeSpec := { name := "bucketCuts", fn := fun _ => fun
  | [d1, d2, d3] => { results := [.lit (.bool false)], args := [d1, d2, d3] }
  | _ => none }
def BucketCutsWrongFalsely : Prop := bucketCutsRow.holds Try.pinned (OpenSpec.ofChange bucketCutsWrong)

/-- 'columbarylaw11.BucketShift': WHATEVER THE INPUT: true; the input reads as it did. -/
def bucketShiftSpec : ChangeSpec := { name := "bucketShift", fn := fun _ => fun
  | [d1, d2, d3] => { results := [.lit (.bool true)], args := [d1, d2, d3] }
  | _ => none }
def bucketShiftRow : OpenClaim := { program := "ytgomibebepmlhaa", sum := "282fa67ae56c3bfc65442ea6d18701f8964cc53f7f22d82d8b02390d01a803fa", func := "columbary/columbarylaw11.BucketShift", spec := "bucketShift", unfollowed := true, recurses := true, apart := false }
def BucketShiftSaid : Prop := bucketShiftRow.holds Try.pinned (OpenSpec.ofChange bucketShiftSpec)

/-- ITS FALSE NEIGHBOUR: 'it returns false'. Refute it at one input. -/
def bucketShiftWrong : ChangeSpec := { name := "bucketShift", fn := fun _ => fun
  | [d1, d2, d3] => { results := [.lit (.bool false)], args := [d1, d2, d3] }
  | _ => none }
def BucketShiftWrongFalsely : Prop := bucketShiftRow.holds Try.pinned (OpenSpec.ofChange bucketShiftWrong)

/-- 'columbarylaw11.BucketTells': WHATEVER THE INPUT: true; the input reads as it did. -/
def bucketTellsSpec : ChangeSpec := { name := "bucketTells", fn := fun _ => fun
  | [d1, d2, d3] => { results := [.lit (.bool true)], args := [d1, d2, d3] }
  | _ => none }
def bucketTellsRow : OpenClaim := { program := "ytgomibebepmlhaa", sum := "282fa67ae56c3bfc65442ea6d18701f8964cc53f7f22d82d8b02390d01a803fa", func := "columbary/columbarylaw11.BucketTells", spec := "bucketTells", unfollowed := true, recurses := true, apart := false }
def BucketTellsSaid : Prop := bucketTellsRow.holds Try.pinned (OpenSpec.ofChange bucketTellsSpec)

/-- ITS FALSE NEIGHBOUR: 'it returns false'. Refute it at one input. -/
def bucketTellsWrong : ChangeSpec := { name := "bucketTells", fn := fun _ => fun
  | [d1, d2, d3] => { results := [.lit (.bool false)], args := [d1, d2, d3] }
  | _ => none }
def BucketTellsWrongFalsely : Prop := bucketTellsRow.holds Try.pinned (OpenSpec.ofChange bucketTellsWrong)

/-- 'columbarylaw11.BucketWithin': WHATEVER THE INPUT: true; the input reads as it did. -/
def bucketWithinSpec : ChangeSpec := { name := "bucketWithin", fn := fun _ => fun
  | [d1, d2, d3] => { results := [.lit (.bool true)], args := [d1, d2, d3] }
  | _ => none }
def bucketWithinRow : OpenClaim := { program := "ytgomibebepmlhaa", sum := "282fa67ae56c3bfc65442ea6d18701f8964cc53f7f22d82d8b02390d01a803fa", func := "columbary/columbarylaw11.BucketWithin", spec := "bucketWithin", unfollowed := true, recurses := true, apart := false }
def BucketWithinSaid : Prop := bucketWithinRow.holds Try.pinned (OpenSpec.ofChange bucketWithinSpec)

/-- ITS FALSE NEIGHBOUR: 'it returns false'. Refute it at one input. -/
def bucketWithinWrong : ChangeSpec := { name := "bucketWithin", fn := fun _ => fun
  | [d1, d2, d3] => { results := [.lit (.bool false)], args := [d1, d2, d3] }
  | _ => none }
def BucketWithinWrongFalsely : Prop := bucketWithinRow.holds Try.pinned (OpenSpec.ofChange bucketWithinWrong)

/-- 'columbarylaw11.BucketWhole': WHATEVER THE INPUT: true; the input reads as it did. -/
def bucketWholeSpec : ChangeSpec := { name := "bucketWhole", fn := fun _ => fun
  | [d1, d2, d3] => { results := [.lit (.bool true)], args := [d1, d2, d3] }
  | _ => none }
def bucketWholeRow : OpenClaim := { program := "ytgomibebepmlhaa", sum := "282fa67ae56c3bfc65442ea6d18701f8964cc53f7f22d82d8b02390d01a803fa", func := "columbary/columbarylaw11.BucketWhole", spec := "bucketWhole", unfollowed := true, recurses := true, apart := false }
def BucketWholeSaid : Prop := bucketWholeRow.holds Try.pinned (OpenSpec.ofChange bucketWholeSpec)

/-- ITS FALSE NEIGHBOUR: 'it returns false'. Refute it at one input. -/
def bucketWholeWrong : ChangeSpec := { name := "bucketWhole", fn := fun _ => fun
  | [d1, d2, d3] => { results := [.lit (.bool false)], args := [d1, d2, d3] }
  | _ => none }
def BucketWholeWrongFalsely : Prop := bucketWholeRow.holds Try.pinned (OpenSpec.ofChange bucketWholeWrong)

/-- 'columbarylaw01.ZigFolds': WHATEVER THE INPUT: true; the input reads as it did. -/
def zigFoldsSpec : ChangeSpec := { name := "zigFolds", fn := fun _ => fun
  | [d1, d2] => { results := [.lit (.bool true)], args := [d1, d2] }
  | _ => none }
def zigFoldsRow : OpenClaim := { program := "ytgomibebepmlhaa", sum := "282fa67ae56c3bfc65442ea6d18701f8964cc53f7f22d82d8b02390d01a803fa", func := "columbary/columbarylaw01.ZigFolds", spec := "zigFolds", apart := false }
def ZigFoldsSaid : Prop := zigFoldsRow.holds Try.pinned (OpenSpec.ofChange zigFoldsSpec)

/-- ITS FALSE NEIGHBOUR: 'it returns false'. Refute it at one input. -/
def zigFoldsWrong : ChangeSpec := { name := "zigFolds", fn := fun _ => fun
  | [d1, d2] => { results := [.lit (.bool false)], args := [d1, d2] }
  | _ => none }
def ZigFoldsWrongFalsely : Prop := zigFoldsRow.holds Try.pinned (OpenSpec.ofChange zigFoldsWrong)

/-- 'columbarylaw01.ZigWrites': WHATEVER THE INPUT: true; the input reads as it did. -/
def zigWritesSpec : ChangeSpec := { name := "zigWrites", fn := fun _ => fun
  | [d] => { results := [.lit (.bool true)], args := [d] }
  | _ => none }
def zigWritesRow : OpenClaim := { program := "ytgomibebepmlhaa", sum := "282fa67ae56c3bfc65442ea6d18701f8964cc53f7f22d82d8b02390d01a803fa", func := "columbary/columbarylaw01.ZigWrites", spec := "zigWrites", apart := false }
def ZigWritesSaid : Prop := zigWritesRow.holds Try.pinned (OpenSpec.ofChange zigWritesSpec)

/-- ITS FALSE NEIGHBOUR: 'it returns false'. Refute it at one input. -/
def zigWritesWrong : ChangeSpec := { name := "zigWrites", fn := fun _ => fun
  | [d] => { results := [.lit (.bool false)], args := [d] }
  | _ => none }
def ZigWritesWrongFalsely : Prop := zigWritesRow.holds Try.pinned (OpenSpec.ofChange zigWritesWrong)

/-- 'columbarylaw01.ZigBack': WHATEVER THE INPUT: true; the input reads as it did. -/
def zigBackSpec : ChangeSpec := { name := "zigBack", fn := fun _ => fun
  | [d1, d2] => { results := [.lit (.bool true)], args := [d1, d2] }
  | _ => none }
def zigBackRow : OpenClaim := { program := "ytgomibebepmlhaa", sum := "282fa67ae56c3bfc65442ea6d18701f8964cc53f7f22d82d8b02390d01a803fa", func := "columbary/columbarylaw01.ZigBack", spec := "zigBack", apart := false }
def ZigBackSaid : Prop := zigBackRow.holds Try.pinned (OpenSpec.ofChange zigBackSpec)

/-- ITS FALSE NEIGHBOUR: 'it returns false'. Refute it at one input. -/
def zigBackWrong : ChangeSpec := { name := "zigBack", fn := fun _ => fun
  | [d1, d2] => { results := [.lit (.bool false)], args := [d1, d2] }
  | _ => none }
def ZigBackWrongFalsely : Prop := zigBackRow.holds Try.pinned (OpenSpec.ofChange zigBackWrong)

/-- 'columbarylaw01.ZigOrder': WHATEVER THE INPUT: true; the input reads as it did. -/
def zigOrderSpec : ChangeSpec := { name := "zigOrder", fn := fun _ => fun
  | [d1, d2] => { results := [.lit (.bool true)], args := [d1, d2] }
  | _ => none }
def zigOrderRow : OpenClaim := { program := "ytgomibebepmlhaa", sum := "282fa67ae56c3bfc65442ea6d18701f8964cc53f7f22d82d8b02390d01a803fa", func := "columbary/columbarylaw01.ZigOrder", spec := "zigOrder", apart := false }
def ZigOrderSaid : Prop := zigOrderRow.holds Try.pinned (OpenSpec.ofChange zigOrderSpec)

/-- ITS FALSE NEIGHBOUR: 'it returns false'. Refute it at one input. -/
def zigOrderWrong : ChangeSpec := { name := "zigOrder", fn := fun _ => fun
  | [d1, d2] => { results := [.lit (.bool false)], args := [d1, d2] }
  | _ => none }
def ZigOrderWrongFalsely : Prop := zigOrderRow.holds Try.pinned (OpenSpec.ofChange zigOrderWrong)

/-- 'columbarylaw01.ZigLengths': WHATEVER THE INPUT: true; the input reads as it did. -/
def zigLengthsSpec : ChangeSpec := { name := "zigLengths", fn := fun _ => fun
  | [d1, d2] => { results := [.lit (.bool true)], args := [d1, d2] }
  | _ => none }
def zigLengthsRow : OpenClaim := { program := "ytgomibebepmlhaa", sum := "282fa67ae56c3bfc65442ea6d18701f8964cc53f7f22d82d8b02390d01a803fa", func := "columbary/columbarylaw01.ZigLengths", spec := "zigLengths", apart := false }
def ZigLengthsSaid : Prop := zigLengthsRow.holds Try.pinned (OpenSpec.ofChange zigLengthsSpec)

/-- ITS FALSE NEIGHBOUR: 'it returns false'. Refute it at one input. -/
def zigLengthsWrong : ChangeSpec := { name := "zigLengths", fn := fun _ => fun
  | [d1, d2] => { results := [.lit (.bool false)], args := [d1, d2] }
  | _ => none }
def ZigLengthsWrongFalsely : Prop := zigLengthsRow.holds Try.pinned (OpenSpec.ofChange zigLengthsWrong)

/-- 'columbarylaw01.ZigReads': WHATEVER THE INPUT: true; the input reads as it did. -/
def zigReadsSpec : ChangeSpec := { name := "zigReads", fn := fun _ => fun
  | [d1, d2] => { results := [.lit (.bool true)], args := [d1, d2] }
  | _ => none }
def zigReadsRow : OpenClaim := { program := "ytgomibebepmlhaa", sum := "282fa67ae56c3bfc65442ea6d18701f8964cc53f7f22d82d8b02390d01a803fa", func := "columbary/columbarylaw01.ZigReads", spec := "zigReads", apart := false }
def ZigReadsSaid : Prop := zigReadsRow.holds Try.pinned (OpenSpec.ofChange zigReadsSpec)

/-- ITS FALSE NEIGHBOUR: 'it returns false'. Refute it at one input. -/
def zigReadsWrong : ChangeSpec := { name := "zigReads", fn := fun _ => fun
  | [d1, d2] => { results := [.lit (.bool false)], args := [d1, d2] }
  | _ => none }
def ZigReadsWrongFalsely : Prop := zigReadsRow.holds Try.pinned (OpenSpec.ofChange zigReadsWrong)

/-- 'columbarylaw01.ZigNil': WHATEVER THE INPUT: true; the input reads as it did. -/
def zigNilSpec : ChangeSpec := { name := "zigNil", fn := fun _ => fun
  | [d] => { results := [.lit (.bool true)], args := [d] }
  | _ => none }
def zigNilRow : OpenClaim := { program := "ytgomibebepmlhaa", sum := "282fa67ae56c3bfc65442ea6d18701f8964cc53f7f22d82d8b02390d01a803fa", func := "columbary/columbarylaw01.ZigNil", spec := "zigNil", apart := false }
def ZigNilSaid : Prop := zigNilRow.holds Try.pinned (OpenSpec.ofChange zigNilSpec)

/-- ITS FALSE NEIGHBOUR: 'it returns false'. Refute it at one input. -/
def zigNilWrong : ChangeSpec := { name := "zigNil", fn := fun _ => fun
  | [d] => { results := [.lit (.bool false)], args := [d] }
  | _ => none }
def ZigNilWrongFalsely : Prop := zigNilRow.holds Try.pinned (OpenSpec.ofChange zigNilWrong)

/- THE SECOND FORM. 'bulk': how many values and letters a reading holds, each counted each time it is reached (what is shared counts as often as it is met; a slice's spare places count too). A statement '..UptoSaid' is the law's where the arguments, and the package variables that the reading takes, are together of bulk at most 1048576: NARROWER than '..Said'. Prove '..Said' where nothing that the law and all that it calls make is longer than what came in: it says more and counts as full. Else prove '..UptoSaid'. A law counts once. -/
mutual
def uptoBulk {H : Type} : DataW H → Nat
  | .lit (.string bytes) => bytes.length + 1
  | .lit _ => 1
  | .nil => 1
  | .ptr d => uptoBulk d + 1
  | .slice elems spare => uptoBulkAll elems + uptoBulkAll spare + 1
  | .agg parts => uptoBulkAll parts + 1
  | .iface _ d => uptoBulk d + 1
  | .map entries => uptoBulkEntries entries + 1
  | .held _ => 1
def uptoBulkAll {H : Type} : List (DataW H) → Nat
  | [] => 0
  | d :: r => uptoBulk d + uptoBulkAll r
def uptoBulkEntries {H : Type} : List (Lit × DataW H) → Nat
  | [] => 0
  | x :: r => uptoBulkEntry x + uptoBulkEntries r
def uptoBulkEntry {H : Type} : Lit × DataW H → Nat
  | (.string bytes, d) => bytes.length + uptoBulk d + 1
  | (_, d) => uptoBulk d + 1
 end
def uptoSmall : (H : Type) → List (DataW H) → Bool := fun _ ds => decide (uptoBulkAll ds ≤ 1048576)
def OpenSpec.upto (s : _root_.Go.ChangeSpec) : _root_.Go.OpenSpec := { _root_.Go.OpenSpec.ofChange s with cond := some uptoSmall }

/-- 'columbarylaw11.BucketCuts', WHERE WHAT IT READS IS OF BULK AT MOST 1048576: true; the input reads as it did. -/
def bucketCutsUptoRow : OpenClaim := { program := "ytgomibebepmlhaa", sum := "282fa67ae56c3bfc65442ea6d18701f8964cc53f7f22d82d8b02390d01a803fa", func := "columbary/columbarylaw11.BucketCuts", spec := "bucketCuts", unfollowed := true, recurses := true, apart := false, narrowed := true }
def BucketCutsUptoSaid : Prop := bucketCutsUptoRow.holds Try.pinned (OpenSpec.upto bucketCutsSpec)

/-- 'columbarylaw11.BucketShift', WHERE WHAT IT READS IS OF BULK AT MOST 1048576: true; the input reads as it did. -/
def bucketShiftUptoRow : OpenClaim := { program := "ytgomibebepmlhaa", sum := "282fa67ae56c3bfc65442ea6d18701f8964cc53f7f22d82d8b02390d01a803fa", func := "columbary/columbarylaw11.BucketShift", spec := "bucketShift", unfollowed := true, recurses := true, apart := false, narrowed := true }
def BucketShiftUptoSaid : Prop := bucketShiftUptoRow.holds Try.pinned (OpenSpec.upto bucketShiftSpec)

/-- 'columbarylaw11.BucketTells', WHERE WHAT IT READS IS OF BULK AT MOST 1048576: true; the input reads as it did. -/
def bucketTellsUptoRow : OpenClaim := { program := "ytgomibebepmlhaa", sum := "282fa67ae56c3bfc65442ea6d18701f8964cc53f7f22d82d8b02390d01a803fa", func := "columbary/columbarylaw11.BucketTells", spec := "bucketTells", unfollowed := true, recurses := true, apart := false, narrowed := true }
def BucketTellsUptoSaid : Prop := bucketTellsUptoRow.holds Try.pinned (OpenSpec.upto bucketTellsSpec)

/-- 'columbarylaw11.BucketWithin', WHERE WHAT IT READS IS OF BULK AT MOST 1048576: true; the input reads as it did. -/
def bucketWithinUptoRow : OpenClaim := { program := "ytgomibebepmlhaa", sum := "282fa67ae56c3bfc65442ea6d18701f8964cc53f7f22d82d8b02390d01a803fa", func := "columbary/columbarylaw11.BucketWithin", spec := "bucketWithin", unfollowed := true, recurses := true, apart := false, narrowed := true }
def BucketWithinUptoSaid : Prop := bucketWithinUptoRow.holds Try.pinned (OpenSpec.upto bucketWithinSpec)

/-- 'columbarylaw11.BucketWhole', WHERE WHAT IT READS IS OF BULK AT MOST 1048576: true; the input reads as it did. -/
def bucketWholeUptoRow : OpenClaim := { program := "ytgomibebepmlhaa", sum := "282fa67ae56c3bfc65442ea6d18701f8964cc53f7f22d82d8b02390d01a803fa", func := "columbary/columbarylaw11.BucketWhole", spec := "bucketWhole", unfollowed := true, recurses := true, apart := false, narrowed := true }
def BucketWholeUptoSaid : Prop := bucketWholeUptoRow.holds Try.pinned (OpenSpec.upto bucketWholeSpec)

/-- 'columbarylaw01.ZigFolds', WHERE WHAT IT READS IS OF BULK AT MOST 1048576: true; the input reads as it did. -/
def zigFoldsUptoRow : OpenClaim := { program := "ytgomibebepmlhaa", sum := "282fa67ae56c3bfc65442ea6d18701f8964cc53f7f22d82d8b02390d01a803fa", func := "columbary/columbarylaw01.ZigFolds", spec := "zigFolds", apart := false, narrowed := true }
def ZigFoldsUptoSaid : Prop := zigFoldsUptoRow.holds Try.pinned (OpenSpec.upto zigFoldsSpec)

/-- 'columbarylaw01.ZigWrites', WHERE WHAT IT READS IS OF BULK AT MOST 1048576: true; the input reads as it did. -/
def zigWritesUptoRow : OpenClaim := { program := "ytgomibebepmlhaa", sum := "282fa67ae56c3bfc65442ea6d18701f8964cc53f7f22d82d8b02390d01a803fa", func := "columbary/columbarylaw01.ZigWrites", spec := "zigWrites", apart := false, narrowed := true }
def ZigWritesUptoSaid : Prop := zigWritesUptoRow.holds Try.pinned (OpenSpec.upto zigWritesSpec)

/-- 'columbarylaw01.ZigBack', WHERE WHAT IT READS IS OF BULK AT MOST 1048576: true; the input reads as it did. -/
def zigBackUptoRow : OpenClaim := { program := "ytgomibebepmlhaa", sum := "282fa67ae56c3bfc65442ea6d18701f8964cc53f7f22d82d8b02390d01a803fa", func := "columbary/columbarylaw01.ZigBack", spec := "zigBack", apart := false, narrowed := true }
def ZigBackUptoSaid : Prop := zigBackUptoRow.holds Try.pinned (OpenSpec.upto zigBackSpec)

/-- 'columbarylaw01.ZigOrder', WHERE WHAT IT READS IS OF BULK AT MOST 1048576: true; the input reads as it did. -/
def zigOrderUptoRow : OpenClaim := { program := "ytgomibebepmlhaa", sum := "282fa67ae56c3bfc65442ea6d18701f8964cc53f7f22d82d8b02390d01a803fa", func := "columbary/columbarylaw01.ZigOrder", spec := "zigOrder", apart := false, narrowed := true }
def ZigOrderUptoSaid : Prop := zigOrderUptoRow.holds Try.pinned (OpenSpec.upto zigOrderSpec)

/-- 'columbarylaw01.ZigLengths', WHERE WHAT IT READS IS OF BULK AT MOST 1048576: true; the input reads as it did. -/
def zigLengthsUptoRow : OpenClaim := { program := "ytgomibebepmlhaa", sum := "282fa67ae56c3bfc65442ea6d18701f8964cc53f7f22d82d8b02390d01a803fa", func := "columbary/columbarylaw01.ZigLengths", spec := "zigLengths", apart := false, narrowed := true }
def ZigLengthsUptoSaid : Prop := zigLengthsUptoRow.holds Try.pinned (OpenSpec.upto zigLengthsSpec)

/-- 'columbarylaw01.ZigReads', WHERE WHAT IT READS IS OF BULK AT MOST 1048576: true; the input reads as it did. -/
def zigReadsUptoRow : OpenClaim := { program := "ytgomibebepmlhaa", sum := "282fa67ae56c3bfc65442ea6d18701f8964cc53f7f22d82d8b02390d01a803fa", func := "columbary/columbarylaw01.ZigReads", spec := "zigReads", apart := false, narrowed := true }
def ZigReadsUptoSaid : Prop := zigReadsUptoRow.holds Try.pinned (OpenSpec.upto zigReadsSpec)

/-- 'columbarylaw01.ZigNil', WHERE WHAT IT READS IS OF BULK AT MOST 1048576: true; the input reads as it did. -/
def zigNilUptoRow : OpenClaim := { program := "ytgomibebepmlhaa", sum := "282fa67ae56c3bfc65442ea6d18701f8964cc53f7f22d82d8b02390d01a803fa", func := "columbary/columbarylaw01.ZigNil", spec := "zigNil", apart := false, narrowed := true }
def ZigNilUptoSaid : Prop := zigNilUptoRow.holds Try.pinned (OpenSpec.upto zigNilSpec)

end Rows
end Go.Proofs.Ytgomibebepmlhaa
