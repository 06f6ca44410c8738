/-
  No cell of these rows narrows 'for every input' (looked for: loops, veiled, ifaces, maps, wideKeys, modest, calm, conditions, laid).
  DERIVED. THE GIVEN ROWS OF THIS SEAT. 9 by the template 'for every input the law returns true; each argument reads behind the call as it read before'; 0 by the template 'total and deterministic' (their statements: YtfeocfcclmndoaaTotals.lean).
  GIVEN WITH THE SEED: the statements are not yours to turn. If you find one false, say at which input.
  Laid BY PROGRAM, IN A SANDBOX (cutbox-rows.mjs): the forced cells as the released guide's own fill.sh prints them over the translation 9bc644d73c6cfe70… (all of the seat's roots in one cut). By AI agents, Wed Nov 11 2026. No macro, syntax, notation, axiom, sorry.
-/
import Derived.Test.YtfeocfcclmndoaaChecked
import GoSem.Claim
import GoSem.ClaimJoined
import GoSem.ClaimMapViews
import Derived.JoinedTies
import Derived.KernelRfl
namespace Go.Proofs.Ytfeocfcclmndoaa
/- THE CELL 'sum', in the pinned program and in every row, IS THE sha256 OF THE DUMP (.gsa) THAT YtfeocfcclmndoaaProg.lean LOADS. Nothing in Lean hashes anything: it is a label: what it is worth is what the hold of that sum in a sandbox is worth. -/
noncomputable def Try.pinned : Pinned := { name := "ytfeocfcclmndoaa", sum := "9bc644d73c6cfe709a11fbd167d87e268f60872fcdd6faf1f5caa8de3f620c9d", checked := Try.checked }
namespace Rows
def none {H : Type} : Left H := { results := [], args := [] }

/-- 'columbarylaw05.BitmapTells': WHATEVER THE INPUT: true; the input reads as it did. -/
def bitmapTellsSpec : ChangeSpec := { name := "bitmapTells", fn := fun _ => fun
  | [d1, d2, d3] => { results := [.lit (.bool true)], args := [d1, d2, d3] }
  | _ => none }
def bitmapTellsRow : OpenClaim := { program := "ytfeocfcclmndoaa", sum := "9bc644d73c6cfe709a11fbd167d87e268f60872fcdd6faf1f5caa8de3f620c9d", func := "columbary/columbarylaw05.BitmapTells", spec := "bitmapTells", unfollowed := true, recurses := true, apart := false }
def BitmapTellsSaid : Prop := bitmapTellsRow.holds Try.pinned (OpenSpec.ofChange bitmapTellsSpec)

/-- ITS FALSE NEIGHBOUR: 'it returns false'. Refute it at one input. -/
def bitmapTellsWrong : ChangeSpec := { name := "bitmapTells", fn := fun _ => fun
  | [d1, d2, d3] => { results := [.lit (.bool false)], args := [d1, d2, d3] }
  | _ => none }
def BitmapTellsWrongFalsely : Prop := bitmapTellsRow.holds Try.pinned (OpenSpec.ofChange bitmapTellsWrong)

/-- 'columbarylaw05.BitmapWithin': WHATEVER THE INPUT: true; the input reads as it did. -/
def bitmapWithinSpec : ChangeSpec := { name := "bitmapWithin", fn := fun _ => fun
  | [d1, d2] => { results := [.lit (.bool true)], args := [d1, d2] }
  | _ => none }
def bitmapWithinRow : OpenClaim := { program := "ytfeocfcclmndoaa", sum := "9bc644d73c6cfe709a11fbd167d87e268f60872fcdd6faf1f5caa8de3f620c9d", func := "columbary/columbarylaw05.BitmapWithin", spec := "bitmapWithin", unfollowed := true, recurses := true, apart := false }
def BitmapWithinSaid : Prop := bitmapWithinRow.holds Try.pinned (OpenSpec.ofChange bitmapWithinSpec)

/-- ITS FALSE NEIGHBOUR: 'it returns false'. Refute it at one input. -/
def bitmapWithinWrong : ChangeSpec := { name := "bitmapWithin", fn := fun _ => fun
  | [d1, d2] => { results := [.lit (.bool false)], args := [d1, d2] }
  | _ => none }
def BitmapWithinWrongFalsely : Prop := bitmapWithinRow.holds Try.pinned (OpenSpec.ofChange bitmapWithinWrong)

/-- 'columbarylaw04.RunsRank': WHATEVER THE INPUT: true; the input reads as it did. -/
def runsRankSpec : ChangeSpec := { name := "runsRank", fn := fun _ => fun
  | [d1, d2, d3] => { results := [.lit (.bool true)], args := [d1, d2, d3] }
  | _ => none }
def runsRankRow : OpenClaim := { program := "ytfeocfcclmndoaa", sum := "9bc644d73c6cfe709a11fbd167d87e268f60872fcdd6faf1f5caa8de3f620c9d", func := "columbary/columbarylaw04.RunsRank", spec := "runsRank", unfollowed := true, recurses := true, apart := false }
def RunsRankSaid : Prop := runsRankRow.holds Try.pinned (OpenSpec.ofChange runsRankSpec)

/-- ITS FALSE NEIGHBOUR: 'it returns false'. Refute it at one input. -/
def runsRankWrong : ChangeSpec := { name := "runsRank", fn := fun _ => fun
  | [d1, d2, d3] => { results := [.lit (.bool false)], args := [d1, d2, d3] }
  | _ => none }
def RunsRankWrongFalsely : Prop := runsRankRow.holds Try.pinned (OpenSpec.ofChange runsRankWrong)

/-- 'columbarylaw04.RunsBoth': WHATEVER THE INPUT: true; the input reads as it did. -/
def runsBothSpec : ChangeSpec := { name := "runsBoth", fn := fun _ => fun
  | [d1, d2] => { results := [.lit (.bool true)], args := [d1, d2] }
  | _ => none }
def runsBothRow : OpenClaim := { program := "ytfeocfcclmndoaa", sum := "9bc644d73c6cfe709a11fbd167d87e268f60872fcdd6faf1f5caa8de3f620c9d", func := "columbary/columbarylaw04.RunsBoth", spec := "runsBoth", unfollowed := true, recurses := true, apart := false }
def RunsBothSaid : Prop := runsBothRow.holds Try.pinned (OpenSpec.ofChange runsBothSpec)

/-- ITS FALSE NEIGHBOUR: 'it returns false'. Refute it at one input. -/
def runsBothWrong : ChangeSpec := { name := "runsBoth", fn := fun _ => fun
  | [d1, d2] => { results := [.lit (.bool false)], args := [d1, d2] }
  | _ => none }
def RunsBothWrongFalsely : Prop := runsBothRow.holds Try.pinned (OpenSpec.ofChange runsBothWrong)

/-- 'columbarylaw04.RunsOf': WHATEVER THE INPUT: true; the input reads as it did. -/
def runsOfSpec : ChangeSpec := { name := "runsOf", fn := fun _ => fun
  | [d] => { results := [.lit (.bool true)], args := [d] }
  | _ => none }
def runsOfRow : OpenClaim := { program := "ytfeocfcclmndoaa", sum := "9bc644d73c6cfe709a11fbd167d87e268f60872fcdd6faf1f5caa8de3f620c9d", func := "columbary/columbarylaw04.RunsOf", spec := "runsOf", unfollowed := true, recurses := true, apart := false }
def RunsOfSaid : Prop := runsOfRow.holds Try.pinned (OpenSpec.ofChange runsOfSpec)

/-- ITS FALSE NEIGHBOUR: 'it returns false'. Refute it at one input. -/
def runsOfWrong : ChangeSpec := { name := "runsOf", fn := fun _ => fun
  | [d] => { results := [.lit (.bool false)], args := [d] }
  | _ => none }
def RunsOfWrongFalsely : Prop := runsOfRow.holds Try.pinned (OpenSpec.ofChange runsOfWrong)

/-- 'columbarylaw04.RunsList': WHATEVER THE INPUT: true; the input reads as it did. -/
def runsListSpec : ChangeSpec := { name := "runsList", fn := fun _ => fun
  | [d1, d2] => { results := [.lit (.bool true)], args := [d1, d2] }
  | _ => none }
def runsListRow : OpenClaim := { program := "ytfeocfcclmndoaa", sum := "9bc644d73c6cfe709a11fbd167d87e268f60872fcdd6faf1f5caa8de3f620c9d", func := "columbary/columbarylaw04.RunsList", spec := "runsList", unfollowed := true, recurses := true, apart := false }
def RunsListSaid : Prop := runsListRow.holds Try.pinned (OpenSpec.ofChange runsListSpec)

/-- ITS FALSE NEIGHBOUR: 'it returns false'. Refute it at one input. -/
def runsListWrong : ChangeSpec := { name := "runsList", fn := fun _ => fun
  | [d1, d2] => { results := [.lit (.bool false)], args := [d1, d2] }
  | _ => none }
def RunsListWrongFalsely : Prop := runsListRow.holds Try.pinned (OpenSpec.ofChange runsListWrong)

/-- 'columbarylaw04.RunsUpto': WHATEVER THE INPUT: true; the input reads as it did. -/
def runsUptoSpec : ChangeSpec := { name := "runsUpto", fn := fun _ => fun
  | [d1, d2] => { results := [.lit (.bool true)], args := [d1, d2] }
  | _ => none }
def runsUptoRow : OpenClaim := { program := "ytfeocfcclmndoaa", sum := "9bc644d73c6cfe709a11fbd167d87e268f60872fcdd6faf1f5caa8de3f620c9d", func := "columbary/columbarylaw04.RunsUpto", spec := "runsUpto", unfollowed := true, recurses := true, apart := false }
def RunsUptoSaid : Prop := runsUptoRow.holds Try.pinned (OpenSpec.ofChange runsUptoSpec)

/-- ITS FALSE NEIGHBOUR: 'it returns false'. Refute it at one input. -/
def runsUptoWrong : ChangeSpec := { name := "runsUpto", fn := fun _ => fun
  | [d1, d2] => { results := [.lit (.bool false)], args := [d1, d2] }
  | _ => none }
def RunsUptoWrongFalsely : Prop := runsUptoRow.holds Try.pinned (OpenSpec.ofChange runsUptoWrong)

/-- 'columbarylaw04.RunsLaws': WHATEVER THE INPUT: true; the input reads as it did. -/
def runsLawsSpec : ChangeSpec := { name := "runsLaws", fn := fun _ => fun
  | [d1, d2, d3] => { results := [.lit (.bool true)], args := [d1, d2, d3] }
  | _ => none }
def runsLawsRow : OpenClaim := { program := "ytfeocfcclmndoaa", sum := "9bc644d73c6cfe709a11fbd167d87e268f60872fcdd6faf1f5caa8de3f620c9d", func := "columbary/columbarylaw04.RunsLaws", spec := "runsLaws", unfollowed := true, recurses := true, apart := false }
def RunsLawsSaid : Prop := runsLawsRow.holds Try.pinned (OpenSpec.ofChange runsLawsSpec)

/-- ITS FALSE NEIGHBOUR: 'it returns false'. Refute it at one input. -/
def runsLawsWrong : ChangeSpec := { name := "runsLaws", fn := fun _ => fun
  | [d1, d2, d3] => { results := [.lit (.bool false)], args := [d1, d2, d3] }
  | _ => none }
def RunsLawsWrongFalsely : Prop := runsLawsRow.holds Try.pinned (OpenSpec.ofChange runsLawsWrong)

/-- 'columbarylaw04.RunsTells': WHATEVER THE INPUT: true; the input reads as it did. -/
def runsTellsSpec : ChangeSpec := { name := "runsTells", fn := fun _ => fun
  | [d1, d2, d3] => { results := [.lit (.bool true)], args := [d1, d2, d3] }
  | _ => none }
def runsTellsRow : OpenClaim := { program := "ytfeocfcclmndoaa", sum := "9bc644d73c6cfe709a11fbd167d87e268f60872fcdd6faf1f5caa8de3f620c9d", func := "columbary/columbarylaw04.RunsTells", spec := "runsTells", unfollowed := true, recurses := true, apart := false }
def RunsTellsSaid : Prop := runsTellsRow.holds Try.pinned (OpenSpec.ofChange runsTellsSpec)

/-- ITS FALSE NEIGHBOUR: 'it returns false'. Refute it at one input. -/
def runsTellsWrong : ChangeSpec := { name := "runsTells", fn := fun _ => fun
  | [d1, d2, d3] => { results := [.lit (.bool false)], args := [d1, d2, d3] }
  | _ => none }
def RunsTellsWrongFalsely : Prop := runsTellsRow.holds Try.pinned (OpenSpec.ofChange runsTellsWrong)

/- THE SECOND FORM. 'bulk': how many values and letters a reading holds, each counted each time it is reached (what is shared counts as often as it is met; a slice's spare places count too). A statement '..UptoSaid' is the law's where the arguments, and the package variables that the reading takes, are together of bulk at most 1048576: NARROWER than '..Said'. Prove '..Said' where nothing that the law and all that it calls make is longer than what came in: it says more and counts as full. Else prove '..UptoSaid'. A law counts once. -/
mutual
def uptoBulk {H : Type} : DataW H → Nat
  | .lit (.string bytes) => bytes.length + 1
  | .lit _ => 1
  | .nil => 1
  | .ptr d => uptoBulk d + 1
  | .slice elems spare => uptoBulkAll elems + uptoBulkAll spare + 1
  | .agg parts => uptoBulkAll parts + 1
  | .iface _ d => uptoBulk d + 1
  | .map entries => uptoBulkEntries entries + 1
  | .held _ => 1
def uptoBulkAll {H : Type} : List (DataW H) → Nat
  | [] => 0
  | d :: r => uptoBulk d + uptoBulkAll r
def uptoBulkEntries {H : Type} : List (Lit × DataW H) → Nat
  | [] => 0
  | x :: r => uptoBulkEntry x + uptoBulkEntries r
def uptoBulkEntry {H : Type} : Lit × DataW H → Nat
  | (.string bytes, d) => bytes.length + uptoBulk d + 1
  | (_, d) => uptoBulk d + 1
 end
def uptoSmall : (H : Type) → List (DataW H) → Bool := fun _ ds => decide (uptoBulkAll ds ≤ 1048576)
def OpenSpec.upto (s : _root_.Go.ChangeSpec) : _root_.Go.OpenSpec := { _root_.Go.OpenSpec.ofChange s with cond := some uptoSmall }

/-- 'columbarylaw05.BitmapTells', WHERE WHAT IT READS IS OF BULK AT MOST 1048576: true; the input reads as it did. -/
def bitmapTellsUptoRow : OpenClaim := { program := "ytfeocfcclmndoaa", sum := "9bc644d73c6cfe709a11fbd167d87e268f60872fcdd6faf1f5caa8de3f620c9d", func := "columbary/columbarylaw05.BitmapTells", spec := "bitmapTells", unfollowed := true, recurses := true, apart := false, narrowed := true }
def BitmapTellsUptoSaid : Prop := bitmapTellsUptoRow.holds Try.pinned (OpenSpec.upto bitmapTellsSpec)

/-- 'columbarylaw05.BitmapWithin', WHERE WHAT IT READS IS OF BULK AT MOST 1048576: true; the input reads as it did. -/
def bitmapWithinUptoRow : OpenClaim := { program := "ytfeocfcclmndoaa", sum := "9bc644d73c6cfe709a11fbd167d87e268f60872fcdd6faf1f5caa8de3f620c9d", func := "columbary/columbarylaw05.BitmapWithin", spec := "bitmapWithin", unfollowed := true, recurses := true, apart := false, narrowed := true }
def BitmapWithinUptoSaid : Prop := bitmapWithinUptoRow.holds Try.pinned (OpenSpec.upto bitmapWithinSpec)

/-- 'columbarylaw04.RunsRank', WHERE WHAT IT READS IS OF BULK AT MOST 1048576: true; the input reads as it did. -/
def runsRankUptoRow : OpenClaim := { program := "ytfeocfcclmndoaa", sum := "9bc644d73c6cfe709a11fbd167d87e268f60872fcdd6faf1f5caa8de3f620c9d", func := "columbary/columbarylaw04.RunsRank", spec := "runsRank", unfollowed := true, recurses := true, apart := false, narrowed := true }
def RunsRankUptoSaid : Prop := runsRankUptoRow.holds Try.pinned (OpenSpec.upto runsRankSpec)

/-- 'columbarylaw04.RunsBoth', WHERE WHAT IT READS IS OF BULK AT MOST 1048576: true; the input reads as it did. -/
def runsBothUptoRow : OpenClaim := { program := "ytfeocfcclmndoaa", sum := "9bc644d73c6cfe709a11fbd167d87e268f60872fcdd6faf1f5caa8de3f620c9d", func := "columbary/columbarylaw04.RunsBoth", spec := "runsBoth", unfollowed := true, recurses := true, apart := false, narrowed := true }
def RunsBothUptoSaid : Prop := runsBothUptoRow.holds Try.pinned (OpenSpec.upto runsBothSpec)

/-- 'columbarylaw04.RunsOf', WHERE WHAT IT READS IS OF BULK AT MOST 1048576: true; the input reads as it did. -/
def runsOfUptoRow : OpenClaim := { program := "ytfeocfcclmndoaa", sum := "9bc644d73c6cfe709a11fbd167d87e268f60872fcdd6faf1f5caa8de3f620c9d", func := "columbary/columbarylaw04.RunsOf", spec := "runsOf", unfollowed := true, recurses := true, apart := false, narrowed := true }
def RunsOfUptoSaid : Prop := runsOfUptoRow.holds Try.pinned (OpenSpec.upto runsOfSpec)

/-- 'columbarylaw04.RunsList', WHERE WHAT IT READS IS OF BULK AT MOST 1048576: true; the input reads as it did. -/
def runsListUptoRow : OpenClaim := { program := "ytfeocfcclmndoaa", sum := "9bc644d73c6cfe709a11fbd167d87e268f60872fcdd6faf1f5caa8de3f620c9d", func := "columbary/columbarylaw04.RunsList", spec := "runsList", unfollowed := true, recurses := true, apart := false, narrowed := true }
def RunsListUptoSaid : Prop := runsListUptoRow.holds Try.pinned (OpenSpec.upto runsListSpec)

/-- 'columbarylaw04.RunsUpto', WHERE WHAT IT READS IS OF BULK AT MOST 1048576: true; the input reads as it did. -/
def runsUptoUptoRow : OpenClaim := { program := "ytfeocfcclmndoaa", sum := "9bc644d73c6cfe709a11fbd167d87e268f60872fcdd6faf1f5caa8de3f620c9d", func := "columbary/columbarylaw04.RunsUpto", spec := "runsUpto", unfollowed := true, recurses := true, apart := false, narrowed := true }
def RunsUptoUptoSaid : Prop := runsUptoUptoRow.holds Try.pinned (OpenSpec.upto runsUptoSpec)

/-- 'columbarylaw04.RunsLaws', WHERE WHAT IT READS IS OF BULK AT MOST 1048576: true; the input reads as it did. -/
def runsLawsUptoRow : OpenClaim := { program := "ytfeocfcclmndoaa", sum := "9bc644d73c6cfe709a11fbd167d87e268f60872fcdd6faf1f5caa8de3f620c9d", func := "columbary/columbarylaw04.RunsLaws", spec := "runsLaws", unfollowed := true, recurses := true, apart := false, narrowed := true }
def RunsLawsUptoSaid : Prop := runsLawsUptoRow.holds Try.pinned (OpenSpec.upto runsLawsSpec)

/-- 'columbarylaw04.RunsTells', WHERE WHAT IT READS IS OF BULK AT MOST 1048576: true; the input reads as it did. -/
def runsTellsUptoRow : OpenClaim := { program := "ytfeocfcclmndoaa", sum := "9bc644d73c6cfe709a11fbd167d87e268f60872fcdd6faf1f5caa8de3f620c9d", func := "columbary/columbarylaw04.RunsTells", spec := "runsTells", unfollowed := true, recurses := true, apart := false, narrowed := true }
def RunsTellsUptoSaid : Prop := runsTellsUptoRow.holds Try.pinned (OpenSpec.upto runsTellsSpec)

end Rows
end Go.Proofs.Ytfeocfcclmndoaa
