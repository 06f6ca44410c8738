/-
  No cell of these rows narrows 'for every input' (looked for: loops, veiled, ifaces, maps, wideKeys, modest, calm, conditions, laid).
  DERIVED. THE GIVEN ROWS OF THIS SEAT. 8 by the template 'for every input the law returns true; each argument reads behind the call as it read before'; 0 by the template 'total and deterministic' (their statements: YthihbgpaoldbjaaTotals.lean).
  GIVEN WITH THE SEED: the statements are not yours to turn. If you find one false, say at which input.
  Laid BY PROGRAM, IN A SANDBOX (cutbox-rows.mjs): the forced cells as the released guide's own fill.sh prints them over the translation 7f1595aff240eaf1… (all of the seat's roots in one cut). By AI agents, Wed Nov 11 2026. No macro, syntax, notation, axiom, sorry.
-/
import Derived.Test.YthihbgpaoldbjaaChecked
import GoSem.Claim
import GoSem.ClaimJoined
import GoSem.ClaimMapViews
import Derived.JoinedTies
import Derived.KernelRfl
namespace Go.Proofs.Ythihbgpaoldbjaa
/- THE CELL 'sum', in the pinned program and in every row, IS THE sha256 OF THE DUMP (.gsa) THAT YthihbgpaoldbjaaProg.lean LOADS. Nothing in Lean hashes anything: it is a label: what it is worth is what the hold of that sum in a sandbox is worth. -/
noncomputable def Try.pinned : Pinned := { name := "ythihbgpaoldbjaa", sum := "7f1595aff240eaf16bb131f8483c13e406923091b8f59f2e1e93b77990d99740", checked := Try.checked }
namespace Rows
def none {H : Type} : Left H := { results := [], args := [] }

/-- 'columbarylaw14.CuboidSame': WHATEVER THE INPUT: true; the input reads as it did. -/
def cuboidSameSpec : ChangeSpec := { name := "cuboidSame", fn := fun _ => fun
  | [d1, d2, d3] => { results := [.lit (.bool true)], args := [d1, d2, d3] }
  | _ => none }
def cuboidSameRow : OpenClaim := { program := "ythihbgpaoldbjaa", sum := "7f1595aff240eaf16bb131f8483c13e406923091b8f59f2e1e93b77990d99740", func := "columbary/columbarylaw14.CuboidSame", spec := "cuboidSame", unfollowed := true, recurses := true, apart := false }
def CuboidSameSaid : Prop := cuboidSameRow.holds Try.pinned (OpenSpec.ofChange cuboidSameSpec)

/-- ITS FALSE NEIGHBOUR: 'it returns false'. Refute it at one input. -/
def cuboidSameWrong : ChangeSpec := { name := "cuboidSame", fn := fun _ => fun
  | [d1, d2, d3] => { results := [.lit (.bool false)], args := [d1, d2, d3] }
  | _ => none }
def CuboidSameWrongFalsely : Prop := cuboidSameRow.holds Try.pinned (OpenSpec.ofChange cuboidSameWrong)

/-- 'columbarylaw14.CuboidParts': WHATEVER THE INPUT: true; the input reads as it did. -/
def cuboidPartsSpec : ChangeSpec := { name := "cuboidParts", fn := fun _ => fun
  | [d1, d2, d3] => { results := [.lit (.bool true)], args := [d1, d2, d3] }
  | _ => none }
def cuboidPartsRow : OpenClaim := { program := "ythihbgpaoldbjaa", sum := "7f1595aff240eaf16bb131f8483c13e406923091b8f59f2e1e93b77990d99740", func := "columbary/columbarylaw14.CuboidParts", spec := "cuboidParts", unfollowed := true, recurses := true, apart := false }
def CuboidPartsSaid : Prop := cuboidPartsRow.holds Try.pinned (OpenSpec.ofChange cuboidPartsSpec)

/-- ITS FALSE NEIGHBOUR: 'it returns false'. Refute it at one input. -/
def cuboidPartsWrong : ChangeSpec := { name := "cuboidParts", fn := fun _ => fun
  | [d1, d2, d3] => { results := [.lit (.bool false)], args := [d1, d2, d3] }
  | _ => none }
def CuboidPartsWrongFalsely : Prop := cuboidPartsRow.holds Try.pinned (OpenSpec.ofChange cuboidPartsWrong)

/-- 'columbarylaw14.CuboidTells': WHATEVER THE INPUT: true; the input reads as it did. -/
def cuboidTellsSpec : ChangeSpec := { name := "cuboidTells", fn := fun _ => fun
  | [d1, d2, d3] => { results := [.lit (.bool true)], args := [d1, d2, d3] }
  | _ => none }
def cuboidTellsRow : OpenClaim := { program := "ythihbgpaoldbjaa", sum := "7f1595aff240eaf16bb131f8483c13e406923091b8f59f2e1e93b77990d99740", func := "columbary/columbarylaw14.CuboidTells", spec := "cuboidTells", unfollowed := true, recurses := true, apart := false }
def CuboidTellsSaid : Prop := cuboidTellsRow.holds Try.pinned (OpenSpec.ofChange cuboidTellsSpec)

/-- ITS FALSE NEIGHBOUR: 'it returns false'. Refute it at one input. -/
def cuboidTellsWrong : ChangeSpec := { name := "cuboidTells", fn := fun _ => fun
  | [d1, d2, d3] => { results := [.lit (.bool false)], args := [d1, d2, d3] }
  | _ => none }
def CuboidTellsWrongFalsely : Prop := cuboidTellsRow.holds Try.pinned (OpenSpec.ofChange cuboidTellsWrong)

/-- 'columbarylaw13.RowsTells': WHATEVER THE INPUT: true; the input reads as it did. -/
def rowsTellsSpec : ChangeSpec := { name := "rowsTells", fn := fun _ => fun
  | [d1, d2, d3] => { results := [.lit (.bool true)], args := [d1, d2, d3] }
  | _ => none }
def rowsTellsRow : OpenClaim := { program := "ythihbgpaoldbjaa", sum := "7f1595aff240eaf16bb131f8483c13e406923091b8f59f2e1e93b77990d99740", func := "columbary/columbarylaw13.RowsTells", spec := "rowsTells", inPlace := ["internal/bytealg.IndexByteString", "internal/bytealg.IndexString"], unfollowed := true, recurses := true, named := ["internal/bytealg.MaxLen"], apart := false }
def RowsTellsSaid : Prop := rowsTellsRow.holds Try.pinned (OpenSpec.ofChange rowsTellsSpec)

/-- ITS FALSE NEIGHBOUR: 'it returns false'. Refute it at one input. -/
def rowsTellsWrong : ChangeSpec := { name := "rowsTells", fn := fun _ => fun
  | [d1, d2, d3] => { results := [.lit (.bool false)], args := [d1, d2, d3] }
  | _ => none }
def RowsTellsWrongFalsely : Prop := rowsTellsRow.holds Try.pinned (OpenSpec.ofChange rowsTellsWrong)

/-- 'columbarylaw13.RowsFold': WHATEVER THE INPUT: true; the input reads as it did. -/
def rowsFoldSpec : ChangeSpec := { name := "rowsFold", fn := fun _ => fun
  | [d1, d2] => { results := [.lit (.bool true)], args := [d1, d2] }
  | _ => none }
def rowsFoldRow : OpenClaim := { program := "ythihbgpaoldbjaa", sum := "7f1595aff240eaf16bb131f8483c13e406923091b8f59f2e1e93b77990d99740", func := "columbary/columbarylaw13.RowsFold", spec := "rowsFold", inPlace := ["internal/bytealg.IndexByteString", "internal/bytealg.IndexString"], unfollowed := true, recurses := true, named := ["internal/bytealg.MaxLen"], apart := false }
def RowsFoldSaid : Prop := rowsFoldRow.holds Try.pinned (OpenSpec.ofChange rowsFoldSpec)

/-- ITS FALSE NEIGHBOUR: 'it returns false'. Refute it at one input. -/
def rowsFoldWrong : ChangeSpec := { name := "rowsFold", fn := fun _ => fun
  | [d1, d2] => { results := [.lit (.bool false)], args := [d1, d2] }
  | _ => none }
def RowsFoldWrongFalsely : Prop := rowsFoldRow.holds Try.pinned (OpenSpec.ofChange rowsFoldWrong)

/-- 'columbarylaw13.RowsOrder': WHATEVER THE INPUT: true; the input reads as it did. -/
def rowsOrderSpec : ChangeSpec := { name := "rowsOrder", fn := fun _ => fun
  | [d1, d2] => { results := [.lit (.bool true)], args := [d1, d2] }
  | _ => none }
def rowsOrderRow : OpenClaim := { program := "ythihbgpaoldbjaa", sum := "7f1595aff240eaf16bb131f8483c13e406923091b8f59f2e1e93b77990d99740", func := "columbary/columbarylaw13.RowsOrder", spec := "rowsOrder", inPlace := ["internal/bytealg.IndexByteString", "internal/bytealg.IndexString"], unfollowed := true, recurses := true, named := ["internal/bytealg.MaxLen"], apart := false }
def RowsOrderSaid : Prop := rowsOrderRow.holds Try.pinned (OpenSpec.ofChange rowsOrderSpec)

/-- ITS FALSE NEIGHBOUR: 'it returns false'. Refute it at one input. -/
def rowsOrderWrong : ChangeSpec := { name := "rowsOrder", fn := fun _ => fun
  | [d1, d2] => { results := [.lit (.bool false)], args := [d1, d2] }
  | _ => none }
def RowsOrderWrongFalsely : Prop := rowsOrderRow.holds Try.pinned (OpenSpec.ofChange rowsOrderWrong)

/-- 'columbarylaw13.RowsBoth': WHATEVER THE INPUT: true; the input reads as it did. -/
def rowsBothSpec : ChangeSpec := { name := "rowsBoth", fn := fun _ => fun
  | [d1, d2] => { results := [.lit (.bool true)], args := [d1, d2] }
  | _ => none }
def rowsBothRow : OpenClaim := { program := "ythihbgpaoldbjaa", sum := "7f1595aff240eaf16bb131f8483c13e406923091b8f59f2e1e93b77990d99740", func := "columbary/columbarylaw13.RowsBoth", spec := "rowsBoth", inPlace := ["internal/bytealg.IndexByteString", "internal/bytealg.IndexString"], unfollowed := true, recurses := true, named := ["internal/bytealg.MaxLen"], apart := false }
def RowsBothSaid : Prop := rowsBothRow.holds Try.pinned (OpenSpec.ofChange rowsBothSpec)

/-- ITS FALSE NEIGHBOUR: 'it returns false'. Refute it at one input. -/
def rowsBothWrong : ChangeSpec := { name := "rowsBoth", fn := fun _ => fun
  | [d1, d2] => { results := [.lit (.bool false)], args := [d1, d2] }
  | _ => none }
def RowsBothWrongFalsely : Prop := rowsBothRow.holds Try.pinned (OpenSpec.ofChange rowsBothWrong)

/-- 'columbarylaw13.RowsOwn': WHATEVER THE INPUT: true; the input reads as it did. -/
def rowsOwnSpec : ChangeSpec := { name := "rowsOwn", fn := fun _ => fun
  | [d1, d2] => { results := [.lit (.bool true)], args := [d1, d2] }
  | _ => none }
def rowsOwnRow : OpenClaim := { program := "ythihbgpaoldbjaa", sum := "7f1595aff240eaf16bb131f8483c13e406923091b8f59f2e1e93b77990d99740", func := "columbary/columbarylaw13.RowsOwn", spec := "rowsOwn", inPlace := ["internal/bytealg.IndexByteString", "internal/bytealg.IndexString"], unfollowed := true, recurses := true, named := ["internal/bytealg.MaxLen"], apart := false }
def RowsOwnSaid : Prop := rowsOwnRow.holds Try.pinned (OpenSpec.ofChange rowsOwnSpec)

/-- ITS FALSE NEIGHBOUR: 'it returns false'. Refute it at one input. -/
def rowsOwnWrong : ChangeSpec := { name := "rowsOwn", fn := fun _ => fun
  | [d1, d2] => { results := [.lit (.bool false)], args := [d1, d2] }
  | _ => none }
def RowsOwnWrongFalsely : Prop := rowsOwnRow.holds Try.pinned (OpenSpec.ofChange rowsOwnWrong)

/- THE SECOND FORM. 'bulk': how many values and letters a reading holds, each counted each time it is reached (what is shared counts as often as it is met; a slice's spare places count too). A statement '..UptoSaid' is the law's where the arguments, and the package variables that the reading takes, are together of bulk at most 1048576: NARROWER than '..Said'. Prove '..Said' where nothing that the law and all that it calls make is longer than what came in: it says more and counts as full. Else prove '..UptoSaid'. A law counts once. -/
mutual
def uptoBulk {H : Type} : DataW H → Nat
  | .lit (.string bytes) => bytes.length + 1
  | .lit _ => 1
  | .nil => 1
  | .ptr d => uptoBulk d + 1
  | .slice elems spare => uptoBulkAll elems + uptoBulkAll spare + 1
  | .agg parts => uptoBulkAll parts + 1
  | .iface _ d => uptoBulk d + 1
  | .map entries => uptoBulkEntries entries + 1
  | .held _ => 1
def uptoBulkAll {H : Type} : List (DataW H) → Nat
  | [] => 0
  | d :: r => uptoBulk d + uptoBulkAll r
def uptoBulkEntries {H : Type} : List (Lit × DataW H) → Nat
  | [] => 0
  | x :: r => uptoBulkEntry x + uptoBulkEntries r
def uptoBulkEntry {H : Type} : Lit × DataW H → Nat
  | (.string bytes, d) => bytes.length + uptoBulk d + 1
  | (_, d) => uptoBulk d + 1
 end
def uptoSmall : (H : Type) → List (DataW H) → Bool := fun _ ds => decide (uptoBulkAll ds ≤ 1048576)
def OpenSpec.upto (s : _root_.Go.ChangeSpec) : _root_.Go.OpenSpec := { _root_.Go.OpenSpec.ofChange s with cond := some uptoSmall }

/-- 'columbarylaw14.CuboidSame', WHERE WHAT IT READS IS OF BULK AT MOST 1048576: true; the input reads as it did. -/
def cuboidSameUptoRow : OpenClaim := { program := "ythihbgpaoldbjaa", sum := "7f1595aff240eaf16bb131f8483c13e406923091b8f59f2e1e93b77990d99740", func := "columbary/columbarylaw14.CuboidSame", spec := "cuboidSame", unfollowed := true, recurses := true, apart := false, narrowed := true }
def CuboidSameUptoSaid : Prop := cuboidSameUptoRow.holds Try.pinned (OpenSpec.upto cuboidSameSpec)

/-- 'columbarylaw14.CuboidParts', WHERE WHAT IT READS IS OF BULK AT MOST 1048576: true; the input reads as it did. -/
def cuboidPartsUptoRow : OpenClaim := { program := "ythihbgpaoldbjaa", sum := "7f1595aff240eaf16bb131f8483c13e406923091b8f59f2e1e93b77990d99740", func := "columbary/columbarylaw14.CuboidParts", spec := "cuboidParts", unfollowed := true, recurses := true, apart := false, narrowed := true }
def CuboidPartsUptoSaid : Prop := cuboidPartsUptoRow.holds Try.pinned (OpenSpec.upto cuboidPartsSpec)

/-- 'columbarylaw14.CuboidTells', WHERE WHAT IT READS IS OF BULK AT MOST 1048576: true; the input reads as it did. -/
def cuboidTellsUptoRow : OpenClaim := { program := "ythihbgpaoldbjaa", sum := "7f1595aff240eaf16bb131f8483c13e406923091b8f59f2e1e93b77990d99740", func := "columbary/columbarylaw14.CuboidTells", spec := "cuboidTells", unfollowed := true, recurses := true, apart := false, narrowed := true }
def CuboidTellsUptoSaid : Prop := cuboidTellsUptoRow.holds Try.pinned (OpenSpec.upto cuboidTellsSpec)

/-- 'columbarylaw13.RowsTells', WHERE WHAT IT READS IS OF BULK AT MOST 1048576: true; the input reads as it did. -/
def rowsTellsUptoRow : OpenClaim := { program := "ythihbgpaoldbjaa", sum := "7f1595aff240eaf16bb131f8483c13e406923091b8f59f2e1e93b77990d99740", func := "columbary/columbarylaw13.RowsTells", spec := "rowsTells", inPlace := ["internal/bytealg.IndexByteString", "internal/bytealg.IndexString"], unfollowed := true, recurses := true, named := ["internal/bytealg.MaxLen"], apart := false, narrowed := true }
def RowsTellsUptoSaid : Prop := rowsTellsUptoRow.holds Try.pinned (OpenSpec.upto rowsTellsSpec)

/-- 'columbarylaw13.RowsFold', WHERE WHAT IT READS IS OF BULK AT MOST 1048576: true; the input reads as it did. -/
def rowsFoldUptoRow : OpenClaim := { program := "ythihbgpaoldbjaa", sum := "7f1595aff240eaf16bb131f8483c13e406923091b8f59f2e1e93b77990d99740", func := "columbary/columbarylaw13.RowsFold", spec := "rowsFold", inPlace := ["internal/bytealg.IndexByteString", "internal/bytealg.IndexString"], unfollowed := true, recurses := true, named := ["internal/bytealg.MaxLen"], apart := false, narrowed := true }
def RowsFoldUptoSaid : Prop := rowsFoldUptoRow.holds Try.pinned (OpenSpec.upto rowsFoldSpec)

/-- 'columbarylaw13.RowsOrder', WHERE WHAT IT READS IS OF BULK AT MOST 1048576: true; the input reads as it did. -/
def rowsOrderUptoRow : OpenClaim := { program := "ythihbgpaoldbjaa", sum := "7f1595aff240eaf16bb131f8483c13e406923091b8f59f2e1e93b77990d99740", func := "columbary/columbarylaw13.RowsOrder", spec := "rowsOrder", inPlace := ["internal/bytealg.IndexByteString", "internal/bytealg.IndexString"], unfollowed := true, recurses := true, named := ["internal/bytealg.MaxLen"], apart := false, narrowed := true }
def RowsOrderUptoSaid : Prop := rowsOrderUptoRow.holds Try.pinned (OpenSpec.upto rowsOrderSpec)

/-- 'columbarylaw13.RowsBoth', WHERE WHAT IT READS IS OF BULK AT MOST 1048576: true; the input reads as it did. -/
def rowsBothUptoRow : OpenClaim := { program := "ythihbgpaoldbjaa", sum := "7f1595aff240eaf16bb131f8483c13e406923091b8f59f2e1e93b77990d99740", func := "columbary/columbarylaw13.RowsBoth", spec := "rowsBoth", inPlace := ["internal/bytealg.IndexByteString", "internal/bytealg.IndexString"], unfollowed := true, recurses := true, named := ["internal/bytealg.MaxLen"], apart := false, narrowed := true }
def RowsBothUptoSaid : Prop := rowsBothUptoRow.holds Try.pinned (OpenSpec.upto rowsBothSpec)

/-- 'columbarylaw13.RowsOwn', WHERE WHAT IT READS IS OF BULK AT MOST 1048576: true; the input reads as it did. -/
def rowsOwnUptoRow : OpenClaim := { program := "ythihbgpaoldbjaa", sum := "7f1595aff240eaf16bb131f8483c13e406923091b8f59f2e1e93b77990d99740", func := "columbary/columbarylaw13.RowsOwn", spec := "rowsOwn", inPlace := ["internal/bytealg.IndexByteString", "internal/bytealg.IndexString"], unfollowed := true, recurses := true, named := ["internal/bytealg.MaxLen"], apart := false, narrowed := true }
def RowsOwnUptoSaid : Prop := rowsOwnUptoRow.holds Try.pinned (OpenSpec.upto rowsOwnSpec)

end Rows
end Go.Proofs.Ythihbgpaoldbjaa
