/-
  NARROWER THAN 'FOR EVERY INPUT', by the rows' own cells (each row's printed sentence says how): SelectorTells: loops · SelectorAll: loops · SelectorLeast: loops · GroupParts: loops · TyperUsed: loops · TyperFilter: loops.
  DERIVED. THE GIVEN ROWS OF THIS SEAT. 7 by the template 'for every input the law returns true; each argument reads behind the call as it read before'; 0 by the template 'total and deterministic' (their statements: YtnofalhkapmcnaaTotals.lean).
  GIVEN WITH THE SEED: the statements are not yours to turn. If you find one false, say at which input.
  Laid BY PROGRAM, IN A SANDBOX (cutbox-rows.mjs): the forced cells as the released guide's own fill.sh prints them over the translation 765be625f55df23e… (all of the seat's roots in one cut). By AI agents, Wed Nov 11 2026. No macro, syntax, notation, axiom, sorry.
-/
import Derived.Test.YtnofalhkapmcnaaChecked
import GoSem.Claim
import GoSem.ClaimJoined
import GoSem.ClaimMapViews
import Derived.JoinedTies
import Derived.KernelRfl
namespace Go.Proofs.Ytnofalhkapmcnaa
/- THE CELL 'sum', in the pinned program and in every row, IS THE sha256 OF THE DUMP (.gsa) THAT YtnofalhkapmcnaaProg.lean LOADS. Nothing in Lean hashes anything: it is a label: what it is worth is what the hold of that sum in a sandbox is worth. -/
noncomputable def Try.pinned : Pinned := { name := "ytnofalhkapmcnaa", sum := "765be625f55df23ef664c048c0686c0afe49e9d0bac91e3e1ddd43881236d436", checked := Try.checked }
namespace Rows
def none {H : Type} : Left H := { results := [], args := [] }

/-- 'columbarylaw26.SelectorTells': WHATEVER THE INPUT: true; the input reads as it did. -/
def selectorTellsSpec : ChangeSpec := { name := "selectorTells", fn := fun _ => fun
  | [d1, d2] => { results := [.lit (.bool true)], args := [d1, d2] }
  | _ => none }
def selectorTellsRow : OpenClaim := { program := "ytnofalhkapmcnaa", sum := "765be625f55df23ef664c048c0686c0afe49e9d0bac91e3e1ddd43881236d436", func := "columbary/columbarylaw26.SelectorTells", spec := "selectorTells", unfollowed := true, recurses := true, loops := true, apart := false }
def SelectorTellsSaid : Prop := selectorTellsRow.holds Try.pinned (OpenSpec.ofChange selectorTellsSpec)

/-- ITS FALSE NEIGHBOUR: 'it returns false'. Refute it at one input. -/
def selectorTellsWrong : ChangeSpec := { name := "selectorTells", fn := fun _ => fun
  | [d1, d2] => { results := [.lit (.bool false)], args := [d1, d2] }
  | _ => none }
def SelectorTellsWrongFalsely : Prop := selectorTellsRow.holds Try.pinned (OpenSpec.ofChange selectorTellsWrong)

/-- 'columbarylaw26.SelectorAll': WHATEVER THE INPUT: true; the input reads as it did. -/
def selectorAllSpec : ChangeSpec := { name := "selectorAll", fn := fun _ => fun
  | [d1, d2] => { results := [.lit (.bool true)], args := [d1, d2] }
  | _ => none }
def selectorAllRow : OpenClaim := { program := "ytnofalhkapmcnaa", sum := "765be625f55df23ef664c048c0686c0afe49e9d0bac91e3e1ddd43881236d436", func := "columbary/columbarylaw26.SelectorAll", spec := "selectorAll", unfollowed := true, recurses := true, loops := true, apart := false }
def SelectorAllSaid : Prop := selectorAllRow.holds Try.pinned (OpenSpec.ofChange selectorAllSpec)

/-- ITS FALSE NEIGHBOUR: 'it returns false'. Refute it at one input. -/
def selectorAllWrong : ChangeSpec := { name := "selectorAll", fn := fun _ => fun
  | [d1, d2] => { results := [.lit (.bool false)], args := [d1, d2] }
  | _ => none }
def SelectorAllWrongFalsely : Prop := selectorAllRow.holds Try.pinned (OpenSpec.ofChange selectorAllWrong)

/-- 'columbarylaw26.SelectorLeast': WHATEVER THE INPUT: true; the input reads as it did. -/
def selectorLeastSpec : ChangeSpec := { name := "selectorLeast", fn := fun _ => fun
  | [d1, d2] => { results := [.lit (.bool true)], args := [d1, d2] }
  | _ => none }
def selectorLeastRow : OpenClaim := { program := "ytnofalhkapmcnaa", sum := "765be625f55df23ef664c048c0686c0afe49e9d0bac91e3e1ddd43881236d436", func := "columbary/columbarylaw26.SelectorLeast", spec := "selectorLeast", unfollowed := true, recurses := true, loops := true, apart := false }
def SelectorLeastSaid : Prop := selectorLeastRow.holds Try.pinned (OpenSpec.ofChange selectorLeastSpec)

/-- ITS FALSE NEIGHBOUR: 'it returns false'. Refute it at one input. -/
def selectorLeastWrong : ChangeSpec := { name := "selectorLeast", fn := fun _ => fun
  | [d1, d2] => { results := [.lit (.bool false)], args := [d1, d2] }
  | _ => none }
def SelectorLeastWrongFalsely : Prop := selectorLeastRow.holds Try.pinned (OpenSpec.ofChange selectorLeastWrong)

/-- 'columbarylaw26.SelectorWitness': WHATEVER THE INPUT: true; the input reads as it did. -/
def selectorWitnessSpec : ChangeSpec := { name := "selectorWitness", fn := fun _ => fun
  | [d1, d2, d3] => { results := [.lit (.bool true)], args := [d1, d2, d3] }
  | _ => none }
def selectorWitnessRow : OpenClaim := { program := "ytnofalhkapmcnaa", sum := "765be625f55df23ef664c048c0686c0afe49e9d0bac91e3e1ddd43881236d436", func := "columbary/columbarylaw26.SelectorWitness", spec := "selectorWitness", unfollowed := true, recurses := true, apart := false }
def SelectorWitnessSaid : Prop := selectorWitnessRow.holds Try.pinned (OpenSpec.ofChange selectorWitnessSpec)

/-- ITS FALSE NEIGHBOUR: 'it returns false'. Refute it at one input. -/
def selectorWitnessWrong : ChangeSpec := { name := "selectorWitness", fn := fun _ => fun
  | [d1, d2, d3] => { results := [.lit (.bool false)], args := [d1, d2, d3] }
  | _ => none }
def SelectorWitnessWrongFalsely : Prop := selectorWitnessRow.holds Try.pinned (OpenSpec.ofChange selectorWitnessWrong)

/-- 'columbarylaw25.GroupParts': WHATEVER THE INPUT: true; the input reads as it did. -/
def groupPartsSpec : ChangeSpec := { name := "groupParts", fn := fun _ => fun
  | [d1, d2, d3] => { results := [.lit (.bool true)], args := [d1, d2, d3] }
  | _ => none }
def groupPartsRow : OpenClaim := { program := "ytnofalhkapmcnaa", sum := "765be625f55df23ef664c048c0686c0afe49e9d0bac91e3e1ddd43881236d436", func := "columbary/columbarylaw25.GroupParts", spec := "groupParts", unfollowed := true, recurses := true, loops := true, apart := false }
def GroupPartsSaid : Prop := groupPartsRow.holds Try.pinned (OpenSpec.ofChange groupPartsSpec)

/-- ITS FALSE NEIGHBOUR: 'it returns false'. Refute it at one input. -/
def groupPartsWrong : ChangeSpec := { name := "groupParts", fn := fun _ => fun
  | [d1, d2, d3] => { results := [.lit (.bool false)], args := [d1, d2, d3] }
  | _ => none }
def GroupPartsWrongFalsely : Prop := groupPartsRow.holds Try.pinned (OpenSpec.ofChange groupPartsWrong)

/-- 'columbarylaw23.TyperUsed': WHATEVER THE INPUT: true; the input reads as it did. -/
def typerUsedSpec : ChangeSpec := { name := "typerUsed", fn := fun _ => fun
  | [d1, d2, d3] => { results := [.lit (.bool true)], args := [d1, d2, d3] }
  | _ => none }
def typerUsedRow : OpenClaim := { program := "ytnofalhkapmcnaa", sum := "765be625f55df23ef664c048c0686c0afe49e9d0bac91e3e1ddd43881236d436", func := "columbary/columbarylaw23.TyperUsed", spec := "typerUsed", inPlace := ["internal/bytealg.IndexByteString", "internal/bytealg.IndexString"], unfollowed := true, recurses := true, named := ["internal/bytealg.MaxLen"], loops := true, apart := false }
def TyperUsedSaid : Prop := typerUsedRow.holds Try.pinned (OpenSpec.ofChange typerUsedSpec)

/-- ITS FALSE NEIGHBOUR: 'it returns false'. Refute it at one input. -/
def typerUsedWrong : ChangeSpec := { name := "typerUsed", fn := fun _ => fun
  | [d1, d2, d3] => { results := [.lit (.bool false)], args := [d1, d2, d3] }
  | _ => none }
def TyperUsedWrongFalsely : Prop := typerUsedRow.holds Try.pinned (OpenSpec.ofChange typerUsedWrong)

/-- 'columbarylaw23.TyperFilter': WHATEVER THE INPUT: true; the input reads as it did. -/
def typerFilterSpec : ChangeSpec := { name := "typerFilter", fn := fun _ => fun
  | [d1, d2] => { results := [.lit (.bool true)], args := [d1, d2] }
  | _ => none }
def typerFilterRow : OpenClaim := { program := "ytnofalhkapmcnaa", sum := "765be625f55df23ef664c048c0686c0afe49e9d0bac91e3e1ddd43881236d436", func := "columbary/columbarylaw23.TyperFilter", spec := "typerFilter", inPlace := ["internal/bytealg.IndexByteString", "internal/bytealg.IndexString"], unfollowed := true, recurses := true, named := ["internal/bytealg.MaxLen"], loops := true, apart := false }
def TyperFilterSaid : Prop := typerFilterRow.holds Try.pinned (OpenSpec.ofChange typerFilterSpec)

/-- ITS FALSE NEIGHBOUR: 'it returns false'. Refute it at one input. -/
def typerFilterWrong : ChangeSpec := { name := "typerFilter", fn := fun _ => fun
  | [d1, d2] => { results := [.lit (.bool false)], args := [d1, d2] }
  | _ => none }
def TyperFilterWrongFalsely : Prop := typerFilterRow.holds Try.pinned (OpenSpec.ofChange typerFilterWrong)

/- THE SECOND FORM. 'bulk': how many values and letters a reading holds, each counted each time it is reached (what is shared counts as often as it is met; a slice's spare places count too). A statement '..UptoSaid' is the law's where the arguments, and the package variables that the reading takes, are together of bulk at most 1048576: NARROWER than '..Said'. Prove '..Said' where nothing that the law and all that it calls make is longer than what came in: it says more and counts as full. Else prove '..UptoSaid'. A law counts once. -/
mutual
def uptoBulk {H : Type} : DataW H → Nat
  | .lit (.string bytes) => bytes.length + 1
  | .lit _ => 1
  | .nil => 1
  | .ptr d => uptoBulk d + 1
  | .slice elems spare => uptoBulkAll elems + uptoBulkAll spare + 1
  | .agg parts => uptoBulkAll parts + 1
  | .iface _ d => uptoBulk d + 1
  | .map entries => uptoBulkEntries entries + 1
  | .held _ => 1
def uptoBulkAll {H : Type} : List (DataW H) → Nat
  | [] => 0
  | d :: r => uptoBulk d + uptoBulkAll r
def uptoBulkEntries {H : Type} : List (Lit × DataW H) → Nat
  | [] => 0
  | x :: r => uptoBulkEntry x + uptoBulkEntries r
def uptoBulkEntry {H : Type} : Lit × DataW H → Nat
  | (.string bytes, d) => bytes.length + uptoBulk d + 1
  | (_, d) => uptoBulk d + 1
 end
def uptoSmall : (H : Type) → List (DataW H) → Bool := fun _ ds => decide (uptoBulkAll ds ≤ 1048576)
def OpenSpec.upto (s : _root_.Go.ChangeSpec) : _root_.Go.OpenSpec := { _root_.Go.OpenSpec.ofChange s with cond := some uptoSmall }

/-- 'columbarylaw26.SelectorTells', WHERE WHAT IT READS IS OF BULK AT MOST 1048576: true; the input reads as it did. -/
def selectorTellsUptoRow : OpenClaim := { program := "ytnofalhkapmcnaa", sum := "765be625f55df23ef664c048c0686c0afe49e9d0bac91e3e1ddd43881236d436", func := "columbary/columbarylaw26.SelectorTells", spec := "selectorTells", unfollowed := true, recurses := true, loops := true, apart := false, narrowed := true }
def SelectorTellsUptoSaid : Prop := selectorTellsUptoRow.holds Try.pinned (OpenSpec.upto selectorTellsSpec)

/-- 'columbarylaw26.SelectorAll', WHERE WHAT IT READS IS OF BULK AT MOST 1048576: true; the input reads as it did. -/
def selectorAllUptoRow : OpenClaim := { program := "ytnofalhkapmcnaa", sum := "765be625f55df23ef664c048c0686c0afe49e9d0bac91e3e1ddd43881236d436", func := "columbary/columbarylaw26.SelectorAll", spec := "selectorAll", unfollowed := true, recurses := true, loops := true, apart := false, narrowed := true }
def SelectorAllUptoSaid : Prop := selectorAllUptoRow.holds Try.pinned (OpenSpec.upto selectorAllSpec)

/-- 'columbarylaw26.SelectorLeast', WHERE WHAT IT READS IS OF BULK AT MOST 1048576: true; the input reads as it did. -/
def selectorLeastUptoRow : OpenClaim := { program := "ytnofalhkapmcnaa", sum := "765be625f55df23ef664c048c0686c0afe49e9d0bac91e3e1ddd43881236d436", func := "columbary/columbarylaw26.SelectorLeast", spec := "selectorLeast", unfollowed := true, recurses := true, loops := true, apart := false, narrowed := true }
def SelectorLeastUptoSaid : Prop := selectorLeastUptoRow.holds Try.pinned (OpenSpec.upto selectorLeastSpec)

/-- 'columbarylaw26.SelectorWitness', WHERE WHAT IT READS IS OF BULK AT MOST 1048576: true; the input reads as it did. -/
def selectorWitnessUptoRow : OpenClaim := { program := "ytnofalhkapmcnaa", sum := "765be625f55df23ef664c048c0686c0afe49e9d0bac91e3e1ddd43881236d436", func := "columbary/columbarylaw26.SelectorWitness", spec := "selectorWitness", unfollowed := true, recurses := true, apart := false, narrowed := true }
def SelectorWitnessUptoSaid : Prop := selectorWitnessUptoRow.holds Try.pinned (OpenSpec.upto selectorWitnessSpec)

/-- 'columbarylaw25.GroupParts', WHERE WHAT IT READS IS OF BULK AT MOST 1048576: true; the input reads as it did. -/
def groupPartsUptoRow : OpenClaim := { program := "ytnofalhkapmcnaa", sum := "765be625f55df23ef664c048c0686c0afe49e9d0bac91e3e1ddd43881236d436", func := "columbary/columbarylaw25.GroupParts", spec := "groupParts", unfollowed := true, recurses := true, loops := true, apart := false, narrowed := true }
def GroupPartsUptoSaid : Prop := groupPartsUptoRow.holds Try.pinned (OpenSpec.upto groupPartsSpec)

/-- 'columbarylaw23.TyperUsed', WHERE WHAT IT READS IS OF BULK AT MOST 1048576: true; the input reads as it did. -/
def typerUsedUptoRow : OpenClaim := { program := "ytnofalhkapmcnaa", sum := "765be625f55df23ef664c048c0686c0afe49e9d0bac91e3e1ddd43881236d436", func := "columbary/columbarylaw23.TyperUsed", spec := "typerUsed", inPlace := ["internal/bytealg.IndexByteString", "internal/bytealg.IndexString"], unfollowed := true, recurses := true, named := ["internal/bytealg.MaxLen"], loops := true, apart := false, narrowed := true }
def TyperUsedUptoSaid : Prop := typerUsedUptoRow.holds Try.pinned (OpenSpec.upto typerUsedSpec)

/-- 'columbarylaw23.TyperFilter', WHERE WHAT IT READS IS OF BULK AT MOST 1048576: true; the input reads as it did. -/
def typerFilterUptoRow : OpenClaim := { program := "ytnofalhkapmcnaa", sum := "765be625f55df23ef664c048c0686c0afe49e9d0bac91e3e1ddd43881236d436", func := "columbary/columbarylaw23.TyperFilter", spec := "typerFilter", inPlace := ["internal/bytealg.IndexByteString", "internal/bytealg.IndexString"], unfollowed := true, recurses := true, named := ["internal/bytealg.MaxLen"], loops := true, apart := false, narrowed := true }
def TyperFilterUptoSaid : Prop := typerFilterUptoRow.holds Try.pinned (OpenSpec.upto typerFilterSpec)

end Rows
end Go.Proofs.Ytnofalhkapmcnaa
