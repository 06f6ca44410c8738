/-
  No cell of these rows narrows 'for every input' (looked for: loops, veiled, ifaces, maps, wideKeys, modest, calm, conditions, laid).
  DERIVED. THE GIVEN ROWS OF THIS SEAT. 10 by the template 'for every input the law returns true; each argument reads behind the call as it read before'; 0 by the template 'total and deterministic' (their statements: YtkchefbnamiikaaTotals.lean).
  GIVEN WITH THE SEED: the statements are not yours to turn. If you find one false, say at which input.
  Laid BY PROGRAM, IN A SANDBOX (cutbox-rows.mjs): the forced cells as the released guide's own fill.sh prints them over the translation 07edf009bbb365e0… (all of the seat's roots in one cut). By AI agents, Wed Nov 11 2026. No macro, syntax, notation, axiom, sorry.
-/
import Derived.Test.YtkchefbnamiikaaChecked
import GoSem.Claim
import GoSem.ClaimJoined
import GoSem.ClaimMapViews
import Derived.JoinedTies
import Derived.KernelRfl
namespace Go.Proofs.Ytkchefbnamiikaa
/- THE CELL 'sum', in the pinned program and in every row, IS THE sha256 OF THE DUMP (.gsa) THAT YtkchefbnamiikaaProg.lean LOADS. Nothing in Lean hashes anything: it is a label: what it is worth is what the hold of that sum in a sandbox is worth. -/
noncomputable def Try.pinned : Pinned := { name := "ytkchefbnamiikaa", sum := "07edf009bbb365e0cc5c42aa2ea23d9e5930f6b2a9596bc7f157560076baf9ac", checked := Try.checked }
namespace Rows
def none {H : Type} : Left H := { results := [], args := [] }

/-- 'columbarylaw07.NibbleTells': WHATEVER THE INPUT: true; the input reads as it did. -/
def nibbleTellsSpec : ChangeSpec := { name := "nibbleTells", fn := fun _ => fun
  | [d1, d2, d3] => { results := [.lit (.bool true)], args := [d1, d2, d3] }
  | _ => none }
def nibbleTellsRow : OpenClaim := { program := "ytkchefbnamiikaa", sum := "07edf009bbb365e0cc5c42aa2ea23d9e5930f6b2a9596bc7f157560076baf9ac", func := "columbary/columbarylaw07.NibbleTells", spec := "nibbleTells", unfollowed := true, recurses := true, apart := false }
def NibbleTellsSaid : Prop := nibbleTellsRow.holds Try.pinned (OpenSpec.ofChange nibbleTellsSpec)

/-- ITS FALSE NEIGHBOUR: 'it returns false'. Refute it at one input. -/
def nibbleTellsWrong : ChangeSpec := { name := "nibbleTells", fn := fun _ => fun
  | [d1, d2, d3] => { results := [.lit (.bool false)], args := [d1, d2, d3] }
  | _ => none }
def NibbleTellsWrongFalsely : Prop := nibbleTellsRow.holds Try.pinned (OpenSpec.ofChange nibbleTellsWrong)

/-- 'columbarylaw07.NibbleWidth': WHATEVER THE INPUT: true; the input reads as it did. -/
def nibbleWidthSpec : ChangeSpec := { name := "nibbleWidth", fn := fun _ => fun
  | [d1, d2] => { results := [.lit (.bool true)], args := [d1, d2] }
  | _ => none }
def nibbleWidthRow : OpenClaim := { program := "ytkchefbnamiikaa", sum := "07edf009bbb365e0cc5c42aa2ea23d9e5930f6b2a9596bc7f157560076baf9ac", func := "columbary/columbarylaw07.NibbleWidth", spec := "nibbleWidth", unfollowed := true, recurses := true, apart := false }
def NibbleWidthSaid : Prop := nibbleWidthRow.holds Try.pinned (OpenSpec.ofChange nibbleWidthSpec)

/-- ITS FALSE NEIGHBOUR: 'it returns false'. Refute it at one input. -/
def nibbleWidthWrong : ChangeSpec := { name := "nibbleWidth", fn := fun _ => fun
  | [d1, d2] => { results := [.lit (.bool false)], args := [d1, d2] }
  | _ => none }
def NibbleWidthWrongFalsely : Prop := nibbleWidthRow.holds Try.pinned (OpenSpec.ofChange nibbleWidthWrong)

/-- 'columbarylaw07.NibbleJoin': WHATEVER THE INPUT: true; the input reads as it did. -/
def nibbleJoinSpec : ChangeSpec := { name := "nibbleJoin", fn := fun _ => fun
  | [d1, d2] => { results := [.lit (.bool true)], args := [d1, d2] }
  | _ => none }
def nibbleJoinRow : OpenClaim := { program := "ytkchefbnamiikaa", sum := "07edf009bbb365e0cc5c42aa2ea23d9e5930f6b2a9596bc7f157560076baf9ac", func := "columbary/columbarylaw07.NibbleJoin", spec := "nibbleJoin", unfollowed := true, recurses := true, apart := false }
def NibbleJoinSaid : Prop := nibbleJoinRow.holds Try.pinned (OpenSpec.ofChange nibbleJoinSpec)

/-- ITS FALSE NEIGHBOUR: 'it returns false'. Refute it at one input. -/
def nibbleJoinWrong : ChangeSpec := { name := "nibbleJoin", fn := fun _ => fun
  | [d1, d2] => { results := [.lit (.bool false)], args := [d1, d2] }
  | _ => none }
def NibbleJoinWrongFalsely : Prop := nibbleJoinRow.holds Try.pinned (OpenSpec.ofChange nibbleJoinWrong)

/-- 'columbarylaw07.NibbleReads': WHATEVER THE INPUT: true; the input reads as it did. -/
def nibbleReadsSpec : ChangeSpec := { name := "nibbleReads", fn := fun _ => fun
  | [d1, d2, d3] => { results := [.lit (.bool true)], args := [d1, d2, d3] }
  | _ => none }
def nibbleReadsRow : OpenClaim := { program := "ytkchefbnamiikaa", sum := "07edf009bbb365e0cc5c42aa2ea23d9e5930f6b2a9596bc7f157560076baf9ac", func := "columbary/columbarylaw07.NibbleReads", spec := "nibbleReads", unfollowed := true, recurses := true, apart := false }
def NibbleReadsSaid : Prop := nibbleReadsRow.holds Try.pinned (OpenSpec.ofChange nibbleReadsSpec)

/-- ITS FALSE NEIGHBOUR: 'it returns false'. Refute it at one input. -/
def nibbleReadsWrong : ChangeSpec := { name := "nibbleReads", fn := fun _ => fun
  | [d1, d2, d3] => { results := [.lit (.bool false)], args := [d1, d2, d3] }
  | _ => none }
def NibbleReadsWrongFalsely : Prop := nibbleReadsRow.holds Try.pinned (OpenSpec.ofChange nibbleReadsWrong)

/-- 'columbarylaw07.NibbleBack': WHATEVER THE INPUT: true; the input reads as it did. -/
def nibbleBackSpec : ChangeSpec := { name := "nibbleBack", fn := fun _ => fun
  | [d1, d2, d3] => { results := [.lit (.bool true)], args := [d1, d2, d3] }
  | _ => none }
def nibbleBackRow : OpenClaim := { program := "ytkchefbnamiikaa", sum := "07edf009bbb365e0cc5c42aa2ea23d9e5930f6b2a9596bc7f157560076baf9ac", func := "columbary/columbarylaw07.NibbleBack", spec := "nibbleBack", unfollowed := true, recurses := true, apart := false }
def NibbleBackSaid : Prop := nibbleBackRow.holds Try.pinned (OpenSpec.ofChange nibbleBackSpec)

/-- ITS FALSE NEIGHBOUR: 'it returns false'. Refute it at one input. -/
def nibbleBackWrong : ChangeSpec := { name := "nibbleBack", fn := fun _ => fun
  | [d1, d2, d3] => { results := [.lit (.bool false)], args := [d1, d2, d3] }
  | _ => none }
def NibbleBackWrongFalsely : Prop := nibbleBackRow.holds Try.pinned (OpenSpec.ofChange nibbleBackWrong)

/-- 'columbarylaw02.CheckTurned': WHATEVER THE INPUT: true; the input reads as it did. -/
def checkTurnedSpec : ChangeSpec := { name := "checkTurned", fn := fun _ => fun
  | [d1, d2, d3] => { results := [.lit (.bool true)], args := [d1, d2, d3] }
  | _ => none }
def checkTurnedRow : OpenClaim := { program := "ytkchefbnamiikaa", sum := "07edf009bbb365e0cc5c42aa2ea23d9e5930f6b2a9596bc7f157560076baf9ac", func := "columbary/columbarylaw02.CheckTurned", spec := "checkTurned", apart := false }
def CheckTurnedSaid : Prop := checkTurnedRow.holds Try.pinned (OpenSpec.ofChange checkTurnedSpec)

/-- ITS FALSE NEIGHBOUR: 'it returns false'. Refute it at one input. -/
def checkTurnedWrong : ChangeSpec := { name := "checkTurned", fn := fun _ => fun
  | [d1, d2, d3] => { results := [.lit (.bool false)], args := [d1, d2, d3] }
  | _ => none }
def CheckTurnedWrongFalsely : Prop := checkTurnedRow.holds Try.pinned (OpenSpec.ofChange checkTurnedWrong)

/-- 'columbarylaw02.CheckOwn': WHATEVER THE INPUT: true; the input reads as it did. -/
def checkOwnSpec : ChangeSpec := { name := "checkOwn", fn := fun _ => fun
  | [d1, d2] => { results := [.lit (.bool true)], args := [d1, d2] }
  | _ => none }
def checkOwnRow : OpenClaim := { program := "ytkchefbnamiikaa", sum := "07edf009bbb365e0cc5c42aa2ea23d9e5930f6b2a9596bc7f157560076baf9ac", func := "columbary/columbarylaw02.CheckOwn", spec := "checkOwn", apart := false }
def CheckOwnSaid : Prop := checkOwnRow.holds Try.pinned (OpenSpec.ofChange checkOwnSpec)

/-- ITS FALSE NEIGHBOUR: 'it returns false'. Refute it at one input. -/
def checkOwnWrong : ChangeSpec := { name := "checkOwn", fn := fun _ => fun
  | [d1, d2] => { results := [.lit (.bool false)], args := [d1, d2] }
  | _ => none }
def CheckOwnWrongFalsely : Prop := checkOwnRow.holds Try.pinned (OpenSpec.ofChange checkOwnWrong)

/-- 'columbarylaw02.CheckLinear': WHATEVER THE INPUT: true; the input reads as it did. -/
def checkLinearSpec : ChangeSpec := { name := "checkLinear", fn := fun _ => fun
  | [d1, d2, d3] => { results := [.lit (.bool true)], args := [d1, d2, d3] }
  | _ => none }
def checkLinearRow : OpenClaim := { program := "ytkchefbnamiikaa", sum := "07edf009bbb365e0cc5c42aa2ea23d9e5930f6b2a9596bc7f157560076baf9ac", func := "columbary/columbarylaw02.CheckLinear", spec := "checkLinear", apart := false }
def CheckLinearSaid : Prop := checkLinearRow.holds Try.pinned (OpenSpec.ofChange checkLinearSpec)

/-- ITS FALSE NEIGHBOUR: 'it returns false'. Refute it at one input. -/
def checkLinearWrong : ChangeSpec := { name := "checkLinear", fn := fun _ => fun
  | [d1, d2, d3] => { results := [.lit (.bool false)], args := [d1, d2, d3] }
  | _ => none }
def CheckLinearWrongFalsely : Prop := checkLinearRow.holds Try.pinned (OpenSpec.ofChange checkLinearWrong)

/-- 'columbarylaw02.CheckTells': WHATEVER THE INPUT: true; the input reads as it did. -/
def checkTellsSpec : ChangeSpec := { name := "checkTells", fn := fun _ => fun
  | [d] => { results := [.lit (.bool true)], args := [d] }
  | _ => none }
def checkTellsRow : OpenClaim := { program := "ytkchefbnamiikaa", sum := "07edf009bbb365e0cc5c42aa2ea23d9e5930f6b2a9596bc7f157560076baf9ac", func := "columbary/columbarylaw02.CheckTells", spec := "checkTells", apart := false }
def CheckTellsSaid : Prop := checkTellsRow.holds Try.pinned (OpenSpec.ofChange checkTellsSpec)

/-- ITS FALSE NEIGHBOUR: 'it returns false'. Refute it at one input. -/
def checkTellsWrong : ChangeSpec := { name := "checkTells", fn := fun _ => fun
  | [d] => { results := [.lit (.bool false)], args := [d] }
  | _ => none }
def CheckTellsWrongFalsely : Prop := checkTellsRow.holds Try.pinned (OpenSpec.ofChange checkTellsWrong)

/-- 'columbarylaw02.CheckBack': WHATEVER THE INPUT: true; the input reads as it did. -/
def checkBackSpec : ChangeSpec := { name := "checkBack", fn := fun _ => fun
  | [d1, d2] => { results := [.lit (.bool true)], args := [d1, d2] }
  | _ => none }
def checkBackRow : OpenClaim := { program := "ytkchefbnamiikaa", sum := "07edf009bbb365e0cc5c42aa2ea23d9e5930f6b2a9596bc7f157560076baf9ac", func := "columbary/columbarylaw02.CheckBack", spec := "checkBack", apart := false }
def CheckBackSaid : Prop := checkBackRow.holds Try.pinned (OpenSpec.ofChange checkBackSpec)

/-- ITS FALSE NEIGHBOUR: 'it returns false'. Refute it at one input. -/
def checkBackWrong : ChangeSpec := { name := "checkBack", fn := fun _ => fun
  | [d1, d2] => { results := [.lit (.bool false)], args := [d1, d2] }
  | _ => none }
def CheckBackWrongFalsely : Prop := checkBackRow.holds Try.pinned (OpenSpec.ofChange checkBackWrong)

/- THE SECOND FORM. 'bulk': how many values and letters a reading holds, each counted each time it is reached (what is shared counts as often as it is met; a slice's spare places count too). A statement '..UptoSaid' is the law's where the arguments, and the package variables that the reading takes, are together of bulk at most 1048576: NARROWER than '..Said'. Prove '..Said' where nothing that the law and all that it calls make is longer than what came in: it says more and counts as full. Else prove '..UptoSaid'. A law counts once. -/
mutual
def uptoBulk {H : Type} : DataW H → Nat
  | .lit (.string bytes) => bytes.length + 1
  | .lit _ => 1
  | .nil => 1
  | .ptr d => uptoBulk d + 1
  | .slice elems spare => uptoBulkAll elems + uptoBulkAll spare + 1
  | .agg parts => uptoBulkAll parts + 1
  | .iface _ d => uptoBulk d + 1
  | .map entries => uptoBulkEntries entries + 1
  | .held _ => 1
def uptoBulkAll {H : Type} : List (DataW H) → Nat
  | [] => 0
  | d :: r => uptoBulk d + uptoBulkAll r
def uptoBulkEntries {H : Type} : List (Lit × DataW H) → Nat
  | [] => 0
  | x :: r => uptoBulkEntry x + uptoBulkEntries r
def uptoBulkEntry {H : Type} : Lit × DataW H → Nat
  | (.string bytes, d) => bytes.length + uptoBulk d + 1
  | (_, d) => uptoBulk d + 1
 end
def uptoSmall : (H : Type) → List (DataW H) → Bool := fun _ ds => decide (uptoBulkAll ds ≤ 1048576)
def OpenSpec.upto (s : _root_.Go.ChangeSpec) : _root_.Go.OpenSpec := { _root_.Go.OpenSpec.ofChange s with cond := some uptoSmall }

/-- 'columbarylaw07.NibbleTells', WHERE WHAT IT READS IS OF BULK AT MOST 1048576: true; the input reads as it did. -/
def nibbleTellsUptoRow : OpenClaim := { program := "ytkchefbnamiikaa", sum := "07edf009bbb365e0cc5c42aa2ea23d9e5930f6b2a9596bc7f157560076baf9ac", func := "columbary/columbarylaw07.NibbleTells", spec := "nibbleTells", unfollowed := true, recurses := true, apart := false, narrowed := true }
def NibbleTellsUptoSaid : Prop := nibbleTellsUptoRow.holds Try.pinned (OpenSpec.upto nibbleTellsSpec)

/-- 'columbarylaw07.NibbleWidth', WHERE WHAT IT READS IS OF BULK AT MOST 1048576: true; the input reads as it did. -/
def nibbleWidthUptoRow : OpenClaim := { program := "ytkchefbnamiikaa", sum := "07edf009bbb365e0cc5c42aa2ea23d9e5930f6b2a9596bc7f157560076baf9ac", func := "columbary/columbarylaw07.NibbleWidth", spec := "nibbleWidth", unfollowed := true, recurses := true, apart := false, narrowed := true }
def NibbleWidthUptoSaid : Prop := nibbleWidthUptoRow.holds Try.pinned (OpenSpec.upto nibbleWidthSpec)

/-- 'columbarylaw07.NibbleJoin', WHERE WHAT IT READS IS OF BULK AT MOST 1048576: true; the input reads as it did. -/
def nibbleJoinUptoRow : OpenClaim := { program := "ytkchefbnamiikaa", sum := "07edf009bbb365e0cc5c42aa2ea23d9e5930f6b2a9596bc7f157560076baf9ac", func := "columbary/columbarylaw07.NibbleJoin", spec := "nibbleJoin", unfollowed := true, recurses := true, apart := false, narrowed := true }
def NibbleJoinUptoSaid : Prop := nibbleJoinUptoRow.holds Try.pinned (OpenSpec.upto nibbleJoinSpec)

/-- 'columbarylaw07.NibbleReads', WHERE WHAT IT READS IS OF BULK AT MOST 1048576: true; the input reads as it did. -/
def nibbleReadsUptoRow : OpenClaim := { program := "ytkchefbnamiikaa", sum := "07edf009bbb365e0cc5c42aa2ea23d9e5930f6b2a9596bc7f157560076baf9ac", func := "columbary/columbarylaw07.NibbleReads", spec := "nibbleReads", unfollowed := true, recurses := true, apart := false, narrowed := true }
def NibbleReadsUptoSaid : Prop := nibbleReadsUptoRow.holds Try.pinned (OpenSpec.upto nibbleReadsSpec)

/-- 'columbarylaw07.NibbleBack', WHERE WHAT IT READS IS OF BULK AT MOST 1048576: true; the input reads as it did. -/
def nibbleBackUptoRow : OpenClaim := { program := "ytkchefbnamiikaa", sum := "07edf009bbb365e0cc5c42aa2ea23d9e5930f6b2a9596bc7f157560076baf9ac", func := "columbary/columbarylaw07.NibbleBack", spec := "nibbleBack", unfollowed := true, recurses := true, apart := false, narrowed := true }
def NibbleBackUptoSaid : Prop := nibbleBackUptoRow.holds Try.pinned (OpenSpec.upto nibbleBackSpec)

/-- 'columbarylaw02.CheckTurned', WHERE WHAT IT READS IS OF BULK AT MOST 1048576: true; the input reads as it did. -/
def checkTurnedUptoRow : OpenClaim := { program := "ytkchefbnamiikaa", sum := "07edf009bbb365e0cc5c42aa2ea23d9e5930f6b2a9596bc7f157560076baf9ac", func := "columbary/columbarylaw02.CheckTurned", spec := "checkTurned", apart := false, narrowed := true }
def CheckTurnedUptoSaid : Prop := checkTurnedUptoRow.holds Try.pinned (OpenSpec.upto checkTurnedSpec)

/-- 'columbarylaw02.CheckOwn', WHERE WHAT IT READS IS OF BULK AT MOST 1048576: true; the input reads as it did. -/
def checkOwnUptoRow : OpenClaim := { program := "ytkchefbnamiikaa", sum := "07edf009bbb365e0cc5c42aa2ea23d9e5930f6b2a9596bc7f157560076baf9ac", func := "columbary/columbarylaw02.CheckOwn", spec := "checkOwn", apart := false, narrowed := true }
def CheckOwnUptoSaid : Prop := checkOwnUptoRow.holds Try.pinned (OpenSpec.upto checkOwnSpec)

/-- 'columbarylaw02.CheckLinear', WHERE WHAT IT READS IS OF BULK AT MOST 1048576: true; the input reads as it did. -/
def checkLinearUptoRow : OpenClaim := { program := "ytkchefbnamiikaa", sum := "07edf009bbb365e0cc5c42aa2ea23d9e5930f6b2a9596bc7f157560076baf9ac", func := "columbary/columbarylaw02.CheckLinear", spec := "checkLinear", apart := false, narrowed := true }
def CheckLinearUptoSaid : Prop := checkLinearUptoRow.holds Try.pinned (OpenSpec.upto checkLinearSpec)

/-- 'columbarylaw02.CheckTells', WHERE WHAT IT READS IS OF BULK AT MOST 1048576: true; the input reads as it did. -/
def checkTellsUptoRow : OpenClaim := { program := "ytkchefbnamiikaa", sum := "07edf009bbb365e0cc5c42aa2ea23d9e5930f6b2a9596bc7f157560076baf9ac", func := "columbary/columbarylaw02.CheckTells", spec := "checkTells", apart := false, narrowed := true }
def CheckTellsUptoSaid : Prop := checkTellsUptoRow.holds Try.pinned (OpenSpec.upto checkTellsSpec)

/-- 'columbarylaw02.CheckBack', WHERE WHAT IT READS IS OF BULK AT MOST 1048576: true; the input reads as it did. -/
def checkBackUptoRow : OpenClaim := { program := "ytkchefbnamiikaa", sum := "07edf009bbb365e0cc5c42aa2ea23d9e5930f6b2a9596bc7f157560076baf9ac", func := "columbary/columbarylaw02.CheckBack", spec := "checkBack", apart := false, narrowed := true }
def CheckBackUptoSaid : Prop := checkBackUptoRow.holds Try.pinned (OpenSpec.upto checkBackSpec)

end Rows
end Go.Proofs.Ytkchefbnamiikaa
