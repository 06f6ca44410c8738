/-
  NARROWER THAN 'FOR EVERY INPUT', by the rows' own cells (each row's printed sentence says how): GroupTells: loops · TyperTells: loops.
  DERIVED. THE GIVEN ROWS OF THIS SEAT. 2 by the template 'for every input the law returns true; each argument reads behind the call as it read before'; 0 by the template 'total and deterministic' (their statements: YtnofalhkapmcnaaGreatTotals.lean).
  GIVEN WITH THE SEED: the statements are not yours to turn. If you find one false, say at which input.
  Laid BY PROGRAM, IN A SANDBOX (cutbox-rows.mjs): the forced cells as the released guide's own fill.sh prints them over the translation 632e9970469c7cc9… (all of the seat's roots in one cut). By AI agents, Wed Nov 11 2026. No macro, syntax, notation, axiom, sorry.
-/
import Derived.Test.YtnofalhkapmcnaaGreatChecked
import GoSem.Claim
import GoSem.ClaimJoined
import GoSem.ClaimMapViews
import Derived.JoinedTies
import Derived.KernelRfl
namespace Go.Proofs.YtnofalhkapmcnaaGreat
/- THE CELL 'sum', in the pinned program and in every row, IS THE sha256 OF THE DUMP (.gsa) THAT YtnofalhkapmcnaaGreatProg.lean LOADS. Nothing in Lean hashes anything: it is a label: what it is worth is what the hold of that sum in a sandbox is worth. -/
noncomputable def Tryz.pinned : Pinned := { name := "ytnofalhkapmcnaagreat", sum := "632e9970469c7cc9abaaf802d61dbebaae590f8f682f68c835742ef019d8fa08", checked := Tryz.checked }
namespace Rows
def none {H : Type} : Left H := { results := [], args := [] }

/-- 'columbarylaw25.GroupTells': WHATEVER THE INPUT: true; the input reads as it did. -/
def groupTellsSpec : ChangeSpec := { name := "groupTells", fn := fun _ => fun
  | [d1, d2, d3] => { results := [.lit (.bool true)], args := [d1, d2, d3] }
  | _ => none }
def groupTellsRow : OpenClaim := { program := "ytnofalhkapmcnaagreat", sum := "632e9970469c7cc9abaaf802d61dbebaae590f8f682f68c835742ef019d8fa08", func := "columbary/columbarylaw25.GroupTells", spec := "groupTells", unfollowed := true, recurses := true, loops := true, apart := false }
def GroupTellsSaid : Prop := groupTellsRow.holds Tryz.pinned (OpenSpec.ofChange groupTellsSpec)

/-- ITS FALSE NEIGHBOUR: 'it returns false'. Refute it at one input. -/
def groupTellsWrong : ChangeSpec := { name := "groupTells", fn := fun _ => fun
  | [d1, d2, d3] => { results := [.lit (.bool false)], args := [d1, d2, d3] }
  | _ => none }
def GroupTellsWrongFalsely : Prop := groupTellsRow.holds Tryz.pinned (OpenSpec.ofChange groupTellsWrong)

/-- 'columbarylaw23.TyperTells': WHATEVER THE INPUT: true; the input reads as it did. -/
def typerTellsSpec : ChangeSpec := { name := "typerTells", fn := fun _ => fun
  | [d1, d2, d3] => { results := [.lit (.bool true)], args := [d1, d2, d3] }
  | _ => none }
def typerTellsRow : OpenClaim := { program := "ytnofalhkapmcnaagreat", sum := "632e9970469c7cc9abaaf802d61dbebaae590f8f682f68c835742ef019d8fa08", func := "columbary/columbarylaw23.TyperTells", spec := "typerTells", inPlace := ["internal/bytealg.IndexByteString", "internal/bytealg.IndexString"], unfollowed := true, recurses := true, named := ["internal/bytealg.MaxLen"], loops := true, apart := false }
def TyperTellsSaid : Prop := typerTellsRow.holds Tryz.pinned (OpenSpec.ofChange typerTellsSpec)

/-- ITS FALSE NEIGHBOUR: 'it returns false'. Refute it at one input. -/
def typerTellsWrong : ChangeSpec := { name := "typerTells", fn := fun _ => fun
  | [d1, d2, d3] => { results := [.lit (.bool false)], args := [d1, d2, d3] }
  | _ => none }
def TyperTellsWrongFalsely : Prop := typerTellsRow.holds Tryz.pinned (OpenSpec.ofChange typerTellsWrong)

/- THE SECOND FORM. 'bulk': how many values and letters a reading holds, each counted each time it is reached (what is shared counts as often as it is met; a slice's spare places count too). A statement '..UptoSaid' is the law's where the arguments, and the package variables that the reading takes, are together of bulk at most 1048576: NARROWER than '..Said'. Prove '..Said' where nothing that the law and all that it calls make is longer than what came in: it says more and counts as full. Else prove '..UptoSaid'. A law counts once. -/
mutual
def uptoBulk {H : Type} : DataW H → Nat
  | .lit (.string bytes) => bytes.length + 1
  | .lit _ => 1
  | .nil => 1
  | .ptr d => uptoBulk d + 1
  | .slice elems spare => uptoBulkAll elems + uptoBulkAll spare + 1
  | .agg parts => uptoBulkAll parts + 1
  | .iface _ d => uptoBulk d + 1
  | .map entries => uptoBulkEntries entries + 1
  | .held _ => 1
def uptoBulkAll {H : Type} : List (DataW H) → Nat
  | [] => 0
  | d :: r => uptoBulk d + uptoBulkAll r
def uptoBulkEntries {H : Type} : List (Lit × DataW H) → Nat
  | [] => 0
  | x :: r => uptoBulkEntry x + uptoBulkEntries r
def uptoBulkEntry {H : Type} : Lit × DataW H → Nat
  | (.string bytes, d) => bytes.length + uptoBulk d + 1
  | (_, d) => uptoBulk d + 1
 end
def uptoSmall : (H : Type) → List (DataW H) → Bool := fun _ ds => decide (uptoBulkAll ds ≤ 1048576)
def OpenSpec.upto (s : _root_.Go.ChangeSpec) : _root_.Go.OpenSpec := { _root_.Go.OpenSpec.ofChange s with cond := some uptoSmall }

/-- 'columbarylaw25.GroupTells', WHERE WHAT IT READS IS OF BULK AT MOST 1048576: true; the input reads as it did. -/
def groupTellsUptoRow : OpenClaim := { program := "ytnofalhkapmcnaagreat", sum := "632e9970469c7cc9abaaf802d61dbebaae590f8f682f68c835742ef019d8fa08", func := "columbary/columbarylaw25.GroupTells", spec := "groupTells", unfollowed := true, recurses := true, loops := true, apart := false, narrowed := true }
def GroupTellsUptoSaid : Prop := groupTellsUptoRow.holds Tryz.pinned (OpenSpec.upto groupTellsSpec)

/-- 'columbarylaw23.TyperTells', WHERE WHAT IT READS IS OF BULK AT MOST 1048576: true; the input reads as it did. -/
def typerTellsUptoRow : OpenClaim := { program := "ytnofalhkapmcnaagreat", sum := "632e9970469c7cc9abaaf802d61dbebaae590f8f682f68c835742ef019d8fa08", func := "columbary/columbarylaw23.TyperTells", spec := "typerTells", inPlace := ["internal/bytealg.IndexByteString", "internal/bytealg.IndexString"], unfollowed := true, recurses := true, named := ["internal/bytealg.MaxLen"], loops := true, apart := false, narrowed := true }
def TyperTellsUptoSaid : Prop := typerTellsUptoRow.holds Tryz.pinned (OpenSpec.upto typerTellsSpec)

end Rows
end Go.Proofs.YtnofalhkapmcnaaGreat
