/-
  No cell of these rows narrows 'for every input' (looked for: loops, veiled, ifaces, maps, wideKeys, modest, calm, conditions, laid).
  DERIVED. THE GIVEN ROWS OF THIS SEAT. 6 by the template 'for every input the law returns true; each argument reads behind the call as it read before'; 0 by the template 'total and deterministic' (their statements: YtmfcnooleejgmaaTotals.lean).
  GIVEN WITH THE SEED: the statements are not yours to turn. If you find one false, say at which input.
  Laid BY PROGRAM, IN A SANDBOX (cutbox-rows.mjs): the forced cells as the released guide's own fill.sh prints them over the translation be1b8463aa33afb0… (all of the seat's roots in one cut). By AI agents, Wed Nov 11 2026. No macro, syntax, notation, axiom, sorry.
-/
import Derived.Test.YtmfcnooleejgmaaChecked
import GoSem.Claim
import GoSem.ClaimJoined
import GoSem.ClaimMapViews
import Derived.JoinedTies
import Derived.KernelRfl
namespace Go.Proofs.Ytmfcnooleejgmaa
/- THE CELL 'sum', in the pinned program and in every row, IS THE sha256 OF THE DUMP (.gsa) THAT YtmfcnooleejgmaaProg.lean LOADS. Nothing in Lean hashes anything: it is a label: what it is worth is what the hold of that sum in a sandbox is worth. -/
noncomputable def Try.pinned : Pinned := { name := "ytmfcnooleejgmaa", sum := "be1b8463aa33afb0e03e37a3be5f9f84526bc78c3d2590b51b11fa02dd06188a", checked := Try.checked }
namespace Rows
def none {H : Type} : Left H := { results := [], args := [] }

/-- 'columbarylaw03.VaultSafe': WHATEVER THE INPUT: true; the input reads as it did. -/
def vaultSafeSpec : ChangeSpec := { name := "vaultSafe", fn := fun _ => fun
  | [d1, d2, d3] => { results := [.lit (.bool true)], args := [d1, d2, d3] }
  | _ => none }
def vaultSafeRow : OpenClaim := { program := "ytmfcnooleejgmaa", sum := "be1b8463aa33afb0e03e37a3be5f9f84526bc78c3d2590b51b11fa02dd06188a", func := "columbary/columbarylaw03.VaultSafe", spec := "vaultSafe", inPlace := ["internal/bytealg.IndexByteString", "internal/bytealg.IndexString"], unfollowed := true, recurses := true, named := ["internal/bytealg.MaxLen"], apart := false }
def VaultSafeSaid : Prop := vaultSafeRow.holds Try.pinned (OpenSpec.ofChange vaultSafeSpec)

/-- ITS FALSE NEIGHBOUR: 'it returns false'. Refute it at one input. -/
def vaultSafeWrong : ChangeSpec := { name := "vaultSafe", fn := fun _ => fun
  | [d1, d2, d3] => { results := [.lit (.bool false)], args := [d1, d2, d3] }
  | _ => none }
def VaultSafeWrongFalsely : Prop := vaultSafeRow.holds Try.pinned (OpenSpec.ofChange vaultSafeWrong)

/-- 'columbarylaw03.VaultRoom': WHATEVER THE INPUT: true; the input reads as it did. -/
def vaultRoomSpec : ChangeSpec := { name := "vaultRoom", fn := fun _ => fun
  | [d1, d2] => { results := [.lit (.bool true)], args := [d1, d2] }
  | _ => none }
def vaultRoomRow : OpenClaim := { program := "ytmfcnooleejgmaa", sum := "be1b8463aa33afb0e03e37a3be5f9f84526bc78c3d2590b51b11fa02dd06188a", func := "columbary/columbarylaw03.VaultRoom", spec := "vaultRoom", inPlace := ["internal/bytealg.IndexByteString", "internal/bytealg.IndexString"], unfollowed := true, recurses := true, named := ["internal/bytealg.MaxLen"], apart := false }
def VaultRoomSaid : Prop := vaultRoomRow.holds Try.pinned (OpenSpec.ofChange vaultRoomSpec)

/-- ITS FALSE NEIGHBOUR: 'it returns false'. Refute it at one input. -/
def vaultRoomWrong : ChangeSpec := { name := "vaultRoom", fn := fun _ => fun
  | [d1, d2] => { results := [.lit (.bool false)], args := [d1, d2] }
  | _ => none }
def VaultRoomWrongFalsely : Prop := vaultRoomRow.holds Try.pinned (OpenSpec.ofChange vaultRoomWrong)

/-- 'columbarylaw03.VaultPlays': WHATEVER THE INPUT: true; the input reads as it did. -/
def vaultPlaysSpec : ChangeSpec := { name := "vaultPlays", fn := fun _ => fun
  | [d1, d2] => { results := [.lit (.bool true)], args := [d1, d2] }
  | _ => none }
def vaultPlaysRow : OpenClaim := { program := "ytmfcnooleejgmaa", sum := "be1b8463aa33afb0e03e37a3be5f9f84526bc78c3d2590b51b11fa02dd06188a", func := "columbary/columbarylaw03.VaultPlays", spec := "vaultPlays", inPlace := ["internal/bytealg.IndexByteString", "internal/bytealg.IndexString", "maps.clone"], unfollowed := true, recurses := true, named := ["internal/bytealg.MaxLen"], apart := false }
def VaultPlaysSaid : Prop := vaultPlaysRow.holds Try.pinned (OpenSpec.ofChange vaultPlaysSpec)

/-- ITS FALSE NEIGHBOUR: 'it returns false'. Refute it at one input. -/
def vaultPlaysWrong : ChangeSpec := { name := "vaultPlays", fn := fun _ => fun
  | [d1, d2] => { results := [.lit (.bool false)], args := [d1, d2] }
  | _ => none }
def VaultPlaysWrongFalsely : Prop := vaultPlaysRow.holds Try.pinned (OpenSpec.ofChange vaultPlaysWrong)

/-- 'columbarylaw03.VaultBurnt': WHATEVER THE INPUT: true; the input reads as it did. -/
def vaultBurntSpec : ChangeSpec := { name := "vaultBurnt", fn := fun _ => fun
  | [d1, d2] => { results := [.lit (.bool true)], args := [d1, d2] }
  | _ => none }
def vaultBurntRow : OpenClaim := { program := "ytmfcnooleejgmaa", sum := "be1b8463aa33afb0e03e37a3be5f9f84526bc78c3d2590b51b11fa02dd06188a", func := "columbary/columbarylaw03.VaultBurnt", spec := "vaultBurnt", inPlace := ["internal/bytealg.IndexByteString", "internal/bytealg.IndexString", "maps.clone"], unfollowed := true, recurses := true, named := ["internal/bytealg.MaxLen"], apart := false }
def VaultBurntSaid : Prop := vaultBurntRow.holds Try.pinned (OpenSpec.ofChange vaultBurntSpec)

/-- ITS FALSE NEIGHBOUR: 'it returns false'. Refute it at one input. -/
def vaultBurntWrong : ChangeSpec := { name := "vaultBurnt", fn := fun _ => fun
  | [d1, d2] => { results := [.lit (.bool false)], args := [d1, d2] }
  | _ => none }
def VaultBurntWrongFalsely : Prop := vaultBurntRow.holds Try.pinned (OpenSpec.ofChange vaultBurntWrong)

/-- 'columbarylaw03.VaultNil': WHATEVER THE INPUT: true; the input reads as it did. -/
def vaultNilSpec : ChangeSpec := { name := "vaultNil", fn := fun _ => fun
  | [d] => { results := [.lit (.bool true)], args := [d] }
  | _ => none }
def vaultNilRow : OpenClaim := { program := "ytmfcnooleejgmaa", sum := "be1b8463aa33afb0e03e37a3be5f9f84526bc78c3d2590b51b11fa02dd06188a", func := "columbary/columbarylaw03.VaultNil", spec := "vaultNil", inPlace := ["internal/bytealg.IndexByteString", "internal/bytealg.IndexString", "maps.clone"], unfollowed := true, recurses := true, named := ["internal/bytealg.MaxLen"], apart := false }
def VaultNilSaid : Prop := vaultNilRow.holds Try.pinned (OpenSpec.ofChange vaultNilSpec)

/-- ITS FALSE NEIGHBOUR: 'it returns false'. Refute it at one input. -/
def vaultNilWrong : ChangeSpec := { name := "vaultNil", fn := fun _ => fun
  | [d] => { results := [.lit (.bool false)], args := [d] }
  | _ => none }
def VaultNilWrongFalsely : Prop := vaultNilRow.holds Try.pinned (OpenSpec.ofChange vaultNilWrong)

/-- 'columbarylaw03.VaultCopy': WHATEVER THE INPUT: true; the input reads as it did. -/
def vaultCopySpec : ChangeSpec := { name := "vaultCopy", fn := fun _ => fun
  | [d1, d2] => { results := [.lit (.bool true)], args := [d1, d2] }
  | _ => none }
def vaultCopyRow : OpenClaim := { program := "ytmfcnooleejgmaa", sum := "be1b8463aa33afb0e03e37a3be5f9f84526bc78c3d2590b51b11fa02dd06188a", func := "columbary/columbarylaw03.VaultCopy", spec := "vaultCopy", inPlace := ["internal/bytealg.IndexByteString", "internal/bytealg.IndexString", "maps.clone"], unfollowed := true, recurses := true, named := ["internal/bytealg.MaxLen"], apart := false }
def VaultCopySaid : Prop := vaultCopyRow.holds Try.pinned (OpenSpec.ofChange vaultCopySpec)

/-- ITS FALSE NEIGHBOUR: 'it returns false'. Refute it at one input. -/
def vaultCopyWrong : ChangeSpec := { name := "vaultCopy", fn := fun _ => fun
  | [d1, d2] => { results := [.lit (.bool false)], args := [d1, d2] }
  | _ => none }
def VaultCopyWrongFalsely : Prop := vaultCopyRow.holds Try.pinned (OpenSpec.ofChange vaultCopyWrong)

/- THE SECOND FORM. 'bulk': how many values and letters a reading holds, each counted each time it is reached (what is shared counts as often as it is met; a slice's spare places count too). A statement '..UptoSaid' is the law's where the arguments, and the package variables that the reading takes, are together of bulk at most 1048576: NARROWER than '..Said'. Prove '..Said' where nothing that the law and all that it calls make is longer than what came in: it says more and counts as full. Else prove '..UptoSaid'. A law counts once. -/
mutual
def uptoBulk {H : Type} : DataW H → Nat
  | .lit (.string bytes) => bytes.length + 1
  | .lit _ => 1
  | .nil => 1
  | .ptr d => uptoBulk d + 1
  | .slice elems spare => uptoBulkAll elems + uptoBulkAll spare + 1
  | .agg parts => uptoBulkAll parts + 1
  | .iface _ d => uptoBulk d + 1
  | .map entries => uptoBulkEntries entries + 1
  | .held _ => 1
def uptoBulkAll {H : Type} : List (DataW H) → Nat
  | [] => 0
  | d :: r => uptoBulk d + uptoBulkAll r
def uptoBulkEntries {H : Type} : List (Lit × DataW H) → Nat
  | [] => 0
  | x :: r => uptoBulkEntry x + uptoBulkEntries r
def uptoBulkEntry {H : Type} : Lit × DataW H → Nat
  | (.string bytes, d) => bytes.length + uptoBulk d + 1
  | (_, d) => uptoBulk d + 1
 end
def uptoSmall : (H : Type) → List (DataW H) → Bool := fun _ ds => decide (uptoBulkAll ds ≤ 1048576)
def OpenSpec.upto (s : _root_.Go.ChangeSpec) : _root_.Go.OpenSpec := { _root_.Go.OpenSpec.ofChange s with cond := some uptoSmall }

/-- 'columbarylaw03.VaultSafe', WHERE WHAT IT READS IS OF BULK AT MOST 1048576: true; the input reads as it did. -/
def vaultSafeUptoRow : OpenClaim := { program := "ytmfcnooleejgmaa", sum := "be1b8463aa33afb0e03e37a3be5f9f84526bc78c3d2590b51b11fa02dd06188a", func := "columbary/columbarylaw03.VaultSafe", spec := "vaultSafe", inPlace := ["internal/bytealg.IndexByteString", "internal/bytealg.IndexString"], unfollowed := true, recurses := true, named := ["internal/bytealg.MaxLen"], apart := false, narrowed := true }
def VaultSafeUptoSaid : Prop := vaultSafeUptoRow.holds Try.pinned (OpenSpec.upto vaultSafeSpec)

/-- 'columbarylaw03.VaultRoom', WHERE WHAT IT READS IS OF BULK AT MOST 1048576: true; the input reads as it did. -/
def vaultRoomUptoRow : OpenClaim := { program := "ytmfcnooleejgmaa", sum := "be1b8463aa33afb0e03e37a3be5f9f84526bc78c3d2590b51b11fa02dd06188a", func := "columbary/columbarylaw03.VaultRoom", spec := "vaultRoom", inPlace := ["internal/bytealg.IndexByteString", "internal/bytealg.IndexString"], unfollowed := true, recurses := true, named := ["internal/bytealg.MaxLen"], apart := false, narrowed := true }
def VaultRoomUptoSaid : Prop := vaultRoomUptoRow.holds Try.pinned (OpenSpec.upto vaultRoomSpec)

/-- 'columbarylaw03.VaultPlays', WHERE WHAT IT READS IS OF BULK AT MOST 1048576: true; the input reads as it did. -/
def vaultPlaysUptoRow : OpenClaim := { program := "ytmfcnooleejgmaa", sum := "be1b8463aa33afb0e03e37a3be5f9f84526bc78c3d2590b51b11fa02dd06188a", func := "columbary/columbarylaw03.VaultPlays", spec := "vaultPlays", inPlace := ["internal/bytealg.IndexByteString", "internal/bytealg.IndexString", "maps.clone"], unfollowed := true, recurses := true, named := ["internal/bytealg.MaxLen"], apart := false, narrowed := true }
def VaultPlaysUptoSaid : Prop := vaultPlaysUptoRow.holds Try.pinned (OpenSpec.upto vaultPlaysSpec)

/-- 'columbarylaw03.VaultBurnt', WHERE WHAT IT READS IS OF BULK AT MOST 1048576: true; the input reads as it did. -/
def vaultBurntUptoRow : OpenClaim := { program := "ytmfcnooleejgmaa", sum := "be1b8463aa33afb0e03e37a3be5f9f84526bc78c3d2590b51b11fa02dd06188a", func := "columbary/columbarylaw03.VaultBurnt", spec := "vaultBurnt", inPlace := ["internal/bytealg.IndexByteString", "internal/bytealg.IndexString", "maps.clone"], unfollowed := true, recurses := true, named := ["internal/bytealg.MaxLen"], apart := false, narrowed := true }
def VaultBurntUptoSaid : Prop := vaultBurntUptoRow.holds Try.pinned (OpenSpec.upto vaultBurntSpec)

/-- 'columbarylaw03.VaultNil', WHERE WHAT IT READS IS OF BULK AT MOST 1048576: true; the input reads as it did. -/
def vaultNilUptoRow : OpenClaim := { program := "ytmfcnooleejgmaa", sum := "be1b8463aa33afb0e03e37a3be5f9f84526bc78c3d2590b51b11fa02dd06188a", func := "columbary/columbarylaw03.VaultNil", spec := "vaultNil", inPlace := ["internal/bytealg.IndexByteString", "internal/bytealg.IndexString", "maps.clone"], unfollowed := true, recurses := true, named := ["internal/bytealg.MaxLen"], apart := false, narrowed := true }
def VaultNilUptoSaid : Prop := vaultNilUptoRow.holds Try.pinned (OpenSpec.upto vaultNilSpec)

/-- 'columbarylaw03.VaultCopy', WHERE WHAT IT READS IS OF BULK AT MOST 1048576: true; the input reads as it did. -/
def vaultCopyUptoRow : OpenClaim := { program := "ytmfcnooleejgmaa", sum := "be1b8463aa33afb0e03e37a3be5f9f84526bc78c3d2590b51b11fa02dd06188a", func := "columbary/columbarylaw03.VaultCopy", spec := "vaultCopy", inPlace := ["internal/bytealg.IndexByteString", "internal/bytealg.IndexString", "maps.clone"], unfollowed := true, recurses := true, named := ["internal/bytealg.MaxLen"], apart := false, narrowed := true }
def VaultCopyUptoSaid : Prop := vaultCopyUptoRow.holds Try.pinned (OpenSpec.upto vaultCopySpec)

end Rows
end Go.Proofs.Ytmfcnooleejgmaa
