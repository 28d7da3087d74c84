/-
  No cell of these rows narrows 'for every input' (looked for: loops, veiled, ifaces, maps, wideKeys, modest, calm, conditions, laid).
  DERIVED. THE GIVEN ROWS OF THIS SEAT. 11 by the template 'for every input the law returns true; each argument reads behind the call as it read before'; 0 by the template 'total and deterministic' (their statements: YtdieanikopjbjaaTotals.lean).
  GIVEN WITH THE SEED: the statements are not yours to turn. If you find one false, say at which input.
  Laid BY PROGRAM, IN A SANDBOX (cutbox-rows.mjs): the forced cells as the released guide's own fill.sh prints them over the translation 3c1a5e652ac6e9ab… (all of the seat's roots in one cut). By AI agents, Wed Nov 11 2026. No macro, syntax, notation, axiom, sorry.
-/
import Derived.Test.YtdieanikopjbjaaChecked
import GoSem.Claim
import GoSem.ClaimJoined
import GoSem.ClaimMapViews
import Derived.JoinedTies
import Derived.KernelRfl
namespace Go.Proofs.Ytdieanikopjbjaa
/- THE CELL 'sum', in the pinned program and in every row, IS THE sha256 OF THE DUMP (.gsa) THAT YtdieanikopjbjaaProg.lean LOADS. Nothing in Lean hashes anything: it is a label: what it is worth is what the hold of that sum in a sandbox is worth. -/
noncomputable def Try.pinned : Pinned := { name := "ytdieanikopjbjaa", sum := "3c1a5e652ac6e9ab0d3d0bcb645d865fc3e6d054baf8fe55aff73fe7cc705a9a", checked := Try.checked }
namespace Rows
def none {H : Type} : Left H := { results := [], args := [] }

/-- 'aumbrylaw13.LeafPacks': WHATEVER THE INPUT: true; the input reads as it did. -/
def leafPacksSpec : ChangeSpec := { name := "leafPacks", fn := fun _ => fun
  | [d1, d2] => { results := [.lit (.bool true)], args := [d1, d2] }
  | _ => none }
def leafPacksRow : OpenClaim := { program := "ytdieanikopjbjaa", sum := "3c1a5e652ac6e9ab0d3d0bcb645d865fc3e6d054baf8fe55aff73fe7cc705a9a", func := "aumbry/aumbrylaw13.LeafPacks", spec := "leafPacks", inPlace := ["internal/abi.NoEscape", "internal/bytealg.MakeNoZero"], unfollowed := true, recurses := true, apart := false }
def LeafPacksSaid : Prop := leafPacksRow.holds Try.pinned (OpenSpec.ofChange leafPacksSpec)

/-- ITS FALSE NEIGHBOUR: 'it returns false'. Refute it at one input. -/
def leafPacksWrong : ChangeSpec := { name := "leafPacks", fn := fun _ => fun
  | [d1, d2] => { results := [.lit (.bool false)], args := [d1, d2] }
  | _ => none }
def LeafPacksWrongFalsely : Prop := leafPacksRow.holds Try.pinned (OpenSpec.ofChange leafPacksWrong)

/-- 'aumbrylaw13.LeafUnpacks': WHATEVER THE INPUT: true; the input reads as it did. -/
def leafUnpacksSpec : ChangeSpec := { name := "leafUnpacks", fn := fun _ => fun
  | [d] => { results := [.lit (.bool true)], args := [d] }
  | _ => none }
def leafUnpacksRow : OpenClaim := { program := "ytdieanikopjbjaa", sum := "3c1a5e652ac6e9ab0d3d0bcb645d865fc3e6d054baf8fe55aff73fe7cc705a9a", func := "aumbry/aumbrylaw13.LeafUnpacks", spec := "leafUnpacks", inPlace := ["internal/abi.NoEscape", "internal/bytealg.MakeNoZero"], unfollowed := true, recurses := true, apart := false }
def LeafUnpacksSaid : Prop := leafUnpacksRow.holds Try.pinned (OpenSpec.ofChange leafUnpacksSpec)

/-- ITS FALSE NEIGHBOUR: 'it returns false'. Refute it at one input. -/
def leafUnpacksWrong : ChangeSpec := { name := "leafUnpacks", fn := fun _ => fun
  | [d] => { results := [.lit (.bool false)], args := [d] }
  | _ => none }
def LeafUnpacksWrongFalsely : Prop := leafUnpacksRow.holds Try.pinned (OpenSpec.ofChange leafUnpacksWrong)

/-- 'aumbrylaw13.LeafBack': WHATEVER THE INPUT: true; the input reads as it did. -/
def leafBackSpec : ChangeSpec := { name := "leafBack", fn := fun _ => fun
  | [d1, d2, d3] => { results := [.lit (.bool true)], args := [d1, d2, d3] }
  | _ => none }
def leafBackRow : OpenClaim := { program := "ytdieanikopjbjaa", sum := "3c1a5e652ac6e9ab0d3d0bcb645d865fc3e6d054baf8fe55aff73fe7cc705a9a", func := "aumbry/aumbrylaw13.LeafBack", spec := "leafBack", inPlace := ["internal/abi.NoEscape", "internal/bytealg.MakeNoZero"], unfollowed := true, recurses := true, apart := false }
def LeafBackSaid : Prop := leafBackRow.holds Try.pinned (OpenSpec.ofChange leafBackSpec)

/-- ITS FALSE NEIGHBOUR: 'it returns false'. Refute it at one input. -/
def leafBackWrong : ChangeSpec := { name := "leafBack", fn := fun _ => fun
  | [d1, d2, d3] => { results := [.lit (.bool false)], args := [d1, d2, d3] }
  | _ => none }
def LeafBackWrongFalsely : Prop := leafBackRow.holds Try.pinned (OpenSpec.ofChange leafBackWrong)

/-- 'aumbrylaw13.LeafFinds': WHATEVER THE INPUT: true; the input reads as it did. -/
def leafFindsSpec : ChangeSpec := { name := "leafFinds", fn := fun _ => fun
  | [d1, d2] => { results := [.lit (.bool true)], args := [d1, d2] }
  | _ => none }
def leafFindsRow : OpenClaim := { program := "ytdieanikopjbjaa", sum := "3c1a5e652ac6e9ab0d3d0bcb645d865fc3e6d054baf8fe55aff73fe7cc705a9a", func := "aumbry/aumbrylaw13.LeafFinds", spec := "leafFinds", inPlace := ["internal/abi.NoEscape", "internal/bytealg.MakeNoZero"], unfollowed := true, recurses := true, apart := false }
def LeafFindsSaid : Prop := leafFindsRow.holds Try.pinned (OpenSpec.ofChange leafFindsSpec)

/-- ITS FALSE NEIGHBOUR: 'it returns false'. Refute it at one input. -/
def leafFindsWrong : ChangeSpec := { name := "leafFinds", fn := fun _ => fun
  | [d1, d2] => { results := [.lit (.bool false)], args := [d1, d2] }
  | _ => none }
def LeafFindsWrongFalsely : Prop := leafFindsRow.holds Try.pinned (OpenSpec.ofChange leafFindsWrong)

/-- 'aumbrylaw13.LeafCuts': WHATEVER THE INPUT: true; the input reads as it did. -/
def leafCutsSpec : ChangeSpec := { name := "leafCuts", fn := fun _ => fun
  | [d] => { results := [.lit (.bool true)], args := [d] }
  | _ => none }
def leafCutsRow : OpenClaim := { program := "ytdieanikopjbjaa", sum := "3c1a5e652ac6e9ab0d3d0bcb645d865fc3e6d054baf8fe55aff73fe7cc705a9a", func := "aumbry/aumbrylaw13.LeafCuts", spec := "leafCuts", inPlace := ["internal/abi.NoEscape", "internal/bytealg.MakeNoZero"], unfollowed := true, recurses := true, apart := false }
def LeafCutsSaid : Prop := leafCutsRow.holds Try.pinned (OpenSpec.ofChange leafCutsSpec)

/-- ITS FALSE NEIGHBOUR: 'it returns false'. Refute it at one input. -/
def leafCutsWrong : ChangeSpec := { name := "leafCuts", fn := fun _ => fun
  | [d] => { results := [.lit (.bool false)], args := [d] }
  | _ => none }
def LeafCutsWrongFalsely : Prop := leafCutsRow.holds Try.pinned (OpenSpec.ofChange leafCutsWrong)

/-- 'aumbrylaw15.SlotHashes': WHATEVER THE INPUT: true; the input reads as it did. -/
def slotHashesSpec : ChangeSpec := { name := "slotHashes", fn := fun _ => fun
  | [d1, d2] => { results := [.lit (.bool true)], args := [d1, d2] }
  | _ => none }
def slotHashesRow : OpenClaim := { program := "ytdieanikopjbjaa", sum := "3c1a5e652ac6e9ab0d3d0bcb645d865fc3e6d054baf8fe55aff73fe7cc705a9a", func := "aumbry/aumbrylaw15.SlotHashes", spec := "slotHashes", inPlace := ["internal/abi.NoEscape", "internal/bytealg.MakeNoZero"], unfollowed := true, recurses := true, apart := false }
def SlotHashesSaid : Prop := slotHashesRow.holds Try.pinned (OpenSpec.ofChange slotHashesSpec)

/-- ITS FALSE NEIGHBOUR: 'it returns false'. Refute it at one input. -/
def slotHashesWrong : ChangeSpec := { name := "slotHashes", fn := fun _ => fun
  | [d1, d2] => { results := [.lit (.bool false)], args := [d1, d2] }
  | _ => none }
def SlotHashesWrongFalsely : Prop := slotHashesRow.holds Try.pinned (OpenSpec.ofChange slotHashesWrong)

/-- 'aumbrylaw15.SlotAddresses': WHATEVER THE INPUT: true; the input reads as it did. -/
def slotAddressesSpec : ChangeSpec := { name := "slotAddresses", fn := fun _ => fun
  | [d1, d2, d3] => { results := [.lit (.bool true)], args := [d1, d2, d3] }
  | _ => none }
def slotAddressesRow : OpenClaim := { program := "ytdieanikopjbjaa", sum := "3c1a5e652ac6e9ab0d3d0bcb645d865fc3e6d054baf8fe55aff73fe7cc705a9a", func := "aumbry/aumbrylaw15.SlotAddresses", spec := "slotAddresses", inPlace := ["internal/abi.NoEscape", "internal/bytealg.MakeNoZero"], unfollowed := true, recurses := true, apart := false }
def SlotAddressesSaid : Prop := slotAddressesRow.holds Try.pinned (OpenSpec.ofChange slotAddressesSpec)

/-- ITS FALSE NEIGHBOUR: 'it returns false'. Refute it at one input. -/
def slotAddressesWrong : ChangeSpec := { name := "slotAddresses", fn := fun _ => fun
  | [d1, d2, d3] => { results := [.lit (.bool false)], args := [d1, d2, d3] }
  | _ => none }
def SlotAddressesWrongFalsely : Prop := slotAddressesRow.holds Try.pinned (OpenSpec.ofChange slotAddressesWrong)

/-- 'aumbrylaw15.SlotPacks': WHATEVER THE INPUT: true; the input reads as it did. -/
def slotPacksSpec : ChangeSpec := { name := "slotPacks", fn := fun _ => fun
  | [d] => { results := [.lit (.bool true)], args := [d] }
  | _ => none }
def slotPacksRow : OpenClaim := { program := "ytdieanikopjbjaa", sum := "3c1a5e652ac6e9ab0d3d0bcb645d865fc3e6d054baf8fe55aff73fe7cc705a9a", func := "aumbry/aumbrylaw15.SlotPacks", spec := "slotPacks", inPlace := ["internal/abi.NoEscape", "internal/bytealg.MakeNoZero"], unfollowed := true, recurses := true, apart := false }
def SlotPacksSaid : Prop := slotPacksRow.holds Try.pinned (OpenSpec.ofChange slotPacksSpec)

/-- ITS FALSE NEIGHBOUR: 'it returns false'. Refute it at one input. -/
def slotPacksWrong : ChangeSpec := { name := "slotPacks", fn := fun _ => fun
  | [d] => { results := [.lit (.bool false)], args := [d] }
  | _ => none }
def SlotPacksWrongFalsely : Prop := slotPacksRow.holds Try.pinned (OpenSpec.ofChange slotPacksWrong)

/-- 'aumbrylaw15.SlotUnpacks': WHATEVER THE INPUT: true; the input reads as it did. -/
def slotUnpacksSpec : ChangeSpec := { name := "slotUnpacks", fn := fun _ => fun
  | [d] => { results := [.lit (.bool true)], args := [d] }
  | _ => none }
def slotUnpacksRow : OpenClaim := { program := "ytdieanikopjbjaa", sum := "3c1a5e652ac6e9ab0d3d0bcb645d865fc3e6d054baf8fe55aff73fe7cc705a9a", func := "aumbry/aumbrylaw15.SlotUnpacks", spec := "slotUnpacks", inPlace := ["internal/abi.NoEscape", "internal/bytealg.MakeNoZero"], unfollowed := true, recurses := true, apart := false }
def SlotUnpacksSaid : Prop := slotUnpacksRow.holds Try.pinned (OpenSpec.ofChange slotUnpacksSpec)

/-- ITS FALSE NEIGHBOUR: 'it returns false'. Refute it at one input. -/
def slotUnpacksWrong : ChangeSpec := { name := "slotUnpacks", fn := fun _ => fun
  | [d] => { results := [.lit (.bool false)], args := [d] }
  | _ => none }
def SlotUnpacksWrongFalsely : Prop := slotUnpacksRow.holds Try.pinned (OpenSpec.ofChange slotUnpacksWrong)

/-- 'aumbrylaw15.SlotBack': WHATEVER THE INPUT: true; the input reads as it did. -/
def slotBackSpec : ChangeSpec := { name := "slotBack", fn := fun _ => fun
  | [d1, d2] => { results := [.lit (.bool true)], args := [d1, d2] }
  | _ => none }
def slotBackRow : OpenClaim := { program := "ytdieanikopjbjaa", sum := "3c1a5e652ac6e9ab0d3d0bcb645d865fc3e6d054baf8fe55aff73fe7cc705a9a", func := "aumbry/aumbrylaw15.SlotBack", spec := "slotBack", inPlace := ["internal/abi.NoEscape", "internal/bytealg.MakeNoZero"], unfollowed := true, recurses := true, apart := false }
def SlotBackSaid : Prop := slotBackRow.holds Try.pinned (OpenSpec.ofChange slotBackSpec)

/-- ITS FALSE NEIGHBOUR: 'it returns false'. Refute it at one input. -/
def slotBackWrong : ChangeSpec := { name := "slotBack", fn := fun _ => fun
  | [d1, d2] => { results := [.lit (.bool false)], args := [d1, d2] }
  | _ => none }
def SlotBackWrongFalsely : Prop := slotBackRow.holds Try.pinned (OpenSpec.ofChange slotBackWrong)

/-- 'aumbrylaw15.SlotOwn': WHATEVER THE INPUT: true; the input reads as it did. -/
def slotOwnSpec : ChangeSpec := { name := "slotOwn", fn := fun _ => fun
  | [d] => { results := [.lit (.bool true)], args := [d] }
  | _ => none }
def slotOwnRow : OpenClaim := { program := "ytdieanikopjbjaa", sum := "3c1a5e652ac6e9ab0d3d0bcb645d865fc3e6d054baf8fe55aff73fe7cc705a9a", func := "aumbry/aumbrylaw15.SlotOwn", spec := "slotOwn", inPlace := ["internal/abi.NoEscape", "internal/bytealg.MakeNoZero"], unfollowed := true, recurses := true, apart := false }
def SlotOwnSaid : Prop := slotOwnRow.holds Try.pinned (OpenSpec.ofChange slotOwnSpec)

/-- ITS FALSE NEIGHBOUR: 'it returns false'. Refute it at one input. -/
def slotOwnWrong : ChangeSpec := { name := "slotOwn", fn := fun _ => fun
  | [d] => { results := [.lit (.bool false)], args := [d] }
  | _ => none }
def SlotOwnWrongFalsely : Prop := slotOwnRow.holds Try.pinned (OpenSpec.ofChange slotOwnWrong)

/- THE SECOND FORM. 'bulk': how many values and letters a reading holds, each counted each time it is reached (what is shared counts as often as it is met; a slice's spare places count too). A statement '..UptoSaid' is the law's where the arguments, and the package variables that the reading takes, are together of bulk at most 1048576: NARROWER than '..Said'. Prove '..Said' where nothing that the law and all that it calls make is longer than what came in: it says more and counts as full. Else prove '..UptoSaid'. A law counts once. -/
mutual
def uptoBulk {H : Type} : DataW H → Nat
  | .lit (.string bytes) => bytes.length + 1
  | .lit _ => 1
  | .nil => 1
  | .ptr d => uptoBulk d + 1
  | .slice elems spare => uptoBulkAll elems + uptoBulkAll spare + 1
  | .agg parts => uptoBulkAll parts + 1
  | .iface _ d => uptoBulk d + 1
  | .map entries => uptoBulkEntries entries + 1
  | .held _ => 1
def uptoBulkAll {H : Type} : List (DataW H) → Nat
  | [] => 0
  | d :: r => uptoBulk d + uptoBulkAll r
def uptoBulkEntries {H : Type} : List (Lit × DataW H) → Nat
  | [] => 0
  | x :: r => uptoBulkEntry x + uptoBulkEntries r
def uptoBulkEntry {H : Type} : Lit × DataW H → Nat
  | (.string bytes, d) => bytes.length + uptoBulk d + 1
  | (_, d) => uptoBulk d + 1
 end
def uptoSmall : (H : Type) → List (DataW H) → Bool := fun _ ds => decide (uptoBulkAll ds ≤ 1048576)
def OpenSpec.upto (s : _root_.Go.ChangeSpec) : _root_.Go.OpenSpec := { _root_.Go.OpenSpec.ofChange s with cond := some uptoSmall }

/-- 'aumbrylaw13.LeafPacks', WHERE WHAT IT READS IS OF BULK AT MOST 1048576: true; the input reads as it did. -/
def leafPacksUptoRow : OpenClaim := { program := "ytdieanikopjbjaa", sum := "3c1a5e652ac6e9ab0d3d0bcb645d865fc3e6d054baf8fe55aff73fe7cc705a9a", func := "aumbry/aumbrylaw13.LeafPacks", spec := "leafPacks", inPlace := ["internal/abi.NoEscape", "internal/bytealg.MakeNoZero"], unfollowed := true, recurses := true, apart := false, narrowed := true }
def LeafPacksUptoSaid : Prop := leafPacksUptoRow.holds Try.pinned (OpenSpec.upto leafPacksSpec)

/-- 'aumbrylaw13.LeafUnpacks', WHERE WHAT IT READS IS OF BULK AT MOST 1048576: true; the input reads as it did. -/
def leafUnpacksUptoRow : OpenClaim := { program := "ytdieanikopjbjaa", sum := "3c1a5e652ac6e9ab0d3d0bcb645d865fc3e6d054baf8fe55aff73fe7cc705a9a", func := "aumbry/aumbrylaw13.LeafUnpacks", spec := "leafUnpacks", inPlace := ["internal/abi.NoEscape", "internal/bytealg.MakeNoZero"], unfollowed := true, recurses := true, apart := false, narrowed := true }
def LeafUnpacksUptoSaid : Prop := leafUnpacksUptoRow.holds Try.pinned (OpenSpec.upto leafUnpacksSpec)

/-- 'aumbrylaw13.LeafBack', WHERE WHAT IT READS IS OF BULK AT MOST 1048576: true; the input reads as it did. -/
def leafBackUptoRow : OpenClaim := { program := "ytdieanikopjbjaa", sum := "3c1a5e652ac6e9ab0d3d0bcb645d865fc3e6d054baf8fe55aff73fe7cc705a9a", func := "aumbry/aumbrylaw13.LeafBack", spec := "leafBack", inPlace := ["internal/abi.NoEscape", "internal/bytealg.MakeNoZero"], unfollowed := true, recurses := true, apart := false, narrowed := true }
def LeafBackUptoSaid : Prop := leafBackUptoRow.holds Try.pinned (OpenSpec.upto leafBackSpec)

/-- 'aumbrylaw13.LeafFinds', WHERE WHAT IT READS IS OF BULK AT MOST 1048576: true; the input reads as it did. -/
def leafFindsUptoRow : OpenClaim := { program := "ytdieanikopjbjaa", sum := "3c1a5e652ac6e9ab0d3d0bcb645d865fc3e6d054baf8fe55aff73fe7cc705a9a", func := "aumbry/aumbrylaw13.LeafFinds", spec := "leafFinds", inPlace := ["internal/abi.NoEscape", "internal/bytealg.MakeNoZero"], unfollowed := true, recurses := true, apart := false, narrowed := true }
def LeafFindsUptoSaid : Prop := leafFindsUptoRow.holds Try.pinned (OpenSpec.upto leafFindsSpec)

/-- 'aumbrylaw13.LeafCuts', WHERE WHAT IT READS IS OF BULK AT MOST 1048576: true; the input reads as it did. -/
def leafCutsUptoRow : OpenClaim := { program := "ytdieanikopjbjaa", sum := "3c1a5e652ac6e9ab0d3d0bcb645d865fc3e6d054baf8fe55aff73fe7cc705a9a", func := "aumbry/aumbrylaw13.LeafCuts", spec := "leafCuts", inPlace := ["internal/abi.NoEscape", "internal/bytealg.MakeNoZero"], unfollowed := true, recurses := true, apart := false, narrowed := true }
def LeafCutsUptoSaid : Prop := leafCutsUptoRow.holds Try.pinned (OpenSpec.upto leafCutsSpec)

/-- 'aumbrylaw15.SlotHashes', WHERE WHAT IT READS IS OF BULK AT MOST 1048576: true; the input reads as it did. -/
def slotHashesUptoRow : OpenClaim := { program := "ytdieanikopjbjaa", sum := "3c1a5e652ac6e9ab0d3d0bcb645d865fc3e6d054baf8fe55aff73fe7cc705a9a", func := "aumbry/aumbrylaw15.SlotHashes", spec := "slotHashes", inPlace := ["internal/abi.NoEscape", "internal/bytealg.MakeNoZero"], unfollowed := true, recurses := true, apart := false, narrowed := true }
def SlotHashesUptoSaid : Prop := slotHashesUptoRow.holds Try.pinned (OpenSpec.upto slotHashesSpec)

/-- 'aumbrylaw15.SlotAddresses', WHERE WHAT IT READS IS OF BULK AT MOST 1048576: true; the input reads as it did. -/
def slotAddressesUptoRow : OpenClaim := { program := "ytdieanikopjbjaa", sum := "3c1a5e652ac6e9ab0d3d0bcb645d865fc3e6d054baf8fe55aff73fe7cc705a9a", func := "aumbry/aumbrylaw15.SlotAddresses", spec := "slotAddresses", inPlace := ["internal/abi.NoEscape", "internal/bytealg.MakeNoZero"], unfollowed := true, recurses := true, apart := false, narrowed := true }
def SlotAddressesUptoSaid : Prop := slotAddressesUptoRow.holds Try.pinned (OpenSpec.upto slotAddressesSpec)

/-- 'aumbrylaw15.SlotPacks', WHERE WHAT IT READS IS OF BULK AT MOST 1048576: true; the input reads as it did. -/
def slotPacksUptoRow : OpenClaim := { program := "ytdieanikopjbjaa", sum := "3c1a5e652ac6e9ab0d3d0bcb645d865fc3e6d054baf8fe55aff73fe7cc705a9a", func := "aumbry/aumbrylaw15.SlotPacks", spec := "slotPacks", inPlace := ["internal/abi.NoEscape", "internal/bytealg.MakeNoZero"], unfollowed := true, recurses := true, apart := false, narrowed := true }
def SlotPacksUptoSaid : Prop := slotPacksUptoRow.holds Try.pinned (OpenSpec.upto slotPacksSpec)

/-- 'aumbrylaw15.SlotUnpacks', WHERE WHAT IT READS IS OF BULK AT MOST 1048576: true; the input reads as it did. -/
def slotUnpacksUptoRow : OpenClaim := { program := "ytdieanikopjbjaa", sum := "3c1a5e652ac6e9ab0d3d0bcb645d865fc3e6d054baf8fe55aff73fe7cc705a9a", func := "aumbry/aumbrylaw15.SlotUnpacks", spec := "slotUnpacks", inPlace := ["internal/abi.NoEscape", "internal/bytealg.MakeNoZero"], unfollowed := true, recurses := true, apart := false, narrowed := true }
def SlotUnpacksUptoSaid : Prop := slotUnpacksUptoRow.holds Try.pinned (OpenSpec.upto slotUnpacksSpec)

/-- 'aumbrylaw15.SlotBack', WHERE WHAT IT READS IS OF BULK AT MOST 1048576: true; the input reads as it did. -/
def slotBackUptoRow : OpenClaim := { program := "ytdieanikopjbjaa", sum := "3c1a5e652ac6e9ab0d3d0bcb645d865fc3e6d054baf8fe55aff73fe7cc705a9a", func := "aumbry/aumbrylaw15.SlotBack", spec := "slotBack", inPlace := ["internal/abi.NoEscape", "internal/bytealg.MakeNoZero"], unfollowed := true, recurses := true, apart := false, narrowed := true }
def SlotBackUptoSaid : Prop := slotBackUptoRow.holds Try.pinned (OpenSpec.upto slotBackSpec)

/-- 'aumbrylaw15.SlotOwn', WHERE WHAT IT READS IS OF BULK AT MOST 1048576: true; the input reads as it did. -/
def slotOwnUptoRow : OpenClaim := { program := "ytdieanikopjbjaa", sum := "3c1a5e652ac6e9ab0d3d0bcb645d865fc3e6d054baf8fe55aff73fe7cc705a9a", func := "aumbry/aumbrylaw15.SlotOwn", spec := "slotOwn", inPlace := ["internal/abi.NoEscape", "internal/bytealg.MakeNoZero"], unfollowed := true, recurses := true, apart := false, narrowed := true }
def SlotOwnUptoSaid : Prop := slotOwnUptoRow.holds Try.pinned (OpenSpec.upto slotOwnSpec)

end Rows
end Go.Proofs.Ytdieanikopjbjaa
