/-
  No cell of these rows narrows 'for every input' (looked for: loops, veiled, ifaces, maps, wideKeys, modest, calm, conditions, laid).
  DERIVED. THE GIVEN ROWS OF THIS SEAT. 9 by the template 'for every input the law returns true; each argument reads behind the call as it read before'; 0 by the template 'total and deterministic' (their statements: YtgageigcjeaenaaTotals.lean).
  GIVEN WITH THE SEED: the statements are not yours to turn. If you find one false, say at which input.
  Laid BY PROGRAM, IN A SANDBOX (cutbox-rows.mjs): the forced cells as the released guide's own fill.sh prints them over the translation a18eeb0febf00551… (all of the seat's roots in one cut). By AI agents, Wed Nov 11 2026. No macro, syntax, notation, axiom, sorry.
-/
import Derived.Test.YtgageigcjeaenaaChecked
import GoSem.Claim
import GoSem.ClaimJoined
import GoSem.ClaimMapViews
import Derived.JoinedTies
import Derived.KernelRfl
namespace Go.Proofs.Ytgageigcjeaenaa
/- THE CELL 'sum', in the pinned program and in every row, IS THE sha256 OF THE DUMP (.gsa) THAT YtgageigcjeaenaaProg.lean LOADS. Nothing in Lean hashes anything: it is a label: what it is worth is what the hold of that sum in a sandbox is worth. -/
noncomputable def Try.pinned : Pinned := { name := "ytgageigcjeaenaa", sum := "a18eeb0febf0055168e90bd4bb5ee6b52857761763ec8d2733d9b8c9f2cc41e8", checked := Try.checked }
namespace Rows
def none {H : Type} : Left H := { results := [], args := [] }

/-- 'aumbrylaw10.JournalRecovers': WHATEVER THE INPUT: true; the input reads as it did. -/
def journalRecoversSpec : ChangeSpec := { name := "journalRecovers", fn := fun _ => fun
  | [d1, d2, d3] => { results := [.lit (.bool true)], args := [d1, d2, d3] }
  | _ => none }
def journalRecoversRow : OpenClaim := { program := "ytgageigcjeaenaa", sum := "a18eeb0febf0055168e90bd4bb5ee6b52857761763ec8d2733d9b8c9f2cc41e8", func := "aumbry/aumbrylaw10.JournalRecovers", spec := "journalRecovers", inPlace := ["internal/abi.NoEscape", "internal/bytealg.MakeNoZero"], unfollowed := true, recurses := true, apart := false }
def JournalRecoversSaid : Prop := journalRecoversRow.holds Try.pinned (OpenSpec.ofChange journalRecoversSpec)

/-- ITS FALSE NEIGHBOUR: 'it returns false'. Refute it at one input. -/
def journalRecoversWrong : ChangeSpec := { name := "journalRecovers", fn := fun _ => fun
  | [d1, d2, d3] => { results := [.lit (.bool false)], args := [d1, d2, d3] }
  | _ => none }
def JournalRecoversWrongFalsely : Prop := journalRecoversRow.holds Try.pinned (OpenSpec.ofChange journalRecoversWrong)

/-- 'aumbrylaw10.JournalCommits': WHATEVER THE INPUT: true; the input reads as it did. -/
def journalCommitsSpec : ChangeSpec := { name := "journalCommits", fn := fun _ => fun
  | [d1, d2, d3] => { results := [.lit (.bool true)], args := [d1, d2, d3] }
  | _ => none }
def journalCommitsRow : OpenClaim := { program := "ytgageigcjeaenaa", sum := "a18eeb0febf0055168e90bd4bb5ee6b52857761763ec8d2733d9b8c9f2cc41e8", func := "aumbry/aumbrylaw10.JournalCommits", spec := "journalCommits", inPlace := ["internal/abi.NoEscape", "internal/bytealg.MakeNoZero"], unfollowed := true, recurses := true, apart := false }
def JournalCommitsSaid : Prop := journalCommitsRow.holds Try.pinned (OpenSpec.ofChange journalCommitsSpec)

/-- ITS FALSE NEIGHBOUR: 'it returns false'. Refute it at one input. -/
def journalCommitsWrong : ChangeSpec := { name := "journalCommits", fn := fun _ => fun
  | [d1, d2, d3] => { results := [.lit (.bool false)], args := [d1, d2, d3] }
  | _ => none }
def JournalCommitsWrongFalsely : Prop := journalCommitsRow.holds Try.pinned (OpenSpec.ofChange journalCommitsWrong)

/-- 'aumbrylaw09.DiskPlays': WHATEVER THE INPUT: true; the input reads as it did. -/
def diskPlaysSpec : ChangeSpec := { name := "diskPlays", fn := fun _ => fun
  | [d1, d2] => { results := [.lit (.bool true)], args := [d1, d2] }
  | _ => none }
def diskPlaysRow : OpenClaim := { program := "ytgageigcjeaenaa", sum := "a18eeb0febf0055168e90bd4bb5ee6b52857761763ec8d2733d9b8c9f2cc41e8", func := "aumbry/aumbrylaw09.DiskPlays", spec := "diskPlays", inPlace := ["internal/abi.NoEscape", "internal/bytealg.MakeNoZero"], apart := false }
def DiskPlaysSaid : Prop := diskPlaysRow.holds Try.pinned (OpenSpec.ofChange diskPlaysSpec)

/-- ITS FALSE NEIGHBOUR: 'it returns false'. Refute it at one input. -/
def diskPlaysWrong : ChangeSpec := { name := "diskPlays", fn := fun _ => fun
  | [d1, d2] => { results := [.lit (.bool false)], args := [d1, d2] }
  | _ => none }
def DiskPlaysWrongFalsely : Prop := diskPlaysRow.holds Try.pinned (OpenSpec.ofChange diskPlaysWrong)

/-- 'aumbrylaw09.DiskCuts': WHATEVER THE INPUT: true; the input reads as it did. -/
def diskCutsSpec : ChangeSpec := { name := "diskCuts", fn := fun _ => fun
  | [d1, d2] => { results := [.lit (.bool true)], args := [d1, d2] }
  | _ => none }
def diskCutsRow : OpenClaim := { program := "ytgageigcjeaenaa", sum := "a18eeb0febf0055168e90bd4bb5ee6b52857761763ec8d2733d9b8c9f2cc41e8", func := "aumbry/aumbrylaw09.DiskCuts", spec := "diskCuts", inPlace := ["internal/abi.NoEscape", "internal/bytealg.MakeNoZero"], apart := false }
def DiskCutsSaid : Prop := diskCutsRow.holds Try.pinned (OpenSpec.ofChange diskCutsSpec)

/-- ITS FALSE NEIGHBOUR: 'it returns false'. Refute it at one input. -/
def diskCutsWrong : ChangeSpec := { name := "diskCuts", fn := fun _ => fun
  | [d1, d2] => { results := [.lit (.bool false)], args := [d1, d2] }
  | _ => none }
def DiskCutsWrongFalsely : Prop := diskCutsRow.holds Try.pinned (OpenSpec.ofChange diskCutsWrong)

/-- 'aumbrylaw09.DiskNil': WHATEVER THE INPUT: true; the input reads as it did. -/
def diskNilSpec : ChangeSpec := { name := "diskNil", fn := fun _ => fun
  | [d1, d2] => { results := [.lit (.bool true)], args := [d1, d2] }
  | _ => none }
def diskNilRow : OpenClaim := { program := "ytgageigcjeaenaa", sum := "a18eeb0febf0055168e90bd4bb5ee6b52857761763ec8d2733d9b8c9f2cc41e8", func := "aumbry/aumbrylaw09.DiskNil", spec := "diskNil", inPlace := ["internal/abi.NoEscape", "internal/bytealg.MakeNoZero"], apart := false }
def DiskNilSaid : Prop := diskNilRow.holds Try.pinned (OpenSpec.ofChange diskNilSpec)

/-- ITS FALSE NEIGHBOUR: 'it returns false'. Refute it at one input. -/
def diskNilWrong : ChangeSpec := { name := "diskNil", fn := fun _ => fun
  | [d1, d2] => { results := [.lit (.bool false)], args := [d1, d2] }
  | _ => none }
def DiskNilWrongFalsely : Prop := diskNilRow.holds Try.pinned (OpenSpec.ofChange diskNilWrong)

/-- 'aumbrylaw09.DiskLogs': WHATEVER THE INPUT: true; the input reads as it did. -/
def diskLogsSpec : ChangeSpec := { name := "diskLogs", fn := fun _ => fun
  | [d1, d2] => { results := [.lit (.bool true)], args := [d1, d2] }
  | _ => none }
def diskLogsRow : OpenClaim := { program := "ytgageigcjeaenaa", sum := "a18eeb0febf0055168e90bd4bb5ee6b52857761763ec8d2733d9b8c9f2cc41e8", func := "aumbry/aumbrylaw09.DiskLogs", spec := "diskLogs", inPlace := ["internal/abi.NoEscape", "internal/bytealg.MakeNoZero"], apart := false }
def DiskLogsSaid : Prop := diskLogsRow.holds Try.pinned (OpenSpec.ofChange diskLogsSpec)

/-- ITS FALSE NEIGHBOUR: 'it returns false'. Refute it at one input. -/
def diskLogsWrong : ChangeSpec := { name := "diskLogs", fn := fun _ => fun
  | [d1, d2] => { results := [.lit (.bool false)], args := [d1, d2] }
  | _ => none }
def DiskLogsWrongFalsely : Prop := diskLogsRow.holds Try.pinned (OpenSpec.ofChange diskLogsWrong)

/-- 'aumbrylaw09.DiskOf': WHATEVER THE INPUT: true; the input reads as it did. -/
def diskOfSpec : ChangeSpec := { name := "diskOf", fn := fun _ => fun
  | [d1, d2, d3] => { results := [.lit (.bool true)], args := [d1, d2, d3] }
  | _ => none }
def diskOfRow : OpenClaim := { program := "ytgageigcjeaenaa", sum := "a18eeb0febf0055168e90bd4bb5ee6b52857761763ec8d2733d9b8c9f2cc41e8", func := "aumbry/aumbrylaw09.DiskOf", spec := "diskOf", inPlace := ["internal/abi.NoEscape", "internal/bytealg.MakeNoZero"], apart := false }
def DiskOfSaid : Prop := diskOfRow.holds Try.pinned (OpenSpec.ofChange diskOfSpec)

/-- ITS FALSE NEIGHBOUR: 'it returns false'. Refute it at one input. -/
def diskOfWrong : ChangeSpec := { name := "diskOf", fn := fun _ => fun
  | [d1, d2, d3] => { results := [.lit (.bool false)], args := [d1, d2, d3] }
  | _ => none }
def DiskOfWrongFalsely : Prop := diskOfRow.holds Try.pinned (OpenSpec.ofChange diskOfWrong)

/-- 'aumbrylaw10.JournalRooms': WHATEVER THE INPUT: true; the input reads as it did. -/
def journalRoomsSpec : ChangeSpec := { name := "journalRooms", fn := fun _ => fun
  | [d] => { results := [.lit (.bool true)], args := [d] }
  | _ => none }
def journalRoomsRow : OpenClaim := { program := "ytgageigcjeaenaa", sum := "a18eeb0febf0055168e90bd4bb5ee6b52857761763ec8d2733d9b8c9f2cc41e8", func := "aumbry/aumbrylaw10.JournalRooms", spec := "journalRooms", inPlace := ["internal/abi.NoEscape", "internal/bytealg.MakeNoZero"], unfollowed := true, recurses := true, apart := false }
def JournalRoomsSaid : Prop := journalRoomsRow.holds Try.pinned (OpenSpec.ofChange journalRoomsSpec)

/-- ITS FALSE NEIGHBOUR: 'it returns false'. Refute it at one input. -/
def journalRoomsWrong : ChangeSpec := { name := "journalRooms", fn := fun _ => fun
  | [d] => { results := [.lit (.bool false)], args := [d] }
  | _ => none }
def JournalRoomsWrongFalsely : Prop := journalRoomsRow.holds Try.pinned (OpenSpec.ofChange journalRoomsWrong)

/-- 'aumbrylaw10.JournalNil': WHATEVER THE INPUT: true; the input reads as it did. -/
def journalNilSpec : ChangeSpec := { name := "journalNil", fn := fun _ => fun
  | [d] => { results := [.lit (.bool true)], args := [d] }
  | _ => none }
def journalNilRow : OpenClaim := { program := "ytgageigcjeaenaa", sum := "a18eeb0febf0055168e90bd4bb5ee6b52857761763ec8d2733d9b8c9f2cc41e8", func := "aumbry/aumbrylaw10.JournalNil", spec := "journalNil", inPlace := ["internal/abi.NoEscape", "internal/bytealg.MakeNoZero"], unfollowed := true, recurses := true, apart := false }
def JournalNilSaid : Prop := journalNilRow.holds Try.pinned (OpenSpec.ofChange journalNilSpec)

/-- ITS FALSE NEIGHBOUR: 'it returns false'. Refute it at one input. -/
def journalNilWrong : ChangeSpec := { name := "journalNil", fn := fun _ => fun
  | [d] => { results := [.lit (.bool false)], args := [d] }
  | _ => none }
def JournalNilWrongFalsely : Prop := journalNilRow.holds Try.pinned (OpenSpec.ofChange journalNilWrong)

/- THE SECOND FORM. 'bulk': how many values and letters a reading holds, each counted each time it is reached (what is shared counts as often as it is met; a slice's spare places count too). A statement '..UptoSaid' is the law's where the arguments, and the package variables that the reading takes, are together of bulk at most 1048576: NARROWER than '..Said'. Prove '..Said' where nothing that the law and all that it calls make is longer than what came in: it says more and counts as full. Else prove '..UptoSaid'. A law counts once. -/
mutual
def uptoBulk {H : Type} : DataW H → Nat
  | .lit (.string bytes) => bytes.length + 1
  | .lit _ => 1
  | .nil => 1
  | .ptr d => uptoBulk d + 1
  | .slice elems spare => uptoBulkAll elems + uptoBulkAll spare + 1
  | .agg parts => uptoBulkAll parts + 1
  | .iface _ d => uptoBulk d + 1
  | .map entries => uptoBulkEntries entries + 1
  | .held _ => 1
def uptoBulkAll {H : Type} : List (DataW H) → Nat
  | [] => 0
  | d :: r => uptoBulk d + uptoBulkAll r
def uptoBulkEntries {H : Type} : List (Lit × DataW H) → Nat
  | [] => 0
  | x :: r => uptoBulkEntry x + uptoBulkEntries r
def uptoBulkEntry {H : Type} : Lit × DataW H → Nat
  | (.string bytes, d) => bytes.length + uptoBulk d + 1
  | (_, d) => uptoBulk d + 1
 end
def uptoSmall : (H : Type) → List (DataW H) → Bool := fun _ ds => decide (uptoBulkAll ds ≤ 1048576)
def OpenSpec.upto (s : _root_.Go.ChangeSpec) : _root_.Go.OpenSpec := { _root_.Go.OpenSpec.ofChange s with cond := some uptoSmall }

/-- 'aumbrylaw10.JournalRecovers', WHERE WHAT IT READS IS OF BULK AT MOST 1048576: true; the input reads as it did. -/
def journalRecoversUptoRow : OpenClaim := { program := "ytgageigcjeaenaa", sum := "a18eeb0febf0055168e90bd4bb5ee6b52857761763ec8d2733d9b8c9f2cc41e8", func := "aumbry/aumbrylaw10.JournalRecovers", spec := "journalRecovers", inPlace := ["internal/abi.NoEscape", "internal/bytealg.MakeNoZero"], unfollowed := true, recurses := true, apart := false, narrowed := true }
def JournalRecoversUptoSaid : Prop := journalRecoversUptoRow.holds Try.pinned (OpenSpec.upto journalRecoversSpec)

/-- 'aumbrylaw10.JournalCommits', WHERE WHAT IT READS IS OF BULK AT MOST 1048576: true; the input reads as it did. -/
def journalCommitsUptoRow : OpenClaim := { program := "ytgageigcjeaenaa", sum := "a18eeb0febf0055168e90bd4bb5ee6b52857761763ec8d2733d9b8c9f2cc41e8", func := "aumbry/aumbrylaw10.JournalCommits", spec := "journalCommits", inPlace := ["internal/abi.NoEscape", "internal/bytealg.MakeNoZero"], unfollowed := true, recurses := true, apart := false, narrowed := true }
def JournalCommitsUptoSaid : Prop := journalCommitsUptoRow.holds Try.pinned (OpenSpec.upto journalCommitsSpec)

/-- 'aumbrylaw09.DiskPlays', WHERE WHAT IT READS IS OF BULK AT MOST 1048576: true; the input reads as it did. -/
def diskPlaysUptoRow : OpenClaim := { program := "ytgageigcjeaenaa", sum := "a18eeb0febf0055168e90bd4bb5ee6b52857761763ec8d2733d9b8c9f2cc41e8", func := "aumbry/aumbrylaw09.DiskPlays", spec := "diskPlays", inPlace := ["internal/abi.NoEscape", "internal/bytealg.MakeNoZero"], apart := false, narrowed := true }
def DiskPlaysUptoSaid : Prop := diskPlaysUptoRow.holds Try.pinned (OpenSpec.upto diskPlaysSpec)

/-- 'aumbrylaw09.DiskCuts', WHERE WHAT IT READS IS OF BULK AT MOST 1048576: true; the input reads as it did. -/
def diskCutsUptoRow : OpenClaim := { program := "ytgageigcjeaenaa", sum := "a18eeb0febf0055168e90bd4bb5ee6b52857761763ec8d2733d9b8c9f2cc41e8", func := "aumbry/aumbrylaw09.DiskCuts", spec := "diskCuts", inPlace := ["internal/abi.NoEscape", "internal/bytealg.MakeNoZero"], apart := false, narrowed := true }
def DiskCutsUptoSaid : Prop := diskCutsUptoRow.holds Try.pinned (OpenSpec.upto diskCutsSpec)

/-- 'aumbrylaw09.DiskNil', WHERE WHAT IT READS IS OF BULK AT MOST 1048576: true; the input reads as it did. -/
def diskNilUptoRow : OpenClaim := { program := "ytgageigcjeaenaa", sum := "a18eeb0febf0055168e90bd4bb5ee6b52857761763ec8d2733d9b8c9f2cc41e8", func := "aumbry/aumbrylaw09.DiskNil", spec := "diskNil", inPlace := ["internal/abi.NoEscape", "internal/bytealg.MakeNoZero"], apart := false, narrowed := true }
def DiskNilUptoSaid : Prop := diskNilUptoRow.holds Try.pinned (OpenSpec.upto diskNilSpec)

/-- 'aumbrylaw09.DiskLogs', WHERE WHAT IT READS IS OF BULK AT MOST 1048576: true; the input reads as it did. -/
def diskLogsUptoRow : OpenClaim := { program := "ytgageigcjeaenaa", sum := "a18eeb0febf0055168e90bd4bb5ee6b52857761763ec8d2733d9b8c9f2cc41e8", func := "aumbry/aumbrylaw09.DiskLogs", spec := "diskLogs", inPlace := ["internal/abi.NoEscape", "internal/bytealg.MakeNoZero"], apart := false, narrowed := true }
def DiskLogsUptoSaid : Prop := diskLogsUptoRow.holds Try.pinned (OpenSpec.upto diskLogsSpec)

/-- 'aumbrylaw09.DiskOf', WHERE WHAT IT READS IS OF BULK AT MOST 1048576: true; the input reads as it did. -/
def diskOfUptoRow : OpenClaim := { program := "ytgageigcjeaenaa", sum := "a18eeb0febf0055168e90bd4bb5ee6b52857761763ec8d2733d9b8c9f2cc41e8", func := "aumbry/aumbrylaw09.DiskOf", spec := "diskOf", inPlace := ["internal/abi.NoEscape", "internal/bytealg.MakeNoZero"], apart := false, narrowed := true }
def DiskOfUptoSaid : Prop := diskOfUptoRow.holds Try.pinned (OpenSpec.upto diskOfSpec)

/-- 'aumbrylaw10.JournalRooms', WHERE WHAT IT READS IS OF BULK AT MOST 1048576: true; the input reads as it did. -/
def journalRoomsUptoRow : OpenClaim := { program := "ytgageigcjeaenaa", sum := "a18eeb0febf0055168e90bd4bb5ee6b52857761763ec8d2733d9b8c9f2cc41e8", func := "aumbry/aumbrylaw10.JournalRooms", spec := "journalRooms", inPlace := ["internal/abi.NoEscape", "internal/bytealg.MakeNoZero"], unfollowed := true, recurses := true, apart := false, narrowed := true }
def JournalRoomsUptoSaid : Prop := journalRoomsUptoRow.holds Try.pinned (OpenSpec.upto journalRoomsSpec)

/-- 'aumbrylaw10.JournalNil', WHERE WHAT IT READS IS OF BULK AT MOST 1048576: true; the input reads as it did. -/
def journalNilUptoRow : OpenClaim := { program := "ytgageigcjeaenaa", sum := "a18eeb0febf0055168e90bd4bb5ee6b52857761763ec8d2733d9b8c9f2cc41e8", func := "aumbry/aumbrylaw10.JournalNil", spec := "journalNil", inPlace := ["internal/abi.NoEscape", "internal/bytealg.MakeNoZero"], unfollowed := true, recurses := true, apart := false, narrowed := true }
def JournalNilUptoSaid : Prop := journalNilUptoRow.holds Try.pinned (OpenSpec.upto journalNilSpec)

end Rows
end Go.Proofs.Ytgageigcjeaenaa
