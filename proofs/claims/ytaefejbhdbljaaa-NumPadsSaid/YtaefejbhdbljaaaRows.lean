/-
  No cell of these rows narrows 'for every input' (looked for: loops, veiled, ifaces, maps, wideKeys, modest, calm, conditions, laid).
  DERIVED. THE GIVEN ROWS OF THIS SEAT. 11 by the template 'for every input the law returns true; each argument reads behind the call as it read before'; 0 by the template 'total and deterministic' (their statements: YtaefejbhdbljaaaTotals.lean).
  GIVEN WITH THE SEED: the statements are not yours to turn. If you find one false, say at which input.
  Laid BY PROGRAM, IN A SANDBOX (cutbox-rows.mjs): the forced cells as the released guide's own fill.sh prints them over the translation 4df7d9ea8fff4fdd… (all of the seat's roots in one cut). By AI agents, Wed Nov 11 2026. No macro, syntax, notation, axiom, sorry.
-/
import Derived.Test.YtaefejbhdbljaaaChecked
import GoSem.Claim
import GoSem.ClaimJoined
import GoSem.ClaimMapViews
import Derived.JoinedTies
import Derived.KernelRfl
namespace Go.Proofs.Ytaefejbhdbljaaa
/- THE CELL 'sum', in the pinned program and in every row, IS THE sha256 OF THE DUMP (.gsa) THAT YtaefejbhdbljaaaProg.lean LOADS. Nothing in Lean hashes anything: it is a label: what it is worth is what the hold of that sum in a sandbox is worth. -/
noncomputable def Try.pinned : Pinned := { name := "ytaefejbhdbljaaa", sum := "4df7d9ea8fff4fdd4924559c9049958fe28b431a29e7228dd3f1bdd04259b220", checked := Try.checked }
namespace Rows
def none {H : Type} : Left H := { results := [], args := [] }

/-- 'aumbrylaw02.MixSums': WHATEVER THE INPUT: true; the input reads as it did. -/
def mixSumsSpec : ChangeSpec := { name := "mixSums", fn := fun _ => fun
  | [d1, d2] => { results := [.lit (.bool true)], args := [d1, d2] }
  | _ => none }
def mixSumsRow : OpenClaim := { program := "ytaefejbhdbljaaa", sum := "4df7d9ea8fff4fdd4924559c9049958fe28b431a29e7228dd3f1bdd04259b220", func := "aumbry/aumbrylaw02.MixSums", spec := "mixSums", apart := false }
def MixSumsSaid : Prop := mixSumsRow.holds Try.pinned (OpenSpec.ofChange mixSumsSpec)

/-- ITS FALSE NEIGHBOUR: 'it returns false'. Refute it at one input. -/
def mixSumsWrong : ChangeSpec := { name := "mixSums", fn := fun _ => fun
  | [d1, d2] => { results := [.lit (.bool false)], args := [d1, d2] }
  | _ => none }
def MixSumsWrongFalsely : Prop := mixSumsRow.holds Try.pinned (OpenSpec.ofChange mixSumsWrong)

/-- 'aumbrylaw02.MixJoins': WHATEVER THE INPUT: true; the input reads as it did. -/
def mixJoinsSpec : ChangeSpec := { name := "mixJoins", fn := fun _ => fun
  | [d1, d2] => { results := [.lit (.bool true)], args := [d1, d2] }
  | _ => none }
def mixJoinsRow : OpenClaim := { program := "ytaefejbhdbljaaa", sum := "4df7d9ea8fff4fdd4924559c9049958fe28b431a29e7228dd3f1bdd04259b220", func := "aumbry/aumbrylaw02.MixJoins", spec := "mixJoins", apart := false }
def MixJoinsSaid : Prop := mixJoinsRow.holds Try.pinned (OpenSpec.ofChange mixJoinsSpec)

/-- ITS FALSE NEIGHBOUR: 'it returns false'. Refute it at one input. -/
def mixJoinsWrong : ChangeSpec := { name := "mixJoins", fn := fun _ => fun
  | [d1, d2] => { results := [.lit (.bool false)], args := [d1, d2] }
  | _ => none }
def MixJoinsWrongFalsely : Prop := mixJoinsRow.holds Try.pinned (OpenSpec.ofChange mixJoinsWrong)

/-- 'aumbrylaw02.MixChanged': WHATEVER THE INPUT: true; the input reads as it did. -/
def mixChangedSpec : ChangeSpec := { name := "mixChanged", fn := fun _ => fun
  | [d1, d2, d3] => { results := [.lit (.bool true)], args := [d1, d2, d3] }
  | _ => none }
def mixChangedRow : OpenClaim := { program := "ytaefejbhdbljaaa", sum := "4df7d9ea8fff4fdd4924559c9049958fe28b431a29e7228dd3f1bdd04259b220", func := "aumbry/aumbrylaw02.MixChanged", spec := "mixChanged", apart := false }
def MixChangedSaid : Prop := mixChangedRow.holds Try.pinned (OpenSpec.ofChange mixChangedSpec)

/-- ITS FALSE NEIGHBOUR: 'it returns false'. Refute it at one input. -/
def mixChangedWrong : ChangeSpec := { name := "mixChanged", fn := fun _ => fun
  | [d1, d2, d3] => { results := [.lit (.bool false)], args := [d1, d2, d3] }
  | _ => none }
def MixChangedWrongFalsely : Prop := mixChangedRow.holds Try.pinned (OpenSpec.ofChange mixChangedWrong)

/-- 'aumbrylaw02.MixTurned': WHATEVER THE INPUT: true; the input reads as it did. -/
def mixTurnedSpec : ChangeSpec := { name := "mixTurned", fn := fun _ => fun
  | [d1, d2] => { results := [.lit (.bool true)], args := [d1, d2] }
  | _ => none }
def mixTurnedRow : OpenClaim := { program := "ytaefejbhdbljaaa", sum := "4df7d9ea8fff4fdd4924559c9049958fe28b431a29e7228dd3f1bdd04259b220", func := "aumbry/aumbrylaw02.MixTurned", spec := "mixTurned", apart := false }
def MixTurnedSaid : Prop := mixTurnedRow.holds Try.pinned (OpenSpec.ofChange mixTurnedSpec)

/-- ITS FALSE NEIGHBOUR: 'it returns false'. Refute it at one input. -/
def mixTurnedWrong : ChangeSpec := { name := "mixTurned", fn := fun _ => fun
  | [d1, d2] => { results := [.lit (.bool false)], args := [d1, d2] }
  | _ => none }
def MixTurnedWrongFalsely : Prop := mixTurnedRow.holds Try.pinned (OpenSpec.ofChange mixTurnedWrong)

/-- 'aumbrylaw02.MixHashes': WHATEVER THE INPUT: true; the input reads as it did. -/
def mixHashesSpec : ChangeSpec := { name := "mixHashes", fn := fun _ => fun
  | [d] => { results := [.lit (.bool true)], args := [d] }
  | _ => none }
def mixHashesRow : OpenClaim := { program := "ytaefejbhdbljaaa", sum := "4df7d9ea8fff4fdd4924559c9049958fe28b431a29e7228dd3f1bdd04259b220", func := "aumbry/aumbrylaw02.MixHashes", spec := "mixHashes", apart := false }
def MixHashesSaid : Prop := mixHashesRow.holds Try.pinned (OpenSpec.ofChange mixHashesSpec)

/-- ITS FALSE NEIGHBOUR: 'it returns false'. Refute it at one input. -/
def mixHashesWrong : ChangeSpec := { name := "mixHashes", fn := fun _ => fun
  | [d] => { results := [.lit (.bool false)], args := [d] }
  | _ => none }
def MixHashesWrongFalsely : Prop := mixHashesRow.holds Try.pinned (OpenSpec.ofChange mixHashesWrong)

/-- 'aumbrylaw01.NumPuts': WHATEVER THE INPUT: true; the input reads as it did. -/
def numPutsSpec : ChangeSpec := { name := "numPuts", fn := fun _ => fun
  | [d1, d2] => { results := [.lit (.bool true)], args := [d1, d2] }
  | _ => none }
def numPutsRow : OpenClaim := { program := "ytaefejbhdbljaaa", sum := "4df7d9ea8fff4fdd4924559c9049958fe28b431a29e7228dd3f1bdd04259b220", func := "aumbry/aumbrylaw01.NumPuts", spec := "numPuts", apart := false }
def NumPutsSaid : Prop := numPutsRow.holds Try.pinned (OpenSpec.ofChange numPutsSpec)

/-- ITS FALSE NEIGHBOUR: 'it returns false'. Refute it at one input. -/
def numPutsWrong : ChangeSpec := { name := "numPuts", fn := fun _ => fun
  | [d1, d2] => { results := [.lit (.bool false)], args := [d1, d2] }
  | _ => none }
def NumPutsWrongFalsely : Prop := numPutsRow.holds Try.pinned (OpenSpec.ofChange numPutsWrong)

/-- 'aumbrylaw01.NumGets': WHATEVER THE INPUT: true; the input reads as it did. -/
def numGetsSpec : ChangeSpec := { name := "numGets", fn := fun _ => fun
  | [d1, d2] => { results := [.lit (.bool true)], args := [d1, d2] }
  | _ => none }
def numGetsRow : OpenClaim := { program := "ytaefejbhdbljaaa", sum := "4df7d9ea8fff4fdd4924559c9049958fe28b431a29e7228dd3f1bdd04259b220", func := "aumbry/aumbrylaw01.NumGets", spec := "numGets", apart := false }
def NumGetsSaid : Prop := numGetsRow.holds Try.pinned (OpenSpec.ofChange numGetsSpec)

/-- ITS FALSE NEIGHBOUR: 'it returns false'. Refute it at one input. -/
def numGetsWrong : ChangeSpec := { name := "numGets", fn := fun _ => fun
  | [d1, d2] => { results := [.lit (.bool false)], args := [d1, d2] }
  | _ => none }
def NumGetsWrongFalsely : Prop := numGetsRow.holds Try.pinned (OpenSpec.ofChange numGetsWrong)

/-- 'aumbrylaw01.NumSets': WHATEVER THE INPUT: true; the input reads as it did. -/
def numSetsSpec : ChangeSpec := { name := "numSets", fn := fun _ => fun
  | [d1, d2, d3] => { results := [.lit (.bool true)], args := [d1, d2, d3] }
  | _ => none }
def numSetsRow : OpenClaim := { program := "ytaefejbhdbljaaa", sum := "4df7d9ea8fff4fdd4924559c9049958fe28b431a29e7228dd3f1bdd04259b220", func := "aumbry/aumbrylaw01.NumSets", spec := "numSets", apart := false }
def NumSetsSaid : Prop := numSetsRow.holds Try.pinned (OpenSpec.ofChange numSetsSpec)

/-- ITS FALSE NEIGHBOUR: 'it returns false'. Refute it at one input. -/
def numSetsWrong : ChangeSpec := { name := "numSets", fn := fun _ => fun
  | [d1, d2, d3] => { results := [.lit (.bool false)], args := [d1, d2, d3] }
  | _ => none }
def NumSetsWrongFalsely : Prop := numSetsRow.holds Try.pinned (OpenSpec.ofChange numSetsWrong)

/-- 'aumbrylaw01.NumBack': WHATEVER THE INPUT: true; the input reads as it did. -/
def numBackSpec : ChangeSpec := { name := "numBack", fn := fun _ => fun
  | [d1, d2, d3] => { results := [.lit (.bool true)], args := [d1, d2, d3] }
  | _ => none }
def numBackRow : OpenClaim := { program := "ytaefejbhdbljaaa", sum := "4df7d9ea8fff4fdd4924559c9049958fe28b431a29e7228dd3f1bdd04259b220", func := "aumbry/aumbrylaw01.NumBack", spec := "numBack", apart := false }
def NumBackSaid : Prop := numBackRow.holds Try.pinned (OpenSpec.ofChange numBackSpec)

/-- ITS FALSE NEIGHBOUR: 'it returns false'. Refute it at one input. -/
def numBackWrong : ChangeSpec := { name := "numBack", fn := fun _ => fun
  | [d1, d2, d3] => { results := [.lit (.bool false)], args := [d1, d2, d3] }
  | _ => none }
def NumBackWrongFalsely : Prop := numBackRow.holds Try.pinned (OpenSpec.ofChange numBackWrong)

/-- 'aumbrylaw01.NumOrder': WHATEVER THE INPUT: true; the input reads as it did. -/
def numOrderSpec : ChangeSpec := { name := "numOrder", fn := fun _ => fun
  | [d1, d2, d3] => { results := [.lit (.bool true)], args := [d1, d2, d3] }
  | _ => none }
def numOrderRow : OpenClaim := { program := "ytaefejbhdbljaaa", sum := "4df7d9ea8fff4fdd4924559c9049958fe28b431a29e7228dd3f1bdd04259b220", func := "aumbry/aumbrylaw01.NumOrder", spec := "numOrder", apart := false }
def NumOrderSaid : Prop := numOrderRow.holds Try.pinned (OpenSpec.ofChange numOrderSpec)

/-- ITS FALSE NEIGHBOUR: 'it returns false'. Refute it at one input. -/
def numOrderWrong : ChangeSpec := { name := "numOrder", fn := fun _ => fun
  | [d1, d2, d3] => { results := [.lit (.bool false)], args := [d1, d2, d3] }
  | _ => none }
def NumOrderWrongFalsely : Prop := numOrderRow.holds Try.pinned (OpenSpec.ofChange numOrderWrong)

/-- 'aumbrylaw01.NumPads': WHATEVER THE INPUT: true; the input reads as it did. -/
def numPadsSpec : ChangeSpec := { name := "numPads", fn := fun _ => fun
  | [d1, d2] => { results := [.lit (.bool true)], args := [d1, d2] }
  | _ => none }
def numPadsRow : OpenClaim := { program := "ytaefejbhdbljaaa", sum := "4df7d9ea8fff4fdd4924559c9049958fe28b431a29e7228dd3f1bdd04259b220", func := "aumbry/aumbrylaw01.NumPads", spec := "numPads", inPlace := ["internal/abi.NoEscape", "internal/bytealg.MakeNoZero"], apart := false }
def NumPadsSaid : Prop := numPadsRow.holds Try.pinned (OpenSpec.ofChange numPadsSpec)

/-- ITS FALSE NEIGHBOUR: 'it returns false'. Refute it at one input. -/
def numPadsWrong : ChangeSpec := { name := "numPads", fn := fun _ => fun
  | [d1, d2] => { results := [.lit (.bool false)], args := [d1, d2] }
  | _ => none }
def NumPadsWrongFalsely : Prop := numPadsRow.holds Try.pinned (OpenSpec.ofChange numPadsWrong)

/- THE SECOND FORM. 'bulk': how many values and letters a reading holds, each counted each time it is reached (what is shared counts as often as it is met; a slice's spare places count too). A statement '..UptoSaid' is the law's where the arguments, and the package variables that the reading takes, are together of bulk at most 1048576: NARROWER than '..Said'. Prove '..Said' where nothing that the law and all that it calls make is longer than what came in: it says more and counts as full. Else prove '..UptoSaid'. A law counts once. -/
mutual
def uptoBulk {H : Type} : DataW H → Nat
  | .lit (.string bytes) => bytes.length + 1
  | .lit _ => 1
  | .nil => 1
  | .ptr d => uptoBulk d + 1
  | .slice elems spare => uptoBulkAll elems + uptoBulkAll spare + 1
  | .agg parts => uptoBulkAll parts + 1
  | .iface _ d => uptoBulk d + 1
  | .map entries => uptoBulkEntries entries + 1
  | .held _ => 1
def uptoBulkAll {H : Type} : List (DataW H) → Nat
  | [] => 0
  | d :: r => uptoBulk d + uptoBulkAll r
def uptoBulkEntries {H : Type} : List (Lit × DataW H) → Nat
  | [] => 0
  | x :: r => uptoBulkEntry x + uptoBulkEntries r
def uptoBulkEntry {H : Type} : Lit × DataW H → Nat
  | (.string bytes, d) => bytes.length + uptoBulk d + 1
  | (_, d) => uptoBulk d + 1
 end
def uptoSmall : (H : Type) → List (DataW H) → Bool := fun _ ds => decide (uptoBulkAll ds ≤ 1048576)
def OpenSpec.upto (s : _root_.Go.ChangeSpec) : _root_.Go.OpenSpec := { _root_.Go.OpenSpec.ofChange s with cond := some uptoSmall }

/-- 'aumbrylaw02.MixSums', WHERE WHAT IT READS IS OF BULK AT MOST 1048576: true; the input reads as it did. -/
def mixSumsUptoRow : OpenClaim := { program := "ytaefejbhdbljaaa", sum := "4df7d9ea8fff4fdd4924559c9049958fe28b431a29e7228dd3f1bdd04259b220", func := "aumbry/aumbrylaw02.MixSums", spec := "mixSums", apart := false, narrowed := true }
def MixSumsUptoSaid : Prop := mixSumsUptoRow.holds Try.pinned (OpenSpec.upto mixSumsSpec)

/-- 'aumbrylaw02.MixJoins', WHERE WHAT IT READS IS OF BULK AT MOST 1048576: true; the input reads as it did. -/
def mixJoinsUptoRow : OpenClaim := { program := "ytaefejbhdbljaaa", sum := "4df7d9ea8fff4fdd4924559c9049958fe28b431a29e7228dd3f1bdd04259b220", func := "aumbry/aumbrylaw02.MixJoins", spec := "mixJoins", apart := false, narrowed := true }
def MixJoinsUptoSaid : Prop := mixJoinsUptoRow.holds Try.pinned (OpenSpec.upto mixJoinsSpec)

/-- 'aumbrylaw02.MixChanged', WHERE WHAT IT READS IS OF BULK AT MOST 1048576: true; the input reads as it did. -/
def mixChangedUptoRow : OpenClaim := { program := "ytaefejbhdbljaaa", sum := "4df7d9ea8fff4fdd4924559c9049958fe28b431a29e7228dd3f1bdd04259b220", func := "aumbry/aumbrylaw02.MixChanged", spec := "mixChanged", apart := false, narrowed := true }
def MixChangedUptoSaid : Prop := mixChangedUptoRow.holds Try.pinned (OpenSpec.upto mixChangedSpec)

/-- 'aumbrylaw02.MixTurned', WHERE WHAT IT READS IS OF BULK AT MOST 1048576: true; the input reads as it did. -/
def mixTurnedUptoRow : OpenClaim := { program := "ytaefejbhdbljaaa", sum := "4df7d9ea8fff4fdd4924559c9049958fe28b431a29e7228dd3f1bdd04259b220", func := "aumbry/aumbrylaw02.MixTurned", spec := "mixTurned", apart := false, narrowed := true }
def MixTurnedUptoSaid : Prop := mixTurnedUptoRow.holds Try.pinned (OpenSpec.upto mixTurnedSpec)

/-- 'aumbrylaw02.MixHashes', WHERE WHAT IT READS IS OF BULK AT MOST 1048576: true; the input reads as it did. -/
def mixHashesUptoRow : OpenClaim := { program := "ytaefejbhdbljaaa", sum := "4df7d9ea8fff4fdd4924559c9049958fe28b431a29e7228dd3f1bdd04259b220", func := "aumbry/aumbrylaw02.MixHashes", spec := "mixHashes", apart := false, narrowed := true }
def MixHashesUptoSaid : Prop := mixHashesUptoRow.holds Try.pinned (OpenSpec.upto mixHashesSpec)

/-- 'aumbrylaw01.NumPuts', WHERE WHAT IT READS IS OF BULK AT MOST 1048576: true; the input reads as it did. -/
def numPutsUptoRow : OpenClaim := { program := "ytaefejbhdbljaaa", sum := "4df7d9ea8fff4fdd4924559c9049958fe28b431a29e7228dd3f1bdd04259b220", func := "aumbry/aumbrylaw01.NumPuts", spec := "numPuts", apart := false, narrowed := true }
def NumPutsUptoSaid : Prop := numPutsUptoRow.holds Try.pinned (OpenSpec.upto numPutsSpec)

/-- 'aumbrylaw01.NumGets', WHERE WHAT IT READS IS OF BULK AT MOST 1048576: true; the input reads as it did. -/
def numGetsUptoRow : OpenClaim := { program := "ytaefejbhdbljaaa", sum := "4df7d9ea8fff4fdd4924559c9049958fe28b431a29e7228dd3f1bdd04259b220", func := "aumbry/aumbrylaw01.NumGets", spec := "numGets", apart := false, narrowed := true }
def NumGetsUptoSaid : Prop := numGetsUptoRow.holds Try.pinned (OpenSpec.upto numGetsSpec)

/-- 'aumbrylaw01.NumSets', WHERE WHAT IT READS IS OF BULK AT MOST 1048576: true; the input reads as it did. -/
def numSetsUptoRow : OpenClaim := { program := "ytaefejbhdbljaaa", sum := "4df7d9ea8fff4fdd4924559c9049958fe28b431a29e7228dd3f1bdd04259b220", func := "aumbry/aumbrylaw01.NumSets", spec := "numSets", apart := false, narrowed := true }
def NumSetsUptoSaid : Prop := numSetsUptoRow.holds Try.pinned (OpenSpec.upto numSetsSpec)

/-- 'aumbrylaw01.NumBack', WHERE WHAT IT READS IS OF BULK AT MOST 1048576: true; the input reads as it did. -/
def numBackUptoRow : OpenClaim := { program := "ytaefejbhdbljaaa", sum := "4df7d9ea8fff4fdd4924559c9049958fe28b431a29e7228dd3f1bdd04259b220", func := "aumbry/aumbrylaw01.NumBack", spec := "numBack", apart := false, narrowed := true }
def NumBackUptoSaid : Prop := numBackUptoRow.holds Try.pinned (OpenSpec.upto numBackSpec)

/-- 'aumbrylaw01.NumOrder', WHERE WHAT IT READS IS OF BULK AT MOST 1048576: true; the input reads as it did. -/
def numOrderUptoRow : OpenClaim := { program := "ytaefejbhdbljaaa", sum := "4df7d9ea8fff4fdd4924559c9049958fe28b431a29e7228dd3f1bdd04259b220", func := "aumbry/aumbrylaw01.NumOrder", spec := "numOrder", apart := false, narrowed := true }
def NumOrderUptoSaid : Prop := numOrderUptoRow.holds Try.pinned (OpenSpec.upto numOrderSpec)

/-- 'aumbrylaw01.NumPads', WHERE WHAT IT READS IS OF BULK AT MOST 1048576: true; the input reads as it did. -/
def numPadsUptoRow : OpenClaim := { program := "ytaefejbhdbljaaa", sum := "4df7d9ea8fff4fdd4924559c9049958fe28b431a29e7228dd3f1bdd04259b220", func := "aumbry/aumbrylaw01.NumPads", spec := "numPads", inPlace := ["internal/abi.NoEscape", "internal/bytealg.MakeNoZero"], apart := false, narrowed := true }
def NumPadsUptoSaid : Prop := numPadsUptoRow.holds Try.pinned (OpenSpec.upto numPadsSpec)

end Rows
end Go.Proofs.Ytaefejbhdbljaaa
