/- Disks: contracts and laws, walked by hand. No condition beside those that each theorem names. -/
import Derived.Test.YtgageigcjeaenaaDiskA
import Derived.Deep.Strs
import Derived.ChangeSame
import Derived.ProofKit
import Derived.SizedLaws
namespace Go.Proofs.Ytgageigcjeaenaa.Disk
open Go.RowKit Go.Proofs.YtgageigcjeaenaaW.PrintWords Go.Proofs.YtgageigcjeaenaaW.PrintLast Go.Proofs.YtgageigcjeaenaaW.PrintMore Go.Proofs.Ytgageigcjeaenaa.MixBase Go.Proofs.Ytgageigcjeaenaa.MixPlain Go.Proofs.Ytgageigcjeaenaa.NumBase Go.Proofs.Ytgageigcjeaenaa.PadPlain
attribute [local go_sem] max2_int min2_int max_two min_two max_three min_three max_four min_four
set_option linter.unusedVariables false
set_option linter.unusedSimpArgs false
section
open Go.ChangeShapes Go.WideShapes Go.Deep
variable {H : Type} {enc : TypeId × Value → H} {P : Program} {w : World} {base : Nat} {spare : Nat → Bool} {held : Bool}
/-- A slice of texts that came in. -/
theorem open_texts {ts : List TypeId} {ds : List (DataW H)} {j : Nat} {a : Option Addr} {len cap : Nat} {d : DataW H} {ps : List MemPlace}
    (hsz : (DataW.weightsEach Try.prog ts ds).all (· ≤ reachBytes) = true) (htj : ts[j]? = some 37) (hdj : ds[j]? = some d)
    (h : DataW.Trod enc Try.prog w 0 (fun _ => true) true 37 (.slice a len cap) d ps) :
    ∃ l : List ByteArray, l.length = len ∧ len ≤ cap ∧ TextsAt w a len (fun i => l.getD i ⟨#[]⟩) ∧ len * 16 ≤ 140737488351232 := by
  obtain ⟨fuel, hf⟩ := h
  rcases open_strs Try.underlying37 Try.underlying9 (by kernel_rfl) hf with ⟨hcs, _⟩ | ⟨x, l, c, m, Sx, hcs, _, hl, hm, hmm, hx, hel⟩
  · simp [Value.cells] at hcs
    obtain ⟨rfl, rfl, rfl⟩ := hcs
    exact ⟨[], rfl, Nat.le_refl _, fun i hi => absurd hi (by omega), by omega⟩
  · simp [Value.cells] at hcs
    obtain ⟨rfl, rfl, rfl⟩ := hcs
    simp only [if_true] at hmm
    obtain ⟨hx, _⟩ := Prod.mk.inj hx
    subst hx
    have z := sized_slice hsz htj hdj Try.underlying37
    rw [show Try.prog.bytesOf 9 = 16 from by kernel_rfl] at z
    simp only [List.length_map, List.length_range] at z
    have hz : (len + (m - len)) * 16 ≤ 140737488351232 := z
    refine ⟨(List.range len).map Sx, by simp, hl, fun i hi => ⟨x, rfl, ?_⟩, by omega⟩
    have e : ((List.range len).map Sx).getD i ⟨#[]⟩ = Sx i := by
      rw [List.getD_eq_getElem?_getD, List.getElem?_map, List.getElem?_range hi]
      rfl
    show w.cell? (x.add i) = some (.string (((List.range len).map Sx).getD i ⟨#[]⟩))
    rw [e]
    exact (hel i (by omega)).1
end
theorem DiskLogs_row (TA : Option Addr) (tc : Nat) (t : List ByteArray) (A : Option Addr) (c : Nat) (l : List Act3) (W : World) (hT : TextsAt W TA t.length (fun i => t.getD i ⟨#[]⟩)) (htc : t.length ≤ tc) (hz : t.length * 16 ≤ 140737488351232) (hA : ActsAt W A l) (hc : l.length ≤ c) (hl : l.length * 32 ≤ 140737488351232) : Calls Try.prog 8 #[.slice TA t.length tc, .slice A l.length c] W fun e w' => e = .returned (.bool true) ∧ Below W.heap.size W w' :=
  DiskLogs_walk TA t.length tc (fun i => t.getD i ⟨#[]⟩) A c l W hT (by omega) htc hA hc (by omega)
end Go.Proofs.Ytgageigcjeaenaa.Disk
