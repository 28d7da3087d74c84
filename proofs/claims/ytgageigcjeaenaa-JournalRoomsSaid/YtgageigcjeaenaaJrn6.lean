/- Disks: contracts and laws, walked by hand. No condition beside those that each theorem names. -/
import Derived.Test.YtgageigcjeaenaaJrn5
import Derived.RangeFuncNested
namespace Go.Proofs.Ytgageigcjeaenaa.Disk
open Go.RowKit Go.Proofs.YtgageigcjeaenaaW.PrintWords Go.Proofs.YtgageigcjeaenaaW.PrintLast Go.Proofs.YtgageigcjeaenaaW.PrintMore Go.Proofs.Ytgageigcjeaenaa.MixBase Go.Proofs.Ytgageigcjeaenaa.MixPlain Go.Proofs.Ytgageigcjeaenaa.NumBase Go.Proofs.Ytgageigcjeaenaa.PadPlain
attribute [local go_sem] max2_int min2_int max_two min_two max_three min_three max_four min_four
set_option linter.unusedVariables false
set_option linter.unusedSimpArgs false
def lW : List QJour.S62 := [⟨34, blockS ⟨#[120]⟩⟩, ⟨0, blockS ⟨#[121]⟩⟩]
theorem pW : QJour.journal_Pages.f 1000 64 = some 31 := by kernel_rfl
theorem fW : QJour.journal_First.f 1000 64 = some 34 := by kernel_rfl
theorem cW : QJour.journal_copies.f 1000 64 = some 3 := by kernel_rfl
theorem zW : QJour.journal_filled.f 3 ⟨#[]⟩ = some (zeros 256) := by kernel_rfl
theorem bxW : QJour.aumbrylaw10_block.f ⟨#[120]⟩ = some (blockS ⟨#[120]⟩) := by kernel_rfl
theorem byW : QJour.aumbrylaw10_block.f ⟨#[121]⟩ = some (blockS ⟨#[121]⟩) := by kernel_rfl
theorem lsW1 : ((QJour.journal_list.f 1000 lW).map fun l => l.map ByteArray.size) = some [256] := by kernel_rfl
theorem tpW1 : ((QJour.journal_top.f 1000 lW).map ByteArray.size) = some 256 := by kernel_rfl
theorem lsW : ∃ t, QJour.journal_list.f 1000 lW = some [t] ∧ t.size = 256 := by
  have h := lsW1
  cases e : QJour.journal_list.f 1000 lW with
  | none => rw [e] at h; cases h
  | some l =>
    rw [e] at h
    injection h with h
    match l, h with
    | [], h => cases h
    | [t], h => exact ⟨t, rfl, by injection h⟩
    | _ :: _ :: _, h => injection h with _ h; cases h
theorem tpW : ∃ t, QJour.journal_top.f 1000 lW = some t ∧ t.size = 256 := by
  have h := tpW1
  cases e : QJour.journal_top.f 1000 lW with
  | none => rw [e] at h; cases h
  | some t =>
    rw [e] at h
    injection h with h
    exact ⟨t, rfl, h⟩
/-- Is it a page's number? -/
def pgF (fi m a : Int) : Bool := if a = 0 then true else if a ≥ fi then decide (a < wrap64 (wrap64 (fi + m) - 1)) else false
theorem page_f {k : Nat} {N fi m : Int} (hF : QJour.journal_First.f k N = some fi) (hP : QJour.journal_Pages.f k N = some m) (a : Int) : QJour.journal_page.f k N a = some (pgF fi m a) := by
  unfold QJour.journal_page.f pgF
  rw [hF, hP]
  by_cases h0 : a = 0
  · rw [if_pos h0, if_pos h0]
  · rw [if_neg h0, if_neg h0]
    show (if a ≥ fi then _ else _) = _
    by_cases h1 : a ≥ fi
    · rw [if_pos h1, if_pos h1]
      rfl
    · rw [if_neg h1, if_neg h1]
theorem pgF_wf {fi m : Int} (h : 0 ≤ fi) (a : Int) (ha : pgF fi m a = true) : (Lit.int .i64 a).wf = true := by
  have hb : 0 ≤ a ∧ a ≤ 9223372036854775807 := by
    unfold pgF at ha
    by_cases h0 : a = 0
    · omega
    · rw [if_neg h0] at ha
      by_cases h1 : a ≥ fi
      · rw [if_pos h1] at ha
        have h2 := of_decide_eq_true ha
        unfold wrap64 at h2
        omega
      · rw [if_neg h1] at ha
        cases ha
  have e1 : IntKind.i64.min = -9223372036854775808 := by decide
  have e2 : IntKind.i64.max = 9223372036854775807 := by decide
  show (decide (IntKind.i64.min ≤ a) && decide (a ≤ IntKind.i64.max)) = true
  rw [e1, e2, decide_eq_true (by omega : -9223372036854775808 ≤ a), decide_eq_true hb.2]
  rfl
/-- All writes are done. -/
def putAll (d : Dk) (xs : List Pg) : Dk := xs.foldl (fun d p => putD d p.at_ p.data) d
theorem doW_ok : ∀ (xs : List Pg) (d : Dk), d.down = false → d.told = false → (∀ p, p ∈ xs → 0 ≤ p.at_ ∧ p.at_ < (d.blocks.length : Int) ∧ p.data.size = 256) → doW d xs = (putAll d xs, 0)
  | [], d, _, _, _ => rfl
  | p :: l, d, h1, h2, h => by
    have hp := h p (List.mem_cons_self ..)
    have hm : mayD d p.at_ = 0 := by
      unfold mayD
      rw [h1, if_neg (by simp), if_neg (by omega)]
    have hw := writeD_ok hm hp.2.2 (by rw [h2]; simp)
    have e1 : doW d (p :: l) = doW (writeD d p.at_ p.data).1 l := if_pos (by rw [hw])
    rw [e1, hw]
    refine doW_ok l _ h1 h2 (fun q hq => ?_)
    have := h q (List.mem_cons_of_mem _ hq)
    refine ⟨this.1, ?_, this.2.2⟩
    show q.at_ < ((d.blocks.set _ _).length : Int)
    rw [List.length_set]
    exact this.2.1
theorem row2_C {w : World} {b : Nat} {p q : QJour.S62} (h : w.heap[b]? = some (.cells #[.int .i64 p.f0, .string p.f1, .int .i64 q.f0, .string q.f1] 62 (0, 0))) : Kd.C QJour.k62 w (some ⟨b, 0, none⟩) 2 [p, q] := by
  refine ⟨rfl, by decide, fun _ => ⟨_, rfl, ?_⟩⟩
  intro j x hx
  have hb : ∀ i, w.cell? ((⟨b, 0, none⟩ : Addr).add i) = (#[Value.int .i64 p.f0, .string p.f1, .int .i64 q.f0, .string q.f1] : Array Value)[i]? := by
    intro i
    have h2 : (⟨b, 0, none⟩ : Addr).add i = ⟨b, i, none⟩ := by unfold Addr.add; simp; try (intro e; exact e.symm)
    rw [h2]
    exact blk_cell h i
  match j, hx with
  | 0, hx =>
    cases hx
    refine ⟨[.int .i64 p.f0, .string p.f1], rfl, ⟨[.int .i64 p.f0], [.string p.f1], rfl, rfl, rfl⟩, ?_⟩
    intro i u hu
    rw [hb]
    match i, hu with
    | 0, hu => exact hu
    | 1, hu => exact hu
  | 1, hx =>
    cases hx
    refine ⟨[.int .i64 q.f0, .string q.f1], rfl, ⟨[.int .i64 q.f0], [.string q.f1], rfl, rfl, rfl⟩, ?_⟩
    intro i u hu
    rw [hb]
    match i, hu with
    | 0, hu => exact hu
    | 1, hu => exact hu
end Go.Proofs.Ytgageigcjeaenaa.Disk
