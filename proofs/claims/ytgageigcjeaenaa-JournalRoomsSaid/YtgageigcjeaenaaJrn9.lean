/- Disks: contracts and laws, walked by hand. No condition beside those that each theorem names. -/
import Derived.Test.YtgageigcjeaenaaJrn8
namespace Go.Proofs.Ytgageigcjeaenaa.Disk
open Go.RowKit Go.Proofs.YtgageigcjeaenaaW.PrintWords Go.Proofs.YtgageigcjeaenaaW.PrintLast Go.Proofs.YtgageigcjeaenaaW.PrintMore Go.Proofs.Ytgageigcjeaenaa.MixBase Go.Proofs.Ytgageigcjeaenaa.MixPlain Go.Proofs.Ytgageigcjeaenaa.NumBase Go.Proofs.Ytgageigcjeaenaa.PadPlain
attribute [local go_sem] max2_int min2_int max_two min_two max_three min_three max_four min_four
set_option linter.unusedVariables false
set_option linter.unusedSimpArgs false
theorem pl_succ (k : Nat) (x y : Int) : QJour.journal_Pages.l0 (k + 1) x y = (QJour.journal_blocks.f y).bind fun t101 => (if (wrap64 ((wrap64 ((wrap64 (2 * y)) + 1)) + t101)) > x then (QJour.journal_Pages.l0 k x (wrap64 (y - 1))) else (some y)) := by rw [QJour.journal_Pages.l0]
theorem pu_succ (k : Nat) (x y : Int) : QJour.aumbryref10_Pages.l0 (k + 1) x y = (QJour.aumbryref10_Rows.f (wrap64 (y + 1))).bind fun t149 => (if (wrap64 ((wrap64 ((wrap64 (2 * (wrap64 (y + 1)))) + 1)) + t149)) ≤ x then (QJour.aumbryref10_Pages.l0 k x (wrap64 (y + 1))) else (some y)) := by rw [QJour.aumbryref10_Pages.l0]
theorem pj_false (k : Nat) (x : Int) : QJour.journal_Pages.j0 (k + 1) x false = QJour.journal_Pages.l0 k x (wrap64 (Int.tdiv (wrap64 (x - 1)) 2)) := by rw [QJour.journal_Pages.j0]; rfl
theorem pj_true (k : Nat) (x : Int) : QJour.journal_Pages.j0 (k + 1) x true = some 0 := by rw [QJour.journal_Pages.j0]; rfl
theorem pk_false (k : Nat) (x : Int) : QJour.aumbryref10_Pages.j0 (k + 1) x false = QJour.aumbryref10_Pages.l0 k x 0 := by rw [QJour.aumbryref10_Pages.j0]; rfl
theorem pk_true (k : Nat) (x : Int) : QJour.aumbryref10_Pages.j0 (k + 1) x true = some 0 := by rw [QJour.aumbryref10_Pages.j0]; rfl
def need (m : Nat) : Nat := 2 * m + 1 + (m + 127) / 128
theorem blocks_f (m : Nat) (h : m ≤ 4096) : QJour.journal_blocks.f (m : Int) = some (((m + 127) / 128 : Nat) : Int) := by
  unfold QJour.journal_blocks.f
  rw [MixBase.wrap64_small (i := (m : Int) + 128) (by omega) (by omega), MixBase.wrap64_small (i := (m : Int) + 128 - 1) (by omega) (by omega), Int.tdiv_eq_ediv_of_nonneg (by omega), MixBase.wrap64_small (by omega) (by omega)]
  refine congrArg some ?_
  omega
theorem rows_f (m : Nat) (h : m ≤ 4096) : QJour.aumbryref10_Rows.f (m : Int) = some (((m + 127) / 128 : Nat) : Int) := by
  unfold QJour.aumbryref10_Rows.f
  rw [Int.tdiv_eq_ediv_of_nonneg (by omega), Int.tmod_eq_emod_of_nonneg (by omega)]
  by_cases h0 : (m : Int) % 128 > 0
  · rw [if_pos h0, MixBase.wrap64_small (i := (m : Int) / 128) (by omega) (by omega), MixBase.wrap64_small (by omega) (by omega)]
    refine congrArg some ?_
    omega
  · rw [if_neg h0, MixBase.wrap64_small (by omega) (by omega)]
    refine congrArg some ?_
    omega
theorem pages_down (n m k : Nat) (h1 : need m ≤ n) (h2 : n < need (m + 1)) (hn : n ≤ 4096) : ∀ d, m + d ≤ 2048 → QJour.journal_Pages.l0 (k + d + 1) (n : Int) ((m + d : Nat) : Int) = some (m : Int) := by
  unfold need at h1 h2
  intro d
  induction d with
  | zero =>
    intro hd
    simp only [Nat.add_zero]
    rw [pl_succ, blocks_f m (by omega), Option.bind_some, MixBase.wrap64_small (i := 2 * (m : Int)) (by omega) (by omega), MixBase.wrap64_small (i := 2 * (m : Int) + 1) (by omega) (by omega), MixBase.wrap64_small (i := 2 * (m : Int) + 1 + _) (by omega) (by omega), if_neg (by omega)]
  | succ d ih =>
    intro hd
    have ih := ih (by omega)
    rw [show k + (d + 1) + 1 = k + d + 1 + 1 by omega, pl_succ, blocks_f (m + (d + 1)) (by omega), Option.bind_some, MixBase.wrap64_small (i := 2 * ((m + (d + 1) : Nat) : Int)) (by omega) (by omega), MixBase.wrap64_small (i := 2 * ((m + (d + 1) : Nat) : Int) + 1) (by omega) (by omega), MixBase.wrap64_small (i := 2 * ((m + (d + 1) : Nat) : Int) + 1 + _) (by omega) (by omega), if_pos (by omega), MixBase.wrap64_small (i := ((m + (d + 1) : Nat) : Int) - 1) (by omega) (by omega)]
    rw [show ((m + (d + 1) : Nat) : Int) - 1 = ((m + d : Nat) : Int) by omega]
    exact ih
theorem pages_up (n k : Nat) (hn : n ≤ 4096) : ∀ d m, m + d ≤ 2048 → need (m + d) ≤ n → n < need (m + d + 1) → QJour.aumbryref10_Pages.l0 (k + d + 1) (n : Int) (m : Int) = some ((m + d : Nat) : Int) := by
  intro d
  induction d with
  | zero =>
    intro m hd h1 h2
    unfold need at h1 h2
    simp only [Nat.add_zero] at *
    rw [pu_succ, MixBase.wrap64_small (i := (m : Int) + 1) (by omega) (by omega), show (m : Int) + 1 = ((m + 1 : Nat) : Int) by omega, rows_f (m + 1) (by omega), Option.bind_some, MixBase.wrap64_small (i := 2 * ((m + 1 : Nat) : Int)) (by omega) (by omega), MixBase.wrap64_small (i := 2 * ((m + 1 : Nat) : Int) + 1) (by omega) (by omega), MixBase.wrap64_small (i := 2 * ((m + 1 : Nat) : Int) + 1 + _) (by omega) (by omega), if_neg (by omega)]
  | succ d ih =>
    intro m hd h1 h2
    have ih := ih (m + 1) (by omega) (by rw [show m + 1 + d = m + (d + 1) by omega]; exact h1) (by rw [show m + 1 + d + 1 = m + (d + 1) + 1 by omega]; exact h2)
    unfold need at h1 h2
    rw [show k + (d + 1) + 1 = k + d + 1 + 1 by omega, pu_succ, MixBase.wrap64_small (i := (m : Int) + 1) (by omega) (by omega), show (m : Int) + 1 = ((m + 1 : Nat) : Int) by omega, rows_f (m + 1) (by omega), Option.bind_some, MixBase.wrap64_small (i := 2 * ((m + 1 : Nat) : Int)) (by omega) (by omega), MixBase.wrap64_small (i := 2 * ((m + 1 : Nat) : Int) + 1) (by omega) (by omega), MixBase.wrap64_small (i := 2 * ((m + 1 : Nat) : Int) + 1 + _) (by omega) (by omega), if_pos (by omega), ih, show m + 1 + d = m + (d + 1) by omega]
theorem pages_ex (n : Nat) (h0 : 64 ≤ n) : ∀ t, n < need (31 + t) → ∃ m, 31 ≤ m ∧ m < 31 + t ∧ need m ≤ n ∧ n < need (m + 1)
  | 0, h => by unfold need at h; omega
  | t + 1, h => by
    rcases Nat.lt_or_ge n (need (31 + t)) with h1 | h1
    · obtain ⟨m, a, b, c⟩ := pages_ex n h0 t h1
      exact ⟨m, a, by omega, c⟩
    · exact ⟨31 + t, by omega, by omega, h1, h⟩
/-- How many pages, and where the first one stands: both sides. -/
theorem rooms (n : Int) (K : Nat) (hK : 3000 ≤ K) : ∃ m fi : Int, QJour.journal_Pages.f K n = some m ∧ QJour.journal_First.f K n = some fi ∧ QJour.aumbryref10_Pages.f K n = some m ∧ QJour.aumbryref10_First.f K n = some fi ∧
    ((m = 0 ∧ fi = 0) ∨ (31 ≤ m ∧ m ≤ 1023 ∧ ∃ q : Nat, m = q ∧ fi = ((2 + (q + 127) / 128 + q : Nat) : Int) ∧ 64 ≤ n ∧ n ≤ 2048 ∧ (need q : Int) ≤ n ∧ QJour.journal_copies.f K n = some ((2 + (q + 127) / 128 : Nat) : Int))) := by
  obtain ⟨k, rfl⟩ : ∃ k, K = k + 2000 + 1 + 1 := ⟨K - 2002, by omega⟩
  by_cases hb : 64 ≤ n ∧ n ≤ 2048
  · obtain ⟨N, rfl⟩ : ∃ N : Nat, n = (N : Int) := ⟨n.toNat, by omega⟩
    obtain ⟨q, h1, h2, h3, h4⟩ := pages_ex N (by omega) 993 (by unfold need; omega)
    have hP : QJour.journal_Pages.f (k + 2000 + 1 + 1) (N : Int) = some (q : Int) := by
      unfold QJour.journal_Pages.f
      rw [if_neg (by omega)]
      rw [decide_eq_false (by omega), pj_false, MixBase.wrap64_small (i := (N : Int) - 1) (by omega) (by omega), Int.tdiv_eq_ediv_of_nonneg (by omega), MixBase.wrap64_small (by omega) (by omega)]
      have hq : q ≤ (N - 1) / 2 := by unfold need at h3; omega
      have := pages_down N q (k + 2000 - ((N - 1) / 2 - q)) h3 h4 (by omega) ((N - 1) / 2 - q) (by omega)
      rw [show k + 2000 - ((N - 1) / 2 - q) + ((N - 1) / 2 - q) + 1 = k + 2000 + 1 by omega, show ((q + ((N - 1) / 2 - q) : Nat) : Int) = ((N : Int) - 1) / 2 by omega] at this
      exact this
    have hP2 : QJour.aumbryref10_Pages.f (k + 2000 + 1 + 1) (N : Int) = some (q : Int) := by
      unfold QJour.aumbryref10_Pages.f
      rw [if_neg (by omega)]
      rw [decide_eq_false (by omega), pk_false]
      have := pages_up N (k + 2000 - q) (by omega) q 0 (by omega) (by rw [Nat.zero_add]; exact h3) (by rw [Nat.zero_add]; exact h4)
      rw [show k + 2000 - q + q + 1 = k + 2000 + 1 by omega, Nat.zero_add] at this
      exact this
    have hcp : QJour.journal_copies.f (k + 2000 + 1 + 1) (N : Int) = some ((2 + (q + 127) / 128 : Nat) : Int) := by
      unfold QJour.journal_copies.f
      rw [hP, Option.bind_some, blocks_f q (by omega), Option.bind_some, MixBase.wrap64_small (by omega) (by omega)]
      refine congrArg some ?_
      omega
    refine ⟨q, ((2 + (q + 127) / 128 + q : Nat) : Int), hP, ?_, hP2, ?_, Or.inr ⟨by omega, by omega, q, rfl, rfl, hb.1, hb.2, by omega, hcp⟩⟩
    · unfold QJour.journal_First.f
      rw [hP, Option.bind_some, if_neg (by omega), hcp, Option.bind_some, Option.bind_some, MixBase.wrap64_small (by omega) (by omega)]
      refine congrArg some ?_
      omega
    · unfold QJour.aumbryref10_First.f
      rw [hP2, Option.bind_some, if_neg (by omega), rows_f q (by omega), Option.bind_some, MixBase.wrap64_small (i := 2 + _) (by omega) (by omega), MixBase.wrap64_small (by omega) (by omega)]
      refine congrArg some ?_
      omega
  · have hP : QJour.journal_Pages.f (k + 2000 + 1 + 1) n = some 0 := by
      unfold QJour.journal_Pages.f
      by_cases h : n < 64
      · rw [if_pos h, pj_true]
      · rw [if_neg h, decide_eq_true (by omega), pj_true]
    have hP2 : QJour.aumbryref10_Pages.f (k + 2000 + 1 + 1) n = some 0 := by
      unfold QJour.aumbryref10_Pages.f
      by_cases h : n < 64
      · rw [if_pos h, pk_true]
      · rw [if_neg h, decide_eq_true (by omega), pk_true]
    refine ⟨0, 0, hP, ?_, hP2, ?_, Or.inl ⟨rfl, rfl⟩⟩
    · unfold QJour.journal_First.f
      rw [hP]
      rfl
    · unfold QJour.aumbryref10_First.f
      rw [hP2]
      rfl
theorem JournalRooms_walk (n : Int) (W : World) (_ : (Lit.int .i64 n).wf = true) : Calls Try.prog 10 #[.int .i64 n] W fun e w' => e = .returned (.bool true) ∧ Below W.heap.size W w' := by
  obtain ⟨m, fi, h1, h2, h3, h4, h5⟩ := rooms n 3000 (Nat.le_refl _)
  refine JournalRooms_calls n m fi 3000 W h1 h2 h3 h4 ?_
  rcases h5 with h | ⟨a, b, q, rfl, rfl, c, d, e, _⟩
  · exact Or.inl h
  · refine Or.inr ⟨a, ?_⟩
    unfold need at e
    rw [MixBase.wrap64_small (i := _ + (q : Int)) (by omega) (by omega), MixBase.wrap64_small (by omega) (by omega)]
    omega
end Go.Proofs.Ytgageigcjeaenaa.Disk
