/- Disks: contracts and laws, walked by hand. No condition beside those that each theorem names. -/
import Derived.Test.YtgageigcjeaenaaDisk6
namespace Go.Proofs.Ytgageigcjeaenaa.Disk
open Go.RowKit Go.Proofs.YtgageigcjeaenaaW.PrintWords Go.Proofs.YtgageigcjeaenaaW.PrintLast Go.Proofs.YtgageigcjeaenaaW.PrintMore Go.Proofs.Ytgageigcjeaenaa.MixBase Go.Proofs.Ytgageigcjeaenaa.MixPlain Go.Proofs.Ytgageigcjeaenaa.NumBase Go.Proofs.Ytgageigcjeaenaa.PadPlain
attribute [local go_sem] max2_int min2_int max_two min_two max_three min_three max_four min_four
set_option linter.unusedVariables false
set_option linter.unusedSimpArgs false
theorem strs_C {w : World} {base n : Nat} {v : Value} {l : List ByteArray} (h : w.ownsRow base 9 1 v n (strs l)) : ∃ A c, v = .slice A l.length c ∧ l.length ≤ c ∧ Kd.C Kd.string w A l.length l := by
  have hl : l.length = n := by have := h.1; rw [strs_length] at this; omega
  subst hl
  exact Kd.R_reads (Kd.R_of_own (enc := Value.string) (h1 := fun _ => rfl) (ok := fun _ => True) h (fun _ _ => trivial))
theorem same_l0 (l : List ByteArray) (hl : l.length ≤ 1000000000000000000) (d : Nat) : ∀ (k i : Nat), i + d = l.length → d < k → aumbryref03_Same.l0 k l l (l.length : Int) (i : Int) = some true := by
  induction d with
  | zero =>
    intro k i hi hk
    obtain ⟨k, rfl⟩ : ∃ m, k = m + 1 := ⟨k - 1, by omega⟩
    simp only [aumbryref03_Same.l0]
    rw [if_neg (by omega)]
  | succ d ih =>
    intro k i hi hk
    obtain ⟨k, rfl⟩ : ∃ m, k = m + 1 := ⟨k - 1, by omega⟩
    simp only [aumbryref03_Same.l0]
    rw [if_pos (by omega), if_pos (by omega), if_pos (by omega), if_true, if_pos (by omega), wrap64_small (by omega) (by omega), show (i : Int) + 1 = ((i + 1 : Nat) : Int) by omega]
    exact ih k (i + 1) (by omega) (by omega)
/-- Two rows of one list are alike. -/
theorem Same_true {w : World} {base base' n n' : Nat} {v v' : Value} {l : List ByteArray} (h : w.ownsRow base 9 1 v n (strs l)) (h' : w.ownsRow base' 9 1 v' n' (strs l)) (hl : l.length ≤ 1000000000000000000) :
    Calls Try.prog 23 #[v, v'] w fun e w' => e = .returned (.bool true) ∧ Below w.heap.size w w' := by
  obtain ⟨A, c, rfl, hc, hC⟩ := strs_C h
  obtain ⟨A', c', rfl, hc', hC'⟩ := strs_C h'
  refine (aumbryref03_Same.calls (l.length + 1) A c l A' c' l true w hC hc hC' hc' ?_).mono ?_
  · unfold aumbryref03_Same.f
    rw [if_pos rfl]
    exact same_l0 l hl l.length _ 0 (by omega) (by omega)
  · rintro e w' ⟨rfl, ⟨nd, rfl⟩⟩
    exact ⟨rfl, pw_below_drewN (Below.refl _ _) _⟩
/-- A call, as it is told. -/
structure Act3 where
  kind : Int
  at_ : Int
  text : ByteArray
/-- The calls that came in, in memory. -/
def ActsAt (w : World) (A : Option Addr) (l : List Act3) : Prop := ∀ (i : Nat) (e : Act3), l[i]? = some e → ∃ ad, A = some ad ∧ w.cell? (ad.add (i * 3)) = some (.int .i64 e.kind) ∧ w.cell? ⟨(ad.add (i * 3)).block, (ad.add (i * 3)).off + 1, none⟩ = some (.int .i64 e.at_) ∧ w.cell? ⟨(ad.add (i * 3)).block, (ad.add (i * 3)).off + 2, none⟩ = some (.string e.text)
/-- What a cut disk keeps. -/
def CI (n : Int) (d : Dk) : Prop := d.told = true ∧ d.blocks.length = 64 ∧ (d.log.length : Int) + d.left = n ∧ 0 ≤ d.left ∧ (d.down = true → d.left = 0)
theorem CI_step {n : Int} {d : Dk} (h : CI n d) (hn : n ≤ 1000000) (a : Int) (s : ByteArray) : CI n (writeD d a s).1 := by
  obtain ⟨h1, h2, h3, h4, h5⟩ := h
  unfold writeD
  by_cases hm : mayD d a = 0
  · rw [if_pos hm]
    obtain ⟨hd, _, _⟩ := may_zero hm
    by_cases hs : s.size = 256
    · rw [if_pos hs]
      by_cases hc : d.told = true ∧ d.left = 0
      · rw [if_pos hc]
        exact ⟨h1, h2, h3, h4, fun _ => hc.2⟩
      · rw [if_neg hc]
        have hl : d.left ≠ 0 := fun e => hc ⟨h1, e⟩
        refine ⟨h1, ?_, ?_, ?_, ?_⟩
        · show (d.blocks.set _ _).length = 64
          rw [List.length_set, h2]
        · show (((d.log ++ [(⟨a, s⟩ : Pg)]).length : Nat) : Int) + (if d.told = true then wrap64 (d.left - 1) else d.left) = n
          rw [if_pos h1, wrap64_small (by omega) (by omega), List.length_append, List.length_singleton]
          omega
        · show 0 ≤ (if d.told = true then wrap64 (d.left - 1) else d.left)
          rw [if_pos h1, wrap64_small (by omega) (by omega)]
          omega
        · intro e
          exact absurd (show d.down = true from e) (by rw [hd]; decide)
    · rw [if_neg hs]
      exact ⟨h1, h2, h3, h4, h5⟩
  · rw [if_neg hm]
    exact ⟨h1, h2, h3, h4, h5⟩
theorem CI_new (n : Int) (h : 0 ≤ n) : CI n (cutD (newD 64) n) := ⟨decide_eq_true h, wk_len 64, by show ((0 : Nat) : Int) + n = n; omega, h, fun e => absurd (show false = true from e) (by decide)⟩
theorem may_restored {n : Int} {d : Dk} (h : CI n d) : mayD (restoreD d) 0 = 0 := by
  show (if false = true then (17 : Int) else if (0 : Int) < 0 ∨ (0 : Int) ≥ (d.blocks.length : Int) then 1 else 0) = 0
  rw [h.2.1]
  decide
theorem write_restored {n : Int} {d : Dk} (h : CI n d) (s : ByteArray) (hs : s.size = 256) : writeD (restoreD d) 0 s = (putD (restoreD d) 0 s, 0) := writeD_ok (may_restored h) hs (fun e => absurd (show false = true from e.1) (by decide))
end Go.Proofs.Ytgageigcjeaenaa.Disk
