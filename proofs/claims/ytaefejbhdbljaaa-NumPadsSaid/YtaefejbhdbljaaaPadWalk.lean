/- The walk of num.Pad: it answers what 'padSpec' says, at every text and number. No condition beside the bound that every text has. -/
import Derived.Test.YtaefejbhdbljaaaPNumPadsx2
import Derived.Test.YtaefejbhdbljaaaPadPlain
import Derived.Test.YtaefejbhdbljaaaShelf
namespace Go.Proofs.Ytaefejbhdbljaaa.PadWalk
open Go.RowKit Go.Proofs.YtaefejbhdbljaaaW.PrintWords Go.Proofs.YtaefejbhdbljaaaW.PrintLast Go.Proofs.YtaefejbhdbljaaaW.PrintMore Go.Proofs.Ytaefejbhdbljaaa.MixBase Go.Proofs.Ytaefejbhdbljaaa.MixPlain Go.Proofs.Ytaefejbhdbljaaa.NumBase Go.Proofs.Ytaefejbhdbljaaa.PadPlain
set_option maxRecDepth 100000 in
set_option maxHeartbeats 1000000 in
theorem pad_neg (s : ByteArray) (n : Int) (w : World) (h : n < 0) :
    Calls Try.prog 28 #[.string s, .int .i64 n] w fun e w' => e = .returned (.tuple #[.string ⟨#[]⟩, .int .i64 1]) ∧ Below w.heap.size w w' := by
  have hb : decide (n < 0) = true := decide_eq_true h
  clear h
  go_enter Try.func28, Try.ntmps28
  go_wp2_with fail
  go_ret2
  exact ⟨rfl, Below.refl _ _⟩
set_option maxRecDepth 100000 in
set_option maxHeartbeats 1000000 in
theorem pad_great (s : ByteArray) (n : Int) (w : World) (h : ¬ n < 0) (h1 : 65536 < n) :
    Calls Try.prog 28 #[.string s, .int .i64 n] w fun e w' => e = .returned (.tuple #[.string ⟨#[]⟩, .int .i64 1]) ∧ Below w.heap.size w w' := by
  have hb : decide (n < 0) = false := decide_eq_false h
  have hb1 : decide (65536 < n) = true := decide_eq_true h1
  clear h h1
  go_enter Try.func28, Try.ntmps28
  go_wp2_with fail
  go_ret2
  exact ⟨rfl, Below.refl _ _⟩
set_option maxRecDepth 100000 in
set_option maxHeartbeats 1000000 in
theorem pad_long (s : ByteArray) (n : Int) (w : World) (h : ¬ n < 0) (h1 : ¬ 65536 < n) (h2 : n < (s.size : Int)) :
    Calls Try.prog 28 #[.string s, .int .i64 n] w fun e w' => e = .returned (.tuple #[.string ⟨#[]⟩, .int .i64 2]) ∧ Below w.heap.size w w' := by
  have hb : decide (n < 0) = false := decide_eq_false h
  have hb1 : decide (65536 < n) = false := decide_eq_false h1
  have hb2 : decide (n < (s.size : Int)) = true := decide_eq_true h2
  clear h h1 h2
  go_enter Try.func28, Try.ntmps28
  go_wp2_with fail
  go_ret2
  exact ⟨rfl, Below.refl _ _⟩
set_option maxRecDepth 100000 in
set_option maxHeartbeats 1000000 in
theorem pad_fits (s : ByteArray) (m : Nat) (w : World) (h : s.size + m ≤ 65536) :
    Calls Try.prog 28 #[.string s, .int .i64 ((s.size : Int) + m)] w fun e w' => e = .returned (.tuple #[.string (s ++ zeros m), .int .i64 0]) ∧ Below w.heap.size w w' := by
  have hb : decide ((s.size : Int) + m < 0) = false := decide_eq_false (by omega)
  have hb1 : decide (65536 < (s.size : Int) + m) = false := decide_eq_false (by omega)
  have hb2 : decide ((s.size : Int) + m < (s.size : Int)) = false := decide_eq_false (by omega)
  have c := fun w => Try.strings_Repeat (⟨#[0]⟩ : ByteArray) m w (by omega) (by simp [ByteArray.size]; omega)
  rw [repeat_zeros] at c
  have C := Aside0.mk c
  have hz : (zeros m).size = m := zeros_size m
  have hsz : ¬ 9223372036854775807 < s.size + m := by omega
  have hk : (s.size : Int) + m ≤ 65536 := by omega
  have hk0 : 0 ≤ (s.size : Int) + m := by omega
  have he : (s.size : Int) + m - s.size = m := by omega
  clear c h
  go_enter Try.func28, Try.ntmps28
  go_wp2_with fail
  refine (C.out _).mono ?_
  rintro e w' ⟨rfl, hb⟩
  go_wp2_with fail
  go_ret2
  exact ⟨rfl, hb⟩
theorem pad_c (s : ByteArray) (n : Int) (w : World) : Calls Try.prog 28 #[.string s, .int .i64 n] w fun e w' => e = .returned (.tuple #[.string (padSpec s n).1, .int .i64 (padSpec s n).2]) ∧ Below w.heap.size w w' := by
  unfold padSpec
  by_cases h : n < 0
  · rw [if_pos (.inl h)]
    exact pad_neg s n w h
  · by_cases h1 : 65536 < n
    · rw [if_pos (.inr h1)]
      exact pad_great s n w h h1
    · rw [if_neg (by omega)]
      by_cases h2 : n < (s.size : Int)
      · rw [if_pos h2]
        exact pad_long s n w h h1 h2
      · rw [if_neg h2]
        obtain ⟨m, rfl⟩ : ∃ m : Nat, n = (s.size : Int) + m := ⟨(n - s.size).toNat, by omega⟩
        rw [show ((s.size : Int) + m - s.size).toNat = m by omega]
        exact pad_fits s m w (by omega)
end Go.Proofs.Ytaefejbhdbljaaa.PadWalk
