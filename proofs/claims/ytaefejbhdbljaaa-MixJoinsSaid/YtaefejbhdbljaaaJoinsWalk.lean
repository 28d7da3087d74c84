/- The walk of MixJoins: it returns true at every two texts. No condition beside the bound that every text has. -/
import Derived.Test.YtaefejbhdbljaaaMixWalk
namespace Go.Proofs.Ytaefejbhdbljaaa.JoinsWalk
open Go.RowKit Go.Proofs.YtaefejbhdbljaaaW.PrintWords Go.Proofs.YtaefejbhdbljaaaW.PrintLast Go.Proofs.YtaefejbhdbljaaaW.PrintMore Go.Proofs.Ytaefejbhdbljaaa.MixBase Go.Proofs.Ytaefejbhdbljaaa.MixWalk
set_option maxRecDepth 100000 in
set_option maxHeartbeats 1000000 in
theorem big1 (s t : ByteArray) (w : World) (h : 1048576 < (s.size : Int)) :
    Calls Try.prog 4 #[.string s, .string t] w fun e w' => e = .returned (.bool true) ∧ Drawn0 w w' := by
  have hb : decide (1048576 < (s.size : Int)) = true := decide_eq_true h
  have hb1 : decide (1048576 < s.size) = true := decide_eq_true (by omega)
  clear h
  go_enter Try.func4, Try.ntmps4
  go_wp2_with fail
  refine (wakes_c _).mono ?_
  rintro e w' ⟨rfl, ⟨nd, rfl⟩⟩
  go_wp2_with fail
  go_ret
  exact ⟨rfl, by repeat (first | exact Drawn0.refl _ | apply Drawn0.step)⟩
set_option maxRecDepth 100000 in
set_option maxHeartbeats 1000000 in
theorem big2 (s t : ByteArray) (w : World) (h1 : ¬ 1048576 < (s.size : Int)) (h : 1048576 < (t.size : Int)) :
    Calls Try.prog 4 #[.string s, .string t] w fun e w' => e = .returned (.bool true) ∧ Drawn0 w w' := by
  have hb : decide (1048576 < (s.size : Int)) = false := decide_eq_false h1
  have hb1 : decide (1048576 < s.size) = false := decide_eq_false (by omega)
  have hb2 : decide (1048576 < (t.size : Int)) = true := decide_eq_true h
  have hb3 : decide (1048576 < t.size) = true := decide_eq_true (by omega)
  clear h h1
  go_enter Try.func4, Try.ntmps4
  go_wp2_with fail
  refine (wakes_c _).mono ?_
  rintro e w' ⟨rfl, ⟨nd, rfl⟩⟩
  go_wp2_with fail
  go_ret
  exact ⟨rfl, by repeat (first | exact Drawn0.refl _ | apply Drawn0.step)⟩
set_option maxRecDepth 100000 in
set_option maxHeartbeats 1000000 in
theorem small (s t : ByteArray) (w : World) (h1 : (s.size : Int) ≤ 1048576) (h2 : (t.size : Int) ≤ 1048576) :
    Calls Try.prog 4 #[.string s, .string t] w fun e w' => e = .returned (.bool true) ∧ Drawn0 w w' := by
  have hb : decide (1048576 < (s.size : Int)) = false := decide_eq_false (by omega)
  have hb1 : decide (1048576 < s.size) = false := decide_eq_false (by omega)
  have hb2 : decide (1048576 < (t.size : Int)) = false := decide_eq_false (by omega)
  have hb3 : decide (1048576 < t.size) = false := decide_eq_false (by omega)
  have es : (s ++ t).size = s.size + t.size := ByteArray.size_append
  have hr := sumOf_range (bytesOf s)
  obtain ⟨t1, ht1⟩ : ∃ t1, sumOf 1 (bytesOf s) = t1 := ⟨_, rfl⟩
  obtain ⟨t2, ht2⟩ : ∃ t2, sumOf 1 (bytesOf (s ++ t)) = t2 := ⟨_, rfl⟩
  have c1 := fun w => sum_c s (by omega) t1 ht1 w
  have c2 := fun w => sum_c (s ++ t) (by rw [es]; omega) t2 ht2 w
  have c3 := fun w => more_c t (by omega) t1 t2 (by omega) (by omega) (by rw [← ht1, ← ht2, bytesOf_append, sumOf_append]) w
  have c4 := fun w => more_c ByteArray.empty (by decide) t1 t1 (by omega) (by omega) (by rw [show bytesOf ByteArray.empty = [] from rfl, ← ht1, sumOf_append, List.append_nil]) w
  have hsz : ¬ 9223372036854775807 < s.size + t.size := by omega
  have C1 := Aside0.mk c1
  have C2 := Aside0.mk c2
  have C3 := Aside0.mk c3
  have C4 := Aside0.mk c4
  clear c1 c2 c3 c4 ht1 ht2 hr es h1 h2
  go_enter Try.func4, Try.ntmps4
  go_wp2_with fail
  refine (wakes_c _).mono ?_
  rintro e w' ⟨rfl, ⟨nd, rfl⟩⟩
  go_wp2_with fail
  refine (C1.out _).mono ?_
  rintro e w' ⟨rfl, ⟨nd, rfl⟩⟩
  go_wp2_with fail
  refine (C3.out _).mono ?_
  rintro e w' ⟨rfl, ⟨nd, rfl⟩⟩
  go_wp2_with fail
  refine (C2.out _).mono ?_
  rintro e w' ⟨rfl, ⟨nd, rfl⟩⟩
  go_wp2_with fail
  refine (C1.out _).mono ?_
  rintro e w' ⟨rfl, ⟨nd, rfl⟩⟩
  go_wp2_with fail
  refine (C4.out _).mono ?_
  rintro e w' ⟨rfl, ⟨nd, rfl⟩⟩
  go_wp2_with fail
  refine (C1.out _).mono ?_
  rintro e w' ⟨rfl, ⟨nd, rfl⟩⟩
  go_wp2_with fail
  go_ret
  exact ⟨rfl, by repeat (first | exact Drawn0.refl _ | apply Drawn0.step)⟩
theorem walk (s t : ByteArray) (w : World) (_ : s.size ≤ 140737488351232) (_ : t.size ≤ 140737488351232) : Calls Try.prog 4 #[.string s, .string t] w fun e w' => e = .returned (.bool true) ∧ Below w.heap.size w w' := by
  refine Calls.mono (R := fun e w' => e = .returned (.bool true) ∧ Drawn0 w w') ?_ (fun e w' h => ⟨h.1, h.2.below⟩)
  by_cases h1 : 1048576 < (s.size : Int)
  · exact big1 s t w h1
  · by_cases h2 : 1048576 < (t.size : Int)
    · exact big2 s t w h1 h2
    · exact small s t w (by omega) (by omega)
end Go.Proofs.Ytaefejbhdbljaaa.JoinsWalk
