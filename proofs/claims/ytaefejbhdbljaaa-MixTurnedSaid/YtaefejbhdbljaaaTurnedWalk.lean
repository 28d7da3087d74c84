/- The walk of MixTurned: it returns true at every text and place. No condition beside the bound that every text has. -/
import Derived.Test.YtaefejbhdbljaaaMixWalk
import Derived.Test.YtaefejbhdbljaaaMixPlain
namespace Go.Proofs.Ytaefejbhdbljaaa.TurnedWalk
open Go.RowKit Go.Proofs.YtaefejbhdbljaaaW.PrintWords Go.Proofs.YtaefejbhdbljaaaW.PrintLast Go.Proofs.YtaefejbhdbljaaaW.PrintMore Go.Proofs.Ytaefejbhdbljaaa.MixBase Go.Proofs.Ytaefejbhdbljaaa.MixWalk Go.Proofs.Ytaefejbhdbljaaa.MixPlain
theorem law (s : ByteArray) (at_ : Int) (h : 0 ≤ at_) (h1 : at_ + 1 < s.size) :
    ((sumOf 1 (bytesOf (s.extract 0 at_.toNat ++ strOfNums [((s[(at_ + 1).toNat]'(by omega)).toNat : Int), ((s[at_.toNat]'(by omega)).toNat : Int)] ++ s.extract (at_ + 2).toNat s.size)) == sumOf 1 (bytesOf s)) == (((s[at_.toNat]'(by omega)).toNat : Int) == ((s[(at_ + 1).toNat]'(by omega)).toNat : Int))) = true := by
  have hb := bt_range s at_
  have hb1 := bt_range s (at_ + 1)
  have e := bytes_split s at_.toNat (by omega)
  have e1 := drop_byte s (at_ + 1) (by omega) (by omega)
  rw [Int.toNat_of_nonneg h] at e
  rw [show (at_ + 1).toNat = at_.toNat + 1 by omega, show (at_ + 1 + 1).toNat = at_.toNat + 2 by omega] at e1
  rw [e1] at e
  rw [bt_at s at_, bt_at s (at_ + 1), bytesOf_append, bytesOf_append, bytes_extract, bytes_extract, bytes_nums _ (by simp; omega)]
  have ht : (bytesOf s).take s.size = bytesOf s := List.take_of_length_le (by rw [bytesOf_length]; exact Nat.le_refl _)
  rw [ht, List.drop_zero, show (at_ + 2).toNat = at_.toNat + 2 by omega]
  have hh := turned ((bytesOf s).take at_.toNat) ((bytesOf s).drop (at_.toNat + 2)) (bt s at_) (bt s (at_ + 1)) ⟨hb.1, by omega⟩ ⟨hb1.1, by omega⟩
  rw [show (bytesOf s).take at_.toNat ++ [bt s at_, bt s (at_ + 1)] ++ (bytesOf s).drop (at_.toNat + 2) = bytesOf s by rw [List.append_assoc] at e ⊢; exact e.symm] at hh
  rw [hh, beq_self_eq_true]
set_option maxRecDepth 100000 in
set_option maxHeartbeats 1000000 in
theorem below0 (s : ByteArray) (at_ : Int) (w : World) (h : at_ < 0) :
    Calls Try.prog 6 #[.string s, .int .i64 at_] w fun e w' => e = .returned (.bool true) ∧ Drawn0 w w' := by
  have hb : decide (at_ < 0) = true := decide_eq_true h
  clear h
  go_enter Try.func6, Try.ntmps6
  go_wp2_with fail
  refine (wakes_c _).mono ?_
  rintro e w' ⟨rfl, ⟨nd, rfl⟩⟩
  go_wp2_with fail
  go_ret
  exact ⟨rfl, by repeat (first | exact Drawn0.refl _ | apply Drawn0.step)⟩
set_option maxRecDepth 100000 in
set_option maxHeartbeats 1000000 in
theorem beyond (s : ByteArray) (hs : s.size ≤ 140737488351232) (at_ : Int) (w : World) (h : 0 ≤ at_) (h1 : (s.size : Int) - 1 ≤ at_) :
    Calls Try.prog 6 #[.string s, .int .i64 at_] w fun e w' => e = .returned (.bool true) ∧ Drawn0 w w' := by
  have hb : decide (at_ < 0) = false := decide_eq_false (by omega)
  have hb2 : decide ((s.size : Int) - 1 ≤ at_) = true := decide_eq_true h1
  clear h h1
  go_enter Try.func6, Try.ntmps6
  go_wp2_with fail
  refine (wakes_c _).mono ?_
  rintro e w' ⟨rfl, ⟨nd, rfl⟩⟩
  go_wp2_with fail
  go_ret
  exact ⟨rfl, by repeat (first | exact Drawn0.refl _ | apply Drawn0.step)⟩
set_option maxRecDepth 100000 in
set_option maxHeartbeats 1000000 in
theorem inside (s : ByteArray) (hs : s.size ≤ 140737488351232) (at_ : Int) (w : World) (h : 0 ≤ at_) (h1 : at_ + 1 < s.size) :
    Calls Try.prog 6 #[.string s, .int .i64 at_] w fun e w' => e = .returned (.bool true) ∧ Below w.heap.size w w' := by
  have hb : decide (at_ < 0) = false := decide_eq_false (by omega)
  have hb2 : decide ((s.size : Int) - 1 ≤ at_) = false := decide_eq_false (by omega)
  have hw1 : wrap64 (at_ + 1) = at_ + 1 := wrap64_small (by omega) (by omega)
  have hw2 : wrap64 (at_ + 2) = at_ + 2 := wrap64_small (by omega) (by omega)
  have p0 : at_ < s.size := by omega
  have p1 : 0 ≤ at_ + 1 := by omega
  have p2 : 0 ≤ at_ + 2 := by omega
  have p3 : at_ + 2 ≤ s.size := by omega
  have p4 : at_ ≤ s.size := by omega
  obtain ⟨x, hx⟩ : ∃ x, ((s[(at_ + 1).toNat]'(by omega)).toNat : Int) = x := ⟨_, rfl⟩
  obtain ⟨y, hy⟩ : ∃ y, ((s[at_.toNat]'(by omega)).toNat : Int) = y := ⟨_, rfl⟩
  have hl := law s at_ h h1
  rw [hx, hy] at hl
  have hcv : ∀ nq, Sem.run Try.prog (convert 28 9 (.slice (some ⟨w.heap.size, 0, none⟩) 2 2)) ((w.drewN nq).alloc (.cells #[.int .u8 x, .int .u8 y] 5)) = .ok (.string (strOfNums [x, y])) ((w.drewN nq).alloc (.cells #[.int .u8 x, .int .u8 y] 5)) := fun nq =>
    own_string (P := Try.prog) (e := 5) (base := w.heap.size) Try.underlying28 Try.underlying5 Try.underlying9 (own_lit (w.drewN nq) w.heap.size 5 .u8 [x, y] (Nat.le_refl _) (by simp))
  have l1 : (s.extract 0 at_.toNat).size = at_.toNat := by simp; omega
  have l2 : (strOfNums [x, y]).size = 2 := strOfNums_size [x, y]
  have l3 : (s.extract (at_ + 2).toNat s.size).size = s.size - (at_ + 2).toNat := by simp
  have q1 : ¬ 9223372036854775807 < at_.toNat + 2 := by omega
  have q2 : ¬ 9223372036854775807 < at_.toNat + 2 + (s.size - (at_ + 2).toNat) := by omega
  have hz : (s.extract 0 at_.toNat ++ strOfNums [x, y] ++ s.extract (at_ + 2).toNat s.size).size = s.size := by
    rw [ByteArray.size_append, ByteArray.size_append, l1, l2, l3]
    omega
  have HZ := Aside0.mk hz
  have HL := Aside0.mk hl
  clear hz hl
  go_enter Try.func6, Try.ntmps6
  go_wp2_with fail
  refine (wakes_c _).mono ?_
  rintro e w' ⟨rfl, ⟨nd, rfl⟩⟩
  go_wp2_with fail
  go_region
  clear hcv l1 l2 l3 q1 q2
  have hz := HZ.out
  have hl := HL.out
  clear HZ HL
  generalize hT : s.extract 0 at_.toNat ++ strOfNums [x, y] ++ s.extract (at_ + 2).toNat s.size = T at *
  have c1 := fun w => sum_q s (by omega) _ rfl w
  have c2 := fun w => sum_q T (by omega) _ rfl w
  generalize sumOf 1 (bytesOf s) = t1 at *
  generalize sumOf 1 (bytesOf T) = t2 at *
  have C1 := Aside0.mk c1
  have C2 := Aside0.mk c2
  have HL := Aside0.mk hl
  clear c1 c2 hT hz hl
  go_wp2_with fail
  go_quiet ((first | (go_at_call 15; exact Calls.quiet_of (C1.out _)) | (go_at_call 15; exact Calls.quiet_of (C2.out _))))
  go_wp2_with fail
  go_ret
  refine ⟨?_, pw_below_drewN ((((Drawn0.refl w).step _).below).alloc (Nat.le_refl _) _) _⟩
  rw [HL.out]
  rfl
theorem walk (s : ByteArray) (at_ : Int) (w : World) (hs : s.size ≤ 140737488351232) (_ : (Lit.int .i64 at_).wf = true) :
    Calls Try.prog 6 #[.string s, .int .i64 at_] w fun e w' => e = .returned (.bool true) ∧ Below w.heap.size w w' := by
  by_cases h : at_ < 0
  · exact (below0 s at_ w h).mono (fun e w' h => ⟨h.1, h.2.below⟩)
  · by_cases h1 : (s.size : Int) - 1 ≤ at_
    · exact (beyond s hs at_ w (by omega) h1).mono (fun e w' h => ⟨h.1, h.2.below⟩)
    · exact inside s hs at_ w (by omega) (by omega)
end Go.Proofs.Ytaefejbhdbljaaa.TurnedWalk
