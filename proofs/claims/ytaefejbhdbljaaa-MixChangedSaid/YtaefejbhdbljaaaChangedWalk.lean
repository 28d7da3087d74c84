/- The walk of MixChanged: it returns true at every text, place and byte. No condition beside the bound that every text has. -/
import Derived.Test.YtaefejbhdbljaaaMixWalk
import Derived.Test.YtaefejbhdbljaaaMixPlain
namespace Go.Proofs.Ytaefejbhdbljaaa.ChangedWalk
open Go.RowKit Go.Proofs.YtaefejbhdbljaaaW.PrintWords Go.Proofs.YtaefejbhdbljaaaW.PrintLast Go.Proofs.YtaefejbhdbljaaaW.PrintMore Go.Proofs.Ytaefejbhdbljaaa.MixBase Go.Proofs.Ytaefejbhdbljaaa.MixWalk Go.Proofs.Ytaefejbhdbljaaa.MixPlain
theorem law (s : ByteArray) (at_ c : Int) (h : 0 ≤ at_) (h1 : at_ < s.size) (hc : 0 ≤ c) (hc1 : c < 256) :
    ((sumOf 1 (bytesOf (s.extract 0 at_.toNat ++ strOfNums [c] ++ s.extract (at_ + 1).toNat s.size)) == sumOf 1 (bytesOf s)) == (((s[at_.toNat]'(by omega)).toNat : Int) == c)) = true := by
  have hb := bt_range s at_
  have e := bytes_split s at_.toNat (by omega)
  rw [Int.toNat_of_nonneg h] at e
  rw [bytesOf_append, bytesOf_append, bytes_extract, bytes_extract, bytes_nums [c] (by simp; omega), e]
  have ht : (bytesOf s).take s.size = bytesOf s := List.take_of_length_le (by rw [bytesOf_length]; exact Nat.le_refl _)
  rw [← e, ht, List.drop_zero, show (at_ + 1).toNat = at_.toNat + 1 by omega]
  have hh := changed ((bytesOf s).take at_.toNat) ((bytesOf s).drop (at_.toNat + 1)) c (bt s at_) ⟨hc, hc1⟩ ⟨hb.1, by omega⟩
  rw [← e] at hh
  rw [hh, bt_at s at_, beq_self_eq_true]
set_option maxRecDepth 100000 in
set_option maxHeartbeats 1000000 in
theorem below0 (s : ByteArray) (at_ c : Int) (w : World) (h : at_ < 0) :
    Calls Try.prog 5 #[.string s, .int .i64 at_, .int .u8 c] w fun e w' => e = .returned (.bool true) ∧ Drawn0 w w' := by
  have hb : decide (at_ < 0) = true := decide_eq_true h
  clear h
  go_enter Try.func5, Try.ntmps5
  go_wp2_with fail
  refine (wakes_c _).mono ?_
  rintro e w' ⟨rfl, ⟨nd, rfl⟩⟩
  go_wp2_with fail
  go_ret
  exact ⟨rfl, by repeat (first | exact Drawn0.refl _ | apply Drawn0.step)⟩
set_option maxRecDepth 100000 in
set_option maxHeartbeats 1000000 in
theorem beyond (s : ByteArray) (at_ c : Int) (w : World) (h : 0 ≤ at_) (h1 : s.size ≤ at_) :
    Calls Try.prog 5 #[.string s, .int .i64 at_, .int .u8 c] w fun e w' => e = .returned (.bool true) ∧ Drawn0 w w' := by
  have hb : decide (at_ < 0) = false := decide_eq_false (by omega)
  have hb2 : decide ((s.size : Int) ≤ at_) = true := decide_eq_true h1
  clear h h1
  go_enter Try.func5, Try.ntmps5
  go_wp2_with fail
  refine (wakes_c _).mono ?_
  rintro e w' ⟨rfl, ⟨nd, rfl⟩⟩
  go_wp2_with fail
  go_ret
  exact ⟨rfl, by repeat (first | exact Drawn0.refl _ | apply Drawn0.step)⟩
set_option maxRecDepth 100000 in
set_option maxHeartbeats 1000000 in
theorem inside (s : ByteArray) (hs : s.size ≤ 140737488351232) (at_ c : Int) (w : World) (h : 0 ≤ at_) (h1 : at_ < s.size) (hc : 0 ≤ c) (hc1 : c < 256) :
    Calls Try.prog 5 #[.string s, .int .i64 at_, .int .u8 c] w fun e w' => e = .returned (.bool true) ∧ Below w.heap.size w w' := by
  have hb : decide (at_ < 0) = false := decide_eq_false (by omega)
  have hb2 : decide ((s.size : Int) ≤ at_) = false := decide_eq_false (by omega)
  have hw1 : wrap64 (at_ + 1) = at_ + 1 := wrap64_small (by omega) (by omega)
  have p1 : 0 ≤ at_ + 1 := by omega
  have p2 : at_ + 1 ≤ s.size := by omega
  have p3 : at_ ≤ s.size := by omega
  have hcv : ∀ nq, Sem.run Try.prog (convert 28 9 (.slice (some ⟨w.heap.size, 0, none⟩) 1 1)) ((w.drewN nq).alloc (.cells #[.int .u8 c] 5)) = .ok (.string (strOfNums [c])) ((w.drewN nq).alloc (.cells #[.int .u8 c] 5)) := fun nq =>
    own_string (P := Try.prog) (e := 5) (base := w.heap.size) Try.underlying28 Try.underlying5 Try.underlying9 (own_lit (w.drewN nq) w.heap.size 5 .u8 [c] (Nat.le_refl _) (by simp))
  have l1 : (s.extract 0 at_.toNat).size = at_.toNat := by simp; omega
  have l2 : (strOfNums [c]).size = 1 := strOfNums_size [c]
  have l3 : (s.extract (at_ + 1).toNat s.size).size = s.size - (at_ + 1).toNat := by simp
  have q1 : ¬ 9223372036854775807 < at_.toNat + 1 := by omega
  have q2 : ¬ 9223372036854775807 < at_.toNat + 1 + (s.size - (at_ + 1).toNat) := by omega
  go_enter Try.func5, Try.ntmps5
  go_wp2_with fail
  refine (wakes_c _).mono ?_
  rintro e w' ⟨rfl, ⟨nd, rfl⟩⟩
  go_wp2_with fail
  go_region
  clear hcv l1 l2 l3 q1 q2 hw1
  have hz : (s.extract 0 at_.toNat ++ strOfNums [c] ++ s.extract (at_ + 1).toNat s.size).size = s.size := by
    rw [ByteArray.size_append, ByteArray.size_append, strOfNums_size]
    simp
    omega
  have hl := law s at_ c h h1 hc hc1
  generalize hT : s.extract 0 at_.toNat ++ strOfNums [c] ++ s.extract (at_ + 1).toNat s.size = T at *
  have c1 := fun w => sum_q s (by omega) _ rfl w
  have c2 := fun w => sum_q T (by omega) _ rfl w
  generalize sumOf 1 (bytesOf s) = t1 at *
  generalize sumOf 1 (bytesOf T) = t2 at *
  have C1 := Aside0.mk c1
  have C2 := Aside0.mk c2
  have HL := Aside0.mk hl
  clear c1 c2 hT hz hl
  go_wp2_with fail
  go_quiet ((first | (go_at_call 15; exact Calls.quiet_of (C1.out _)) | (go_at_call 15; exact Calls.quiet_of (C2.out _))))
  go_wp2_with fail
  go_ret
  refine ⟨?_, pw_below_drewN ((((Drawn0.refl w).step _).below).alloc (Nat.le_refl _) _) _⟩
  rw [HL.out]
  rfl
theorem walk (s : ByteArray) (at_ c : Int) (w : World) (hs : s.size ≤ 140737488351232) (_ : (Lit.int .i64 at_).wf = true) (hc : (Lit.int .u8 c).wf = true) :
    Calls Try.prog 5 #[.string s, .int .i64 at_, .int .u8 c] w fun e w' => e = .returned (.bool true) ∧ Below w.heap.size w w' := by
  have hc := u8_range hc
  by_cases h : at_ < 0
  · exact (below0 s at_ c w h).mono (fun e w' h => ⟨h.1, h.2.below⟩)
  · by_cases h1 : s.size ≤ at_
    · exact (beyond s at_ c w (by omega) h1).mono (fun e w' h => ⟨h.1, h.2.below⟩)
    · exact inside s hs at_ c w (by omega) (by omega) hc.1 hc.2
end Go.Proofs.Ytaefejbhdbljaaa.ChangedWalk
