/- The contracts of the sum's two functions and of the fact asked ahead, over the printed walks; and what the sum of two texts is. No condition beside the bound that every text has. -/
import Derived.Test.YtaefejbhdbljaaaPMixSumsx1
import Derived.Test.YtaefejbhdbljaaaMixBase
namespace Go.Proofs.Ytaefejbhdbljaaa.MixWalk
open Go.RowKit Go.Proofs.Ytaefejbhdbljaaa.PMixSums Go.Proofs.YtaefejbhdbljaaaW.PrintWords Go.Proofs.YtaefejbhdbljaaaW.PrintLast Go.Proofs.Ytaefejbhdbljaaa.MixBase

theorem more_l0 (s : ByteArray) (hs : (s.size : Int) < 9223372036854775807) (d : Nat) : ∀ (k : Nat) (a b i : Int), 0 ≤ i → i ≤ s.size → (s.size : Int) - i = d → d < k → MOk (a, b) →
    mix_More.l0 k s a b (s.size : Int) i = some ((mrun (a, b) ((bytesOf s).drop i.toNat)).2 * 65536 + (mrun (a, b) ((bytesOf s).drop i.toNat)).1) := by
  induction d with
  | zero =>
    intro k a b i h0 h1 hd hk ho
    obtain ⟨k, rfl⟩ : ∃ m, k = m + 1 := ⟨k - 1, by omega⟩
    unfold MOk at ho
    simp only at ho
    simp only [mix_More.l0]
    rw [if_neg (by omega), drop_end s i (by omega), mrun_nil, join32 a b (by omega) (by omega) (by omega) (by omega)]
  | succ d ih =>
    intro k a b i h0 h1 hd hk ho
    obtain ⟨k, rfl⟩ : ∃ m, k = m + 1 := ⟨k - 1, by omega⟩
    have hr := bt_range s i
    have hlt : i < (s.size : Int) := by omega
    have hst := mstep_ok (a, b) (bt s i)
    have h2 := ih k (mstep (a, b) (bt s i)).1 (mstep (a, b) (bt s i)).2 (i + 1) (by omega) (by omega) (by omega) (by omega) hst
    unfold MOk at ho
    simp only at ho
    simp only [mix_More.l0]
    rw [if_pos hlt, if_pos h0, if_pos hlt, wrap64_small (by omega) (by omega), drop_byte s i h0 hlt, mrun_cons]
    have e1 : ((a + (bt s i % 4294967296)) % 4294967296) % 65521 = (mstep (a, b) (bt s i)).1 := by unfold mstep; simp only; omega
    have e2 : ((b + (((a + (bt s i % 4294967296)) % 4294967296) % 65521)) % 4294967296) % 65521 = (mstep (a, b) (bt s i)).2 := by unfold mstep; simp only; omega
    rw [e2, e1]
    exact h2
theorem more_f (s : ByteArray) (hs : (s.size : Int) < 9223372036854775807) (sum : Int) (h0 : 0 ≤ sum) (h1 : sum < 4294967296) (k : Nat) (hk : s.size < k) :
    mix_More.f k sum s = some (sumOf sum (bytesOf s)) := by
  unfold mix_More.f sumOf
  rw [low16 sum h0 h1, Int.tmod_eq_emod_of_nonneg (by omega), Int.tmod_eq_emod_of_nonneg (by omega)]
  have h := more_l0 s hs s.size k (sum % 65536 % 65521) (sum / 65536 % 65521) 0 (by omega) (by omega) (by omega) hk (by unfold MOk; simp only; omega)
  rw [h]
  rfl
theorem sum_f (s : ByteArray) (hs : (s.size : Int) < 9223372036854775807) (k : Nat) (hk : s.size < k) : mix_Sum.f k s = some (sumOf 1 (bytesOf s)) := by
  unfold mix_Sum.f
  rw [more_f s hs 1 (by omega) (by omega) k hk]
  rfl
theorem wakes_f (k : Nat) (hk : 2 < k) : aumbrylaw02_wakes.f k = some true := by
  unfold aumbrylaw02_wakes.f
  rw [sum_f _ (by decide) k (by simp [ByteArray.size]; omega), sum_f _ (by decide) k (by simp [ByteArray.size]; omega)]
  decide

theorem sumOf_append (l m : List Int) : sumOf (sumOf 1 l) m = sumOf 1 (l ++ m) := by
  have h := mrun_ok (1 % 65536 % 65521, 1 / 65536 % 65521) l (by unfold MOk; decide)
  unfold sumOf
  rw [mrun_append]
  generalize mrun (1 % 65536 % 65521, 1 / 65536 % 65521) l = p at *
  unfold MOk at h
  rw [show (p.2 * 65536 + p.1) % 65536 % 65521 = p.1 by omega, show (p.2 * 65536 + p.1) / 65536 % 65521 = p.2 by omega]
theorem sumOf_range (l : List Int) : 0 ≤ sumOf 1 l ∧ sumOf 1 l < 4294967296 := by
  have h := mrun_ok (1 % 65536 % 65521, 1 / 65536 % 65521) l (by unfold MOk; decide)
  unfold sumOf
  generalize mrun (1 % 65536 % 65521, 1 / 65536 % 65521) l = p at *
  unfold MOk at h
  omega

theorem more_c (s : ByteArray) (hs : (s.size : Int) < 9223372036854775807) (sum r : Int) (h0 : 0 ≤ sum) (h1 : sum < 4294967296) (hr : sumOf sum (bytesOf s) = r) (w : World) :
    Calls Try.prog 17 #[.int .u32 sum, .string s] w fun e w' => e = .returned (.int .u32 r) ∧ Drawn0 w w' :=
  mix_More.calls (s.size + 1) sum s r w (by rw [more_f s hs sum h0 h1 _ (by omega), hr])
theorem sum_c (s : ByteArray) (hs : (s.size : Int) < 9223372036854775807) (r : Int) (hr : sumOf 1 (bytesOf s) = r) (w : World) :
    Calls Try.prog 15 #[.string s] w fun e w' => e = .returned (.int .u32 r) ∧ Drawn0 w w' :=
  mix_Sum.calls (s.size + 1) s r w (by rw [sum_f s hs _ (by omega), hr])
theorem sum_q (s : ByteArray) (hs : (s.size : Int) < 9223372036854775807) (r : Int) (hr : sumOf 1 (bytesOf s) = r) (w : World) :
    Calls Try.prog 15 #[.string s] w fun e w' => e = .returned (.int .u32 r) ∧ ∃ m, w' = w.drewN m :=
  (sum_c s hs r hr w).mono fun _ _ h => ⟨h.1, h.2.out⟩
theorem wakes_c (w : World) : Calls Try.prog 14 #[] w fun e w' => e = .returned (.bool true) ∧ Drawn0 w w' :=
  aumbrylaw02_wakes.calls 3 true w (wakes_f 3 (by omega))

end Go.Proofs.Ytaefejbhdbljaaa.MixWalk
