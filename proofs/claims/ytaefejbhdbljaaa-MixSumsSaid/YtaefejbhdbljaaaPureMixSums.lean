/- The sum of any text, and any sum gone on with by any text, are those of the reference; no condition beside the bounds that every argument has. -/
import Derived.Test.YtaefejbhdbljaaaPMixSumsx1
import Derived.Test.YtaefejbhdbljaaaMixBase
namespace Go.Proofs.Ytaefejbhdbljaaa.Pure
open Go.RowKit Go.Proofs.Ytaefejbhdbljaaa.PMixSums Go.Proofs.YtaefejbhdbljaaaW.PrintWords Go.Proofs.YtaefejbhdbljaaaW.PrintLast Go.Proofs.Ytaefejbhdbljaaa.MixBase

namespace MixSumsParts
theorem more_l0 (s : ByteArray) (hs : (s.size : Int) < 9223372036854775807) (d : Nat) : ∀ (k : Nat) (a b i : Int), 0 ≤ i → i ≤ s.size → (s.size : Int) - i = d → d < k → MOk (a, b) →
    mix_More.l0 k s a b (s.size : Int) i = some ((mrun (a, b) ((bytesOf s).drop i.toNat)).2 * 65536 + (mrun (a, b) ((bytesOf s).drop i.toNat)).1) := by
  induction d with
  | zero =>
    intro k a b i h0 h1 hd hk ho
    obtain ⟨k, rfl⟩ : ∃ m, k = m + 1 := ⟨k - 1, by omega⟩
    unfold MOk at ho
    simp only at ho
    simp only [mix_More.l0]
    rw [if_neg (by omega), drop_end s i (by omega), mrun_nil, join32 a b (by omega) (by omega) (by omega) (by omega)]
  | succ d ih =>
    intro k a b i h0 h1 hd hk ho
    obtain ⟨k, rfl⟩ : ∃ m, k = m + 1 := ⟨k - 1, by omega⟩
    have hr := bt_range s i
    have hlt : i < (s.size : Int) := by omega
    have hst := mstep_ok (a, b) (bt s i)
    have h2 := ih k (mstep (a, b) (bt s i)).1 (mstep (a, b) (bt s i)).2 (i + 1) (by omega) (by omega) (by omega) (by omega) hst
    unfold MOk at ho
    simp only at ho
    simp only [mix_More.l0]
    rw [if_pos hlt, if_pos h0, if_pos hlt, wrap64_small (by omega) (by omega), drop_byte s i h0 hlt, mrun_cons]
    have e1 : ((a + (bt s i % 4294967296)) % 4294967296) % 65521 = (mstep (a, b) (bt s i)).1 := by unfold mstep; simp only; omega
    have e2 : ((b + (((a + (bt s i % 4294967296)) % 4294967296) % 65521)) % 4294967296) % 65521 = (mstep (a, b) (bt s i)).2 := by unfold mstep; simp only; omega
    rw [e2, e1]
    exact h2
theorem more_f (s : ByteArray) (hs : (s.size : Int) < 9223372036854775807) (sum : Int) (h0 : 0 ≤ sum) (h1 : sum < 4294967296) (k : Nat) (hk : s.size < k) :
    mix_More.f k sum s = some (sumOf sum (bytesOf s)) := by
  unfold mix_More.f sumOf
  rw [low16 sum h0 h1, Int.tmod_eq_emod_of_nonneg (by omega), Int.tmod_eq_emod_of_nonneg (by omega)]
  have h := more_l0 s hs s.size k (sum % 65536 % 65521) (sum / 65536 % 65521) 0 (by omega) (by omega) (by omega) hk (by unfold MOk; simp only; omega)
  rw [h]
  rfl
theorem sum_f (s : ByteArray) (hs : (s.size : Int) < 9223372036854775807) (k : Nat) (hk : s.size < k) : mix_Sum.f k s = some (sumOf 1 (bytesOf s)) := by
  unfold mix_Sum.f
  rw [more_f s hs 1 (by omega) (by omega) k hk]
  rfl
theorem wakes_f (k : Nat) (hk : 2 < k) : aumbrylaw02_wakes.f k = some true := by
  unfold aumbrylaw02_wakes.f
  rw [sum_f _ (by decide) k (by simp [ByteArray.size]; omega), sum_f _ (by decide) k (by simp [ByteArray.size]; omega)]
  decide

theorem ref_l0 (s : ByteArray) (hs : (s.size : Int) < 9223372036854775807) (d : Nat) : ∀ (k : Nat) (a b i : Int), 0 ≤ i → i ≤ s.size → (s.size : Int) - i = d → d < k → MOk (a, b) →
    aumbryref02_More.l0 k s a b i = some ((mrun (a, b) ((bytesOf s).drop i.toNat)).2 * 65536 + (mrun (a, b) ((bytesOf s).drop i.toNat)).1) := by
  induction d with
  | zero =>
    intro k a b i h0 h1 hd hk ho
    obtain ⟨k, rfl⟩ : ∃ m, k = m + 1 := ⟨k - 1, by omega⟩
    unfold MOk at ho
    simp only at ho
    simp only [aumbryref02_More.l0]
    rw [if_neg (by omega), drop_end s i (by omega), mrun_nil, u64_small (i := b * 65536) (by omega) (by omega), u64_small (by omega) (by omega)]
    congr 1
    simp only
    omega
  | succ d ih =>
    intro k a b i h0 h1 hd hk ho
    obtain ⟨k, rfl⟩ : ∃ m, k = m + 1 := ⟨k - 1, by omega⟩
    have hr := bt_range s i
    have hlt : i < (s.size : Int) := by omega
    have hst := mstep_ok (a, b) (bt s i)
    have h2 := ih k (mstep (a, b) (bt s i)).1 (mstep (a, b) (bt s i)).2 (i + 1) (by omega) (by omega) (by omega) (by omega) hst
    unfold MOk at ho
    simp only at ho
    simp only [aumbryref02_More.l0]
    rw [if_pos hlt, if_pos h0, wrap64_small (by omega) (by omega), drop_byte s i h0 hlt, mrun_cons]
    rw [u64_small (i := bt s i) (by omega) (by omega), u64_small (i := a + bt s i) (by omega) (by omega), Int.tmod_eq_emod_of_nonneg (by omega)]
    have e1 : (a + bt s i) % 65521 = (mstep (a, b) (bt s i)).1 := by unfold mstep; simp only
    rw [u64_small (i := b + _) (by omega) (by omega), Int.tmod_eq_emod_of_nonneg (by omega)]
    have e2 : (b + (a + bt s i) % 65521) % 65521 = (mstep (a, b) (bt s i)).2 := by unfold mstep; simp only
    rw [e2, e1]
    exact h2
theorem refmore_f (s : ByteArray) (hs : (s.size : Int) < 9223372036854775807) (sum : Int) (h0 : 0 ≤ sum) (h1 : sum < 4294967296) (k : Nat) (hk : s.size < k) :
    aumbryref02_More.f k sum s = some (sumOf sum (bytesOf s)) := by
  unfold aumbryref02_More.f sumOf
  rw [u64_small (i := sum) (by omega) (by omega), Int.tdiv_eq_ediv_of_nonneg h0, u64_small (i := sum / 65536) (by omega) (by omega)]
  rw [Int.tmod_eq_emod_of_nonneg h0, Int.tmod_eq_emod_of_nonneg (by omega), Int.tmod_eq_emod_of_nonneg (by omega)]
  have h := ref_l0 s hs s.size k (sum % 65536 % 65521) (sum / 65536 % 65521) 0 (by omega) (by omega) (by omega) hk (by unfold MOk; simp only; omega)
  rw [h]
  rfl
theorem refsum_f (s : ByteArray) (hs : (s.size : Int) < 9223372036854775807) (k : Nat) (hk : s.size < k) : aumbryref02_Sum.f k s = some (sumOf 1 (bytesOf s)) := by
  unfold aumbryref02_Sum.f
  rw [refmore_f s hs 1 (by omega) (by omega) k hk]
  rfl


end MixSumsParts
open MixSumsParts
theorem MixSums : aumbrylaw02_MixSums.Pure := by
  intro a s ha hs
  obtain ⟨h0, h1⟩ := u32_range ha
  refine ⟨s.size + 3, ?_⟩
  unfold aumbrylaw02_MixSums.f
  rw [wakes_f _ (by omega), sum_f s (by omega) _ (by omega), refsum_f s (by omega) _ (by omega), more_f s (by omega) a h0 h1 _ (by omega), refmore_f s (by omega) a h0 h1 _ (by omega)]
  simp only [Option.bind_some, if_true, beq_self_eq_true]

end Go.Proofs.Ytaefejbhdbljaaa.Pure
