/- The journal: what its functions answer, in plain words; no condition beside those that each theorem names. -/
import Derived.Test.YtgageigcjeaenaaGQJourx6
import Derived.Test.YtgageigcjeaenaaGBase
import Derived.Test.YtgageigcjeaenaaGQJourx7
namespace Go.Proofs.Ytgageigcjeaenaa.QJour
open Go.RowKit Go.Proofs.YtgageigcjeaenaaW.PrintWords Go.Proofs.YtgageigcjeaenaaW.PrintLast Go.Proofs.YtgageigcjeaenaaW.PrintMore Go.Proofs.Ytgageigcjeaenaa.MixBase Go.Proofs.Ytgageigcjeaenaa.MixPlain Go.Proofs.Ytgageigcjeaenaa.NumBase Go.Proofs.Ytgageigcjeaenaa.PadPlain
set_option linter.unusedVariables false
set_option linter.unusedSimpArgs false
theorem more_l0 (s : ByteArray) (hs : (s.size : Int) < 9223372036854775807) (d : Nat) : ∀ (k : Nat) (a b i : Int), 0 ≤ i → i ≤ s.size → (s.size : Int) - i = d → d < k → MOk (a, b) →
    mix_More.l0 k s a b (s.size : Int) i = some ((mrun (a, b) ((bytesOf s).drop i.toNat)).2 * 65536 + (mrun (a, b) ((bytesOf s).drop i.toNat)).1) := by
  induction d with
  | zero =>
    intro k a b i h0 h1 hd hk ho
    obtain ⟨k, rfl⟩ : ∃ m, k = m + 1 := ⟨k - 1, by omega⟩
    unfold MOk at ho
    simp only at ho
    simp only [mix_More.l0]
    rw [if_neg (by omega), drop_end s i (by omega), mrun_nil, join32 a b (by omega) (by omega) (by omega) (by omega)]
  | succ d ih =>
    intro k a b i h0 h1 hd hk ho
    obtain ⟨k, rfl⟩ : ∃ m, k = m + 1 := ⟨k - 1, by omega⟩
    have hr := bt_range s i
    have hlt : i < (s.size : Int) := by omega
    have hst := mstep_ok (a, b) (bt s i)
    have h2 := ih k (mstep (a, b) (bt s i)).1 (mstep (a, b) (bt s i)).2 (i + 1) (by omega) (by omega) (by omega) (by omega) hst
    unfold MOk at ho
    simp only at ho
    simp only [mix_More.l0]
    rw [if_pos hlt, if_pos h0, if_pos hlt, wrap64_small (by omega) (by omega), drop_byte s i h0 hlt, mrun_cons]
    have e1 : ((a + (bt s i % 4294967296)) % 4294967296) % 65521 = (mstep (a, b) (bt s i)).1 := by unfold mstep; simp only; omega
    have e2 : ((b + (((a + (bt s i % 4294967296)) % 4294967296) % 65521)) % 4294967296) % 65521 = (mstep (a, b) (bt s i)).2 := by unfold mstep; simp only; omega
    rw [e2, e1]
    exact h2
theorem more_f (s : ByteArray) (hs : (s.size : Int) < 9223372036854775807) (sum : Int) (h0 : 0 ≤ sum) (h1 : sum < 4294967296) (k : Nat) (hk : s.size < k) :
    mix_More.f k sum s = some (sumOf sum (bytesOf s)) := by
  unfold mix_More.f sumOf
  rw [low16 sum h0 h1, Int.tmod_eq_emod_of_nonneg (by omega), Int.tmod_eq_emod_of_nonneg (by omega)]
  have h := more_l0 s hs s.size k (sum % 65536 % 65521) (sum / 65536 % 65521) 0 (by omega) (by omega) (by omega) hk (by unfold MOk; simp only; omega)
  rw [h]
  rfl
theorem refmore_l0 (s : ByteArray) (hs : (s.size : Int) < 9223372036854775807) (d : Nat) : ∀ (k : Nat) (a b i : Int), 0 ≤ i → i ≤ s.size → (s.size : Int) - i = d → d < k → MOk (a, b) →
    aumbryref02_More.l0 k s a b i = some ((mrun (a, b) ((bytesOf s).drop i.toNat)).2 * 65536 + (mrun (a, b) ((bytesOf s).drop i.toNat)).1) := by
  induction d with
  | zero =>
    intro k a b i h0 h1 hd hk ho
    obtain ⟨k, rfl⟩ : ∃ m, k = m + 1 := ⟨k - 1, by omega⟩
    unfold MOk at ho
    simp only at ho
    simp only [aumbryref02_More.l0]
    rw [if_neg (by omega), drop_end s i (by omega), mrun_nil, u64_small (i := b * 65536) (by omega) (by omega), u64_small (by omega) (by omega)]
    congr 1
    simp only
    omega
  | succ d ih =>
    intro k a b i h0 h1 hd hk ho
    obtain ⟨k, rfl⟩ : ∃ m, k = m + 1 := ⟨k - 1, by omega⟩
    have hr := bt_range s i
    have hlt : i < (s.size : Int) := by omega
    have hst := mstep_ok (a, b) (bt s i)
    have h2 := ih k (mstep (a, b) (bt s i)).1 (mstep (a, b) (bt s i)).2 (i + 1) (by omega) (by omega) (by omega) (by omega) hst
    unfold MOk at ho
    simp only at ho
    simp only [aumbryref02_More.l0]
    rw [if_pos hlt, if_pos h0, wrap64_small (by omega) (by omega), drop_byte s i h0 hlt, mrun_cons]
    rw [u64_small (i := bt s i) (by omega) (by omega), u64_small (i := a + bt s i) (by omega) (by omega), Int.tmod_eq_emod_of_nonneg (by omega)]
    have e1 : (a + bt s i) % 65521 = (mstep (a, b) (bt s i)).1 := by unfold mstep; simp only
    rw [u64_small (i := b + _) (by omega) (by omega), Int.tmod_eq_emod_of_nonneg (by omega)]
    have e2 : (b + (a + bt s i) % 65521) % 65521 = (mstep (a, b) (bt s i)).2 := by unfold mstep; simp only
    rw [e2, e1]
    exact h2
theorem refmore_f (s : ByteArray) (hs : (s.size : Int) < 9223372036854775807) (sum : Int) (h0 : 0 ≤ sum) (h1 : sum < 4294967296) (k : Nat) (hk : s.size < k) :
    aumbryref02_More.f k sum s = some (sumOf sum (bytesOf s)) := by
  unfold aumbryref02_More.f sumOf
  rw [u64_small (i := sum) (by omega) (by omega), Int.tdiv_eq_ediv_of_nonneg h0, u64_small (i := sum / 65536) (by omega) (by omega)]
  rw [Int.tmod_eq_emod_of_nonneg h0, Int.tmod_eq_emod_of_nonneg (by omega), Int.tmod_eq_emod_of_nonneg (by omega)]
  have h := refmore_l0 s hs s.size k (sum % 65536 % 65521) (sum / 65536 % 65521) 0 (by omega) (by omega) (by omega) hk (by unfold MOk; simp only; omega)
  rw [h]
  rfl
theorem refsum_f (k : Nat) (hk : 0 < k) : aumbryref02_Sum.f k ⟨#[]⟩ = some 1 := by
  unfold aumbryref02_Sum.f
  rw [refmore_f ⟨#[]⟩ (by decide) 1 (by omega) (by omega) k hk]
  rfl
theorem num_fits_yes (n w : Int) (h0 : 0 ≤ n) (h : Fits n w) : num_fits.f n w = some true := by
  obtain ⟨h1, h2, h3⟩ := h
  unfold num_fits.f
  rw [if_pos h1, if_pos h2]
  by_cases h8 : w = 8
  · rw [if_pos h8]
  · obtain ⟨m, rfl⟩ := Int.eq_ofNat_of_zero_le (show 0 ≤ w by omega)
    rw [if_neg h8, wrap64_small (by omega) (by omega), if_pos (by omega), shr8 n m (by omega), (fits_iff n m h0).2 (by simpa using h3)]
    rfl
theorem num_fits_no (n w : Int) (h0 : 0 ≤ n) (h64 : n < 18446744073709551616) (h : ¬ Fits n w) : num_fits.f n w = some false := by
  unfold num_fits.f
  by_cases h1 : w ≥ 1
  · rw [if_pos h1]
    by_cases h2 : w ≤ 8
    · rw [if_pos h2]
      have h8 : w ≠ 8 := by
        rintro rfl
        exact h ⟨by omega, by omega, by rw [show (8 : Int).toNat = 8 from rfl, pow_eight]; exact h64⟩
      obtain ⟨m, rfl⟩ := Int.eq_ofNat_of_zero_le (show 0 ≤ w by omega)
      rw [if_neg h8, wrap64_small (by omega) (by omega), if_pos (by omega), shr8 n m (by omega)]
      have hne : ¬ n / 256 ^ m = 0 := fun e => h ⟨h1, h2, by simpa using (fits_iff n m h0).1 e⟩
      rw [beq_eq_false_iff_ne.2 hne]
    · rw [if_neg h2]
  · rw [if_neg h1]
theorem num_put_l0 (n : Int) (w : Nat) (hw : w ≤ 8) (d : Nat) : ∀ (k i : Nat), i ≤ w → w - i = d → d < k →
    num_Put.l0 k n (w : Int) (List.replicate (w - i) 0 ++ digs n i) (w : Int) (i : Int) = some (strOfNums (digs n w), 0) := by
  induction d with
  | zero =>
    intro k i hi hd hk
    obtain ⟨k, rfl⟩ : ∃ m, k = m + 1 := ⟨k - 1, by omega⟩
    obtain rfl : i = w := by omega
    simp only [num_Put.l0]
    rw [if_neg (by omega), Nat.sub_self, List.replicate_zero, List.nil_append]
  | succ d ih =>
    intro k i hi hd hk
    obtain ⟨k, rfl⟩ : ∃ m, k = m + 1 := ⟨k - 1, by omega⟩
    simp only [num_Put.l0]
    rw [if_pos (by omega), wrap64_small (i := 8 * (i : Int)) (by omega) (by omega), if_pos (by omega), wrap64_small (i := (w : Int) - 1) (by omega) (by omega), wrap64_small (i := (w : Int) - 1 - i) (by omega) (by omega), if_pos (by omega),
      if_pos (by rw [List.length_append, List.length_replicate, digs_length]; omega), wrap64_small (by omega) (by omega), shr8 n i (by omega)]
    have e : ((w : Int) - 1 - i).toNat = d := by omega
    rw [e, show w - i = d + 1 by omega, set_zeros]
    have h := ih k (i + 1) (by omega) (by omega) (by omega)
    rw [show w - (i + 1) = d by omega] at h
    exact h
theorem num_put_f (n w : Int) (h0 : 0 ≤ n) (h64 : n < 18446744073709551616) (k : Nat) (hk : 8 < k) : num_Put.f k n w = some (putSpec n w) := by
  unfold num_Put.f putSpec
  by_cases h : Fits n w
  · rw [num_fits_yes n w h0 h, if_pos h]
    obtain ⟨h1, h2, h3⟩ := h
    obtain ⟨m, rfl⟩ := Int.eq_ofNat_of_zero_le (show 0 ≤ w by omega)
    simp only [Option.bind_some, if_true]
    rw [if_pos (by omega), if_pos (by omega)]
    have hl := num_put_l0 n m (by omega) m k 0 (by omega) (by omega) (by omega)
    rw [Nat.sub_zero, digs, List.append_nil] at hl
    exact hl
  · rw [num_fits_no n w h0 h64 h, if_neg h]
    rfl
theorem num_get_l0 (s : ByteArray) (hs : (s.size : Int) ≤ 9223372036854775807) (at_ : Int) (w : Nat) (ha : 0 ≤ at_) (haw : at_ + w ≤ s.size) (hw : w ≤ 8) (d : Nat) : ∀ (k i : Nat) (a : Int), i ≤ w → w - i = d → d < k → 0 ≤ a → a < 256 ^ i →
    num_Get.l0 k s at_ a (w : Int) (i : Int) = some (valFrom a (((bytesOf s).drop (at_ + i).toNat).take d), 0) := by
  induction d with
  | zero =>
    intro k i a hi hd hk ha0 ha1
    obtain ⟨k, rfl⟩ : ∃ m, k = m + 1 := ⟨k - 1, by omega⟩
    simp only [num_Get.l0]
    rw [if_neg (by omega), List.take_zero, valFrom_nil]
  | succ d ih =>
    intro k i a hi hd hk ha0 ha1
    obtain ⟨k, rfl⟩ : ∃ m, k = m + 1 := ⟨k - 1, by omega⟩
    have hb := bt_range s (at_ + i)
    have h7 := pow8 i (by omega)
    simp only [num_Get.l0]
    rw [if_pos (by omega), wrap64_small (i := at_ + i) (by omega) (by omega), if_pos (by omega), if_pos (by omega), wrap64_small (by omega) (by omega), or64 a (bt s (at_ + i)) ha0 (by omega) hb.1 (by omega), take_drop_cons s (at_ + i) d (by omega) (by omega), valFrom_cons]
    have h := ih k (i + 1) (a * 256 + bt s (at_ + i)) (by omega) (by omega) (by omega) (by omega) (by rw [pow_succ']; omega)
    rw [show at_ + ((i + 1 : Nat) : Int) = at_ + i + 1 by omega] at h
    exact h
theorem num_get_f (s : ByteArray) (hs : (s.size : Int) ≤ 9223372036854775807) (at_ w : Int) (k : Nat) (hk : 9 < k) : num_Get.f k s at_ w = some (getSpec s at_ w) := by
  obtain ⟨k, rfl⟩ : ∃ m, k = m + 1 := ⟨k - 1, by omega⟩
  unfold num_Get.f getSpec
  by_cases h1 : w < 1
  · rw [if_pos h1, if_pos (.inl h1)]
    simp only [num_Get.j0, if_true]
  · rw [if_neg h1]
    by_cases h2 : 8 < w
    · rw [if_pos (.inr h2), decide_eq_true h2]
      simp only [num_Get.j0, if_true]
    · rw [if_neg (by omega), decide_eq_false h2]
      simp only [num_Get.j0]
      rw [if_neg (by decide), wrap64_small (by omega) (by omega)]
      by_cases h3 : at_ < 0
      · rw [if_pos h3, if_pos (.inl h3)]
      · rw [if_neg h3]
        by_cases h4 : (s.size : Int) - w < at_
        · rw [if_pos h4, if_pos (.inr h4)]
        · rw [if_neg h4, if_neg (by omega)]
          obtain ⟨m, rfl⟩ := Int.eq_ofNat_of_zero_le (show 0 ≤ w by omega)
          have h := num_get_l0 s hs at_ m (by omega) (by omega) (by omega) m k 0 0 (by omega) (by omega) (by omega) (by omega) (by decide)
          rw [show at_ + ((0 : Nat) : Int) = at_ by omega] at h
          exact h
theorem ref_fits_l0 (w : Nat) (hw : w ≤ 8) (n : Int) (h0 : 0 ≤ n) (h64 : n < 18446744073709551616) (d : Nat) : ∀ (k i : Nat), i ≤ w → w - i = d → d < k → aumbryref01_Fits.l0 k (n / 256 ^ i) (w : Int) (i : Int) = some (n / 256 ^ w == 0) := by
  induction d with
  | zero =>
    intro k i hi hd hk
    obtain ⟨k, rfl⟩ : ∃ m, k = m + 1 := ⟨k - 1, by omega⟩
    obtain rfl : i = w := by omega
    simp only [aumbryref01_Fits.l0]
    rw [if_neg (by omega)]
  | succ d ih =>
    intro k i hi hd hk
    obtain ⟨k, rfl⟩ : ∃ m, k = m + 1 := ⟨k - 1, by omega⟩
    have h := ih k (i + 1) (by omega) (by omega) (by omega)
    have hn : 0 ≤ n / 256 ^ i := Int.ediv_nonneg h0 (Int.le_of_lt (pow_pos i))
    have hn1 : n / 256 ^ i ≤ n := Int.ediv_le_self _ h0
    simp only [aumbryref01_Fits.l0]
    rw [if_pos (by omega), Int.tdiv_eq_ediv_of_nonneg hn, u64_small (by omega) (by omega), div_div, wrap64_small (by omega) (by omega)]
    exact h
theorem ref_fits_f (n w : Int) (h0 : 0 ≤ n) (h64 : n < 18446744073709551616) (k : Nat) (hk : 9 < k) : aumbryref01_Fits.f k n w = some (fitsB n w) := by
  obtain ⟨k, rfl⟩ : ∃ m, k = m + 1 := ⟨k - 1, by omega⟩
  unfold aumbryref01_Fits.f fitsB
  by_cases h1 : w < 1
  · rw [if_pos h1, decide_eq_false (by intro h; exact absurd h.1 (by omega))]
    simp only [aumbryref01_Fits.j0, if_true]
  · rw [if_neg h1]
    by_cases h2 : 8 < w
    · rw [decide_eq_true h2, decide_eq_false (by intro h; exact absurd h.2.1 (by omega))]
      simp only [aumbryref01_Fits.j0, if_true]
    · rw [decide_eq_false h2]
      simp only [aumbryref01_Fits.j0]
      obtain ⟨m, rfl⟩ := Int.eq_ofNat_of_zero_le (show 0 ≤ w by omega)
      have h := ref_fits_l0 m (by omega) n h0 h64 m k 0 (by omega) (by omega) (by omega)
      rw [Int.pow_zero, Int.ediv_one] at h
      rw [if_neg (by decide)]
      refine h.trans ?_
      congr 1
      rw [Bool.eq_iff_iff, beq_iff_eq, decide_eq_true_iff, fits_iff n m h0]
      unfold Fits
      rw [show ((m : Int)).toNat = m by omega]
      omega
theorem ref_put_l0 (n : Int) (h0 : 0 ≤ n) (h64 : n < 18446744073709551616) (w : Nat) (hw : w ≤ 8) (d : Nat) : ∀ (k i : Nat), i ≤ w → w - i = d → d < k →
    aumbryref01_Put.l0 k (n / 256 ^ i) (w : Int) (strOfNums (digs n i)) (i : Int) = some (strOfNums (digs n w), 0) := by
  induction d with
  | zero =>
    intro k i hi hd hk
    obtain ⟨k, rfl⟩ : ∃ m, k = m + 1 := ⟨k - 1, by omega⟩
    obtain rfl : i = w := by omega
    simp only [aumbryref01_Put.l0]
    rw [if_neg (by omega)]
  | succ d ih =>
    intro k i hi hd hk
    obtain ⟨k, rfl⟩ : ∃ m, k = m + 1 := ⟨k - 1, by omega⟩
    have h := ih k (i + 1) (by omega) (by omega) (by omega)
    have hn : 0 ≤ n / 256 ^ i := Int.ediv_nonneg h0 (Int.le_of_lt (pow_pos i))
    have hn1 : n / 256 ^ i ≤ n := Int.ediv_le_self _ h0
    simp only [aumbryref01_Put.l0]
    rw [if_pos (by omega), Int.tmod_eq_emod_of_nonneg hn, Int.tdiv_eq_ediv_of_nonneg hn, u64_small (by omega) (by omega), div_div, wrap64_small (by omega) (by omega)]
    simp only [Option.bind_some]
    rw [if_pos (by rw [strOfNums_size, digs_size]; simp; omega)]
    have e : strOfNums [n / 256 ^ i % 256 % 256] ++ strOfNums (digs n i) = strOfNums (digs n (i + 1)) := by
      apply bytesOf_inj
      rw [bytesOf_append, digs_bytes, digs_bytes, bytes_nums _ (by simp; omega), digs, Int.emod_emod_of_dvd _ (Int.dvd_refl _)]
      rfl
    rw [e]
    exact h
theorem ref_put_f (n w : Int) (h0 : 0 ≤ n) (h64 : n < 18446744073709551616) (k : Nat) (hk : 9 < k) : aumbryref01_Put.f k n w = some (putSpec n w) := by
  unfold aumbryref01_Put.f putSpec
  rw [ref_fits_f n w h0 h64 k hk]
  simp only [Option.bind_some]
  unfold fitsB
  by_cases h : Fits n w
  · rw [if_pos (decide_eq_true h), if_pos h]
    obtain ⟨h1, h2, h3⟩ := h
    obtain ⟨m, rfl⟩ := Int.eq_ofNat_of_zero_le (show 0 ≤ w by omega)
    have hl := ref_put_l0 n h0 h64 m (by omega) m k 0 (by omega) (by omega) (by omega)
    rw [Int.pow_zero, Int.ediv_one] at hl
    exact hl
  · rw [if_neg (by rw [decide_eq_true_iff]; exact h), if_neg h]
theorem repeat_f (m : Nat) (h : m ≤ 65536) : strings_Repeat.f (⟨#[0]⟩ : ByteArray) (m : Int) = some (zeros m) := by
  unfold strings_Repeat.f
  rw [if_pos (by omega), if_pos (by omega), if_pos (by simp [ByteArray.size]; omega), show ((m : Int)).toNat = m by omega, repeat_zeros]
theorem ref_zeros_f (m : Nat) (h : m ≤ 281474976710656) : aumbryref01_Zeros.f (m : Int) = some (zeros m) := by
  unfold aumbryref01_Zeros.f
  rw [if_pos (by omega), if_pos (by omega), show ((m : Int)).toNat = m by omega]
  rfl
def padB (s : ByteArray) : ByteArray := s ++ zeros (256 - s.size)
theorem padB_size {s : ByteArray} (h : s.size ≤ 256) : (padB s).size = 256 := by
  unfold padB
  rw [ByteArray.size_append, zeros_size]
  omega
theorem filled_f (s : ByteArray) (hs : s.size ≤ 256) (k : Nat) (hk : 0 < k) : journal_filled.f k s = some (padB s) := by
  obtain ⟨k, rfl⟩ : ∃ m, k = m + 1 := ⟨k - 1, by omega⟩
  unfold journal_filled.f num_Pad.f
  rw [if_neg (by omega)]
  simp only [num_Pad.j0, show decide ((256 : Int) > 65536) = false from rfl, Bool.false_eq_true, if_false]
  rw [if_neg (by omega), wrap64_small (by omega) (by omega), show (256 : Int) - (s.size : Int) = ((256 - s.size : Nat) : Int) by omega, repeat_f _ (by omega)]
  simp only [Option.bind_some]
  rw [zeros_size, if_pos (by omega)]
  rfl
theorem refblock_f (s : ByteArray) (hs : s.size ≤ 256) : aumbryref10_block.f s = some (padB s) := by
  unfold aumbryref10_block.f
  rw [wrap64_small (by omega) (by omega), show (256 : Int) - (s.size : Int) = ((256 - s.size : Nat) : Int) by omega, ref_zeros_f _ (by omega)]
  simp only [Option.bind_some]
  rw [zeros_size, if_pos (by omega)]
  rfl
/-- The two bytes of a page's number. -/
def put2 (p : S62) : ByteArray := (putSpec (IntKind.u64.wrap p.f0) 2).1
theorem u64_range (a : Int) : 0 ≤ IntKind.u64.wrap a ∧ IntKind.u64.wrap a < 18446744073709551616 := by
  rw [IntKind.wrap_u64]
  omega
theorem put_size (n : Int) (w : Nat) : (putSpec n w).1.size ≤ w := by
  unfold putSpec
  split
  · show (strOfNums (digs n _)).size ≤ w
    rw [strOfNums_size, digs_length]
    omega
  · exact Nat.zero_le _
theorem put2_size (p : S62) : (put2 p).size ≤ 2 := put_size _ 2
theorem put2_f (p : S62) (k : Nat) (hk : 8 < k) : num_Put.f k (IntKind.u64.wrap p.f0) 2 = some (putSpec (IntKind.u64.wrap p.f0) 2) := num_put_f _ 2 (u64_range _).1 (u64_range _).2 k hk
theorem refput2_f (p : S62) (k : Nat) (hk : 9 < k) : aumbryref01_Put.f k (IntKind.u64.wrap p.f0) 2 = some (putSpec (IntKind.u64.wrap p.f0) 2) := ref_put_f _ 2 (u64_range _).1 (u64_range _).2 k hk
end Go.Proofs.Ytgageigcjeaenaa.QJour
namespace Go.Proofs.Ytgageigcjeaenaa.QJour
open Go.RowKit Go.Proofs.YtgageigcjeaenaaW.PrintWords Go.Proofs.YtgageigcjeaenaaW.PrintLast Go.Proofs.YtgageigcjeaenaaW.PrintMore Go.Proofs.Ytgageigcjeaenaa.MixBase Go.Proofs.Ytgageigcjeaenaa.MixPlain Go.Proofs.Ytgageigcjeaenaa.NumBase Go.Proofs.Ytgageigcjeaenaa.PadPlain
set_option linter.unusedVariables false
set_option linter.unusedSimpArgs false
/-- A row's text. -/
def rowT (l : List S62) : ByteArray := l.foldl (fun s p => s ++ put2 p) ⟨#[]⟩
theorem rowT_snoc (l : List S62) (p : S62) : rowT (l ++ [p]) = rowT l ++ put2 p := by unfold rowT; rw [List.foldl_append]; rfl
theorem rowT_size (l : List S62) : (rowT l).size ≤ 2 * l.length := by
  suffices h : ∀ n, ∀ l : List S62, l.length = n → (rowT l).size ≤ 2 * n from h _ l rfl
  intro n
  induction n with
  | zero => intro l hl; rw [List.length_eq_zero_iff.1 hl]; exact Nat.le_refl _
  | succ n ih =>
    intro l hl
    have hne : l ≠ [] := by intro e; rw [e] at hl; cases hl
    rw [← List.dropLast_concat_getLast hne, rowT_snoc, ByteArray.size_append]
    have h1 := ih l.dropLast (by rw [List.length_dropLast, hl]; rfl)
    have h2 := put2_size (l.getLast hne)
    omega
def chunk (l : List S62) (q m : Nat) : ByteArray := rowT ((l.drop (128 * q)).take (min 128 (m - 128 * q)))
theorem chunk_size (l : List S62) (q m : Nat) : (chunk l q m).size ≤ 256 := by
  have h1 := rowT_size ((l.drop (128 * q)).take (min 128 (m - 128 * q)))
  have h2 := List.length_take_le (min 128 (m - 128 * q)) (l.drop (128 * q))
  unfold chunk
  omega
theorem chunk_full (l : List S62) (q m m' : Nat) (h : 128 * q + 128 ≤ m) (h' : 128 * q + 128 ≤ m') : chunk l q m = chunk l q m' := by
  unfold chunk
  rw [show min 128 (m - 128 * q) = 128 by omega, show min 128 (m' - 128 * q) = 128 by omega]
theorem chunk_none (l : List S62) (q m : Nat) (h : m ≤ 128 * q) : chunk l q m = ⟨#[]⟩ := by
  unfold chunk
  rw [show min 128 (m - 128 * q) = 0 by omega, List.take_zero]
  rfl
theorem chunk_more (l : List S62) (q m : Nat) (h : 128 * q ≤ m) (h1 : m < 128 * q + 128) (hm : m < l.length) : chunk l q (m + 1) = chunk l q m ++ put2 (rd_T62 l (m : Int)) := by
  unfold chunk
  rw [show min 128 (m + 1 - 128 * q) = min 128 (m - 128 * q) + 1 by omega, List.take_add_one]
  have e : (l.drop (128 * q))[min 128 (m - 128 * q)]? = some (rd_T62 l (m : Int)) := by
    rw [List.getElem?_drop, show 128 * q + min 128 (m - 128 * q) = m by omega, List.getElem?_eq_getElem hm]
    show _ = some (l.getD _ _)
    rw [List.getD_eq_getElem?_getD, show ((m : Int)).toNat = m by omega, List.getElem?_eq_getElem hm]
    rfl
  rw [e]
  exact rowT_snoc _ _
def rawS (l : List S62) (m : Nat) : List ByteArray := (List.range ((m + 127) / 128)).map (fun q => chunk l q m)
theorem raw_step (l : List S62) (i : Nat) (h : i < l.length) : jl_add (jl_pre (rawS l i) i) (put2 (rd_T62 l (i : Int))) = rawS l (i + 1) := by
  have last : ∀ (xs : List ByteArray) (e t : ByteArray), jl_add (xs ++ [e]) t = xs ++ [e ++ t] := by
    intro xs e t
    unfold jl_add
    rw [List.length_append]
    simp
  have same : ∀ N, 128 * N ≤ i → (List.range N).map (fun q => chunk l q i) = (List.range N).map (fun q => chunk l q (i + 1)) := by
    intro N hN
    refine List.map_congr_left (fun q hq => ?_)
    have := List.mem_range.1 hq
    exact chunk_full l q i (i + 1) (by omega) (by omega)
  by_cases h0 : i % 128 = 0
  · have e1 : (i + 127) / 128 = i / 128 := by omega
    have e2 : (i + 1 + 127) / 128 = i / 128 + 1 := by omega
    unfold jl_pre rawS
    rw [if_pos h0, last, e1, e2, List.range_succ, List.map_append, same _ (by omega)]
    have e3 := chunk_more l (i / 128) i (by omega) (by omega) h
    rw [chunk_none l (i / 128) i (by omega)] at e3
    show _ ++ [_] = _ ++ [chunk l (i / 128) (i + 1)]
    rw [e3]
  · have e1 : (i + 127) / 128 = i / 128 + 1 := by omega
    have e2 : (i + 1 + 127) / 128 = i / 128 + 1 := by omega
    unfold jl_pre rawS
    rw [if_neg h0, e1, e2, List.range_succ, List.map_append, List.map_append]
    show jl_add (_ ++ [chunk l (i / 128) i]) _ = _ ++ [chunk l (i / 128) (i + 1)]
    rw [last, same _ (by omega), chunk_more l (i / 128) i (by omega) (by omega) h]
theorem raw_last (l : List S62) (i : Nat) : ((jl_pre (rawS l i) i).getD ((jl_pre (rawS l i) i).length - 1) ⟨#[]⟩).size ≤ 256 := by
  have hall : ∀ x, x ∈ jl_pre (rawS l i) i → x.size ≤ 256 := by
    intro x hx
    have hr : ∀ x, x ∈ rawS l i → x.size ≤ 256 := by
      intro x hx
      obtain ⟨q, _, rfl⟩ := List.mem_map.1 hx
      exact chunk_size l q i
    unfold jl_pre at hx
    split at hx
    · rcases List.mem_append.1 hx with h | h
      · exact hr x h
      · rw [List.mem_singleton.1 h]
        exact Nat.zero_le _
    · exact hr x hx
  rw [List.getD_eq_getElem?_getD]
  cases e : (jl_pre (rawS l i) i)[(jl_pre (rawS l i) i).length - 1]? with
  | none => exact Nat.zero_le _
  | some x => exact hall x (List.mem_of_getElem? e)
theorem jl_l0_f (l : List S62) (k : Nat) (hk : 8 < k) : ∀ d i, i + d = l.length → jl_l0 k (l.drop i) i (rawS l i) = some (rawS l l.length)
  | 0, i, h => by
    rw [List.drop_eq_nil_of_le (by omega), show i = l.length by omega]
    rfl
  | d + 1, i, h => by
    have hi : i < l.length := by omega
    have e0 : l[i] = rd_T62 l (i : Int) := by
      show _ = l.getD _ _
      rw [List.getD_eq_getElem?_getD, show ((i : Int)).toNat = i by omega, List.getElem?_eq_getElem hi]
      rfl
    rw [List.drop_eq_getElem_cons hi, e0]
    have h1 := raw_last l i
    have h2 := put2_size (rd_T62 l (i : Int))
    unfold put2 at h2
    unfold jl_l0
    rw [put2_f _ k hk, Option.bind_some, if_pos (by omega)]
    have h3 := raw_step l i hi
    unfold put2 at h3
    rw [h3]
    exact jl_l0_f l k hk d (i + 1) (by omega)
theorem jl_l1_f (k : Nat) (hk : 0 < k) : ∀ (l : List ByteArray), (∀ x, x ∈ l → x.size ≤ 256) → jl_l1 k l = some (l.map padB)
  | [], _ => rfl
  | s :: l, h => by
    unfold jl_l1
    rw [filled_f s (h s (List.mem_cons_self ..)) k hk, Option.bind_some, jl_l1_f k hk l (fun x hx => h x (List.mem_cons_of_mem _ hx)), Option.bind_some]
    rfl
/-- The list's blocks. -/
def listS (l : List S62) : List ByteArray := (rawS l l.length).map padB
theorem list_f (l : List S62) (hl : l.length ≤ 4096) (k : Nat) (hk : 8 < k) : journal_list.f k l = some (listS l) := by
  unfold journal_list.f
  rw [if_pos hl]
  have h := jl_l0_f l k hk l.length 0 (by omega)
  rw [List.drop_zero, show rawS l 0 = [] from rfl] at h
  rw [h, Option.bind_some]
  refine jl_l1_f k (by omega) _ (fun x hx => ?_)
  obtain ⟨q, _, rfl⟩ := List.mem_map.1 hx
  exact chunk_size l q _
theorem listS_length (l : List S62) : (listS l).length = (l.length + 127) / 128 := by
  unfold listS rawS
  rw [List.length_map, List.length_map, List.length_range]
theorem listS_size (l : List S62) (x : ByteArray) (h : x ∈ listS l) : x.size = 256 := by
  unfold listS at h
  obtain ⟨y, hy, rfl⟩ := List.mem_map.1 h
  obtain ⟨q, _, rfl⟩ := List.mem_map.1 hy
  exact padB_size (chunk_size l q _)
def listTo (l : List S62) (q : Nat) : List ByteArray := (List.range q).map (fun j => padB (chunk l j l.length))
theorem reflist_l1 (l : List S62) (hl : l.length ≤ 4096) (q : Nat) (hq : 128 * q < l.length) : ∀ d m, m + d = min (128 * q + 128) l.length → 128 * q ≤ m → Ev (fun k => aumbryref10_List.l0 k l (listTo l (q + 1)) ((128 * (q + 1) : Nat) : Int)) (listS l) →
    Ev (fun k => aumbryref10_List.l1 k l (listTo l q) ((128 * q : Nat) : Int) (chunk l q m) (m : Int)) (listS l)
  | 0, m, h, hm, hE => by
    have hsz := chunk_size l q m
    have hlen : (listTo l q).length = q := by unfold listTo; rw [List.length_map, List.length_range]
    have hce : chunk l q m = chunk l q l.length := by
      unfold chunk
      have h1 : min 128 (m - 128 * q) = 128 ∨ m = l.length := by omega
      rcases h1 with h1 | h1
      · rw [h1, show min 128 (l.length - 128 * q) = 128 by omega]
      · rw [h1]
    have hnx : listTo l q ++ [padB (chunk l q m)] = listTo l (q + 1) := by
      unfold listTo
      rw [List.range_succ, List.map_append, hce]
      rfl
    refine Ev.step (fun k => ?_) hE
    show aumbryref10_List.l1 (k + 1) l (listTo l q) _ _ _ = _
    rw [aumbryref10_List.l1]
    by_cases h1 : (m : Int) < ((128 * q : Nat) : Int) + 128
    · rw [wrap64_small (i := ((128 * q : Nat) : Int) + 128) (by omega) (by omega), if_pos h1, if_neg (by omega), refblock_f _ hsz, Option.bind_some, hlen, if_pos (by omega), hnx]
      congr 1
    · rw [wrap64_small (i := ((128 * q : Nat) : Int) + 128) (by omega) (by omega), if_neg h1, refblock_f _ hsz, Option.bind_some, hlen, if_pos (by omega), hnx]
      congr 1
  | d + 1, m, h, hm, hE => by
    have ih := reflist_l1 l hl q hq d (m + 1) (by omega) (by omega) hE
    have h2 := put2_size (rd_T62 l (m : Int))
    have h3 := chunk_size l q m
    have h4 := chunk_more l q m hm (by omega) (by omega)
    unfold put2 at h2 h4
    obtain ⟨K, hK⟩ := ih
    refine ⟨K + 11, fun k hk => ?_⟩
    obtain ⟨k, rfl⟩ : ∃ j, k = j + 1 := ⟨k - 1, by omega⟩
    show aumbryref10_List.l1 (k + 1) l (listTo l q) _ _ _ = _
    rw [aumbryref10_List.l1, wrap64_small (i := ((128 * q : Nat) : Int) + 128) (by omega) (by omega), if_pos (by omega), if_pos (by omega), if_pos (by omega), refput2_f _ k (by omega), Option.bind_some, if_pos (by omega), ← h4, wrap64_small (i := (m : Int) + 1) (by omega) (by omega)]
    exact hK k (by omega)
theorem reflist_l0 (l : List S62) (hl : l.length ≤ 4096) : ∀ d q, q + d = (l.length + 127) / 128 → Ev (fun k => aumbryref10_List.l0 k l (listTo l q) ((128 * q : Nat) : Int)) (listS l)
  | 0, q, h => by
    refine Ev.step (f := fun _ => some (listS l)) (fun k => ?_) (Ev.now _)
    show aumbryref10_List.l0 (k + 1) l (listTo l q) _ = _
    rw [aumbryref10_List.l0, if_neg (by omega)]
    refine congrArg some ?_
    unfold listTo listS rawS
    rw [List.map_map, show (l.length + 127) / 128 = q by omega]
    rfl
  | d + 1, q, h => by
    have ih := reflist_l0 l hl d (q + 1) (by omega)
    have h1 := reflist_l1 l hl q (by omega) (min (128 * q + 128) l.length - 128 * q) (128 * q) (by omega) (Nat.le_refl _) ih
    rw [chunk_none l q (128 * q) (Nat.le_refl _)] at h1
    refine Ev.step (fun k => ?_) h1
    show aumbryref10_List.l0 (k + 1) l (listTo l q) _ = _
    rw [aumbryref10_List.l0, if_pos (by omega)]
theorem reflist_ev (l : List S62) (hl : l.length ≤ 4096) : Ev (fun k => aumbryref10_List.f k l) (listS l) := reflist_l0 l hl _ 0 (Nat.zero_add _)
def stepS (s : Int) (x : ByteArray) : Int := sumOf s (bytesOf x)
theorem stepS_range (s : Int) (x : ByteArray) (h0 : 0 ≤ s) (h1 : s < 4294967296) : 0 ≤ stepS s x ∧ stepS s x < 4294967296 := by
  unfold stepS sumOf
  have h := mrun_ok (s % 65536 % 65521, s / 65536 % 65521) (bytesOf x) (by unfold MOk; simp only; omega)
  unfold MOk at h
  omega
def sumL (s : Int) (l : List ByteArray) : Int := l.foldl stepS s
theorem sumL_range : ∀ (l : List ByteArray) (s : Int), 0 ≤ s → s < 4294967296 → 0 ≤ sumL s l ∧ sumL s l < 4294967296
  | [], s, h0, h1 => ⟨h0, h1⟩
  | x :: l, s, h0, h1 => sumL_range l (stepS s x) (stepS_range s x h0 h1).1 (stepS_range s x h0 h1).2
theorem sumL_drop (s : Int) (l : List ByteArray) (i : Nat) (h : i < l.length) : sumL s (l.drop i) = sumL (stepS s (rdOf ByteArray.empty l (i : Int))) (l.drop (i + 1)) := by
  have e : l[i] = rdOf ByteArray.empty l (i : Int) := by
    unfold rdOf
    rw [List.getD_eq_getElem?_getD, show ((i : Int)).toNat = i by omega, List.getElem?_eq_getElem h]
    rfl
  rw [List.drop_eq_getElem_cons h, e]
  rfl
theorem rd_map (l : List S62) (i : Nat) (h : i < l.length) : rdOf ByteArray.empty (l.map S62.f1) (i : Int) = (rd_T62 l (i : Int)).f1 := by
  unfold rdOf rd_T62
  rw [List.getD_eq_getElem?_getD, List.getD_eq_getElem?_getD, show ((i : Int)).toNat = i by omega, List.getElem?_map, List.getElem?_eq_getElem h]
  rfl
/-- The head's text, whose sum is s. -/
def headT (l : List S62) (s : Int) : ByteArray := ((⟨#[106, 114, 110, 108]⟩ : ByteArray) ++ (putSpec (IntKind.u64.wrap (l.length : Int)) 2).1) ++ (putSpec (IntKind.u64.wrap s) 4).1
theorem headT_size (l : List S62) (s : Int) : (headT l s).size ≤ 10 := by
  have h1 := put_size (IntKind.u64.wrap (l.length : Int)) 2
  have h2 := put_size (IntKind.u64.wrap s) 4
  have h3 : (⟨#[106, 114, 110, 108]⟩ : ByteArray).size = 4 := rfl
  unfold headT
  rw [ByteArray.size_append, ByteArray.size_append, h3]
  have e1 : ((2 : Nat) : Int) = 2 := rfl
  have e2 : ((4 : Nat) : Int) = 4 := rfl
  rw [e1] at h1
  rw [e2] at h2
  omega
def Small (l : List ByteArray) : Prop := ∀ x, x ∈ l → x.size ≤ 100000
theorem rd_small {l : List ByteArray} (h : Small l) (i : Nat) (hi : i < l.length) : (rdOf ByteArray.empty l (i : Int)).size ≤ 100000 := by
  unfold rdOf
  rw [List.getD_eq_getElem?_getD, show ((i : Int)).toNat = i by omega, List.getElem?_eq_getElem hi]
  exact h _ (List.getElem_mem hi)
theorem put_ev (n : Int) (w : Int) : Ev (fun k => num_Put.f k (IntKind.u64.wrap n) w) (putSpec (IntKind.u64.wrap n) w) := ⟨9, fun k hk => num_put_f _ w (u64_range n).1 (u64_range n).2 k (by omega)⟩
theorem refput_ev (n : Int) (w : Int) : Ev (fun k => aumbryref01_Put.f k (IntKind.u64.wrap n) w) (putSpec (IntKind.u64.wrap n) w) := ⟨10, fun k hk => ref_put_f _ w (u64_range n).1 (u64_range n).2 k (by omega)⟩
theorem more_ev (s : Int) (x : ByteArray) (h0 : 0 ≤ s) (h1 : s < 4294967296) (hx : x.size ≤ 100000) : Ev (fun k => mix_More.f k s x) (stepS s x) := ⟨x.size + 1, fun k hk => more_f x (by omega) s h0 h1 k (by omega)⟩
theorem refmore_ev (s : Int) (x : ByteArray) (h0 : 0 ≤ s) (h1 : s < 4294967296) (hx : x.size ≤ 100000) : Ev (fun k => aumbryref02_More.f k s x) (stepS s x) := ⟨x.size + 1, fun k hk => refmore_f x (by omega) s h0 h1 k (by omega)⟩
theorem head_end (l : List S62) (s : Int) : 4 + (putSpec (IntKind.u64.wrap (l.length : Int)) 2).1.size ≤ 9223372036854775807 ∧ (((⟨#[106, 114, 110, 108]⟩ : ByteArray) ++ (putSpec (IntKind.u64.wrap (l.length : Int)) 2).1).size + (putSpec (IntKind.u64.wrap s) 4).1.size ≤ 9223372036854775807) := by
  have h1 := put_size (IntKind.u64.wrap (l.length : Int)) 2
  have h2 := put_size (IntKind.u64.wrap s) 4
  have h3 : (⟨#[106, 114, 110, 108]⟩ : ByteArray).size = 4 := rfl
  rw [ByteArray.size_append, h3]
  have e1 : ((2 : Nat) : Int) = 2 := rfl
  have e2 : ((4 : Nat) : Int) = 4 := rfl
  rw [e1] at h1
  rw [e2] at h2
  omega
theorem top_l1 (l : List S62) (hl : l.length ≤ 4096) (hs : Small (l.map S62.f1)) : ∀ d i s, i + d = l.length → 0 ≤ s → s < 4294967296 → Ev (fun k => journal_top.l1 k l s l (l.length : Int) (i : Int)) (padB (headT l (sumL s ((l.map S62.f1).drop i))))
  | 0, i, s, h, h0, h1 => by
    rw [List.drop_eq_nil_of_le (by rw [List.length_map]; omega)]
    show Ev _ (padB (headT l s))
    have he := head_end l s
    refine ⟨12, fun k hk => ?_⟩
    obtain ⟨k, rfl⟩ : ∃ j, k = j + 1 := ⟨k - 1, by omega⟩
    show journal_top.l1 (k + 1) l s l _ _ = _
    have h2 := headT_size l s
    have h3 := filled_f (headT l s) (by omega) k (by omega)
    unfold headT at h3 ⊢
    rw [journal_top.l1, if_neg (by omega), num_put_f _ 2 (u64_range _).1 (u64_range _).2 k (by omega), Option.bind_some, num_put_f _ 4 (u64_range _).1 (u64_range _).2 k (by omega), Option.bind_some, if_pos he.1, if_pos he.2, h3, Option.bind_some]
  | d + 1, i, s, h, h0, h1 => by
    have hi : i < l.length := by omega
    have hr := stepS_range s (rd_T62 l (i : Int)).f1 h0 h1
    have hx := rd_small hs i (by rw [List.length_map]; exact hi)
    rw [rd_map l i hi] at hx
    have ih := top_l1 l hl hs d (i + 1) _ (by omega) hr.1 hr.2
    rw [sumL_drop s _ i (by rw [List.length_map]; exact hi), rd_map l i hi]
    refine Ev.step (fun k => ?_) (Ev.bind (more_ev s _ h0 h1 hx) (f := fun k t129 => journal_top.l1 k l t129 l (l.length : Int) ((i + 1 : Nat) : Int)) ih)
    show journal_top.l1 (k + 1) l s l _ _ = _
    rw [journal_top.l1, if_pos (by omega), if_pos (by omega), if_pos (by omega), wrap64_small (i := (i : Int) + 1) (by omega) (by omega)]
    rfl
/-- The head's block. -/
def topS (l : List S62) : ByteArray := padB (headT l (sumL (sumL 1 (listS l)) (l.map S62.f1)))
theorem topS_size (l : List S62) : (topS l).size = 256 := padB_size (by have := headT_size l (sumL (sumL 1 (listS l)) (l.map S62.f1)); omega)
theorem top_l0 (l : List S62) (hl : l.length ≤ 4096) (hs : Small (l.map S62.f1)) (lst : List ByteArray) (hls : Small lst) (hln : lst.length ≤ 4096) : ∀ d i s, i + d = lst.length → 0 ≤ s → s < 4294967296 → Ev (fun k => journal_top.l0 k l s lst (lst.length : Int) (i : Int)) (padB (headT l (sumL (sumL s (lst.drop i)) (l.map S62.f1))))
  | 0, i, s, h, h0, h1 => by
    rw [List.drop_eq_nil_of_le (by omega)]
    have ih := top_l1 l hl hs l.length 0 s (by omega) h0 h1
    rw [List.drop_zero] at ih
    refine Ev.step (fun k => ?_) ih
    show journal_top.l0 (k + 1) l s lst _ _ = _
    rw [journal_top.l0, if_neg (by omega)]
    rfl
  | d + 1, i, s, h, h0, h1 => by
    have hi : i < lst.length := by omega
    have hr := stepS_range s (rdOf ByteArray.empty lst (i : Int)) h0 h1
    have hx := rd_small hls i hi
    have ih := top_l0 l hl hs lst hls hln d (i + 1) _ (by omega) hr.1 hr.2
    rw [sumL_drop s _ i hi]
    refine Ev.step (fun k => ?_) (Ev.bind (more_ev s _ h0 h1 hx) (f := fun k t129 => journal_top.l0 k l t129 lst (lst.length : Int) ((i + 1 : Nat) : Int)) ih)
    show journal_top.l0 (k + 1) l s lst _ _ = _
    rw [journal_top.l0, if_pos (by omega), if_pos (by omega), if_pos (by omega), wrap64_small (i := (i : Int) + 1) (by omega) (by omega)]
    rfl
theorem list_small (l : List S62) : Small (listS l) := fun x hx => by have := listS_size l x hx; omega
theorem top_ev (l : List S62) (hl : l.length ≤ 4096) (hs : Small (l.map S62.f1)) : Ev (fun k => journal_top.f k l) (topS l) := by
  have h := top_l0 l hl hs (listS l) (list_small l) (by rw [listS_length]; omega) (listS l).length 0 1 (by omega) (by omega) (by omega)
  rw [List.drop_zero] at h
  exact Ev.bind (⟨9, fun k hk => list_f l hl k (by omega)⟩ : Ev (fun k => journal_list.f k l) (listS l)) (f := fun k t122 => journal_top.l0 k l 1 t122 (t122.length : Int) 0) h
theorem head_l1 (l : List S62) (hl : l.length ≤ 4096) (hs : Small (l.map S62.f1)) : ∀ d i s, i + d = l.length → 0 ≤ s → s < 4294967296 → Ev (fun k => aumbryref10_Head.l1 k l s (l.length : Int) (i : Int)) (padB (headT l (sumL s ((l.map S62.f1).drop i))))
  | 0, i, s, h, h0, h1 => by
    rw [List.drop_eq_nil_of_le (by rw [List.length_map]; omega)]
    show Ev _ (padB (headT l s))
    have he := head_end l s
    refine ⟨12, fun k hk => ?_⟩
    obtain ⟨k, rfl⟩ : ∃ j, k = j + 1 := ⟨k - 1, by omega⟩
    show aumbryref10_Head.l1 (k + 1) l s _ _ = _
    have h2 := headT_size l s
    have h3 := refblock_f (headT l s) (by omega)
    unfold headT at h3 ⊢
    rw [aumbryref10_Head.l1, if_neg (by omega), ref_put_f _ 2 (u64_range _).1 (u64_range _).2 k (by omega), Option.bind_some, ref_put_f _ 4 (u64_range _).1 (u64_range _).2 k (by omega), Option.bind_some, if_pos he.1, if_pos he.2, h3, Option.bind_some]
  | d + 1, i, s, h, h0, h1 => by
    have hi : i < l.length := by omega
    have hr := stepS_range s (rd_T62 l (i : Int)).f1 h0 h1
    have hx := rd_small hs i (by rw [List.length_map]; exact hi)
    rw [rd_map l i hi] at hx
    have ih := head_l1 l hl hs d (i + 1) _ (by omega) hr.1 hr.2
    rw [sumL_drop s _ i (by rw [List.length_map]; exact hi), rd_map l i hi]
    refine Ev.step (fun k => ?_) (Ev.bind (refmore_ev s _ h0 h1 hx) (f := fun k t129 => aumbryref10_Head.l1 k l t129 (l.length : Int) ((i + 1 : Nat) : Int)) ih)
    show aumbryref10_Head.l1 (k + 1) l s _ _ = _
    rw [aumbryref10_Head.l1, if_pos (by omega), if_pos (by omega), if_pos (by omega), wrap64_small (i := (i : Int) + 1) (by omega) (by omega)]
    rfl
theorem head_l0 (l : List S62) (hl : l.length ≤ 4096) (hs : Small (l.map S62.f1)) (lst : List ByteArray) (hls : Small lst) (hln : lst.length ≤ 4096) : ∀ d i s, i + d = lst.length → 0 ≤ s → s < 4294967296 → Ev (fun k => aumbryref10_Head.l0 k l s lst (lst.length : Int) (i : Int)) (padB (headT l (sumL (sumL s (lst.drop i)) (l.map S62.f1))))
  | 0, i, s, h, h0, h1 => by
    rw [List.drop_eq_nil_of_le (by omega)]
    have ih := head_l1 l hl hs l.length 0 s (by omega) h0 h1
    rw [List.drop_zero] at ih
    refine Ev.step (fun k => ?_) ih
    show aumbryref10_Head.l0 (k + 1) l s lst _ _ = _
    rw [aumbryref10_Head.l0, if_neg (by omega)]
    rfl
  | d + 1, i, s, h, h0, h1 => by
    have hi : i < lst.length := by omega
    have hr := stepS_range s (rdOf ByteArray.empty lst (i : Int)) h0 h1
    have hx := rd_small hls i hi
    have ih := head_l0 l hl hs lst hls hln d (i + 1) _ (by omega) hr.1 hr.2
    rw [sumL_drop s _ i hi]
    refine Ev.step (fun k => ?_) (Ev.bind (refmore_ev s _ h0 h1 hx) (f := fun k t129 => aumbryref10_Head.l0 k l t129 lst (lst.length : Int) ((i + 1 : Nat) : Int)) ih)
    show aumbryref10_Head.l0 (k + 1) l s lst _ _ = _
    rw [aumbryref10_Head.l0, if_pos (by omega), if_pos (by omega), if_pos (by omega), wrap64_small (i := (i : Int) + 1) (by omega) (by omega)]
    rfl
theorem head_ev (l : List S62) (hl : l.length ≤ 4096) (hs : Small (l.map S62.f1)) : Ev (fun k => aumbryref10_Head.f k l) (topS l) := by
  have h := head_l0 l hl hs (listS l) (list_small l) (by rw [listS_length]; omega) (listS l).length 0 1 (by omega) (by omega) (by omega)
  rw [List.drop_zero] at h
  exact Ev.bind (⟨1, fun k hk => refsum_f k (by omega)⟩ : Ev (fun k => aumbryref02_Sum.f k ⟨#[]⟩) 1) (f := fun k t178 => (aumbryref10_List.f k l).bind fun t179 => (aumbryref10_Head.l0 k l t178 t179 (t179.length : Int) 0)) (Ev.bind (reflist_ev l hl) (f := fun k t179 => aumbryref10_Head.l0 k l 1 t179 (t179.length : Int) 0) h)
end Go.Proofs.Ytgageigcjeaenaa.QJour
namespace Go.Proofs.Ytgageigcjeaenaa.QJour
open Go.RowKit Go.Proofs.YtgageigcjeaenaaW.PrintWords Go.Proofs.YtgageigcjeaenaaW.PrintLast Go.Proofs.YtgageigcjeaenaaW.PrintMore Go.Proofs.Ytgageigcjeaenaa.MixBase Go.Proofs.Ytgageigcjeaenaa.MixPlain Go.Proofs.Ytgageigcjeaenaa.NumBase Go.Proofs.Ytgageigcjeaenaa.PadPlain
set_option linter.unusedVariables false
set_option linter.unusedSimpArgs false
theorem samepages_l0 (l : List S62) (hl : l.length ≤ 1000000000000000000) (d : Nat) : ∀ (k i : Nat), i + d = l.length → d < k → aumbryref09_SamePages.l0 k l l (l.length : Int) (i : Int) = some true := by
  induction d with
  | zero =>
    intro k i hi hk
    obtain ⟨k, rfl⟩ : ∃ m, k = m + 1 := ⟨k - 1, by omega⟩
    simp only [aumbryref09_SamePages.l0]
    rw [if_neg (by omega)]
  | succ d ih =>
    intro k i hi hk
    obtain ⟨k, rfl⟩ : ∃ m, k = m + 1 := ⟨k - 1, by omega⟩
    simp only [aumbryref09_SamePages.l0]
    rw [if_pos (by omega), if_pos (by omega), if_pos (by omega), if_pos (by omega)]
    simp only [beq_self_eq_true, Bool.not_true, Bool.or_self, Bool.false_eq_true, if_false]
    rw [wrap64_small (by omega) (by omega), show (i : Int) + 1 = ((i + 1 : Nat) : Int) by omega]
    exact ih k (i + 1) (by omega) (by omega)
end Go.Proofs.Ytgageigcjeaenaa.QJour
namespace Go.Proofs.Ytgageigcjeaenaa.QJour
open Go.RowKit Go.Proofs.YtgageigcjeaenaaW.PrintWords Go.Proofs.YtgageigcjeaenaaW.PrintLast Go.Proofs.YtgageigcjeaenaaW.PrintMore Go.Proofs.Ytgageigcjeaenaa.MixBase Go.Proofs.Ytgageigcjeaenaa.MixPlain Go.Proofs.Ytgageigcjeaenaa.NumBase Go.Proofs.Ytgageigcjeaenaa.PadPlain
set_option linter.unusedVariables false
set_option linter.unusedSimpArgs false
theorem ref_place_f (s : ByteArray) (hs : (s.size : Int) ≤ 9223372036854775807) (at_ w : Int) (h1 : 1 ≤ w) (h2 : w ≤ 8) : aumbryref01_Place.f s at_ w = some (!decide (at_ < 0 ∨ (s.size : Int) - w < at_)) := by
  unfold aumbryref01_Place.f
  by_cases h3 : at_ ≥ 0
  · rw [if_pos h3]
    by_cases h4 : at_ ≤ (s.size : Int)
    · rw [if_pos h4, wrap64_small (by omega) (by omega)]
      congr 1
      rw [Bool.eq_iff_iff, Bool.not_eq_true', decide_eq_true_iff, decide_eq_false_iff_not]
      omega
    · rw [if_neg h4, decide_eq_true (by omega)]
      rfl
  · rw [if_neg h3, decide_eq_true (by omega)]
    rfl
theorem ref_get_l0 (s : ByteArray) (hs : (s.size : Int) ≤ 9223372036854775807) (at_ : Int) (w : Nat) (ha : 0 ≤ at_) (haw : at_ + w ≤ s.size) (hw : w ≤ 8) (d : Nat) : ∀ (k i : Nat) (a : Int), i ≤ w → w - i = d → d < k → 0 ≤ a → a < 256 ^ i →
    aumbryref01_Get.l0 k s at_ (w : Int) a (i : Int) = some (valFrom a (((bytesOf s).drop (at_ + i).toNat).take d), 0) := by
  induction d with
  | zero =>
    intro k i a hi hd hk ha0 ha1
    obtain ⟨k, rfl⟩ : ∃ m, k = m + 1 := ⟨k - 1, by omega⟩
    simp only [aumbryref01_Get.l0]
    rw [if_neg (by omega), List.take_zero, valFrom_nil]
  | succ d ih =>
    intro k i a hi hd hk ha0 ha1
    obtain ⟨k, rfl⟩ : ∃ m, k = m + 1 := ⟨k - 1, by omega⟩
    have hb := bt_range s (at_ + i)
    have h7 := pow8 i (by omega)
    simp only [aumbryref01_Get.l0]
    rw [if_pos (by omega), wrap64_small (i := at_ + i) (by omega) (by omega), if_pos (by omega), if_pos (by omega), wrap64_small (by omega) (by omega), u64_small (i := a * 256) (by omega) (by omega), u64_small (i := bt s _) (by omega) (by omega), u64_small (by omega) (by omega), take_drop_cons s (at_ + i) d (by omega) (by omega), valFrom_cons]
    have h := ih k (i + 1) (a * 256 + bt s (at_ + i)) (by omega) (by omega) (by omega) (by omega) (by rw [pow_succ']; omega)
    rw [show at_ + ((i + 1 : Nat) : Int) = at_ + i + 1 by omega] at h
    exact h
theorem ref_get_f (s : ByteArray) (hs : (s.size : Int) ≤ 9223372036854775807) (at_ w : Int) (k : Nat) (hk : 9 < k) : aumbryref01_Get.f k s at_ w = some (getSpec s at_ w) := by
  obtain ⟨k, rfl⟩ : ∃ m, k = m + 1 := ⟨k - 1, by omega⟩
  unfold aumbryref01_Get.f getSpec
  by_cases h1 : w < 1
  · rw [if_pos h1, if_pos (.inl h1)]
    simp only [aumbryref01_Get.j0, if_true]
  · rw [if_neg h1]
    by_cases h2 : 8 < w
    · rw [if_pos (.inr h2), decide_eq_true h2]
      simp only [aumbryref01_Get.j0, if_true]
    · rw [if_neg (show ¬ (w < 1 ∨ 8 < w) by omega), decide_eq_false h2]
      simp only [aumbryref01_Get.j0]
      rw [if_neg (by decide), ref_place_f s hs at_ w (by omega) (by omega)]
      simp only [Option.bind_some]
      by_cases h4 : at_ < 0 ∨ (s.size : Int) - w < at_
      · rw [decide_eq_true h4, if_pos h4]
        rfl
      · rw [decide_eq_false h4, if_neg h4]
        obtain ⟨m, rfl⟩ := Int.eq_ofNat_of_zero_le (show 0 ≤ w by omega)
        have h := ref_get_l0 s hs at_ m (by omega) (by omega) (by omega) m k 0 0 (by omega) (by omega) (by omega) (by omega) (by decide)
        rw [show at_ + ((0 : Nat) : Int) = at_ by omega] at h
        exact h
end Go.Proofs.Ytgageigcjeaenaa.QJour
