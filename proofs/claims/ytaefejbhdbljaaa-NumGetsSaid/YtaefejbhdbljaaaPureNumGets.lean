/- At any place of any bytes the number stands that the reference says, or none; no condition beside the bound that every text has. -/
import Derived.Test.YtaefejbhdbljaaaPNumGetsx2
import Derived.Test.YtaefejbhdbljaaaNumBase
namespace Go.Proofs.Ytaefejbhdbljaaa.Pure
open Go.RowKit Go.Proofs.Ytaefejbhdbljaaa.PNumGets Go.Proofs.YtaefejbhdbljaaaW.PrintWords Go.Proofs.YtaefejbhdbljaaaW.PrintLast Go.Proofs.YtaefejbhdbljaaaW.PrintMore Go.Proofs.Ytaefejbhdbljaaa.MixBase Go.Proofs.Ytaefejbhdbljaaa.MixPlain Go.Proofs.Ytaefejbhdbljaaa.NumBase

namespace NumGetsParts
theorem num_fits_yes (n w : Int) (h0 : 0 ≤ n) (h : Fits n w) : num_fits.f n w = some true := by
  obtain ⟨h1, h2, h3⟩ := h
  unfold num_fits.f
  rw [if_pos h1, if_pos h2]
  by_cases h8 : w = 8
  · rw [if_pos h8]
  · obtain ⟨m, rfl⟩ := Int.eq_ofNat_of_zero_le (show 0 ≤ w by omega)
    rw [if_neg h8, wrap64_small (by omega) (by omega), if_pos (by omega), shr8 n m (by omega), (fits_iff n m h0).2 (by simpa using h3)]
    rfl
theorem num_fits_no (n w : Int) (h0 : 0 ≤ n) (h64 : n < 18446744073709551616) (h : ¬ Fits n w) : num_fits.f n w = some false := by
  unfold num_fits.f
  by_cases h1 : w ≥ 1
  · rw [if_pos h1]
    by_cases h2 : w ≤ 8
    · rw [if_pos h2]
      have h8 : w ≠ 8 := by
        rintro rfl
        exact h ⟨by omega, by omega, by rw [show (8 : Int).toNat = 8 from rfl, pow_eight]; exact h64⟩
      obtain ⟨m, rfl⟩ := Int.eq_ofNat_of_zero_le (show 0 ≤ w by omega)
      rw [if_neg h8, wrap64_small (by omega) (by omega), if_pos (by omega), shr8 n m (by omega)]
      have hne : ¬ n / 256 ^ m = 0 := fun e => h ⟨h1, h2, by simpa using (fits_iff n m h0).1 e⟩
      rw [beq_eq_false_iff_ne.2 hne]
    · rw [if_neg h2]
  · rw [if_neg h1]
theorem num_put_l0 (n : Int) (w : Nat) (hw : w ≤ 8) (d : Nat) : ∀ (k i : Nat), i ≤ w → w - i = d → d < k →
    num_Put.l0 k n (w : Int) (List.replicate (w - i) 0 ++ digs n i) (w : Int) (i : Int) = some (strOfNums (digs n w), 0) := by
  induction d with
  | zero =>
    intro k i hi hd hk
    obtain ⟨k, rfl⟩ : ∃ m, k = m + 1 := ⟨k - 1, by omega⟩
    obtain rfl : i = w := by omega
    simp only [num_Put.l0]
    rw [if_neg (by omega), Nat.sub_self, List.replicate_zero, List.nil_append]
  | succ d ih =>
    intro k i hi hd hk
    obtain ⟨k, rfl⟩ : ∃ m, k = m + 1 := ⟨k - 1, by omega⟩
    simp only [num_Put.l0]
    rw [if_pos (by omega), wrap64_small (i := 8 * (i : Int)) (by omega) (by omega), if_pos (by omega), wrap64_small (i := (w : Int) - 1) (by omega) (by omega), wrap64_small (i := (w : Int) - 1 - i) (by omega) (by omega), if_pos (by omega),
      if_pos (by rw [List.length_append, List.length_replicate, digs_length]; omega), wrap64_small (by omega) (by omega), shr8 n i (by omega)]
    have e : ((w : Int) - 1 - i).toNat = d := by omega
    rw [e, show w - i = d + 1 by omega, set_zeros]
    have h := ih k (i + 1) (by omega) (by omega) (by omega)
    rw [show w - (i + 1) = d by omega] at h
    exact h
theorem num_put_f (n w : Int) (h0 : 0 ≤ n) (h64 : n < 18446744073709551616) (k : Nat) (hk : 8 < k) : num_Put.f k n w = some (putSpec n w) := by
  unfold num_Put.f putSpec
  by_cases h : Fits n w
  · rw [num_fits_yes n w h0 h, if_pos h]
    obtain ⟨h1, h2, h3⟩ := h
    obtain ⟨m, rfl⟩ := Int.eq_ofNat_of_zero_le (show 0 ≤ w by omega)
    simp only [Option.bind_some, if_true]
    rw [if_pos (by omega), if_pos (by omega)]
    have hl := num_put_l0 n m (by omega) m k 0 (by omega) (by omega) (by omega)
    rw [Nat.sub_zero, digs, List.append_nil] at hl
    exact hl
  · rw [num_fits_no n w h0 h64 h, if_neg h]
    rfl
theorem num_get_l0 (s : ByteArray) (hs : (s.size : Int) ≤ 9223372036854775807) (at_ : Int) (w : Nat) (ha : 0 ≤ at_) (haw : at_ + w ≤ s.size) (hw : w ≤ 8) (d : Nat) : ∀ (k i : Nat) (a : Int), i ≤ w → w - i = d → d < k → 0 ≤ a → a < 256 ^ i →
    num_Get.l0 k s at_ a (w : Int) (i : Int) = some (valFrom a (((bytesOf s).drop (at_ + i).toNat).take d), 0) := by
  induction d with
  | zero =>
    intro k i a hi hd hk ha0 ha1
    obtain ⟨k, rfl⟩ : ∃ m, k = m + 1 := ⟨k - 1, by omega⟩
    simp only [num_Get.l0]
    rw [if_neg (by omega), List.take_zero, valFrom_nil]
  | succ d ih =>
    intro k i a hi hd hk ha0 ha1
    obtain ⟨k, rfl⟩ : ∃ m, k = m + 1 := ⟨k - 1, by omega⟩
    have hb := bt_range s (at_ + i)
    have h7 := pow8 i (by omega)
    simp only [num_Get.l0]
    rw [if_pos (by omega), wrap64_small (i := at_ + i) (by omega) (by omega), if_pos (by omega), if_pos (by omega), wrap64_small (by omega) (by omega), or64 a (bt s (at_ + i)) ha0 (by omega) hb.1 (by omega), take_drop_cons s (at_ + i) d (by omega) (by omega), valFrom_cons]
    have h := ih k (i + 1) (a * 256 + bt s (at_ + i)) (by omega) (by omega) (by omega) (by omega) (by rw [pow_succ']; omega)
    rw [show at_ + ((i + 1 : Nat) : Int) = at_ + i + 1 by omega] at h
    exact h
theorem num_get_f (s : ByteArray) (hs : (s.size : Int) ≤ 9223372036854775807) (at_ w : Int) (k : Nat) (hk : 9 < k) : num_Get.f k s at_ w = some (getSpec s at_ w) := by
  obtain ⟨k, rfl⟩ : ∃ m, k = m + 1 := ⟨k - 1, by omega⟩
  unfold num_Get.f getSpec
  by_cases h1 : w < 1
  · rw [if_pos h1, if_pos (.inl h1)]
    simp only [num_Get.j0, if_true]
  · rw [if_neg h1]
    by_cases h2 : 8 < w
    · rw [if_pos (.inr h2), decide_eq_true h2]
      simp only [num_Get.j0, if_true]
    · rw [if_neg (by omega), decide_eq_false h2]
      simp only [num_Get.j0]
      rw [if_neg (by decide), wrap64_small (by omega) (by omega)]
      by_cases h3 : at_ < 0
      · rw [if_pos h3, if_pos (.inl h3)]
      · rw [if_neg h3]
        by_cases h4 : (s.size : Int) - w < at_
        · rw [if_pos h4, if_pos (.inr h4)]
        · rw [if_neg h4, if_neg (by omega)]
          obtain ⟨m, rfl⟩ := Int.eq_ofNat_of_zero_le (show 0 ≤ w by omega)
          have h := num_get_l0 s hs at_ m (by omega) (by omega) (by omega) m k 0 0 (by omega) (by omega) (by omega) (by omega) (by decide)
          rw [show at_ + ((0 : Nat) : Int) = at_ by omega] at h
          exact h
theorem num_set_f (s : ByteArray) (hs : (s.size : Int) ≤ 9223372036854775807) (at_ n w : Int) (h0 : 0 ≤ n) (h64 : n < 18446744073709551616) (k : Nat) (hk : 8 < k) : num_Set.f k s at_ n w = some (setSpec s at_ n w) := by
  unfold num_Set.f setSpec
  rw [num_put_f n w h0 h64 k hk]
  simp only [Option.bind_some]
  unfold putSpec
  by_cases h : Fits n w
  · rw [if_pos h, if_pos h]
    have h' := h
    obtain ⟨h1, h2, h3⟩ := h'
    simp only [if_true]
    rw [wrap64_small (by omega) (by omega)]
    by_cases h4 : at_ < 0
    · rw [if_pos h4, if_pos (.inl h4)]
    · rw [if_neg h4]
      by_cases h5 : (s.size : Int) - w < at_
      · rw [if_pos h5, if_pos (.inr h5)]
      · have e1 : (s.extract 0 at_.toNat).size = at_.toNat := by simp; omega
        have e2 : (strOfNums (digs n w.toNat)).size = w.toNat := digs_size _ _
        have e3 : (s.extract (at_ + w).toNat s.size).size = s.size - (at_ + w).toNat := by simp
        rw [if_neg h5, if_neg (show ¬ (at_ < 0 ∨ (s.size : Int) - w < at_) by omega), if_pos (show 0 ≤ at_ by omega), if_pos (show at_ ≤ (s.size : Int) by omega), if_pos (by rw [e1, e2]; omega), wrap64_small (by omega) (by omega), if_pos (by omega), if_pos (by omega),
          if_pos (by rw [ByteArray.size_append, e1, e2, e3]; omega)]
  · rw [if_neg h, if_neg h]
    simp
theorem num_wakes_f (k : Nat) (hk : 9 < k) : aumbrylaw01_wakes.f k = some true := by
  unfold aumbrylaw01_wakes.f
  rw [num_put_f 258 2 (by omega) (by omega) k (by omega), num_get_f _ (by decide) 1 2 k hk, num_set_f _ (by decide) 1 122 1 (by omega) (by omega) k (by omega)]
  have p1 : putSpec 258 2 = (⟨#[1, 2]⟩, 0) := by
    unfold putSpec
    rw [if_pos ⟨by omega, by omega, by decide⟩]
    decide
  have p2 : setSpec (⟨#[97, 98, 99]⟩ : ByteArray) 1 122 1 = (⟨#[97, 122, 99]⟩, 0) := by
    unfold setSpec
    rw [if_pos ⟨by omega, by omega, by decide⟩, if_neg (by decide)]
    decide
  have p3 : getSpec (⟨#[0, 1, 2]⟩ : ByteArray) 1 2 = (258, 0) := by decide
  rw [p1, p2, p3]
  simp only [Option.bind_some, if_true, ByteArray.toList_eq]
  decide

theorem ref_place_f (s : ByteArray) (hs : (s.size : Int) ≤ 9223372036854775807) (at_ w : Int) (h1 : 1 ≤ w) (h2 : w ≤ 8) : aumbryref01_Place.f s at_ w = some (!decide (at_ < 0 ∨ (s.size : Int) - w < at_)) := by
  unfold aumbryref01_Place.f
  by_cases h3 : at_ ≥ 0
  · rw [if_pos h3]
    by_cases h4 : at_ ≤ (s.size : Int)
    · rw [if_pos h4, wrap64_small (by omega) (by omega)]
      congr 1
      rw [Bool.eq_iff_iff, Bool.not_eq_true', decide_eq_true_iff, decide_eq_false_iff_not]
      omega
    · rw [if_neg h4, decide_eq_true (by omega)]
      rfl
  · rw [if_neg h3, decide_eq_true (by omega)]
    rfl
theorem ref_get_l0 (s : ByteArray) (hs : (s.size : Int) ≤ 9223372036854775807) (at_ : Int) (w : Nat) (ha : 0 ≤ at_) (haw : at_ + w ≤ s.size) (hw : w ≤ 8) (d : Nat) : ∀ (k i : Nat) (a : Int), i ≤ w → w - i = d → d < k → 0 ≤ a → a < 256 ^ i →
    aumbryref01_Get.l0 k s at_ (w : Int) a (i : Int) = some (valFrom a (((bytesOf s).drop (at_ + i).toNat).take d), 0) := by
  induction d with
  | zero =>
    intro k i a hi hd hk ha0 ha1
    obtain ⟨k, rfl⟩ : ∃ m, k = m + 1 := ⟨k - 1, by omega⟩
    simp only [aumbryref01_Get.l0]
    rw [if_neg (by omega), List.take_zero, valFrom_nil]
  | succ d ih =>
    intro k i a hi hd hk ha0 ha1
    obtain ⟨k, rfl⟩ : ∃ m, k = m + 1 := ⟨k - 1, by omega⟩
    have hb := bt_range s (at_ + i)
    have h7 := pow8 i (by omega)
    simp only [aumbryref01_Get.l0]
    rw [if_pos (by omega), wrap64_small (i := at_ + i) (by omega) (by omega), if_pos (by omega), if_pos (by omega), wrap64_small (by omega) (by omega), u64_small (i := a * 256) (by omega) (by omega), u64_small (i := bt s _) (by omega) (by omega), u64_small (by omega) (by omega), take_drop_cons s (at_ + i) d (by omega) (by omega), valFrom_cons]
    have h := ih k (i + 1) (a * 256 + bt s (at_ + i)) (by omega) (by omega) (by omega) (by omega) (by rw [pow_succ']; omega)
    rw [show at_ + ((i + 1 : Nat) : Int) = at_ + i + 1 by omega] at h
    exact h
theorem ref_get_f (s : ByteArray) (hs : (s.size : Int) ≤ 9223372036854775807) (at_ w : Int) (k : Nat) (hk : 9 < k) : aumbryref01_Get.f k s at_ w = some (getSpec s at_ w) := by
  obtain ⟨k, rfl⟩ : ∃ m, k = m + 1 := ⟨k - 1, by omega⟩
  unfold aumbryref01_Get.f getSpec
  by_cases h1 : w < 1
  · rw [if_pos h1, if_pos (.inl h1)]
    simp only [aumbryref01_Get.j0, if_true]
  · rw [if_neg h1]
    by_cases h2 : 8 < w
    · rw [if_pos (.inr h2), decide_eq_true h2]
      simp only [aumbryref01_Get.j0, if_true]
    · rw [if_neg (show ¬ (w < 1 ∨ 8 < w) by omega), decide_eq_false h2]
      simp only [aumbryref01_Get.j0]
      rw [if_neg (by decide), ref_place_f s hs at_ w (by omega) (by omega)]
      simp only [Option.bind_some]
      by_cases h4 : at_ < 0 ∨ (s.size : Int) - w < at_
      · rw [decide_eq_true h4, if_pos h4]
        rfl
      · rw [decide_eq_false h4, if_neg h4]
        obtain ⟨m, rfl⟩ := Int.eq_ofNat_of_zero_le (show 0 ≤ w by omega)
        have h := ref_get_l0 s hs at_ m (by omega) (by omega) (by omega) m k 0 0 (by omega) (by omega) (by omega) (by omega) (by decide)
        rw [show at_ + ((0 : Nat) : Int) = at_ by omega] at h
        exact h

end NumGetsParts
open NumGetsParts
theorem NumGets (s : ByteArray) (at_ w : Int) (hs : s.size ≤ 140737488351232) : ∃ k, aumbrylaw01_NumGets.f k s at_ w = some true := by
  refine ⟨10, ?_⟩
  unfold aumbrylaw01_NumGets.f
  rw [num_wakes_f _ (by omega), num_get_f s (by omega) at_ w _ (by omega), ref_get_f s (by omega) at_ w _ (by omega)]
  simp only [Option.bind_some, if_true, beq_self_eq_true]
namespace GetsWalk
theorem walk (s : ByteArray) (at_ w : Int) (W : World) (hs : s.size ≤ 140737488351232) :
    Calls Try.prog 9 #[.string s, .agg #[.int .i64 at_, .int .i64 w]] W fun e w' => e = .returned (.bool true) ∧ Below W.heap.size W w' := by
  obtain ⟨k, h⟩ := NumGets s at_ w hs
  exact aumbrylaw01_NumGets.calls k s at_ w true W h
end GetsWalk

end Go.Proofs.Ytaefejbhdbljaaa.Pure
