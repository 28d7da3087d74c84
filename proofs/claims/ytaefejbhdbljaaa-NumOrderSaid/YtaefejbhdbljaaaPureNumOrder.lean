/- Of two numbers of one width the lesser one's bytes come first; no condition. -/
import Derived.Test.YtaefejbhdbljaaaPNumOrderx1
import Derived.Test.YtaefejbhdbljaaaNumBase
namespace Go.Proofs.Ytaefejbhdbljaaa.Pure
open Go.RowKit Go.Proofs.Ytaefejbhdbljaaa.PNumOrder Go.Proofs.YtaefejbhdbljaaaW.PrintWords Go.Proofs.YtaefejbhdbljaaaW.PrintLast Go.Proofs.YtaefejbhdbljaaaW.PrintMore Go.Proofs.Ytaefejbhdbljaaa.MixBase Go.Proofs.Ytaefejbhdbljaaa.MixPlain Go.Proofs.Ytaefejbhdbljaaa.NumBase

namespace NumOrderParts
theorem num_fits_yes (n w : Int) (h0 : 0 ≤ n) (h : Fits n w) : num_fits.f n w = some true := by
  obtain ⟨h1, h2, h3⟩ := h
  unfold num_fits.f
  rw [if_pos h1, if_pos h2]
  by_cases h8 : w = 8
  · rw [if_pos h8]
  · obtain ⟨m, rfl⟩ := Int.eq_ofNat_of_zero_le (show 0 ≤ w by omega)
    rw [if_neg h8, wrap64_small (by omega) (by omega), if_pos (by omega), shr8 n m (by omega), (fits_iff n m h0).2 (by simpa using h3)]
    rfl
theorem num_fits_no (n w : Int) (h0 : 0 ≤ n) (h64 : n < 18446744073709551616) (h : ¬ Fits n w) : num_fits.f n w = some false := by
  unfold num_fits.f
  by_cases h1 : w ≥ 1
  · rw [if_pos h1]
    by_cases h2 : w ≤ 8
    · rw [if_pos h2]
      have h8 : w ≠ 8 := by
        rintro rfl
        exact h ⟨by omega, by omega, by rw [show (8 : Int).toNat = 8 from rfl, pow_eight]; exact h64⟩
      obtain ⟨m, rfl⟩ := Int.eq_ofNat_of_zero_le (show 0 ≤ w by omega)
      rw [if_neg h8, wrap64_small (by omega) (by omega), if_pos (by omega), shr8 n m (by omega)]
      have hne : ¬ n / 256 ^ m = 0 := fun e => h ⟨h1, h2, by simpa using (fits_iff n m h0).1 e⟩
      rw [beq_eq_false_iff_ne.2 hne]
    · rw [if_neg h2]
  · rw [if_neg h1]
theorem num_put_l0 (n : Int) (w : Nat) (hw : w ≤ 8) (d : Nat) : ∀ (k i : Nat), i ≤ w → w - i = d → d < k →
    num_Put.l0 k n (w : Int) (List.replicate (w - i) 0 ++ digs n i) (w : Int) (i : Int) = some (strOfNums (digs n w), 0) := by
  induction d with
  | zero =>
    intro k i hi hd hk
    obtain ⟨k, rfl⟩ : ∃ m, k = m + 1 := ⟨k - 1, by omega⟩
    obtain rfl : i = w := by omega
    simp only [num_Put.l0]
    rw [if_neg (by omega), Nat.sub_self, List.replicate_zero, List.nil_append]
  | succ d ih =>
    intro k i hi hd hk
    obtain ⟨k, rfl⟩ : ∃ m, k = m + 1 := ⟨k - 1, by omega⟩
    simp only [num_Put.l0]
    rw [if_pos (by omega), wrap64_small (i := 8 * (i : Int)) (by omega) (by omega), if_pos (by omega), wrap64_small (i := (w : Int) - 1) (by omega) (by omega), wrap64_small (i := (w : Int) - 1 - i) (by omega) (by omega), if_pos (by omega),
      if_pos (by rw [List.length_append, List.length_replicate, digs_length]; omega), wrap64_small (by omega) (by omega), shr8 n i (by omega)]
    have e : ((w : Int) - 1 - i).toNat = d := by omega
    rw [e, show w - i = d + 1 by omega, set_zeros]
    have h := ih k (i + 1) (by omega) (by omega) (by omega)
    rw [show w - (i + 1) = d by omega] at h
    exact h
theorem num_put_f (n w : Int) (h0 : 0 ≤ n) (h64 : n < 18446744073709551616) (k : Nat) (hk : 8 < k) : num_Put.f k n w = some (putSpec n w) := by
  unfold num_Put.f putSpec
  by_cases h : Fits n w
  · rw [num_fits_yes n w h0 h, if_pos h]
    obtain ⟨h1, h2, h3⟩ := h
    obtain ⟨m, rfl⟩ := Int.eq_ofNat_of_zero_le (show 0 ≤ w by omega)
    simp only [Option.bind_some, if_true]
    rw [if_pos (by omega), if_pos (by omega)]
    have hl := num_put_l0 n m (by omega) m k 0 (by omega) (by omega) (by omega)
    rw [Nat.sub_zero, digs, List.append_nil] at hl
    exact hl
  · rw [num_fits_no n w h0 h64 h, if_neg h]
    rfl
theorem num_get_l0 (s : ByteArray) (hs : (s.size : Int) ≤ 9223372036854775807) (at_ : Int) (w : Nat) (ha : 0 ≤ at_) (haw : at_ + w ≤ s.size) (hw : w ≤ 8) (d : Nat) : ∀ (k i : Nat) (a : Int), i ≤ w → w - i = d → d < k → 0 ≤ a → a < 256 ^ i →
    num_Get.l0 k s at_ a (w : Int) (i : Int) = some (valFrom a (((bytesOf s).drop (at_ + i).toNat).take d), 0) := by
  induction d with
  | zero =>
    intro k i a hi hd hk ha0 ha1
    obtain ⟨k, rfl⟩ : ∃ m, k = m + 1 := ⟨k - 1, by omega⟩
    simp only [num_Get.l0]
    rw [if_neg (by omega), List.take_zero, valFrom_nil]
  | succ d ih =>
    intro k i a hi hd hk ha0 ha1
    obtain ⟨k, rfl⟩ : ∃ m, k = m + 1 := ⟨k - 1, by omega⟩
    have hb := bt_range s (at_ + i)
    have h7 := pow8 i (by omega)
    simp only [num_Get.l0]
    rw [if_pos (by omega), wrap64_small (i := at_ + i) (by omega) (by omega), if_pos (by omega), if_pos (by omega), wrap64_small (by omega) (by omega), or64 a (bt s (at_ + i)) ha0 (by omega) hb.1 (by omega), take_drop_cons s (at_ + i) d (by omega) (by omega), valFrom_cons]
    have h := ih k (i + 1) (a * 256 + bt s (at_ + i)) (by omega) (by omega) (by omega) (by omega) (by rw [pow_succ']; omega)
    rw [show at_ + ((i + 1 : Nat) : Int) = at_ + i + 1 by omega] at h
    exact h
theorem num_get_f (s : ByteArray) (hs : (s.size : Int) ≤ 9223372036854775807) (at_ w : Int) (k : Nat) (hk : 9 < k) : num_Get.f k s at_ w = some (getSpec s at_ w) := by
  obtain ⟨k, rfl⟩ : ∃ m, k = m + 1 := ⟨k - 1, by omega⟩
  unfold num_Get.f getSpec
  by_cases h1 : w < 1
  · rw [if_pos h1, if_pos (.inl h1)]
    simp only [num_Get.j0, if_true]
  · rw [if_neg h1]
    by_cases h2 : 8 < w
    · rw [if_pos (.inr h2), decide_eq_true h2]
      simp only [num_Get.j0, if_true]
    · rw [if_neg (by omega), decide_eq_false h2]
      simp only [num_Get.j0]
      rw [if_neg (by decide), wrap64_small (by omega) (by omega)]
      by_cases h3 : at_ < 0
      · rw [if_pos h3, if_pos (.inl h3)]
      · rw [if_neg h3]
        by_cases h4 : (s.size : Int) - w < at_
        · rw [if_pos h4, if_pos (.inr h4)]
        · rw [if_neg h4, if_neg (by omega)]
          obtain ⟨m, rfl⟩ := Int.eq_ofNat_of_zero_le (show 0 ≤ w by omega)
          have h := num_get_l0 s hs at_ m (by omega) (by omega) (by omega) m k 0 0 (by omega) (by omega) (by omega) (by omega) (by decide)
          rw [show at_ + ((0 : Nat) : Int) = at_ by omega] at h
          exact h
theorem num_set_f (s : ByteArray) (hs : (s.size : Int) ≤ 9223372036854775807) (at_ n w : Int) (h0 : 0 ≤ n) (h64 : n < 18446744073709551616) (k : Nat) (hk : 8 < k) : num_Set.f k s at_ n w = some (setSpec s at_ n w) := by
  unfold num_Set.f setSpec
  rw [num_put_f n w h0 h64 k hk]
  simp only [Option.bind_some]
  unfold putSpec
  by_cases h : Fits n w
  · rw [if_pos h, if_pos h]
    have h' := h
    obtain ⟨h1, h2, h3⟩ := h'
    simp only [if_true]
    rw [wrap64_small (by omega) (by omega)]
    by_cases h4 : at_ < 0
    · rw [if_pos h4, if_pos (.inl h4)]
    · rw [if_neg h4]
      by_cases h5 : (s.size : Int) - w < at_
      · rw [if_pos h5, if_pos (.inr h5)]
      · have e1 : (s.extract 0 at_.toNat).size = at_.toNat := by simp; omega
        have e2 : (strOfNums (digs n w.toNat)).size = w.toNat := digs_size _ _
        have e3 : (s.extract (at_ + w).toNat s.size).size = s.size - (at_ + w).toNat := by simp
        rw [if_neg h5, if_neg (show ¬ (at_ < 0 ∨ (s.size : Int) - w < at_) by omega), if_pos (show 0 ≤ at_ by omega), if_pos (show at_ ≤ (s.size : Int) by omega), if_pos (by rw [e1, e2]; omega), wrap64_small (by omega) (by omega), if_pos (by omega), if_pos (by omega),
          if_pos (by rw [ByteArray.size_append, e1, e2, e3]; omega)]
  · rw [if_neg h, if_neg h]
    simp
theorem num_wakes_f (k : Nat) (hk : 9 < k) : aumbrylaw01_wakes.f k = some true := by
  unfold aumbrylaw01_wakes.f
  rw [num_put_f 258 2 (by omega) (by omega) k (by omega), num_get_f _ (by decide) 1 2 k hk, num_set_f _ (by decide) 1 122 1 (by omega) (by omega) k (by omega)]
  have p1 : putSpec 258 2 = (⟨#[1, 2]⟩, 0) := by
    unfold putSpec
    rw [if_pos ⟨by omega, by omega, by decide⟩]
    decide
  have p2 : setSpec (⟨#[97, 98, 99]⟩ : ByteArray) 1 122 1 = (⟨#[97, 122, 99]⟩, 0) := by
    unfold setSpec
    rw [if_pos ⟨by omega, by omega, by decide⟩, if_neg (by decide)]
    decide
  have p3 : getSpec (⟨#[0, 1, 2]⟩ : ByteArray) 1 2 = (258, 0) := by decide
  rw [p1, p2, p3]
  simp only [Option.bind_some, if_true, ByteArray.toList_eq]
  decide

theorem mod_succ (n : Int) (w : Nat) : n % 256 ^ (w + 1) = 256 ^ w * (n / 256 ^ w % 256) + n % 256 ^ w := by
  have h := valFrom_digs n 0 (w + 1)
  rw [digs, valFrom_cons, valFrom_digs, Int.zero_mul, Int.zero_add, Int.zero_mul, Int.zero_add, Int.mul_comm] at h
  exact h.symm
theorem less_digs (a b : Int) (w : Nat) : Op.bytesLess ((digs a w).map fun n => UInt8.ofNat n.toNat) ((digs b w).map fun n => UInt8.ofNat n.toNat) = decide (a % 256 ^ w < b % 256 ^ w) := by
  induction w with
  | zero => simp [digs, Op.bytesLess]
  | succ w ih =>
    have hp := pow_pos w
    have a1 := Int.emod_lt_of_pos a hp
    have a2 := Int.emod_nonneg a (show (256 : Int) ^ w ≠ 0 by omega)
    have b1 := Int.emod_lt_of_pos b hp
    have b2 := Int.emod_nonneg b (show (256 : Int) ^ w ≠ 0 by omega)
    have c1 : 0 ≤ a / 256 ^ w % 256 ∧ a / 256 ^ w % 256 < 256 := by omega
    have d1 : 0 ≤ b / 256 ^ w % 256 ∧ b / 256 ^ w % 256 < 256 := by omega
    rw [digs, digs, List.map_cons, List.map_cons, Op.bytesLess, ih, mod_succ a w, mod_succ b w]
    generalize a / 256 ^ w % 256 = c at *
    generalize b / 256 ^ w % 256 = d at *
    generalize a % 256 ^ w = x at *
    generalize b % 256 ^ w = y at *
    generalize (256 : Int) ^ w = p at *
    have e1 : (UInt8.ofNat c.toNat < UInt8.ofNat d.toNat) = (c < d) := by
      rw [UInt8.lt_iff_toNat_lt]
      simp
      omega
    have e2 : (UInt8.ofNat c.toNat == UInt8.ofNat d.toNat) = (c == d) := by
      rw [Bool.eq_iff_iff, beq_iff_eq, beq_iff_eq, ← UInt8.toNat_inj]
      simp
      omega
    rw [e2]
    simp only [e1]
    rw [Bool.eq_iff_iff, Bool.or_eq_true, Bool.and_eq_true, beq_iff_eq, decide_eq_true_iff, decide_eq_true_iff, decide_eq_true_iff]
    constructor
    · rintro (h | ⟨rfl, h⟩)
      · have h5 : p * (c + 1) ≤ p * d := Int.mul_le_mul_of_nonneg_left (by omega) (by omega)
        rw [Int.mul_add, Int.mul_one] at h5
        omega
      · omega
    · intro h
      rcases Int.lt_trichotomy c d with h1 | h1 | h1
      · exact .inl h1
      · subst h1
        exact .inr ⟨rfl, by omega⟩
      · have h5 : p * (d + 1) ≤ p * c := Int.mul_le_mul_of_nonneg_left (by omega) (by omega)
        rw [Int.mul_add, Int.mul_one] at h5
        omega
theorem same_digs (a b w : Int) (ha : 0 ≤ a) (hb : 0 ≤ b) (h : Fits a w) (h' : Fits b w) : ((strOfNums (digs a w.toNat)).toList == (strOfNums (digs b w.toNat)).toList) = (a == b) := by
  rw [Bool.eq_iff_iff, beq_iff_eq, beq_iff_eq, ByteArray.toList_eq, ByteArray.toList_eq]
  constructor
  · intro e
    have e2 : bytesOf (strOfNums (digs a w.toNat)) = bytesOf (strOfNums (digs b w.toNat)) := by unfold bytesOf; rw [e]
    rw [digs_bytes, digs_bytes] at e2
    rw [← val_digs a w.toNat ha h.2.2, ← val_digs b w.toNat hb h'.2.2, e2]
  · rintro rfl
    rfl

end NumOrderParts
open NumOrderParts
theorem NumOrder : aumbrylaw01_NumOrder.Pure := by
  intro a b w ha hb _
  obtain ⟨a0, a64⟩ := u64_range ha
  obtain ⟨b0, b64⟩ := u64_range hb
  refine ⟨10, ?_⟩
  unfold aumbrylaw01_NumOrder.f
  rw [num_wakes_f _ (by omega), num_put_f a w a0 a64 _ (by omega), num_put_f b w b0 b64 _ (by omega)]
  simp only [Option.bind_some, if_true]
  unfold putSpec
  by_cases h : Fits a w
  · by_cases h' : Fits b w
    · rw [if_pos h, if_pos h']
      simp only [if_true]
      rw [same_digs a b w a0 b0 h h', ByteArray.toList_eq, ByteArray.toList_eq, strOfNums_data, strOfNums_data, less_digs, Int.emod_eq_of_lt a0 h.2.2, Int.emod_eq_of_lt b0 h'.2.2, beq_self_eq_true, beq_self_eq_true, if_pos rfl]
    · rw [if_pos h, if_neg h']
      simp
  · by_cases h' : Fits b w
    · rw [if_neg h, if_pos h']
      simp
    · rw [if_neg h, if_neg h']
      simp

end Go.Proofs.Ytaefejbhdbljaaa.Pure
