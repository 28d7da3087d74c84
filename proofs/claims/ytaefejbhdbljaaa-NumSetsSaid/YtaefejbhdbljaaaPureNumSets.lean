/- Any number is put at any place of any bytes, or refused, and no other byte changes; no condition beside the bound that every text has. -/
import Derived.Test.YtaefejbhdbljaaaPNumSetsx2
import Derived.Test.YtaefejbhdbljaaaNumBase
namespace Go.Proofs.Ytaefejbhdbljaaa.Pure
open Go.RowKit Go.Proofs.Ytaefejbhdbljaaa.PNumSets Go.Proofs.YtaefejbhdbljaaaW.PrintWords Go.Proofs.YtaefejbhdbljaaaW.PrintLast Go.Proofs.YtaefejbhdbljaaaW.PrintMore Go.Proofs.Ytaefejbhdbljaaa.MixBase Go.Proofs.Ytaefejbhdbljaaa.MixPlain Go.Proofs.Ytaefejbhdbljaaa.NumBase

namespace NumSetsParts
theorem num_fits_yes (n w : Int) (h0 : 0 ≤ n) (h : Fits n w) : num_fits.f n w = some true := by
  obtain ⟨h1, h2, h3⟩ := h
  unfold num_fits.f
  rw [if_pos h1, if_pos h2]
  by_cases h8 : w = 8
  · rw [if_pos h8]
  · obtain ⟨m, rfl⟩ := Int.eq_ofNat_of_zero_le (show 0 ≤ w by omega)
    rw [if_neg h8, wrap64_small (by omega) (by omega), if_pos (by omega), shr8 n m (by omega), (fits_iff n m h0).2 (by simpa using h3)]
    rfl
theorem num_fits_no (n w : Int) (h0 : 0 ≤ n) (h64 : n < 18446744073709551616) (h : ¬ Fits n w) : num_fits.f n w = some false := by
  unfold num_fits.f
  by_cases h1 : w ≥ 1
  · rw [if_pos h1]
    by_cases h2 : w ≤ 8
    · rw [if_pos h2]
      have h8 : w ≠ 8 := by
        rintro rfl
        exact h ⟨by omega, by omega, by rw [show (8 : Int).toNat = 8 from rfl, pow_eight]; exact h64⟩
      obtain ⟨m, rfl⟩ := Int.eq_ofNat_of_zero_le (show 0 ≤ w by omega)
      rw [if_neg h8, wrap64_small (by omega) (by omega), if_pos (by omega), shr8 n m (by omega)]
      have hne : ¬ n / 256 ^ m = 0 := fun e => h ⟨h1, h2, by simpa using (fits_iff n m h0).1 e⟩
      rw [beq_eq_false_iff_ne.2 hne]
    · rw [if_neg h2]
  · rw [if_neg h1]
theorem num_put_l0 (n : Int) (w : Nat) (hw : w ≤ 8) (d : Nat) : ∀ (k i : Nat), i ≤ w → w - i = d → d < k →
    num_Put.l0 k n (w : Int) (List.replicate (w - i) 0 ++ digs n i) (w : Int) (i : Int) = some (strOfNums (digs n w), 0) := by
  induction d with
  | zero =>
    intro k i hi hd hk
    obtain ⟨k, rfl⟩ : ∃ m, k = m + 1 := ⟨k - 1, by omega⟩
    obtain rfl : i = w := by omega
    simp only [num_Put.l0]
    rw [if_neg (by omega), Nat.sub_self, List.replicate_zero, List.nil_append]
  | succ d ih =>
    intro k i hi hd hk
    obtain ⟨k, rfl⟩ : ∃ m, k = m + 1 := ⟨k - 1, by omega⟩
    simp only [num_Put.l0]
    rw [if_pos (by omega), wrap64_small (i := 8 * (i : Int)) (by omega) (by omega), if_pos (by omega), wrap64_small (i := (w : Int) - 1) (by omega) (by omega), wrap64_small (i := (w : Int) - 1 - i) (by omega) (by omega), if_pos (by omega),
      if_pos (by rw [List.length_append, List.length_replicate, digs_length]; omega), wrap64_small (by omega) (by omega), shr8 n i (by omega)]
    have e : ((w : Int) - 1 - i).toNat = d := by omega
    rw [e, show w - i = d + 1 by omega, set_zeros]
    have h := ih k (i + 1) (by omega) (by omega) (by omega)
    rw [show w - (i + 1) = d by omega] at h
    exact h
theorem num_put_f (n w : Int) (h0 : 0 ≤ n) (h64 : n < 18446744073709551616) (k : Nat) (hk : 8 < k) : num_Put.f k n w = some (putSpec n w) := by
  unfold num_Put.f putSpec
  by_cases h : Fits n w
  · rw [num_fits_yes n w h0 h, if_pos h]
    obtain ⟨h1, h2, h3⟩ := h
    obtain ⟨m, rfl⟩ := Int.eq_ofNat_of_zero_le (show 0 ≤ w by omega)
    simp only [Option.bind_some, if_true]
    rw [if_pos (by omega), if_pos (by omega)]
    have hl := num_put_l0 n m (by omega) m k 0 (by omega) (by omega) (by omega)
    rw [Nat.sub_zero, digs, List.append_nil] at hl
    exact hl
  · rw [num_fits_no n w h0 h64 h, if_neg h]
    rfl
theorem num_get_l0 (s : ByteArray) (hs : (s.size : Int) ≤ 9223372036854775807) (at_ : Int) (w : Nat) (ha : 0 ≤ at_) (haw : at_ + w ≤ s.size) (hw : w ≤ 8) (d : Nat) : ∀ (k i : Nat) (a : Int), i ≤ w → w - i = d → d < k → 0 ≤ a → a < 256 ^ i →
    num_Get.l0 k s at_ a (w : Int) (i : Int) = some (valFrom a (((bytesOf s).drop (at_ + i).toNat).take d), 0) := by
  induction d with
  | zero =>
    intro k i a hi hd hk ha0 ha1
    obtain ⟨k, rfl⟩ : ∃ m, k = m + 1 := ⟨k - 1, by omega⟩
    simp only [num_Get.l0]
    rw [if_neg (by omega), List.take_zero, valFrom_nil]
  | succ d ih =>
    intro k i a hi hd hk ha0 ha1
    obtain ⟨k, rfl⟩ : ∃ m, k = m + 1 := ⟨k - 1, by omega⟩
    have hb := bt_range s (at_ + i)
    have h7 := pow8 i (by omega)
    simp only [num_Get.l0]
    rw [if_pos (by omega), wrap64_small (i := at_ + i) (by omega) (by omega), if_pos (by omega), if_pos (by omega), wrap64_small (by omega) (by omega), or64 a (bt s (at_ + i)) ha0 (by omega) hb.1 (by omega), take_drop_cons s (at_ + i) d (by omega) (by omega), valFrom_cons]
    have h := ih k (i + 1) (a * 256 + bt s (at_ + i)) (by omega) (by omega) (by omega) (by omega) (by rw [pow_succ']; omega)
    rw [show at_ + ((i + 1 : Nat) : Int) = at_ + i + 1 by omega] at h
    exact h
theorem num_get_f (s : ByteArray) (hs : (s.size : Int) ≤ 9223372036854775807) (at_ w : Int) (k : Nat) (hk : 9 < k) : num_Get.f k s at_ w = some (getSpec s at_ w) := by
  obtain ⟨k, rfl⟩ : ∃ m, k = m + 1 := ⟨k - 1, by omega⟩
  unfold num_Get.f getSpec
  by_cases h1 : w < 1
  · rw [if_pos h1, if_pos (.inl h1)]
    simp only [num_Get.j0, if_true]
  · rw [if_neg h1]
    by_cases h2 : 8 < w
    · rw [if_pos (.inr h2), decide_eq_true h2]
      simp only [num_Get.j0, if_true]
    · rw [if_neg (by omega), decide_eq_false h2]
      simp only [num_Get.j0]
      rw [if_neg (by decide), wrap64_small (by omega) (by omega)]
      by_cases h3 : at_ < 0
      · rw [if_pos h3, if_pos (.inl h3)]
      · rw [if_neg h3]
        by_cases h4 : (s.size : Int) - w < at_
        · rw [if_pos h4, if_pos (.inr h4)]
        · rw [if_neg h4, if_neg (by omega)]
          obtain ⟨m, rfl⟩ := Int.eq_ofNat_of_zero_le (show 0 ≤ w by omega)
          have h := num_get_l0 s hs at_ m (by omega) (by omega) (by omega) m k 0 0 (by omega) (by omega) (by omega) (by omega) (by decide)
          rw [show at_ + ((0 : Nat) : Int) = at_ by omega] at h
          exact h
theorem num_set_f (s : ByteArray) (hs : (s.size : Int) ≤ 9223372036854775807) (at_ n w : Int) (h0 : 0 ≤ n) (h64 : n < 18446744073709551616) (k : Nat) (hk : 8 < k) : num_Set.f k s at_ n w = some (setSpec s at_ n w) := by
  unfold num_Set.f setSpec
  rw [num_put_f n w h0 h64 k hk]
  simp only [Option.bind_some]
  unfold putSpec
  by_cases h : Fits n w
  · rw [if_pos h, if_pos h]
    have h' := h
    obtain ⟨h1, h2, h3⟩ := h'
    simp only [if_true]
    rw [wrap64_small (by omega) (by omega)]
    by_cases h4 : at_ < 0
    · rw [if_pos h4, if_pos (.inl h4)]
    · rw [if_neg h4]
      by_cases h5 : (s.size : Int) - w < at_
      · rw [if_pos h5, if_pos (.inr h5)]
      · have e1 : (s.extract 0 at_.toNat).size = at_.toNat := by simp; omega
        have e2 : (strOfNums (digs n w.toNat)).size = w.toNat := digs_size _ _
        have e3 : (s.extract (at_ + w).toNat s.size).size = s.size - (at_ + w).toNat := by simp
        rw [if_neg h5, if_neg (show ¬ (at_ < 0 ∨ (s.size : Int) - w < at_) by omega), if_pos (show 0 ≤ at_ by omega), if_pos (show at_ ≤ (s.size : Int) by omega), if_pos (by rw [e1, e2]; omega), wrap64_small (by omega) (by omega), if_pos (by omega), if_pos (by omega),
          if_pos (by rw [ByteArray.size_append, e1, e2, e3]; omega)]
  · rw [if_neg h, if_neg h]
    simp
theorem num_wakes_f (k : Nat) (hk : 9 < k) : aumbrylaw01_wakes.f k = some true := by
  unfold aumbrylaw01_wakes.f
  rw [num_put_f 258 2 (by omega) (by omega) k (by omega), num_get_f _ (by decide) 1 2 k hk, num_set_f _ (by decide) 1 122 1 (by omega) (by omega) k (by omega)]
  have p1 : putSpec 258 2 = (⟨#[1, 2]⟩, 0) := by
    unfold putSpec
    rw [if_pos ⟨by omega, by omega, by decide⟩]
    decide
  have p2 : setSpec (⟨#[97, 98, 99]⟩ : ByteArray) 1 122 1 = (⟨#[97, 122, 99]⟩, 0) := by
    unfold setSpec
    rw [if_pos ⟨by omega, by omega, by decide⟩, if_neg (by decide)]
    decide
  have p3 : getSpec (⟨#[0, 1, 2]⟩ : ByteArray) 1 2 = (258, 0) := by decide
  rw [p1, p2, p3]
  simp only [Option.bind_some, if_true, ByteArray.toList_eq]
  decide

theorem ref_fits_l0 (w : Nat) (hw : w ≤ 8) (n : Int) (h0 : 0 ≤ n) (h64 : n < 18446744073709551616) (d : Nat) : ∀ (k i : Nat), i ≤ w → w - i = d → d < k → aumbryref01_Fits.l0 k (n / 256 ^ i) (w : Int) (i : Int) = some (n / 256 ^ w == 0) := by
  induction d with
  | zero =>
    intro k i hi hd hk
    obtain ⟨k, rfl⟩ : ∃ m, k = m + 1 := ⟨k - 1, by omega⟩
    obtain rfl : i = w := by omega
    simp only [aumbryref01_Fits.l0]
    rw [if_neg (by omega)]
  | succ d ih =>
    intro k i hi hd hk
    obtain ⟨k, rfl⟩ : ∃ m, k = m + 1 := ⟨k - 1, by omega⟩
    have h := ih k (i + 1) (by omega) (by omega) (by omega)
    have hn : 0 ≤ n / 256 ^ i := Int.ediv_nonneg h0 (Int.le_of_lt (pow_pos i))
    have hn1 : n / 256 ^ i ≤ n := Int.ediv_le_self _ h0
    simp only [aumbryref01_Fits.l0]
    rw [if_pos (by omega), Int.tdiv_eq_ediv_of_nonneg hn, u64_small (by omega) (by omega), div_div, wrap64_small (by omega) (by omega)]
    exact h
theorem ref_fits_f (n w : Int) (h0 : 0 ≤ n) (h64 : n < 18446744073709551616) (k : Nat) (hk : 9 < k) : aumbryref01_Fits.f k n w = some (fitsB n w) := by
  obtain ⟨k, rfl⟩ : ∃ m, k = m + 1 := ⟨k - 1, by omega⟩
  unfold aumbryref01_Fits.f fitsB
  by_cases h1 : w < 1
  · rw [if_pos h1, decide_eq_false (by intro h; exact absurd h.1 (by omega))]
    simp only [aumbryref01_Fits.j0, if_true]
  · rw [if_neg h1]
    by_cases h2 : 8 < w
    · rw [decide_eq_true h2, decide_eq_false (by intro h; exact absurd h.2.1 (by omega))]
      simp only [aumbryref01_Fits.j0, if_true]
    · rw [decide_eq_false h2]
      simp only [aumbryref01_Fits.j0]
      obtain ⟨m, rfl⟩ := Int.eq_ofNat_of_zero_le (show 0 ≤ w by omega)
      have h := ref_fits_l0 m (by omega) n h0 h64 m k 0 (by omega) (by omega) (by omega)
      rw [Int.pow_zero, Int.ediv_one] at h
      rw [if_neg (by decide)]
      refine h.trans ?_
      congr 1
      rw [Bool.eq_iff_iff, beq_iff_eq, decide_eq_true_iff, fits_iff n m h0]
      unfold Fits
      rw [show ((m : Int)).toNat = m by omega]
      omega
theorem ref_put_l0 (n : Int) (h0 : 0 ≤ n) (h64 : n < 18446744073709551616) (w : Nat) (hw : w ≤ 8) (d : Nat) : ∀ (k i : Nat), i ≤ w → w - i = d → d < k →
    aumbryref01_Put.l0 k (n / 256 ^ i) (w : Int) (strOfNums (digs n i)) (i : Int) = some (strOfNums (digs n w), 0) := by
  induction d with
  | zero =>
    intro k i hi hd hk
    obtain ⟨k, rfl⟩ : ∃ m, k = m + 1 := ⟨k - 1, by omega⟩
    obtain rfl : i = w := by omega
    simp only [aumbryref01_Put.l0]
    rw [if_neg (by omega)]
  | succ d ih =>
    intro k i hi hd hk
    obtain ⟨k, rfl⟩ : ∃ m, k = m + 1 := ⟨k - 1, by omega⟩
    have h := ih k (i + 1) (by omega) (by omega) (by omega)
    have hn : 0 ≤ n / 256 ^ i := Int.ediv_nonneg h0 (Int.le_of_lt (pow_pos i))
    have hn1 : n / 256 ^ i ≤ n := Int.ediv_le_self _ h0
    simp only [aumbryref01_Put.l0]
    rw [if_pos (by omega), Int.tmod_eq_emod_of_nonneg hn, Int.tdiv_eq_ediv_of_nonneg hn, u64_small (by omega) (by omega), div_div, wrap64_small (by omega) (by omega)]
    simp only [Option.bind_some]
    rw [if_pos (by rw [strOfNums_size, digs_size]; simp; omega)]
    have e : strOfNums [n / 256 ^ i % 256 % 256] ++ strOfNums (digs n i) = strOfNums (digs n (i + 1)) := by
      apply bytesOf_inj
      rw [bytesOf_append, digs_bytes, digs_bytes, bytes_nums _ (by simp; omega), digs, Int.emod_emod_of_dvd _ (Int.dvd_refl _)]
      rfl
    rw [e]
    exact h
theorem ref_put_f (n w : Int) (h0 : 0 ≤ n) (h64 : n < 18446744073709551616) (k : Nat) (hk : 9 < k) : aumbryref01_Put.f k n w = some (putSpec n w) := by
  unfold aumbryref01_Put.f putSpec
  rw [ref_fits_f n w h0 h64 k hk]
  simp only [Option.bind_some]
  unfold fitsB
  by_cases h : Fits n w
  · rw [if_pos (decide_eq_true h), if_pos h]
    obtain ⟨h1, h2, h3⟩ := h
    obtain ⟨m, rfl⟩ := Int.eq_ofNat_of_zero_le (show 0 ≤ w by omega)
    have hl := ref_put_l0 n h0 h64 m (by omega) m k 0 (by omega) (by omega) (by omega)
    rw [Int.pow_zero, Int.ediv_one] at hl
    exact hl
  · rw [if_neg (by rw [decide_eq_true_iff]; exact h), if_neg h]
theorem ref_place_f (s : ByteArray) (hs : (s.size : Int) ≤ 9223372036854775807) (at_ w : Int) (h1 : 1 ≤ w) (h2 : w ≤ 8) : aumbryref01_Place.f s at_ w = some (!decide (at_ < 0 ∨ (s.size : Int) - w < at_)) := by
  unfold aumbryref01_Place.f
  by_cases h3 : at_ ≥ 0
  · rw [if_pos h3]
    by_cases h4 : at_ ≤ (s.size : Int)
    · rw [if_pos h4, wrap64_small (by omega) (by omega)]
      congr 1
      rw [Bool.eq_iff_iff, Bool.not_eq_true', decide_eq_true_iff, decide_eq_false_iff_not]
      omega
    · rw [if_neg h4, decide_eq_true (by omega)]
      rfl
  · rw [if_neg h3, decide_eq_true (by omega)]
    rfl
theorem ref_set_f (s : ByteArray) (hs : (s.size : Int) ≤ 9223372036854775807) (at_ n w : Int) (h0 : 0 ≤ n) (h64 : n < 18446744073709551616) (k : Nat) (hk : 9 < k) : aumbryref01_Set.f k s at_ n w = some (setSpec s at_ n w) := by
  unfold aumbryref01_Set.f setSpec
  rw [ref_put_f n w h0 h64 k hk]
  simp only [Option.bind_some]
  unfold putSpec
  by_cases h : Fits n w
  · rw [if_pos h, if_pos h]
    have h' := h
    obtain ⟨h1, h2, h3⟩ := h'
    simp only [if_true]
    rw [ref_place_f s hs at_ w h1 h2]
    simp only [Option.bind_some]
    by_cases h4 : at_ < 0 ∨ (s.size : Int) - w < at_
    · rw [decide_eq_true h4, if_pos h4]
      rfl
    · rw [decide_eq_false h4, if_neg h4]
      have e1 : (s.extract 0 at_.toNat).size = at_.toNat := by simp; omega
      have e2 : (strOfNums (digs n w.toNat)).size = w.toNat := digs_size _ _
      have e3 : (s.extract (at_ + w).toNat s.size).size = s.size - (at_ + w).toNat := by simp
      rw [if_pos (by rfl), if_pos (show 0 ≤ at_ by omega), if_pos (show at_ ≤ (s.size : Int) by omega), if_pos (by rw [e1, e2]; omega), wrap64_small (by omega) (by omega), if_pos (by omega), if_pos (by omega),
          if_pos (by rw [ByteArray.size_append, e1, e2, e3]; omega)]
  · rw [if_neg h, if_neg h]
    simp
theorem set_facts (s : ByteArray) (at_ n w : Int) (h0 : 0 ≤ n) (h : Fits n w) (h4 : ¬ (at_ < 0 ∨ (s.size : Int) - w < at_)) :
    let t := s.extract 0 at_.toNat ++ strOfNums (digs n w.toNat) ++ s.extract (at_ + w).toNat s.size
    t.size = s.size ∧ getSpec t at_ w = (n, 0) ∧ t.extract 0 at_.toNat = s.extract 0 at_.toNat ∧ t.extract (at_ + w).toNat t.size = s.extract (at_ + w).toNat s.size := by
  intro t
  obtain ⟨h1, h2, h3⟩ := h
  have e1 : (s.extract 0 at_.toNat).size = at_.toNat := by simp; omega
  have e2 : (strOfNums (digs n w.toNat)).size = w.toNat := digs_size _ _
  have e3 : (s.extract (at_ + w).toNat s.size).size = s.size - (at_ + w).toNat := by simp
  have et : t.size = s.size := by
    show (s.extract 0 at_.toNat ++ strOfNums (digs n w.toNat) ++ s.extract (at_ + w).toNat s.size).size = _
    rw [ByteArray.size_append, ByteArray.size_append, e1, e2, e3]
    omega
  have hl : (bytesOf s).take s.size = bytesOf s := List.take_of_length_le (by rw [bytesOf_length]; exact Nat.le_refl _)
  have hb : bytesOf t = (bytesOf s).take at_.toNat ++ (digs n w.toNat ++ (bytesOf s).drop (at_ + w).toNat) := by
    show bytesOf (s.extract 0 at_.toNat ++ strOfNums (digs n w.toNat) ++ s.extract (at_ + w).toNat s.size) = _
    rw [bytesOf_append, bytesOf_append, bytes_extract, bytes_extract, digs_bytes, hl, List.drop_zero, List.append_assoc]
  have hlen : ((bytesOf s).take at_.toNat).length = at_.toNat := by rw [List.length_take, bytesOf_length]; omega
  refine ⟨et, ?_, ?_, ?_⟩
  · unfold getSpec
    rw [if_neg (by omega), et, if_neg h4, hb, List.drop_append_of_le_length (by rw [hlen]; exact Nat.le_refl _), List.drop_of_length_le (by rw [hlen]; exact Nat.le_refl _), List.nil_append,
      List.take_append_of_le_length (by rw [digs_length]; exact Nat.le_refl _), List.take_of_length_le (by rw [digs_length]; exact Nat.le_refl _), val_digs n w.toNat h0 h3]
  · apply bytesOf_inj
    rw [bytes_extract, bytes_extract, hb, List.take_append_of_le_length (by rw [hlen]; exact Nat.le_refl _), List.take_take, Nat.min_self]
  · apply bytesOf_inj
    have hlt : (bytesOf t).take t.size = bytesOf t := List.take_of_length_le (by rw [bytesOf_length]; exact Nat.le_refl _)
    rw [bytes_extract, bytes_extract, hl, hlt, hb, ← List.append_assoc, List.drop_append_of_le_length (by rw [List.length_append, hlen, digs_length]; omega), List.drop_of_length_le (by rw [List.length_append, hlen, digs_length]; omega), List.nil_append]

end NumSetsParts
open NumSetsParts
theorem NumSets (s : ByteArray) (at_ w n : Int) (hs : s.size ≤ 140737488351232) (h0 : 0 ≤ n) (h64 : n < 18446744073709551616) : ∃ k, aumbrylaw01_NumSets.f k s at_ w n = some true := by
  refine ⟨11, ?_⟩
  unfold aumbrylaw01_NumSets.f
  rw [num_wakes_f _ (by omega), num_set_f s (by omega) at_ n w h0 h64 _ (by omega), ref_set_f s (by omega) at_ n w h0 h64 _ (by omega)]
  simp only [Option.bind_some, if_true]
  rw [bne_self_eq_false]
  simp only [aumbrylaw01_NumSets.j0]
  rw [if_neg (by decide)]
  unfold setSpec
  by_cases h : Fits n w
  · rw [if_pos h]
    by_cases h4 : at_ < 0 ∨ (s.size : Int) - w < at_
    · rw [if_pos h4]
      simp only [ByteArray.toList_eq]
      rfl
    · rw [if_neg h4]
      obtain ⟨f1, f2, f3, f4⟩ := set_facts s at_ n w h0 h h4
      have h1 := h.1
      have h2 := h.2.1
      generalize s.extract 0 at_.toNat ++ strOfNums (digs n w.toNat) ++ s.extract (at_ + w).toNat s.size = t at *
      simp only [if_true]
      rw [num_get_f t (by omega) at_ w _ (by omega), f2]
      simp only [Option.bind_some, if_true]
      rw [if_pos (by omega), if_pos (by omega), if_pos (by omega), if_pos (by omega), f3, if_pos rfl, wrap64_small (by omega) (by omega), if_pos (by omega), if_pos (by omega), if_pos (by omega), f4, beq_self_eq_true]
  · rw [if_neg h]
    simp only [ByteArray.toList_eq]
    rfl
namespace SetsWalk
theorem walk (s : ByteArray) (at_ w n : Int) (W : World) (hs : s.size ≤ 140737488351232) (hn : (Lit.int .u64 n).wf = true) :
    Calls Try.prog 10 #[.string s, .agg #[.int .i64 at_, .int .i64 w], .int .u64 n] W fun e w' => e = .returned (.bool true) ∧ Below W.heap.size W w' := by
  obtain ⟨h0, h64⟩ := u64_range hn
  obtain ⟨k, h⟩ := NumSets s at_ w n hs h0 h64
  exact aumbrylaw01_NumSets.calls k s at_ w n true W h
end SetsWalk

end Go.Proofs.Ytaefejbhdbljaaa.Pure
