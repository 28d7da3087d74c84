/- The walk of NumPads: it returns true at every text and number. No condition beside the bound that every text has. -/
import Derived.Test.YtaefejbhdbljaaaPadWalk
namespace Go.Proofs.Ytaefejbhdbljaaa.PadsWalk
open Go.RowKit Go.Proofs.Ytaefejbhdbljaaa.PNumPads Go.Proofs.YtaefejbhdbljaaaW.PrintWords Go.Proofs.YtaefejbhdbljaaaW.PrintLast Go.Proofs.YtaefejbhdbljaaaW.PrintMore Go.Proofs.Ytaefejbhdbljaaa.MixBase Go.Proofs.Ytaefejbhdbljaaa.MixPlain Go.Proofs.Ytaefejbhdbljaaa.NumBase Go.Proofs.Ytaefejbhdbljaaa.PadPlain Go.Proofs.Ytaefejbhdbljaaa.PadWalk
theorem num_fits_yes (n w : Int) (h0 : 0 ≤ n) (h : Fits n w) : num_fits.f n w = some true := by
  obtain ⟨h1, h2, h3⟩ := h
  unfold num_fits.f
  rw [if_pos h1, if_pos h2]
  by_cases h8 : w = 8
  · rw [if_pos h8]
  · obtain ⟨m, rfl⟩ := Int.eq_ofNat_of_zero_le (show 0 ≤ w by omega)
    rw [if_neg h8, wrap64_small (by omega) (by omega), if_pos (by omega), shr8 n m (by omega), (fits_iff n m h0).2 (by simpa using h3)]
    rfl
theorem num_fits_no (n w : Int) (h0 : 0 ≤ n) (h64 : n < 18446744073709551616) (h : ¬ Fits n w) : num_fits.f n w = some false := by
  unfold num_fits.f
  by_cases h1 : w ≥ 1
  · rw [if_pos h1]
    by_cases h2 : w ≤ 8
    · rw [if_pos h2]
      have h8 : w ≠ 8 := by
        rintro rfl
        exact h ⟨by omega, by omega, by rw [show (8 : Int).toNat = 8 from rfl, pow_eight]; exact h64⟩
      obtain ⟨m, rfl⟩ := Int.eq_ofNat_of_zero_le (show 0 ≤ w by omega)
      rw [if_neg h8, wrap64_small (by omega) (by omega), if_pos (by omega), shr8 n m (by omega)]
      have hne : ¬ n / 256 ^ m = 0 := fun e => h ⟨h1, h2, by simpa using (fits_iff n m h0).1 e⟩
      rw [beq_eq_false_iff_ne.2 hne]
    · rw [if_neg h2]
  · rw [if_neg h1]
theorem num_put_l0 (n : Int) (w : Nat) (hw : w ≤ 8) (d : Nat) : ∀ (k i : Nat), i ≤ w → w - i = d → d < k →
    num_Put.l0 k n (w : Int) (List.replicate (w - i) 0 ++ digs n i) (w : Int) (i : Int) = some (strOfNums (digs n w), 0) := by
  induction d with
  | zero =>
    intro k i hi hd hk
    obtain ⟨k, rfl⟩ : ∃ m, k = m + 1 := ⟨k - 1, by omega⟩
    obtain rfl : i = w := by omega
    simp only [num_Put.l0]
    rw [if_neg (by omega), Nat.sub_self, List.replicate_zero, List.nil_append]
  | succ d ih =>
    intro k i hi hd hk
    obtain ⟨k, rfl⟩ : ∃ m, k = m + 1 := ⟨k - 1, by omega⟩
    simp only [num_Put.l0]
    rw [if_pos (by omega), wrap64_small (i := 8 * (i : Int)) (by omega) (by omega), if_pos (by omega), wrap64_small (i := (w : Int) - 1) (by omega) (by omega), wrap64_small (i := (w : Int) - 1 - i) (by omega) (by omega), if_pos (by omega),
      if_pos (by rw [List.length_append, List.length_replicate, digs_length]; omega), wrap64_small (by omega) (by omega), shr8 n i (by omega)]
    have e : ((w : Int) - 1 - i).toNat = d := by omega
    rw [e, show w - i = d + 1 by omega, set_zeros]
    have h := ih k (i + 1) (by omega) (by omega) (by omega)
    rw [show w - (i + 1) = d by omega] at h
    exact h
theorem num_put_f (n w : Int) (h0 : 0 ≤ n) (h64 : n < 18446744073709551616) (k : Nat) (hk : 8 < k) : num_Put.f k n w = some (putSpec n w) := by
  unfold num_Put.f putSpec
  by_cases h : Fits n w
  · rw [num_fits_yes n w h0 h, if_pos h]
    obtain ⟨h1, h2, h3⟩ := h
    obtain ⟨m, rfl⟩ := Int.eq_ofNat_of_zero_le (show 0 ≤ w by omega)
    simp only [Option.bind_some, if_true]
    rw [if_pos (by omega), if_pos (by omega)]
    have hl := num_put_l0 n m (by omega) m k 0 (by omega) (by omega) (by omega)
    rw [Nat.sub_zero, digs, List.append_nil] at hl
    exact hl
  · rw [num_fits_no n w h0 h64 h, if_neg h]
    rfl
theorem num_get_l0 (s : ByteArray) (hs : (s.size : Int) ≤ 9223372036854775807) (at_ : Int) (w : Nat) (ha : 0 ≤ at_) (haw : at_ + w ≤ s.size) (hw : w ≤ 8) (d : Nat) : ∀ (k i : Nat) (a : Int), i ≤ w → w - i = d → d < k → 0 ≤ a → a < 256 ^ i →
    num_Get.l0 k s at_ a (w : Int) (i : Int) = some (valFrom a (((bytesOf s).drop (at_ + i).toNat).take d), 0) := by
  induction d with
  | zero =>
    intro k i a hi hd hk ha0 ha1
    obtain ⟨k, rfl⟩ : ∃ m, k = m + 1 := ⟨k - 1, by omega⟩
    simp only [num_Get.l0]
    rw [if_neg (by omega), List.take_zero, valFrom_nil]
  | succ d ih =>
    intro k i a hi hd hk ha0 ha1
    obtain ⟨k, rfl⟩ : ∃ m, k = m + 1 := ⟨k - 1, by omega⟩
    have hb := bt_range s (at_ + i)
    have h7 := pow8 i (by omega)
    simp only [num_Get.l0]
    rw [if_pos (by omega), wrap64_small (i := at_ + i) (by omega) (by omega), if_pos (by omega), if_pos (by omega), wrap64_small (by omega) (by omega), or64 a (bt s (at_ + i)) ha0 (by omega) hb.1 (by omega), take_drop_cons s (at_ + i) d (by omega) (by omega), valFrom_cons]
    have h := ih k (i + 1) (a * 256 + bt s (at_ + i)) (by omega) (by omega) (by omega) (by omega) (by rw [pow_succ']; omega)
    rw [show at_ + ((i + 1 : Nat) : Int) = at_ + i + 1 by omega] at h
    exact h
theorem num_get_f (s : ByteArray) (hs : (s.size : Int) ≤ 9223372036854775807) (at_ w : Int) (k : Nat) (hk : 9 < k) : num_Get.f k s at_ w = some (getSpec s at_ w) := by
  obtain ⟨k, rfl⟩ : ∃ m, k = m + 1 := ⟨k - 1, by omega⟩
  unfold num_Get.f getSpec
  by_cases h1 : w < 1
  · rw [if_pos h1, if_pos (.inl h1)]
    simp only [num_Get.j0, if_true]
  · rw [if_neg h1]
    by_cases h2 : 8 < w
    · rw [if_pos (.inr h2), decide_eq_true h2]
      simp only [num_Get.j0, if_true]
    · rw [if_neg (by omega), decide_eq_false h2]
      simp only [num_Get.j0]
      rw [if_neg (by decide), wrap64_small (by omega) (by omega)]
      by_cases h3 : at_ < 0
      · rw [if_pos h3, if_pos (.inl h3)]
      · rw [if_neg h3]
        by_cases h4 : (s.size : Int) - w < at_
        · rw [if_pos h4, if_pos (.inr h4)]
        · rw [if_neg h4, if_neg (by omega)]
          obtain ⟨m, rfl⟩ := Int.eq_ofNat_of_zero_le (show 0 ≤ w by omega)
          have h := num_get_l0 s hs at_ m (by omega) (by omega) (by omega) m k 0 0 (by omega) (by omega) (by omega) (by omega) (by decide)
          rw [show at_ + ((0 : Nat) : Int) = at_ by omega] at h
          exact h
theorem num_set_f (s : ByteArray) (hs : (s.size : Int) ≤ 9223372036854775807) (at_ n w : Int) (h0 : 0 ≤ n) (h64 : n < 18446744073709551616) (k : Nat) (hk : 8 < k) : num_Set.f k s at_ n w = some (setSpec s at_ n w) := by
  unfold num_Set.f setSpec
  rw [num_put_f n w h0 h64 k hk]
  simp only [Option.bind_some]
  unfold putSpec
  by_cases h : Fits n w
  · rw [if_pos h, if_pos h]
    have h' := h
    obtain ⟨h1, h2, h3⟩ := h'
    simp only [if_true]
    rw [wrap64_small (by omega) (by omega)]
    by_cases h4 : at_ < 0
    · rw [if_pos h4, if_pos (.inl h4)]
    · rw [if_neg h4]
      by_cases h5 : (s.size : Int) - w < at_
      · rw [if_pos h5, if_pos (.inr h5)]
      · have e1 : (s.extract 0 at_.toNat).size = at_.toNat := by simp; omega
        have e2 : (strOfNums (digs n w.toNat)).size = w.toNat := digs_size _ _
        have e3 : (s.extract (at_ + w).toNat s.size).size = s.size - (at_ + w).toNat := by simp
        rw [if_neg h5, if_neg (show ¬ (at_ < 0 ∨ (s.size : Int) - w < at_) by omega), if_pos (show 0 ≤ at_ by omega), if_pos (show at_ ≤ (s.size : Int) by omega), if_pos (by rw [e1, e2]; omega), wrap64_small (by omega) (by omega), if_pos (by omega), if_pos (by omega),
          if_pos (by rw [ByteArray.size_append, e1, e2, e3]; omega)]
  · rw [if_neg h, if_neg h]
    simp
theorem num_wakes_f (k : Nat) (hk : 9 < k) : aumbrylaw01_wakes.f k = some true := by
  unfold aumbrylaw01_wakes.f
  rw [num_put_f 258 2 (by omega) (by omega) k (by omega), num_get_f _ (by decide) 1 2 k hk, num_set_f _ (by decide) 1 122 1 (by omega) (by omega) k (by omega)]
  have p1 : putSpec 258 2 = (⟨#[1, 2]⟩, 0) := by
    unfold putSpec
    rw [if_pos ⟨by omega, by omega, by decide⟩]
    decide
  have p2 : setSpec (⟨#[97, 98, 99]⟩ : ByteArray) 1 122 1 = (⟨#[97, 122, 99]⟩, 0) := by
    unfold setSpec
    rw [if_pos ⟨by omega, by omega, by decide⟩, if_neg (by decide)]
    decide
  have p3 : getSpec (⟨#[0, 1, 2]⟩ : ByteArray) 1 2 = (258, 0) := by decide
  rw [p1, p2, p3]
  simp only [Option.bind_some, if_true, ByteArray.toList_eq]
  decide

theorem ref_zeros_f (m : Nat) (h : m ≤ 281474976710656) : aumbryref01_Zeros.f (m : Int) = some (zeros m) := by
  unfold aumbryref01_Zeros.f
  rw [if_pos (by omega), if_pos (by omega)]
  rfl
theorem ref_pad_f (s : ByteArray) (hs : (s.size : Int) ≤ 140737488351232) (n : Int) (k : Nat) (hk : 0 < k) : aumbryref01_Pad.f k s n = some (padSpec s n) := by
  obtain ⟨k, rfl⟩ : ∃ m, k = m + 1 := ⟨k - 1, by omega⟩
  unfold aumbryref01_Pad.f padSpec
  by_cases h : n < 0
  · rw [if_pos h, if_pos (.inl h)]
    simp only [aumbryref01_Pad.j0, if_true]
  · rw [if_neg h]
    by_cases h1 : 65536 < n
    · rw [decide_eq_true h1, if_pos (.inr h1)]
      simp only [aumbryref01_Pad.j0, if_true]
    · rw [decide_eq_false h1, if_neg (show ¬ (n < 0 ∨ 65536 < n) by omega)]
      simp only [aumbryref01_Pad.j0]
      rw [if_neg (by decide)]
      by_cases h2 : n < (s.size : Int)
      · rw [if_pos h2, if_pos h2]
      · rw [if_neg h2, if_neg h2, wrap64_small (by omega) (by omega)]
        obtain ⟨m, rfl⟩ : ∃ m : Nat, n = (s.size : Int) + m := ⟨(n - s.size).toNat, by omega⟩
        rw [show (s.size : Int) + m - s.size = m by omega, ref_zeros_f m (by omega)]
        simp only [Option.bind_some]
        rw [zeros_size, if_pos (by omega), show ((m : Int)).toNat = m by omega]
theorem num_trim_l0 (d : Nat) : ∀ (k : Nat) (s : ByteArray), s.size = d → (s.size : Int) ≤ 140737488351232 → d < k → num_Trim.l0 k s = some (ztrim s) := by
  induction d with
  | zero =>
    intro k s hd hs hk
    obtain ⟨k, rfl⟩ : ∃ m, k = m + 1 := ⟨k - 1, by omega⟩
    simp only [num_Trim.l0]
    have e : s.toList = [] := by
      rw [ByteArray.toList_eq]
      apply List.eq_nil_of_length_eq_zero
      rw [Array.length_toList]
      exact hd
    rw [if_pos e, ztrim_empty s hd]
  | succ d ih =>
    intro k s hd hs hk
    obtain ⟨k, rfl⟩ : ∃ m, k = m + 1 := ⟨k - 1, by omega⟩
    have e : ¬ s.toList = [] := by
      rw [ByteArray.toList_eq]
      intro e
      have := congrArg List.length e
      rw [Array.length_toList] at this
      have hz : s.data.size = s.size := rfl
      rw [hz, hd] at this
      simp at this
    simp only [num_Trim.l0]
    rw [if_neg e, wrap64_small (by omega) (by omega), if_pos (by omega), if_pos (by omega), show (s.size : Int) - 1 = (d : Int) by omega]
    by_cases h0 : bt s (d : Int) = 0
    · rw [if_pos h0, if_pos (by omega), show ((d : Int)).toNat = d by omega, ztrim_zero s d hd h0]
      have hx : (s.extract 0 d).size = d := by simp; omega
      exact ih k _ hx (by rw [hx]; omega) (by omega)
    · rw [if_neg h0, ztrim_other s d hd h0]
theorem num_trim_f (s : ByteArray) (hs : (s.size : Int) ≤ 140737488351232) (k : Nat) (hk : s.size < k) : num_Trim.f k s = some (ztrim s) := by
  unfold num_Trim.f
  exact num_trim_l0 s.size k s rfl hs hk
theorem ref_trim_l0 (s : ByteArray) (hs : (s.size : Int) ≤ 140737488351232) (d : Nat) : ∀ (k i : Nat), i ≤ s.size → s.size - i = d → d < k → aumbryref01_Trim.l0 k s (trimLen ((bytesOf s).take i) : Int) (i : Int) = some (ztrim s) := by
  induction d with
  | zero =>
    intro k i hi hd hk
    obtain ⟨k, rfl⟩ : ∃ m, k = m + 1 := ⟨k - 1, by omega⟩
    obtain rfl : i = s.size := by omega
    have hl := trimLen_le (bytesOf s)
    rw [bytesOf_length] at hl
    simp only [aumbryref01_Trim.l0]
    rw [take_all, if_neg (by omega), if_pos (by omega), if_pos (by omega)]
    rfl
  | succ d ih =>
    intro k i hi hd hk
    obtain ⟨k, rfl⟩ : ∃ m, k = m + 1 := ⟨k - 1, by omega⟩
    have h := ih k (i + 1) (by omega) (by omega) (by omega)
    rw [take_succ_byte s i (by omega), trimLen_snoc, List.length_take, bytesOf_length, Nat.min_eq_left (by omega)] at h
    simp only [aumbryref01_Trim.l0]
    rw [if_pos (by omega), if_pos (by omega), wrap64_small (by omega) (by omega)]
    by_cases h0 : bt s (i : Int) = 0
    · rw [if_pos h0]
      rw [if_pos h0] at h
      exact h
    · rw [if_neg h0]
      rw [if_neg h0] at h
      exact h
theorem ref_trim_f (s : ByteArray) (hs : (s.size : Int) ≤ 140737488351232) (k : Nat) (hk : s.size < k) : aumbryref01_Trim.f k s = some (ztrim s) := by
  unfold aumbryref01_Trim.f
  exact ref_trim_l0 s hs s.size k 0 (by omega) (by omega) hk

theorem padref_c (s : ByteArray) (hs : (s.size : Int) ≤ 140737488351232) (n : Int) (w : World) : Calls Try.prog 29 #[.string s, .int .i64 n] w fun e w' => e = .returned (.tuple #[.string (padSpec s n).1, .int .i64 (padSpec s n).2]) ∧ Below w.heap.size w w' :=
  aumbryref01_Pad.calls 1 s n _ _ w (ref_pad_f s hs n 1 (by omega))
theorem trim_c (s : ByteArray) (hs : (s.size : Int) ≤ 140737488351232) (r : ByteArray) (hr : ztrim s = r) (w : World) : Calls Try.prog 30 #[.string s] w fun e w' => e = .returned (.string r) ∧ Below w.heap.size w w' :=
  (num_Trim.calls (s.size + 1) s r w (by rw [num_trim_f s hs _ (by omega), hr])).mono fun _ _ h => ⟨h.1, h.2.below⟩
theorem trimref_c (s : ByteArray) (hs : (s.size : Int) ≤ 140737488351232) (r : ByteArray) (hr : ztrim s = r) (w : World) : Calls Try.prog 31 #[.string s] w fun e w' => e = .returned (.string r) ∧ Below w.heap.size w w' :=
  (aumbryref01_Trim.calls (s.size + 1) s r w (by rw [ref_trim_f s hs _ (by omega), hr])).mono fun _ _ h => ⟨h.1, h.2.below⟩
theorem wakes_c (w : World) : Calls Try.prog 21 #[] w fun e w' => e = .returned (.bool true) ∧ Below w.heap.size w w' :=
  aumbrylaw01_wakes.calls 10 true w (num_wakes_f 10 (by omega))
theorem below_next {w w1 w2 : World} (h : Below w.heap.size w w1) (k : Below w1.heap.size w1 w2) : Below w.heap.size w w2 := below_then h h.size k
set_option maxRecDepth 100000 in
set_option maxHeartbeats 1000000 in
theorem refused (s : ByteArray) (n : Int) (w : World) (hs : s.size ≤ 140737488351232) (e1 : Int) (he : (padSpec s n).2 = e1) (h0 : ¬ e1 = 0) :
    Calls Try.prog 13 #[.string s, .int .i64 n] w fun e w' => e = .returned (.bool true) ∧ Below w.heap.size w w' := by
  have c1 := fun w => pad_c s n w
  have c2 := fun w => padref_c s (by omega) n w
  rw [he] at c1 c2
  have c3 := fun w => trim_c s (by omega) _ rfl w
  have c4 := fun w => trimref_c s (by omega) _ rfl w
  generalize (padSpec s n).1 = t at *
  generalize ztrim s = u at *
  have C1 := Aside0.mk c1
  have C2 := Aside0.mk c2
  have C3 := Aside0.mk c3
  have C4 := Aside0.mk c4
  have hb : (e1 == 0) = false := beq_eq_false_iff_ne.2 h0
  have hb1 : (e1 != 0) = true := bne_iff_ne.2 h0
  clear c1 c2 c3 c4 he h0
  go_enter Try.func13, Try.ntmps13
  go_wp2_with fail
  refine (wakes_c _).mono ?_
  rintro e w1 ⟨rfl, B1⟩
  go_wp2_with fail
  refine (C1.out _).mono ?_
  rintro e w2 ⟨rfl, B2⟩
  go_wp2_with fail
  refine (C2.out _).mono ?_
  rintro e w3 ⟨rfl, B3⟩
  go_wp2_with fail
  refine (C3.out _).mono ?_
  rintro e w4 ⟨rfl, B4⟩
  go_wp2_with fail
  refine (C4.out _).mono ?_
  rintro e w5 ⟨rfl, B5⟩
  go_wp2_with fail
  go_ret
  exact ⟨rfl, below_next (below_next (below_next (below_next B1 B2) B3) B4) B5⟩
set_option maxRecDepth 100000 in
set_option maxHeartbeats 1000000 in
theorem made (s : ByteArray) (m : Nat) (w : World) (hs : s.size ≤ 140737488351232) (hm : s.size + m ≤ 65536) :
    Calls Try.prog 13 #[.string s, .int .i64 ((s.size : Int) + m)] w fun e w' => e = .returned (.bool true) ∧ Below w.heap.size w w' := by
  have hp : padSpec s ((s.size : Int) + m) = (s ++ zeros m, 0) := by
    unfold padSpec
    rw [if_neg (by omega), if_neg (by omega), show ((s.size : Int) + m - s.size).toNat = m by omega]
  have c1 := fun w => pad_c s ((s.size : Int) + m) w
  have c2 := fun w => padref_c s (by omega) ((s.size : Int) + m) w
  rw [hp] at c1 c2
  have ht : (s ++ zeros m).size = s.size + m := by rw [ByteArray.size_append, zeros_size]
  have c3 := fun w => trim_c s (by omega) _ rfl w
  have c4 := fun w => trimref_c s (by omega) _ rfl w
  have c5 := fun w => trim_c (s ++ zeros m) (by rw [ht]; omega) _ (ztrim_pad s m) w
  simp only at c1 c2
  generalize ztrim s = u at *
  generalize s ++ zeros m = t at *
  have hn : (t.size : Int) = (s.size : Int) + m := by omega
  have hnn : ((t.size : Int) == (s.size : Int) + m) = true := beq_iff_eq.2 hn
  clear ht hp hm hs hn
  generalize (s.size : Int) + (m : Int) = n at *
  have C1 := Aside0.mk c1
  have C2 := Aside0.mk c2
  have C3 := Aside0.mk c3
  have C4 := Aside0.mk c4
  have C5 := Aside0.mk c5
  clear c1 c2 c3 c4 c5
  go_enter Try.func13, Try.ntmps13
  go_wp2_with fail
  refine (wakes_c _).mono ?_
  rintro e w1 ⟨rfl, B1⟩
  go_wp2_with fail
  refine (C1.out _).mono ?_
  rintro e w2 ⟨rfl, B2⟩
  go_wp2_with fail
  refine (C2.out _).mono ?_
  rintro e w3 ⟨rfl, B3⟩
  go_wp2_with fail
  refine (C3.out _).mono ?_
  rintro e w4 ⟨rfl, B4⟩
  go_wp2_with fail
  refine (C4.out _).mono ?_
  rintro e w5 ⟨rfl, B5⟩
  go_wp2_with fail
  refine (C5.out _).mono ?_
  rintro e w6 ⟨rfl, B6⟩
  go_wp2_with fail
  refine (C3.out _).mono ?_
  rintro e w7 ⟨rfl, B7⟩
  go_wp2_with fail
  go_ret
  exact ⟨rfl, below_next (below_next (below_next (below_next (below_next (below_next B1 B2) B3) B4) B5) B6) B7⟩
theorem walk (s : ByteArray) (n : Int) (w : World) (hs : s.size ≤ 140737488351232) (_ : (Lit.int .i64 n).wf = true) :
    Calls Try.prog 13 #[.string s, .int .i64 n] w fun e w' => e = .returned (.bool true) ∧ Below w.heap.size w w' := by
  by_cases h : n < 0 ∨ 65536 < n
  · exact refused s n w hs 1 (by unfold padSpec; rw [if_pos h]) (by decide)
  · by_cases h1 : n < (s.size : Int)
    · exact refused s n w hs 2 (by unfold padSpec; rw [if_neg h, if_pos h1]) (by decide)
    · obtain ⟨m, rfl⟩ : ∃ m : Nat, n = (s.size : Int) + m := ⟨(n - s.size).toNat, by omega⟩
      exact made s m w hs (by omega)

end Go.Proofs.Ytaefejbhdbljaaa.PadsWalk
