/- Plain facts about what the printed functions of the slot come to, as far as this claim reaches them. No condition beside the sizes that an argument can have. -/
import Derived.Test.YtdieanikopjbjaaQSlotBkx1
import Derived.Test.YtdieanikopjbjaaQSlotBkx2
import Derived.Test.YtdieanikopjbjaaQSlotBkx3
import Derived.Test.YtdieanikopjbjaaQSlotBkx4
import Derived.Test.YtdieanikopjbjaaQSlotBkx5
import Derived.Test.YtdieanikopjbjaaQSlotBkx6
import Derived.Test.YtdieanikopjbjaaQSlotBkx7
import Derived.Test.YtdieanikopjbjaaQSlotBkx8
import Derived.Test.YtdieanikopjbjaaPadPlain
import Derived.Deep.Slices
import Derived.Deep.Fields
import Derived.ChangeSame
import Derived.ProofKit
import Derived.SizedLaws
import Derived.Lib.SmallJoins
import Derived.ChangeSlices
namespace Go.Proofs.Ytdieanikopjbjaa.QSlotBk
open Go.RowKit Go.Proofs.YtdieanikopjbjaaW.PrintWords Go.Proofs.YtdieanikopjbjaaW.PrintLast Go.Proofs.YtdieanikopjbjaaW.PrintMore Go.Proofs.Ytdieanikopjbjaa.MixBase Go.Proofs.Ytdieanikopjbjaa.MixPlain Go.Proofs.Ytdieanikopjbjaa.NumBase Go.Proofs.Ytdieanikopjbjaa.PadPlain

/-- One round of the hash. -/
def hstep (h c : Int) : Int := (Go.bits .xor .u32 h c * 16777619) % 4294967296
def hrun (h : Int) (l : List Int) : Int := l.foldl hstep h
theorem hrun_cons (h c : Int) (l : List Int) : hrun h (c :: l) = hrun (hstep h c) l := rfl
theorem xor_range (a b : Int) (ha : 0 ≤ a) (ha' : a < 4294967296) (hb : 0 ≤ b) (hb' : b < 4294967296) : 0 ≤ Go.bits .xor .u32 a b ∧ Go.bits .xor .u32 a b < 4294967296 := by
  rw [Go.u32_xor a b ha ha' hb hb']
  have h : a.toNat ^^^ b.toNat < 2 ^ 32 := Nat.xor_lt_two_pow (by omega) (by omega)
  omega
def fin1 (h : Int) : Int := (Go.bits .xor .u32 h (h / 65536) * 2246822507) % 4294967296
def fin2 (h : Int) : Int := (Go.bits .xor .u32 h (h / 8192) * 3266489909) % 4294967296
def fin3 (h : Int) : Int := Go.bits .xor .u32 h (h / 65536)
theorem hash_l0 (s : ByteArray) (hs : (s.size : Int) < 9223372036854775807) (d : Nat) : ∀ (k : Nat) (h i : Int), 0 ≤ i → i ≤ s.size → (s.size : Int) - i = d → d < k →
    mix_Hash.l0 k s h (s.size : Int) i = some (fin3 (fin2 (fin1 (hrun h ((bytesOf s).drop i.toNat))))) := by
  induction d with
  | zero =>
    intro k h i h0 h1 hd hk
    obtain ⟨k, rfl⟩ : ∃ m, k = m + 1 := ⟨k - 1, by omega⟩
    simp only [mix_Hash.l0]
    rw [if_neg (by omega), drop_end s i (by omega)]
    rfl
  | succ d ih =>
    intro k h i h0 h1 hd hk
    obtain ⟨k, rfl⟩ : ∃ m, k = m + 1 := ⟨k - 1, by omega⟩
    have hr := bt_range s i
    have hlt : i < (s.size : Int) := by omega
    simp only [mix_Hash.l0]
    rw [if_pos hlt, if_pos h0, if_pos hlt, wrap64_small (by omega) (by omega), drop_byte s i h0 hlt, hrun_cons, show bt s i % 4294967296 = bt s i by omega]
    exact ih k (hstep h (bt s i)) (i + 1) (by omega) (by omega) (by omega) (by omega)
theorem hash_f (s : ByteArray) (hs : (s.size : Int) < 9223372036854775807) (k : Nat) (hk : s.size < k) :
    mix_Hash.f k s = some (fin3 (fin2 (fin1 (hrun 2166136261 (bytesOf s))))) := by
  unfold mix_Hash.f
  exact hash_l0 s hs s.size k 2166136261 0 (by omega) (by omega) (by omega) hk
theorem fin_range (h by_ : Int) : 0 ≤ (h * by_) % 4294967296 ∧ (h * by_) % 4294967296 < 4294967296 := by
  generalize h * by_ = m
  omega
def begins (c : Int) : Int := if 97 ≤ c ∧ c ≤ 122 then 1 else if 65 ≤ c ∧ c ≤ 90 then 2 else 0
def goesOn (c : Int) : Int := if 97 ≤ c ∧ c ≤ 122 then 1 else if 65 ≤ c ∧ c ≤ 90 then 2 else if 48 ≤ c ∧ c ≤ 57 then 3 else 0
theorem sign_f (c : Int) (k : Nat) : name_sign.f (k + 3) c = some (begins c, goesOn c) := by
  unfold name_sign.f begins goesOn
  by_cases h1 : 97 ≤ c
  · rw [if_pos h1]
    by_cases h2 : c ≤ 122
    · simp [name_sign.j0, h1, h2]
    · simp only [name_sign.j0, decide_eq_true_eq, h2, if_false, and_false]
      rw [if_pos (show c ≥ 65 by omega)]
      simp only [name_sign.j1, decide_eq_true_eq]
      rw [if_neg (by omega), if_pos (show c ≥ 48 by omega), if_neg (by omega)]
      repeat (rw [if_neg (by omega)])
  · rw [if_neg h1]
    simp only [name_sign.j0, Bool.false_eq_true, if_false, show ¬ (97 ≤ c ∧ c ≤ 122) from by omega]
    by_cases h3 : 65 ≤ c
    · rw [if_pos (show c ≥ 65 from h3)]
      by_cases h4 : c ≤ 90
      · simp [name_sign.j1, h3, h4]
      · simp only [name_sign.j1, decide_eq_true_eq]
        rw [if_neg h4, if_pos (show c ≥ 48 by omega), if_neg (show ¬ c ≤ 57 by omega), if_neg (show ¬ (65 ≤ c ∧ c ≤ 90) by omega), if_neg (show ¬ (65 ≤ c ∧ c ≤ 90) by omega), if_neg (show ¬ (48 ≤ c ∧ c ≤ 57) by omega)]
    · rw [if_neg (show ¬ c ≥ 65 from h3)]
      simp only [name_sign.j1, Bool.false_eq_true, if_false, show ¬ (65 ≤ c ∧ c ≤ 90) from by omega]
      by_cases h5 : 48 ≤ c
      · rw [if_pos (show c ≥ 48 from h5)]
        by_cases h6 : c ≤ 57
        · simp [h5, h6]
        · rw [if_neg h6, if_neg (by omega)]
      · rw [if_neg (show ¬ c ≥ 48 from h5), if_neg (by omega)]
def okSign (kd c : Int) : Bool := decide (kd = 1 ∧ (goesOn c = 1 ∨ goesOn c = 3) ∨ kd = 2 ∧ (goesOn c = 2 ∨ goesOn c = 3))
theorem goes_cases (c : Int) : goesOn c = 0 ∨ goesOn c = 1 ∨ goesOn c = 2 ∨ goesOn c = 3 := by unfold goesOn; split <;> (try split) <;> (try split) <;> simp
theorem begins_cases (c : Int) : begins c = 0 ∨ begins c = 1 ∨ begins c = 2 := by unfold begins; split <;> (try split) <;> simp
theorem and_ok (kd c : Int) (hk : kd = 0 ∨ kd = 1 ∨ kd = 2) : Go.bits .and .i64 (goesOn c) kd = 0 ↔ okSign kd c = false := by
  unfold okSign
  rcases hk with rfl | rfl | rfl <;> rcases goes_cases c with h | h | h | h <;> rw [h] <;> decide
def kindSpec (s : ByteArray) : Int := if s.size = 0 ∨ 8 < s.size then 0 else (if (bytesOf s).all (okSign (begins (bt s 0))) = true then begins (bt s 0) else 0)
theorem kind_l0 (s : ByteArray) (hs : (s.size : Int) ≤ 140737488351232) (kd : Int) (hk : kd = 0 ∨ kd = 1 ∨ kd = 2) (d : Nat) : ∀ (k : Nat) (i : Int), 0 ≤ i → i ≤ s.size → (s.size : Int) - i = d → d + 4 < k →
    name_Kind.l0 k s kd (s.size : Int) i = some (if ((bytesOf s).drop i.toNat).all (okSign kd) = true then kd else 0) := by
  induction d with
  | zero =>
    intro k i h0 h1 hd hk1
    obtain ⟨k, rfl⟩ : ∃ m, k = m + 1 := ⟨k - 1, by omega⟩
    simp only [name_Kind.l0]
    rw [if_neg (by omega), drop_end s i (by omega)]
    rfl
  | succ d ih =>
    intro k i h0 h1 hd hk1
    obtain ⟨k, rfl⟩ : ∃ m, k = m + 1 := ⟨k - 1, by omega⟩
    have hlt : i < (s.size : Int) := by omega
    simp only [name_Kind.l0]
    rw [if_pos hlt, if_pos h0, if_pos hlt, show k = (k - 3) + 3 by omega, sign_f, drop_byte s i h0 hlt, List.all_cons]
    simp only [Option.bind_some]
    by_cases ho : Go.bits .and .i64 (goesOn (bt s i)) kd = 0
    · rw [if_pos ho, (and_ok kd _ hk).1 ho]
      rfl
    · rw [if_neg ho, wrap64_small (by omega) (by omega), show k - 3 + 3 = k by omega, ih k (i + 1) (by omega) (by omega) (by omega) (by omega)]
      have ht : okSign kd (bt s i) = true := by
        cases h : okSign kd (bt s i) with
        | true => rfl
        | false => exact absurd ((and_ok kd _ hk).2 h) ho
      rw [ht, Bool.true_and]
theorem kind_f (s : ByteArray) (hs : (s.size : Int) ≤ 140737488351232) (k : Nat) (hk : s.size + 16 < k) : name_Kind.f k s = some (kindSpec s) := by
  obtain ⟨k, rfl⟩ : ∃ m, k = m + 1 := ⟨k - 1, by omega⟩
  unfold name_Kind.f kindSpec
  by_cases h0 : s.size = 0
  · have hl : s.toList = [] := by
      rw [Go.ByteArray.toList_eq]
      exact List.eq_nil_of_length_eq_zero (by rw [← Lib.size_eq]; exact h0)
    rw [if_pos hl, if_pos (Or.inl h0)]
    simp [name_Kind.j0]
  · have hl : ¬ s.toList = [] := by
      intro h
      rw [Go.ByteArray.toList_eq] at h
      exact h0 (by rw [Lib.size_eq, h]; rfl)
    rw [if_neg hl]
    simp only [name_Kind.j0, decide_eq_true_eq]
    by_cases h8 : (s.size : Int) > 8
    · rw [if_pos h8, if_pos (Or.inr (by omega))]
    · rw [if_neg h8, if_neg (show ¬ (s.size = 0 ∨ 8 < s.size) by omega), if_pos (show 0 < (s.size : Int) by omega), show k = (k - 3) + 3 by omega, sign_f]
      simp only [Option.bind_some]
      rw [show k - 3 + 3 = k by omega, kind_l0 s hs _ (begins_cases _) s.size k 0 (by omega) (by omega) (by omega) (by omega)]
      rfl
theorem num_fits_yes (n w : Int) (h0 : 0 ≤ n) (h : Fits n w) : num_fits.f n w = some true := by
  obtain ⟨h1, h2, h3⟩ := h
  unfold num_fits.f
  rw [if_pos h1, if_pos h2]
  by_cases h8 : w = 8
  · rw [if_pos h8]
  · obtain ⟨m, rfl⟩ := Int.eq_ofNat_of_zero_le (show 0 ≤ w by omega)
    rw [if_neg h8, wrap64_small (by omega) (by omega), if_pos (by omega), shr8 n m (by omega), (fits_iff n m h0).2 (by simpa using h3)]
    rfl
theorem num_fits_no (n w : Int) (h0 : 0 ≤ n) (h64 : n < 18446744073709551616) (h : ¬ Fits n w) : num_fits.f n w = some false := by
  unfold num_fits.f
  by_cases h1 : w ≥ 1
  · rw [if_pos h1]
    by_cases h2 : w ≤ 8
    · rw [if_pos h2]
      have h8 : w ≠ 8 := by
        rintro rfl
        exact h ⟨by omega, by omega, by rw [show (8 : Int).toNat = 8 from rfl, pow_eight]; exact h64⟩
      obtain ⟨m, rfl⟩ := Int.eq_ofNat_of_zero_le (show 0 ≤ w by omega)
      rw [if_neg h8, wrap64_small (by omega) (by omega), if_pos (by omega), shr8 n m (by omega)]
      have hne : ¬ n / 256 ^ m = 0 := fun e => h ⟨h1, h2, by simpa using (fits_iff n m h0).1 e⟩
      rw [beq_eq_false_iff_ne.2 hne]
    · rw [if_neg h2]
  · rw [if_neg h1]
theorem num_put_l0 (n : Int) (w : Nat) (hw : w ≤ 8) (d : Nat) : ∀ (k i : Nat), i ≤ w → w - i = d → d < k →
    num_Put.l0 k n (w : Int) (List.replicate (w - i) 0 ++ digs n i) (w : Int) (i : Int) = some (strOfNums (digs n w), 0) := by
  induction d with
  | zero =>
    intro k i hi hd hk
    obtain ⟨k, rfl⟩ : ∃ m, k = m + 1 := ⟨k - 1, by omega⟩
    obtain rfl : i = w := by omega
    simp only [num_Put.l0]
    rw [if_neg (by omega), Nat.sub_self, List.replicate_zero, List.nil_append]
  | succ d ih =>
    intro k i hi hd hk
    obtain ⟨k, rfl⟩ : ∃ m, k = m + 1 := ⟨k - 1, by omega⟩
    simp only [num_Put.l0]
    rw [if_pos (by omega), wrap64_small (i := 8 * (i : Int)) (by omega) (by omega), if_pos (by omega), wrap64_small (i := (w : Int) - 1) (by omega) (by omega), wrap64_small (i := (w : Int) - 1 - i) (by omega) (by omega), if_pos (by omega),
      if_pos (by rw [List.length_append, List.length_replicate, digs_length]; omega), wrap64_small (by omega) (by omega), shr8 n i (by omega)]
    have e : ((w : Int) - 1 - i).toNat = d := by omega
    rw [e, show w - i = d + 1 by omega, set_zeros]
    have h := ih k (i + 1) (by omega) (by omega) (by omega)
    rw [show w - (i + 1) = d by omega] at h
    exact h
theorem num_put_f (n w : Int) (h0 : 0 ≤ n) (h64 : n < 18446744073709551616) (k : Nat) (hk : 8 < k) : num_Put.f k n w = some (putSpec n w) := by
  unfold num_Put.f putSpec
  by_cases h : Fits n w
  · rw [num_fits_yes n w h0 h, if_pos h]
    obtain ⟨h1, h2, h3⟩ := h
    obtain ⟨m, rfl⟩ := Int.eq_ofNat_of_zero_le (show 0 ≤ w by omega)
    simp only [Option.bind_some, if_true]
    rw [if_pos (by omega), if_pos (by omega)]
    have hl := num_put_l0 n m (by omega) m k 0 (by omega) (by omega) (by omega)
    rw [Nat.sub_zero, digs, List.append_nil] at hl
    exact hl
  · rw [num_fits_no n w h0 h64 h, if_neg h]
    rfl
theorem num_get_l0 (s : ByteArray) (hs : (s.size : Int) ≤ 9223372036854775807) (at_ : Int) (w : Nat) (ha : 0 ≤ at_) (haw : at_ + w ≤ s.size) (hw : w ≤ 8) (d : Nat) : ∀ (k i : Nat) (a : Int), i ≤ w → w - i = d → d < k → 0 ≤ a → a < 256 ^ i →
    num_Get.l0 k s at_ a (w : Int) (i : Int) = some (valFrom a (((bytesOf s).drop (at_ + i).toNat).take d), 0) := by
  induction d with
  | zero =>
    intro k i a hi hd hk ha0 ha1
    obtain ⟨k, rfl⟩ : ∃ m, k = m + 1 := ⟨k - 1, by omega⟩
    simp only [num_Get.l0]
    rw [if_neg (by omega), List.take_zero, valFrom_nil]
  | succ d ih =>
    intro k i a hi hd hk ha0 ha1
    obtain ⟨k, rfl⟩ : ∃ m, k = m + 1 := ⟨k - 1, by omega⟩
    have hb := bt_range s (at_ + i)
    have h7 := pow8 i (by omega)
    simp only [num_Get.l0]
    rw [if_pos (by omega), wrap64_small (i := at_ + i) (by omega) (by omega), if_pos (by omega), if_pos (by omega), wrap64_small (by omega) (by omega), or64 a (bt s (at_ + i)) ha0 (by omega) hb.1 (by omega), take_drop_cons s (at_ + i) d (by omega) (by omega), valFrom_cons]
    have h := ih k (i + 1) (a * 256 + bt s (at_ + i)) (by omega) (by omega) (by omega) (by omega) (by rw [pow_succ']; omega)
    rw [show at_ + ((i + 1 : Nat) : Int) = at_ + i + 1 by omega] at h
    exact h
theorem num_get_f (s : ByteArray) (hs : (s.size : Int) ≤ 9223372036854775807) (at_ w : Int) (k : Nat) (hk : 9 < k) : num_Get.f k s at_ w = some (getSpec s at_ w) := by
  obtain ⟨k, rfl⟩ : ∃ m, k = m + 1 := ⟨k - 1, by omega⟩
  unfold num_Get.f getSpec
  by_cases h1 : w < 1
  · rw [if_pos h1, if_pos (.inl h1)]
    simp only [num_Get.j0, if_true]
  · rw [if_neg h1]
    by_cases h2 : 8 < w
    · rw [if_pos (.inr h2), decide_eq_true h2]
      simp only [num_Get.j0, if_true]
    · rw [if_neg (by omega), decide_eq_false h2]
      simp only [num_Get.j0]
      rw [if_neg (by decide), wrap64_small (by omega) (by omega)]
      by_cases h3 : at_ < 0
      · rw [if_pos h3, if_pos (.inl h3)]
      · rw [if_neg h3]
        by_cases h4 : (s.size : Int) - w < at_
        · rw [if_pos h4, if_pos (.inr h4)]
        · rw [if_neg h4, if_neg (by omega)]
          obtain ⟨m, rfl⟩ := Int.eq_ofNat_of_zero_le (show 0 ≤ w by omega)
          have h := num_get_l0 s hs at_ m (by omega) (by omega) (by omega) m k 0 0 (by omega) (by omega) (by omega) (by omega) (by decide)
          rw [show at_ + ((0 : Nat) : Int) = at_ by omega] at h
          exact h
def isAddr (a : Int) : Bool := decide (a < 281474976710656) && (a % 65536 != 0)
theorem address_f (a : Int) (h : 0 ≤ a) : slot_address.f a = some (isAddr a) := by
  unfold slot_address.f isAddr
  by_cases h1 : a < 281474976710656
  · rw [if_pos h1, decide_eq_true h1, Int.tmod_eq_emod_of_nonneg h, Bool.true_and]
  · rw [if_neg h1, decide_eq_false h1, Bool.false_and]
theorem isAddr_lt {a : Int} (h : isAddr a = true) : a < 281474976710656 := by
  unfold isAddr at h
  simp only [Bool.and_eq_true, decide_eq_true_eq] at h
  exact h.1
def hashFin (s : ByteArray) : Int := fin3 (fin2 (fin1 (hrun 2166136261 (bytesOf s))))
def kidsHash (x : ByteArray) : List Int → Int × Int
  | [] => (hashFin x, 0)
  | a :: l => if isAddr a = true then kidsHash (x ++ strOfNums (digs a 6)) l else (0, 1)
theorem put6 (a : Int) (h : isAddr a = true) : putSpec a 6 = (strOfNums (digs a 6), 0) := by
  unfold putSpec
  rw [if_pos ⟨by omega, by omega, by have := isAddr_lt h; show a < 256 ^ 6; omega⟩]
  rfl
theorem rd_drop (l : List Int) (i : Nat) (h : i < l.length) : l.drop i = rd l (i : Int) :: l.drop (i + 1) := by
  rw [List.drop_eq_getElem_cons h]
  unfold rd
  rw [show ((i : Int)).toNat = i by omega, List.getD_eq_getElem?_getD, List.getElem?_eq_getElem h]
  rfl
def Wf64 (l : List Int) : Prop := ∀ a ∈ l, 0 ≤ a ∧ a < 18446744073709551616
theorem wf_rd {l : List Int} (hw : Wf64 l) (i : Nat) (h : i < l.length) : 0 ≤ rd l (i : Int) ∧ rd l (i : Int) < 18446744073709551616 := by
  refine hw _ ?_
  have := rd_drop l i h
  have hm : rd l (i : Int) ∈ l.drop i := by rw [this]; exact List.mem_cons_self
  exact List.mem_of_mem_drop hm
theorem slot_hash_l0 (l : List Int) (hw : Wf64 l) (hl : l.length ≤ 4) (d : Nat) : ∀ (k i : Nat) (x : ByteArray), i ≤ l.length → l.length - i = d → d + 60 < k → x.size + 6 * d ≤ 50 →
    slot_Hash.l0 k x l (l.length : Int) (i : Int) = some (kidsHash x (l.drop i)) := by
  induction d with
  | zero =>
    intro k i x hi hd hk hx
    obtain ⟨k, rfl⟩ : ∃ m, k = m + 1 := ⟨k - 1, by omega⟩
    simp only [slot_Hash.l0]
    rw [if_neg (by omega), List.drop_eq_nil_of_le (by omega), hash_f x (by omega) k (by omega)]
    rfl
  | succ d ih =>
    intro k i x hi hd hk hx
    obtain ⟨k, rfl⟩ : ∃ m, k = m + 1 := ⟨k - 1, by omega⟩
    have hr := wf_rd hw i (by omega)
    rw [rd_drop l i (by omega)]
    simp only [slot_Hash.l0, kidsHash]
    rw [if_pos (by omega), if_pos (by omega), if_pos (by omega), address_f _ hr.1]
    simp only [Option.bind_some]
    by_cases ha : isAddr (rd l (i : Int)) = true
    · rw [if_pos ha, if_pos ha, num_put_f _ 6 hr.1 hr.2 k (by omega), put6 _ ha]
      simp only [Option.bind_some]
      have hsz : (x ++ strOfNums (digs (rd l (i : Int)) 6)).size = x.size + 6 := by rw [ByteArray.size_append, digs_size]
      rw [if_pos (by rw [digs_size]; omega), wrap64_small (by omega) (by omega), show (i : Int) + 1 = ((i + 1 : Nat) : Int) by omega]
      exact ih k (i + 1) _ (by omega) (by omega) (by omega) (by rw [hsz]; omega)
    · rw [if_neg ha, if_neg ha]
theorem repeat_f (m : Nat) (h : m ≤ 65536) : strings_Repeat.f (⟨#[0]⟩ : ByteArray) (m : Int) = some (zeros m) := by
  unfold strings_Repeat.f
  rw [if_pos (by omega), if_pos (by omega), if_pos (by simp [ByteArray.size]; omega), show ((m : Int)).toNat = m by omega, repeat_zeros]
theorem num_pad8 (s : ByteArray) (hs : s.size ≤ 8) (k : Nat) (hk : 0 < k) : num_Pad.f k s 8 = some (s ++ zeros (8 - s.size), 0) := by
  obtain ⟨k, rfl⟩ : ∃ m, k = m + 1 := ⟨k - 1, by omega⟩
  unfold num_Pad.f
  rw [if_neg (by omega)]
  simp only [num_Pad.j0, show decide ((8 : Int) > 65536) = false from rfl, Bool.false_eq_true, if_false]
  rw [if_neg (by omega), wrap64_small (by omega) (by omega), show (8 : Int) - (s.size : Int) = ((8 - s.size : Nat) : Int) by omega, repeat_f _ (by omega)]
  simp only [Option.bind_some]
  rw [zeros_size, if_pos (by omega)]
theorem kind_size {s : ByteArray} (h : ¬ kindSpec s = 0) : 1 ≤ s.size ∧ s.size ≤ 8 := by
  unfold kindSpec at h
  by_cases h0 : s.size = 0 ∨ 8 < s.size
  · rw [if_pos h0] at h; exact absurd rfl h
  · omega
def hashSpec (nm : ByteArray) (l : List Int) : Int × Int :=
  if kindSpec nm = 0 then (0, 4) else if l.length > 4 then (0, 5) else if kindSpec nm = 2 ∧ l.length > 0 then (0, 5) else kidsHash ((nm ++ zeros (8 - nm.size)) ++ strOfNums [(l.length : Int)]) l
theorem headText_size (nm : ByteArray) (h : nm.size ≤ 8) (x : Int) : ((nm ++ zeros (8 - nm.size)) ++ strOfNums [x]).size = 9 := by
  rw [ByteArray.size_append, ByteArray.size_append, zeros_size, strOfNums_size]
  simp only [List.length_cons, List.length_nil]
  omega
theorem slot_hash_f (nm : ByteArray) (hs : (nm.size : Int) ≤ 140737488351232) (l : List Int) (hw : Wf64 l) (k : Nat) (hk : nm.size + 100 < k) : slot_Hash.f k nm l = some (hashSpec nm l) := by
  unfold slot_Hash.f hashSpec
  rw [kind_f nm hs k (by omega)]
  simp only [Option.bind_some]
  by_cases h0 : kindSpec nm = 0
  · rw [if_pos h0, if_pos h0]
  · rw [if_neg h0, if_neg h0]
    have hz := kind_size h0
    by_cases h4 : l.length > 4
    · rw [if_pos (by omega), if_pos h4]
    · rw [if_neg (show ¬ (l.length : Int) > 4 by omega), if_neg h4]
      have hj : slot_Hash.j0 k nm l = some (kidsHash ((nm ++ zeros (8 - nm.size)) ++ strOfNums [(l.length : Int)]) l) := by
        obtain ⟨k, rfl⟩ : ∃ m, k = m + 1 := ⟨k - 1, by omega⟩
        simp only [slot_Hash.j0]
        rw [num_pad8 nm hz.2 k (by omega)]
        simp only [Option.bind_some]
        rw [show (l.length : Int) % 256 = (l.length : Int) by omega]
        rw [if_pos (by rw [ByteArray.size_append, zeros_size, strOfNums_size]; simp only [List.length_cons, List.length_nil]; omega)]
        exact slot_hash_l0 l hw (by omega) l.length k 0 _ (by omega) (by omega) (by omega) (by rw [headText_size nm hz.2]; omega)
      by_cases h2 : kindSpec nm = 2
      · rw [if_pos h2]
        by_cases h3 : l.length > 0
        · rw [if_pos (by omega), if_pos ⟨h2, h3⟩]
        · rw [if_neg (show ¬ (l.length : Int) > 0 by omega), if_neg (fun h => h3 h.2), hj]
      · rw [if_neg h2, if_neg (fun h => h2 h.1), hj]
structure NodeOk (n : S76) : Prop where
  at0 : 0 ≤ n.f0
  at1 : n.f0 < 18446744073709551616
  name : n.f1.size ≤ 140737488351232
  kids : Wf64 n.f2
  kidsl : n.f2.length ≤ maxLen
  c0 : -9223372036854775808 ≤ n.f3
  c1 : n.f3 ≤ 9223372036854775807
  n0 : 0 ≤ n.f5
  n1 : n.f5 < 18446744073709551616
def partsB (a h : Int) : Int := if isAddr a = true then (if a / 65536 = h then 0 else 3) else 3
def mayOf (n : S76) : Int :=
  if (hashSpec n.f1 n.f2).2 = 0 then (if n.f3 < 0 ∨ n.f3 > 4294967295 ∨ (n.f5 ≠ 0 ∧ isAddr n.f5 = false) then 1 else partsB n.f0 (hashSpec n.f1 n.f2).1) else (hashSpec n.f1 n.f2).2
theorem parts_f (a : Int) (h : 0 ≤ a) : slot_Parts.f a = some (if isAddr a = true then (a / 65536, a % 65536, true) else (0, 0, false)) := by
  unfold slot_Parts.f
  rw [address_f a h]
  simp only [Option.bind_some]
  by_cases ha : isAddr a = true
  · have hl := isAddr_lt ha
    rw [if_pos ha, if_pos ha, Int.tdiv_eq_ediv_of_nonneg h, Int.tmod_eq_emod_of_nonneg h, u64_small (i := a / 65536) (by omega) (by omega), wrap64_small (by omega) (by omega), Int.emod_eq_of_lt (by omega) (by omega)]
  · rw [if_neg ha, if_neg ha]
theorem may_j0 (n : S76) (ok : NodeOk n) (h : Int) (k : Nat) (b : Bool) : slot_may.j0 (k + 1) h b n.f0 n.f1 n.f2 n.f3 n.f4 n.f5 = some (if b = true then 1 else partsB n.f0 h) := by
  simp only [slot_may.j0]
  by_cases hb : b = true
  · rw [if_pos hb, if_pos hb]
  · rw [if_neg hb, if_neg hb, parts_f n.f0 ok.at0]
    unfold partsB
    simp only [Option.bind_some]
    by_cases ha : isAddr n.f0 = true
    · simp only [ha, if_true]
      split <;> rfl
    · simp only [ha, if_false, Bool.false_eq_true]
theorem may_f (n : S76) (ok : NodeOk n) (k : Nat) (hk : n.f1.size + 100 < k) : slot_may.f k n.f0 n.f1 n.f2 n.f3 n.f4 n.f5 = some (mayOf n) := by
  unfold slot_may.f mayOf
  have hn := ok.name
  rw [slot_hash_f n.f1 (by omega) n.f2 ok.kids k hk]
  simp only [Option.bind_some]
  by_cases h0 : (hashSpec n.f1 n.f2).2 = 0
  · rw [if_pos h0, if_pos h0]
    obtain ⟨k, rfl⟩ : ∃ m, k = m + 1 := ⟨k - 1, by omega⟩
    simp only [may_j0 n ok, if_true, Bool.false_eq_true, if_false]
    by_cases h1 : n.f3 < 0
    · rw [if_pos h1, if_pos (Or.inl h1)]
    · rw [if_neg h1]
      by_cases h2 : n.f3 > 4294967295
      · rw [if_pos h2, if_pos (Or.inr (Or.inl h2))]
      · rw [if_neg h2]
        by_cases h3 : n.f5 = 0
        · rw [if_pos h3, if_neg (by rintro (h | h | h); exact h1 h; exact h2 h; exact h.1 h3)]
        · rw [if_neg h3, address_f _ ok.n0]
          simp only [Option.bind_some]
          by_cases h4 : isAddr n.f5 = true
          · rw [h4, if_neg (by decide), if_neg (by rintro (h | h | h); exact h1 h; exact h2 h; exact absurd h.2 (by decide))]
          · have h5 : isAddr n.f5 = false := by simpa using h4
            rw [h5, if_pos (by decide), if_pos (Or.inr (Or.inr ⟨h3, rfl⟩))]
  · rw [if_neg h0, if_neg h0]
theorem splice_mid {α : Type} (A B C S : List α) (o : Nat) (ho : o = A.length) (hS : S.length = B.length) : splice (A ++ (B ++ C)) o S = A ++ (S ++ C) := by
  subst ho
  unfold splice
  rw [List.take_left', List.drop_append, List.drop_eq_nil_of_le (by omega), List.nil_append, show A.length + S.length - A.length = B.length by omega, List.drop_left']
  · rfl
  · rfl
/-- A list of bytes as numbers, and back. -/
def u8s (l : List Int) : List UInt8 := l.map fun c => c.toNat.toUInt8
theorem u8s_append (a b : List Int) : u8s (a ++ b) = u8s a ++ u8s b := by simp [u8s]
theorem u8s_length (a : List Int) : (u8s a).length = a.length := by simp [u8s]
theorem u8s_bytes (s : ByteArray) : u8s (bytesOf s) = s.data.toList := by
  unfold u8s bytesOf
  rw [List.map_map]
  refine (List.map_congr_left (fun b _ => ?_)).trans (List.map_id _)
  simp
theorem str_u8s (l : List Int) (h : ∀ c ∈ l, 0 ≤ c ∧ c < 256) : (strOfNums l).data.toList = u8s l := by
  rw [← u8s_bytes, bytes_nums l h]
def kidBytes (l : List Int) : List Int := l.flatMap fun a => digs a 6
theorem kidBytes_length (l : List Int) : (kidBytes l).length = 6 * l.length := by
  unfold kidBytes
  induction l with
  | nil => rfl
  | cons a l ih => rw [List.flatMap_cons, List.length_append, ih, digs_length, List.length_cons]; omega
def flagOf (b : Bool) : Int := if b then 1 else 0
def Z (m : Nat) : List Int := List.replicate m 0
theorem Z_length (m : Nat) : (Z m).length = m := List.length_replicate
/-- A node's slot. -/
def nodeText (n : S76) : List Int :=
  [1] ++ ([flagOf n.f4] ++ (digs (n.f0 % 65536) 2 ++ (bytesOf n.f1 ++ (Z (8 - n.f1.size) ++ ([(n.f2.length : Int)] ++ (digs n.f3 4 ++ (digs n.f5 6 ++ (kidBytes n.f2 ++ (Z (24 - 6 * n.f2.length) ++ [0])))))))))
/-- What a node must be for its slot to be written whole. -/
structure Wr (n : S76) : Prop where
  name : n.f1.size ≤ 8
  kidsl : n.f2.length ≤ 4
  kids : ∀ a ∈ n.f2, 0 ≤ a ∧ a < 281474976710656
  at0 : 0 ≤ n.f0
  c0 : 0 ≤ n.f3
  c1 : n.f3 ≤ 4294967295
  n0 : 0 ≤ n.f5
  n1 : n.f5 < 281474976710656
theorem nodeText_length (n : S76) (h : Wr n) : (nodeText n).length = 48 := by
  have h1 := h.name
  have h2 := h.kidsl
  unfold nodeText
  simp only [List.length_append, List.length_cons, List.length_nil, digs_length, bytesOf_length, Z_length, kidBytes_length]
  omega
theorem nodeText_range (n : S76) (h : Wr n) : ∀ c ∈ nodeText n, 0 ≤ c ∧ c < 256 := by
  have h2 := h.kidsl
  intro c hc
  unfold nodeText at hc
  simp only [List.mem_append, List.mem_cons, List.not_mem_nil, or_false] at hc
  rcases hc with rfl | rfl | hc | hc | hc | rfl | hc | hc | hc | hc | rfl
  · omega
  · unfold flagOf; split <;> omega
  · exact digs_range _ _ c hc
  · exact bytesOf_range _ c hc
  · have := List.eq_of_mem_replicate hc; omega
  · omega
  · exact digs_range _ _ c hc
  · exact digs_range _ _ c hc
  · unfold kidBytes at hc
    obtain ⟨a, _, ha⟩ := List.mem_flatMap.1 hc
    exact digs_range _ _ c ha
  · have := List.eq_of_mem_replicate hc; omega
  · omega
theorem put_fits (n : Int) (w : Nat) (h1 : 1 ≤ w) (h8 : w ≤ 8) (h : n < 256 ^ w) : putSpec n (w : Int) = (strOfNums (digs n w), 0) := by
  unfold putSpec
  rw [if_pos ⟨by omega, by omega, by rw [show ((w : Int)).toNat = w by omega]; exact h⟩, show ((w : Int)).toNat = w by omega]
theorem digs_u8 (n : Int) (w : Nat) : (strOfNums (digs n w)).data.toList = u8s (digs n w) := str_u8s _ (digs_range n w)
theorem digs_one (n : Int) (h0 : 0 ≤ n) (h : n < 256) : digs n 1 = [n] := by
  simp only [digs]
  rw [show n / 256 ^ 0 % 256 = n by rw [show (256 : Int) ^ 0 = 1 from rfl]; omega]
theorem laid_one (k : Nat) (hk : 8 < k) (o w : Nat) (v : Int) (rest : List (Nat × Int × Int)) (L : List UInt8) (h0 : 0 ≤ v) (h1 : 1 ≤ w) (h8 : w ≤ 8) (h : v < 256 ^ w) (h64 : v < 18446744073709551616) (ho : o + w ≤ 48) :
    laidOver k ((o, v, (w : Int)) :: rest) L = laidOver k rest (splice L o (u8s (digs v w))) := by
  simp only [laidOver]
  rw [num_put_f v w h0 h64 k hk, put_fits v w h1 h8 h]
  simp only [Option.bind_some]
  rw [digs_size, if_pos ho, digs_u8]
theorem laid_kids (k : Nat) (hk : 8 < k) (A C : List UInt8) : ∀ (l : List Int) (i : Nat) (B : List UInt8), (∀ a ∈ l, 0 ≤ a ∧ a < 281474976710656) → A.length + B.length = 23 + 6 * i → i + l.length ≤ 4 → ∀ (T : List UInt8), T.length = 6 * l.length →
    laidOver k (kidsFrom i l) (A ++ (B ++ (T ++ C))) = some (A ++ (B ++ (u8s (kidBytes l) ++ C)))
  | [], i, B, _, _, _, T, hT => by
    obtain rfl : T = [] := List.eq_nil_of_length_eq_zero (by simpa using hT)
    rfl
  | a :: l, i, B, ha, hi, hl, T, hT => by
    have ha1 := ha a List.mem_cons_self
    simp only [List.length_cons] at hl hT
    simp only [kidsFrom]
    have hl6 := laid_one k hk (23 + 6 * i) 6 a (kidsFrom (i + 1) l) (A ++ (B ++ (T ++ C))) ha1.1 (by omega) (by omega) (by show a < 256 ^ 6; omega) (by omega) (by omega)
    rw [show ((6 : Nat) : Int) = 6 from rfl] at hl6
    rw [hl6]
    have hT6 : T = T.take 6 ++ T.drop 6 := (List.take_append_drop 6 T).symm
    have hs : splice (A ++ (B ++ (T ++ C))) (23 + 6 * i) (u8s (digs a 6)) = A ++ ((B ++ u8s (digs a 6)) ++ (T.drop 6 ++ C)) := by
      rw [show A ++ (B ++ (T ++ C)) = (A ++ B) ++ (T.take 6 ++ (T.drop 6 ++ C)) by
        conv => lhs; rw [hT6]
        simp only [List.append_assoc]]
      rw [splice_mid (A ++ B) (T.take 6) (T.drop 6 ++ C) (u8s (digs a 6)) _ (by rw [List.length_append]; omega) (by rw [u8s_length, digs_length, List.length_take]; omega)]
      simp only [List.append_assoc]
    rw [hs, laid_kids k hk A C l (i + 1) (B ++ u8s (digs a 6)) (fun b hb => ha b (List.mem_cons_of_mem _ hb)) (by rw [List.length_append, u8s_length, digs_length]; omega) (by omega) (T.drop 6) (by rw [List.length_drop]; omega)]
    rw [show kidBytes (a :: l) = digs a 6 ++ kidBytes l from List.flatMap_cons, u8s_append]
    simp only [List.append_assoc]
theorem u8z (m : Nat) : u8s (Z m) = List.replicate m 0 := by simp [u8s, Z]
theorem write_f (n : S76) (h : Wr n) (k : Nat) (hk : 8 < k) : slot_write.f k n.f0 n.f1 n.f2 n.f3 n.f4 n.f5 = some (u8s (nodeText n)) := by
  have h1 := h.name
  have h2 := h.kidsl
  have ha0 := h.at0
  have hc0 := h.c0
  have hc1 := h.c1
  have hn0 := h.n0
  have hn1 := h.n1
  unfold slot_write.f
  rw [if_pos (by omega), if_pos h2, if_pos ha0]
  have hhead : slotHead n.f1 = [1] ++ ([0] ++ (List.replicate 2 0 ++ (n.f1.data.toList ++ (List.replicate (8 - n.f1.size) 0 ++ ([0] ++ (List.replicate 4 0 ++ (List.replicate 6 0 ++ (List.replicate (6 * n.f2.length) 0 ++ (List.replicate (24 - 6 * n.f2.length) 0 ++ [0]))))))))) := by
    unfold slotHead
    have e : (1 :: List.replicate 47 0 : List UInt8) = ([1] ++ ([0] ++ List.replicate 2 0)) ++ (List.replicate n.f1.size 0 ++ (List.replicate (8 - n.f1.size) 0 ++ ([0] ++ (List.replicate 4 0 ++ (List.replicate 6 0 ++ (List.replicate (6 * n.f2.length) 0 ++ (List.replicate (24 - 6 * n.f2.length) 0 ++ [0]))))))) := by
      have r1 : ([0] : List UInt8) = List.replicate 1 0 := rfl
      rw [r1]
      simp only [List.replicate_append_replicate, List.append_assoc]
      rw [show n.f1.size + (8 - n.f1.size + (1 + (4 + (6 + (6 * n.f2.length + (24 - 6 * n.f2.length + 1)))))) = 44 by omega]
      rfl
    rw [e, splice_mid _ (List.replicate n.f1.size 0) _ n.f1.data.toList 4 rfl (by rw [List.length_replicate, ← Lib.size_eq])]
    simp only [List.append_assoc]
  have hwl : IntKind.u64.wrap (n.f2.length : Int) = (n.f2.length : Int) := u64_small (by omega) (by omega)
  have hwc : IntKind.u64.wrap n.f3 = n.f3 := u64_small (by omega) (by omega)
  have hfl : 0 ≤ flagOf n.f4 ∧ flagOf n.f4 ≤ 1 := by unfold flagOf; split <;> omega
  have hN : n.f1.data.toList.length = n.f1.size := (Lib.size_eq n.f1).symm
  have hf : laidOver k (fieldsOf n.f0 n.f2.length n.f3 n.f4 n.f5) (slotHead n.f1) = some (([1] ++ (u8s [flagOf n.f4] ++ (u8s (digs (n.f0 % 65536) 2) ++ (n.f1.data.toList ++ (List.replicate (8 - n.f1.size) 0 ++ (u8s [(n.f2.length : Int)] ++ (u8s (digs n.f3 4) ++ u8s (digs n.f5 6)))))))) ++ ([] ++ (List.replicate (6 * n.f2.length) 0 ++ (List.replicate (24 - 6 * n.f2.length) 0 ++ [0])))) := by
    unfold fieldsOf
    rw [hwl, hwc, hhead]
    generalize hT : List.replicate (6 * n.f2.length) 0 ++ (List.replicate (24 - 6 * n.f2.length) 0 ++ ([0] : List UInt8)) = T
    have s1 := fun (rest : List (Nat × Int × Int)) (L : List UInt8) => laid_one k hk 1 1 (flagOf n.f4) rest L hfl.1 (by omega) (by omega) (by show flagOf n.f4 < 256 ^ 1; omega) (by omega) (by omega)
    have s2 := fun (rest : List (Nat × Int × Int)) (L : List UInt8) => laid_one k hk 2 2 (n.f0 % 65536) rest L (by omega) (by omega) (by omega) (by show n.f0 % 65536 < 256 ^ 2; omega) (by omega) (by omega)
    have s3 := fun (rest : List (Nat × Int × Int)) (L : List UInt8) => laid_one k hk 12 1 (n.f2.length : Int) rest L (by omega) (by omega) (by omega) (by show (n.f2.length : Int) < 256 ^ 1; omega) (by omega) (by omega)
    have s4 := fun (rest : List (Nat × Int × Int)) (L : List UInt8) => laid_one k hk 13 4 n.f3 rest L hc0 (by omega) (by omega) (by show n.f3 < 256 ^ 4; omega) (by omega) (by omega)
    have s5 := fun (rest : List (Nat × Int × Int)) (L : List UInt8) => laid_one k hk 17 6 n.f5 rest L hn0 (by omega) (by omega) (by show n.f5 < 256 ^ 6; omega) (by omega) (by omega)
    simp only [show ((1 : Nat) : Int) = 1 from rfl, show ((2 : Nat) : Int) = 2 from rfl, show ((4 : Nat) : Int) = 4 from rfl, show ((6 : Nat) : Int) = 6 from rfl] at s1 s2 s3 s4 s5
    rw [show (if n.f4 = true then (1 : Int) else 0) = flagOf n.f4 from rfl, s1, splice_mid [1] [0] _ (u8s (digs (flagOf n.f4) 1)) 1 rfl (by rw [u8s_length, digs_length]; rfl), digs_one _ hfl.1 (by omega)]
    rw [s2]
    rw [show [1] ++ (u8s [flagOf n.f4] ++ (List.replicate 2 0 ++ (n.f1.data.toList ++ (List.replicate (8 - n.f1.size) 0 ++ ([0] ++ (List.replicate 4 0 ++ (List.replicate 6 0 ++ T))))))) = ([1] ++ u8s [flagOf n.f4]) ++ (List.replicate 2 0 ++ (n.f1.data.toList ++ (List.replicate (8 - n.f1.size) 0 ++ ([0] ++ (List.replicate 4 0 ++ (List.replicate 6 0 ++ T)))))) by simp only [List.append_assoc]]
    rw [splice_mid _ (List.replicate 2 0) _ (u8s (digs (n.f0 % 65536) 2)) 2 rfl (by rw [u8s_length, digs_length, List.length_replicate])]
    rw [s3]
    rw [show ([1] ++ u8s [flagOf n.f4]) ++ (u8s (digs (n.f0 % 65536) 2) ++ (n.f1.data.toList ++ (List.replicate (8 - n.f1.size) 0 ++ ([0] ++ (List.replicate 4 0 ++ (List.replicate 6 0 ++ T)))))) = (([1] ++ u8s [flagOf n.f4]) ++ (u8s (digs (n.f0 % 65536) 2) ++ (n.f1.data.toList ++ List.replicate (8 - n.f1.size) 0))) ++ ([0] ++ (List.replicate 4 0 ++ (List.replicate 6 0 ++ T))) by simp only [List.append_assoc]]
    rw [splice_mid _ [0] _ (u8s (digs (n.f2.length : Int) 1)) 12 (by simp only [List.length_append, u8s_length, digs_length, List.length_replicate, List.length_cons, List.length_nil, hN]; omega) (by rw [u8s_length, digs_length]; rfl), digs_one _ (by omega) (by omega)]
    rw [s4]
    rw [show (([1] ++ u8s [flagOf n.f4]) ++ (u8s (digs (n.f0 % 65536) 2) ++ (n.f1.data.toList ++ List.replicate (8 - n.f1.size) 0))) ++ (u8s [(n.f2.length : Int)] ++ (List.replicate 4 0 ++ (List.replicate 6 0 ++ T))) = ((([1] ++ u8s [flagOf n.f4]) ++ (u8s (digs (n.f0 % 65536) 2) ++ (n.f1.data.toList ++ List.replicate (8 - n.f1.size) 0))) ++ u8s [(n.f2.length : Int)]) ++ (List.replicate 4 0 ++ (List.replicate 6 0 ++ T)) by simp only [List.append_assoc]]
    rw [splice_mid _ (List.replicate 4 0) _ (u8s (digs n.f3 4)) 13 (by simp only [List.length_append, u8s_length, digs_length, List.length_replicate, List.length_cons, List.length_nil, hN]; omega) (by rw [u8s_length, digs_length, List.length_replicate])]
    rw [s5]
    rw [show ((([1] ++ u8s [flagOf n.f4]) ++ (u8s (digs (n.f0 % 65536) 2) ++ (n.f1.data.toList ++ List.replicate (8 - n.f1.size) 0))) ++ u8s [(n.f2.length : Int)]) ++ (u8s (digs n.f3 4) ++ (List.replicate 6 0 ++ T)) = (((([1] ++ u8s [flagOf n.f4]) ++ (u8s (digs (n.f0 % 65536) 2) ++ (n.f1.data.toList ++ List.replicate (8 - n.f1.size) 0))) ++ u8s [(n.f2.length : Int)]) ++ u8s (digs n.f3 4)) ++ (List.replicate 6 0 ++ T) by simp only [List.append_assoc]]
    rw [splice_mid _ (List.replicate 6 0) _ (u8s (digs n.f5 6)) 17 (by simp only [List.length_append, u8s_length, digs_length, List.length_replicate, List.length_cons, List.length_nil, hN]; omega) (by rw [u8s_length, digs_length, List.length_replicate])]
    simp only [laidOver, List.append_assoc, List.nil_append]
  rw [hf]
  simp only [Option.bind_some]
  rw [laid_kids k hk _ _ n.f2 0 [] h.kids (by simp only [List.length_append, u8s_length, digs_length, List.length_replicate, List.length_cons, List.length_nil, hN]; omega) (by omega) _ List.length_replicate]
  unfold nodeText
  simp only [u8s_append, u8s_bytes, u8z, List.append_assoc, List.nil_append]
  rfl
/-- Why a list of nodes may not stand behind the first i of it, or 0. -/
def scan (l : List S76) : Nat → Nat → Int
  | 0, _ => 0
  | d + 1, i => if mayOf (rd_T76 l (i : Int)) = 0 then (if twice l (rd_T76 l (i : Int)).f0 i = true then 9 else scan l d (i + 1)) else mayOf (rd_T76 l (i : Int))
theorem rd76_drop (l : List S76) (i : Nat) (h : i < l.length) : l.drop i = rd_T76 l (i : Int) :: l.drop (i + 1) := by
  rw [List.drop_eq_getElem_cons h]
  unfold rd_T76
  rw [show ((i : Int)).toNat = i by omega, List.getD_eq_getElem?_getD, List.getElem?_eq_getElem h]
  rfl
theorem rd76_mem (l : List S76) (i : Nat) (h : i < l.length) : rd_T76 l (i : Int) ∈ l := by
  have : rd_T76 l (i : Int) ∈ l.drop i := by rw [rd76_drop l i h]; exact List.mem_cons_self
  exact List.mem_of_mem_drop this
theorem kidsHash_addr : ∀ (l : List Int) (x : ByteArray), (kidsHash x l).2 = 0 → ∀ a ∈ l, isAddr a = true
  | [], _, _, a, ha => by cases ha
  | b :: l, x, h, a, ha => by
    simp only [kidsHash] at h
    by_cases hb : isAddr b = true
    · rw [if_pos hb] at h
      rcases List.mem_cons.1 ha with rfl | ha
      · exact hb
      · exact kidsHash_addr l _ h a ha
    · rw [if_neg hb] at h
      exact absurd h (by decide)
theorem wr_of_may {n : S76} (ok : NodeOk n) (h : mayOf n = 0) : Wr n := by
  unfold mayOf at h
  by_cases h0 : (hashSpec n.f1 n.f2).2 = 0
  · rw [if_pos h0] at h
    by_cases h1 : n.f3 < 0 ∨ n.f3 > 4294967295 ∨ (n.f5 ≠ 0 ∧ isAddr n.f5 = false)
    · rw [if_pos h1] at h; exact absurd h (by decide)
    · unfold hashSpec at h0
      by_cases k0 : kindSpec n.f1 = 0
      · rw [if_pos k0] at h0; exact absurd h0 (by decide)
      rw [if_neg k0] at h0
      by_cases k4 : n.f2.length > 4
      · rw [if_pos k4] at h0; exact absurd h0 (by decide)
      rw [if_neg k4] at h0
      by_cases k2 : kindSpec n.f1 = 2 ∧ n.f2.length > 0
      · rw [if_pos k2] at h0; exact absurd h0 (by decide)
      rw [if_neg k2] at h0
      have hka := kidsHash_addr _ _ h0
      refine ⟨(kind_size k0).2, by omega, fun a ha => ⟨(ok.kids a ha).1, isAddr_lt (hka a ha)⟩, ok.at0, by omega, by omega, ok.n0, ?_⟩
      by_cases h5 : n.f5 = 0
      · omega
      · have ha : isAddr n.f5 = true := by
          cases hb : isAddr n.f5 with
          | true => rfl
          | false => exact absurd (Or.inr (Or.inr ⟨h5, hb⟩)) h1
        exact isAddr_lt ha
  · rw [if_neg h0] at h; exact absurd h h0
def nodesText (l : List S76) : List Int := l.flatMap nodeText
/-- The page of a bucket that may be. -/
def pageText (d x : Int) (l : List S76) : List Int := [3] ++ ([d] ++ (digs x 2 ++ (Z 12 ++ (nodesText l ++ Z (240 - 48 * l.length)))))
def packSpec (d x : Int) (l : List S76) : ByteArray × Int :=
  if d < 0 ∨ d > 5 ∨ x < 0 ∨ x > 2047 then (⟨#[]⟩, 1) else if l.length > 5 then (⟨#[]⟩, 10) else if scan l l.length 0 = 0 then (strOfNums (pageText d x l), 0) else (⟨#[]⟩, scan l l.length 0)
theorem packFrom_f (l : List S76) (hok : ∀ n ∈ l, NodeOk n) (hl : l.length ≤ 5) (k : Nat) (hk : ∀ n ∈ l, n.f1.size + 200 < k) (d : Nat) : ∀ (i : Nat) (A : List UInt8), i + d = l.length → A.length = 16 + 48 * i →
    packFrom k l d i (A ++ List.replicate (240 - 48 * i) 0) = some (if scan l d i = 0 then ((⟨(A ++ (u8s (nodesText (l.drop i)) ++ List.replicate (240 - 48 * l.length) 0)).toArray⟩ : ByteArray), 0) else (⟨#[]⟩, scan l d i)) := by
  induction d with
  | zero =>
    intro i A hi hA
    obtain rfl : i = l.length := by omega
    simp only [packFrom, scan, if_true, List.drop_length]
    rfl
  | succ d ih =>
    intro i A hi hA
    have hlt : i < l.length := by omega
    have hm := rd76_mem l i hlt
    have ok := hok _ hm
    have hkn := hk _ hm
    simp only [packFrom, scan]
    rw [may_f _ ok k (by omega)]
    simp only [Option.bind_some]
    by_cases h0 : mayOf (rd_T76 l (i : Int)) = 0
    · simp only [h0, if_true]
      have hw := wr_of_may ok h0
      by_cases ht : twice l (rd_T76 l (i : Int)).f0 i = true
      · simp only [ht, if_true]
        rfl
      · simp only [ht, if_false, Bool.false_eq_true]
        rw [write_f _ hw k (by omega)]
        simp only [Option.bind_some]
        have hT := nodeText_length _ hw
        have hs : splice (A ++ List.replicate (240 - 48 * i) 0) (16 + 48 * i) (u8s (nodeText (rd_T76 l (i : Int)))) = (A ++ u8s (nodeText (rd_T76 l (i : Int)))) ++ List.replicate (240 - 48 * (i + 1)) 0 := by
          rw [show List.replicate (240 - 48 * i) (0 : UInt8) = List.replicate 48 0 ++ List.replicate (240 - 48 * (i + 1)) 0 by rw [List.replicate_append_replicate]; congr 1; omega]
          rw [splice_mid A (List.replicate 48 0) _ _ _ hA.symm (by rw [u8s_length, hT, List.length_replicate]), List.append_assoc]
        rw [hs, ih (i + 1) _ (by omega) (by rw [List.length_append, u8s_length, hT]; omega), rd76_drop l i hlt]
        rw [show nodesText (rd_T76 l (i : Int) :: l.drop (i + 1)) = nodeText (rd_T76 l (i : Int)) ++ nodesText (l.drop (i + 1)) from List.flatMap_cons, u8s_append]
        simp only [List.append_assoc]
    · simp only [h0, if_false]
theorem str_of_u8s (l : List Int) (h : ∀ c ∈ l, 0 ≤ c ∧ c < 256) : (⟨(u8s l).toArray⟩ : ByteArray) = strOfNums l := by
  refine bytesOf_inj ?_
  rw [bytes_nums l h]
  unfold bytesOf u8s
  simp only [List.map_map]
  refine (List.map_congr_left (fun c hc => ?_)).trans (List.map_id _)
  have := h c hc
  simp
  omega
theorem pack_range (d x : Int) (hd : 0 ≤ d ∧ d ≤ 5) (l : List S76) (hw : ∀ n ∈ l, Wr n) : ∀ c ∈ pageText d x l, 0 ≤ c ∧ c < 256 := by
  intro c hc
  unfold pageText at hc
  simp only [List.mem_append, List.mem_cons, List.not_mem_nil, or_false] at hc
  rcases hc with rfl | rfl | hc | hc | hc | hc
  · omega
  · omega
  · exact digs_range _ _ c hc
  · have := List.eq_of_mem_replicate hc; omega
  · unfold nodesText at hc
    obtain ⟨n, hn, ha⟩ := List.mem_flatMap.1 hc
    exact nodeText_range n (hw n hn) c ha
  · have := List.eq_of_mem_replicate hc; omega
theorem scan_may (l : List S76) (d : Nat) : ∀ (i : Nat), i + d = l.length → scan l d i = 0 → ∀ n ∈ l.drop i, mayOf n = 0 := by
  induction d with
  | zero => intro i hi _ n hn; rw [List.drop_eq_nil_of_le (by omega)] at hn; cases hn
  | succ d ih =>
    intro i hi hs n hn
    simp only [scan] at hs
    by_cases h0 : mayOf (rd_T76 l (i : Int)) = 0
    · rw [if_pos h0] at hs
      by_cases ht : twice l (rd_T76 l (i : Int)).f0 i = true
      · rw [if_pos ht] at hs; exact absurd hs (by decide)
      · rw [if_neg ht] at hs
        rw [rd76_drop l i (by omega)] at hn
        rcases List.mem_cons.1 hn with rfl | hn
        · exact h0
        · exact ih (i + 1) (by omega) hs n hn
    · rw [if_neg h0] at hs; exact absurd hs h0
theorem pack_f (d x : Int) (l : List S76) (hok : ∀ n ∈ l, NodeOk n) (k : Nat) (hk8 : 8 < k) (hk : ∀ n ∈ l, n.f1.size + 200 < k) : slot_Pack.f k d x l = some (packSpec d x l) := by
  unfold slot_Pack.f packSpec
  by_cases h1 : d < 0
  · rw [if_pos h1, if_pos (Or.inl h1)]
  by_cases h2 : d > 5
  · rw [if_neg h1, if_pos h2, if_pos (Or.inr (Or.inl h2))]
  by_cases h3 : x < 0
  · rw [if_neg h1, if_neg h2, if_pos h3, if_pos (Or.inr (Or.inr (Or.inl h3)))]
  by_cases h4 : x > 2047
  · rw [if_neg h1, if_neg h2, if_neg h3, if_pos h4, if_pos (Or.inr (Or.inr (Or.inr h4)))]
  rw [if_neg h1, if_neg h2, if_neg h3, if_neg h4, if_neg (show ¬ (d < 0 ∨ d > 5 ∨ x < 0 ∨ x > 2047) by omega)]
  by_cases h5 : l.length > 5
  · rw [if_pos h5, if_pos h5]
  rw [if_neg h5, if_neg h5, u64_small (i := x) (by omega) (by omega)]
  have p := num_put_f x 2 (by omega) (by omega) k hk8
  rw [show (2 : Int) = ((2 : Nat) : Int) from rfl, put_fits x 2 (by omega) (by omega) (by show x < 256 ^ 2; omega)] at p
  rw [show (2 : Int) = ((2 : Nat) : Int) from rfl, p]
  simp only [Option.bind_some]
  rw [digs_size, if_pos (by omega)]
  have hh : packHead d (strOfNums (digs x 2)) = u8s ([3] ++ ([d] ++ (digs x 2 ++ Z 12))) ++ List.replicate (240 - 48 * 0) 0 := by
    unfold packHead
    have e1 : (strOfNums [3, d % 256] ++ strOfNums (digs x 2)).data.toList = u8s ([3] ++ ([d] ++ digs x 2)) := by
      rw [← u8s_bytes, bytesOf_append, digs_bytes, show d % 256 = d by omega, bytes_nums [3, d] (by intro c hc; simp at hc; omega)]
      rfl
    rw [e1, show List.replicate 256 (0 : UInt8) = [] ++ (List.replicate 4 0 ++ List.replicate 252 0) by rw [List.nil_append, List.replicate_append_replicate],
      splice_mid [] (List.replicate 4 0) _ _ 0 rfl (by rw [u8s_length]; simp [digs_length]), List.nil_append]
    simp only [u8s_append, u8z, List.append_assoc, List.replicate_append_replicate]
  rw [hh, packFrom_f l hok (by omega) k hk l.length 0 _ (by omega) (by rw [u8s_length]; simp [digs_length, Z_length])]
  by_cases hs : scan l l.length 0 = 0
  · rw [if_pos hs, if_pos hs]
    have hw : ∀ n ∈ l, Wr n := fun n hn => wr_of_may (hok n hn) (scan_may l l.length 0 (by omega) hs n (by simpa using hn))
    congr 2
    rw [← str_of_u8s _ (pack_range d x (by omega) l hw)]
    unfold pageText
    simp only [u8s_append, u8z, List.append_assoc, List.drop_zero]
  · rw [if_neg hs, if_neg hs]
theorem num_trim_l0 (d : Nat) : ∀ (k : Nat) (s : ByteArray), s.size = d → (s.size : Int) ≤ 140737488351232 → d < k → num_Trim.l0 k s = some (ztrim s) := by
  induction d with
  | zero =>
    intro k s hd hs hk
    obtain ⟨k, rfl⟩ : ∃ m, k = m + 1 := ⟨k - 1, by omega⟩
    simp only [num_Trim.l0]
    have e : s.toList = [] := by
      rw [ByteArray.toList_eq]
      apply List.eq_nil_of_length_eq_zero
      rw [Array.length_toList]
      exact hd
    rw [if_pos e, ztrim_empty s hd]
  | succ d ih =>
    intro k s hd hs hk
    obtain ⟨k, rfl⟩ : ∃ m, k = m + 1 := ⟨k - 1, by omega⟩
    have e : ¬ s.toList = [] := by
      rw [ByteArray.toList_eq]
      intro e
      have := congrArg List.length e
      rw [Array.length_toList] at this
      have hz : s.data.size = s.size := rfl
      rw [hz, hd] at this
      simp at this
    simp only [num_Trim.l0]
    rw [if_neg e, wrap64_small (by omega) (by omega), if_pos (by omega), if_pos (by omega), show (s.size : Int) - 1 = (d : Int) by omega]
    by_cases h0 : bt s (d : Int) = 0
    · rw [if_pos h0, if_pos (by omega), show ((d : Int)).toNat = d by omega, ztrim_zero s d hd h0]
      have hx : (s.extract 0 d).size = d := by simp; omega
      exact ih k _ hx (by rw [hx]; omega) (by omega)
    · rw [if_neg h0, ztrim_other s d hd h0]
theorem num_trim_f (s : ByteArray) (hs : (s.size : Int) ≤ 140737488351232) (k : Nat) (hk : s.size < k) : num_Trim.f k s = some (ztrim s) := by
  unfold num_Trim.f
  exact num_trim_l0 s.size k s rfl hs hk
theorem get_mid (s : ByteArray) (A C : List Int) (v : Int) (w o : Nat) (hb : bytesOf s = A ++ (digs v w ++ C)) (ho : o = A.length) (h1 : 1 ≤ w) (h8 : w ≤ 8) (h0 : 0 ≤ v) (hv : v < 256 ^ w) : getSpec s (o : Int) (w : Int) = (v, 0) := by
  have hl := congrArg List.length hb
  rw [bytesOf_length, List.length_append, List.length_append, digs_length] at hl
  unfold getSpec
  rw [if_neg (by omega), if_neg (by omega), show ((o : Int)).toNat = o by omega, show ((w : Int)).toNat = w by omega, hb, ho, List.drop_left', List.take_left']
  · rw [val_digs v w h0 hv]
  · rw [digs_length]
  · rfl
theorem name_trim (nm : ByteArray) (h : ¬ kindSpec nm = 0) (m : Nat) : ztrim (nm ++ zeros m) = nm := by
  rw [ztrim_pad]
  have hz := kind_size h
  refine ztrim_other nm (nm.size - 1) (by omega) ?_
  unfold kindSpec at h
  rw [if_neg (by omega)] at h
  by_cases ha : (bytesOf nm).all (okSign (begins (bt nm 0))) = true
  · have hm : bt nm ((nm.size - 1 : Nat) : Int) ∈ bytesOf nm := by
      have hs := bytes_split nm (nm.size - 1) (by omega)
      rw [hs]
      simp
    have ho := List.all_eq_true.1 ha _ hm
    intro h0
    rw [h0] at ho
    revert ho
    unfold okSign goesOn
    simp
  · rw [if_neg ha] at h
    exact absurd rfl h
theorem num_get_at (s : ByteArray) (hs : (s.size : Int) ≤ 9223372036854775807) (k : Nat) (hk : 9 < k) (A C : List Int) (v : Int) (w o : Nat) (hb : bytesOf s = A ++ (digs v w ++ C)) (ho : o = A.length) (h1 : 1 ≤ w) (h8 : w ≤ 8) (h0 : 0 ≤ v) (hv : v < 256 ^ w) :
    num_Get.f k s (o : Int) (w : Int) = some (v, 0) := by
  rw [num_get_f s hs _ _ k hk, get_mid s A C v w o hb ho h1 h8 h0 hv]
theorem kids_read (s : ByteArray) (hs : s.size = 48) (k : Nat) (hk : 9 < k) (C : List Int) : ∀ (l : List Int) (i : Nat) (A : List Int), (∀ a ∈ l, 0 ≤ a ∧ a < 281474976710656) → bytesOf s = A ++ (kidBytes l ++ C) → A.length = 23 + 6 * i → kidsRead k s l.length i = some l
  | [], i, A, _, _, _ => rfl
  | a :: l, i, A, ha, hb, hA => by
    have h1 := ha a List.mem_cons_self
    rw [show kidBytes (a :: l) = digs a 6 ++ kidBytes l from List.flatMap_cons, List.append_assoc] at hb
    have hg := num_get_at s (by omega) k hk A (kidBytes l ++ C) a 6 (23 + 6 * i) hb hA.symm (by omega) (by omega) h1.1 (by show a < 256 ^ 6; omega)
    simp only [List.length_cons, kidsRead]
    rw [show (23 : Int) + 6 * (i : Int) = ((23 + 6 * i : Nat) : Int) by omega, show (6 : Int) = ((6 : Nat) : Int) from rfl, hg]
    simp only [Option.bind_some]
    rw [kids_read s hs k hk C l (i + 1) (A ++ digs a 6) (fun b hb => ha b (List.mem_cons_of_mem _ hb)) (by rw [hb, List.append_assoc]) (by rw [List.length_append, digs_length]; omega)]
    rfl
theorem slot_read_f (n : S76) (ok : NodeOk n) (h0 : mayOf n = 0) (s : ByteArray) (hb : bytesOf s = nodeText n) (k : Nat) (hk : 200 < k) : slot_read.f k s = some (n.f0, n.f1, n.f2, n.f3, n.f4, n.f5) := by
  have h := wr_of_may ok h0
  have h1 := h.name
  have h2 := h.kidsl
  have ha0 := h.at0
  have hc0 := h.c0
  have hc1 := h.c1
  have hn0 := h.n0
  have hn1 := h.n1
  have hfl : 0 ≤ flagOf n.f4 ∧ flagOf n.f4 ≤ 1 := by unfold flagOf; split <;> omega
  have hs : s.size = 48 := by rw [← bytesOf_length, hb, nodeText_length n h]
  have hm := h0
  unfold mayOf at hm
  have e0 : (hashSpec n.f1 n.f2).2 = 0 := by
    by_cases e : (hashSpec n.f1 n.f2).2 = 0
    · exact e
    · rw [if_neg e] at hm; exact absurd hm e
  rw [if_pos e0] at hm
  have e1 : partsB n.f0 (hashSpec n.f1 n.f2).1 = 0 := by
    by_cases e : n.f3 < 0 ∨ n.f3 > 4294967295 ∨ (n.f5 ≠ 0 ∧ isAddr n.f5 = false)
    · rw [if_pos e] at hm; exact absurd hm (by decide)
    · rw [if_neg e] at hm; exact hm
  have e2 : n.f0 / 65536 = (hashSpec n.f1 n.f2).1 := by
    unfold partsB at e1
    by_cases ea : isAddr n.f0 = true
    · rw [if_pos ea] at e1
      by_cases eb : n.f0 / 65536 = (hashSpec n.f1 n.f2).1
      · exact eb
      · rw [if_neg eb] at e1; exact absurd e1 (by decide)
    · rw [if_neg ea] at e1; exact absurd e1 (by decide)
  have ea : isAddr n.f0 = true := by
    unfold partsB at e1
    by_cases ea : isAddr n.f0 = true
    · exact ea
    · rw [if_neg ea] at e1; exact absurd e1 (by decide)
  have hk0 : ¬ kindSpec n.f1 = 0 := by
    intro e
    unfold hashSpec at e0
    rw [if_pos e] at e0
    exact absurd e0 (by decide)
  have b1 : bytesOf s = [1] ++ (digs (flagOf n.f4) 1 ++ (digs (n.f0 % 65536) 2 ++ (bytesOf n.f1 ++ (Z (8 - n.f1.size) ++ ([(n.f2.length : Int)] ++ (digs n.f3 4 ++ (digs n.f5 6 ++ (kidBytes n.f2 ++ (Z (24 - 6 * n.f2.length) ++ [0]))))))))) := by
    rw [hb, digs_one _ hfl.1 (by omega)]; rfl
  have g0 := num_get_at s (by omega) k (by omega) [1] _ (flagOf n.f4) 1 1 b1 rfl (by omega) (by omega) hfl.1 (by show flagOf n.f4 < 256 ^ 1; omega)
  have g1 := num_get_at s (by omega) k (by omega) ([1] ++ [flagOf n.f4]) _ (n.f0 % 65536) 2 2 (by rw [hb]; unfold nodeText; simp only [List.append_assoc]; rfl) rfl (by omega) (by omega) (by omega) (by show n.f0 % 65536 < 256 ^ 2; omega)
  have hT : bytesOf s = ([1] ++ ([flagOf n.f4] ++ (digs (n.f0 % 65536) 2 ++ (bytesOf n.f1 ++ Z (8 - n.f1.size))))) ++ ([(n.f2.length : Int)] ++ (digs n.f3 4 ++ (digs n.f5 6 ++ (kidBytes n.f2 ++ (Z (24 - 6 * n.f2.length) ++ [0]))))) := by
    rw [hb]; unfold nodeText; simp only [List.append_assoc]
  have hA : ([1] ++ ([flagOf n.f4] ++ (digs (n.f0 % 65536) 2 ++ (bytesOf n.f1 ++ Z (8 - n.f1.size))))).length = 12 := by
    simp only [List.length_append, List.length_cons, List.length_nil, digs_length, bytesOf_length, Z_length]; omega
  generalize hAA : ([1] ++ ([flagOf n.f4] ++ (digs (n.f0 % 65536) 2 ++ (bytesOf n.f1 ++ Z (8 - n.f1.size))))) = A at hT hA
  have g2 := num_get_at s (by omega) k (by omega) A _ (n.f2.length : Int) 1 12 (by rw [hT, digs_one _ (by omega) (by omega)]) hA.symm (by omega) (by omega) (by omega) (by show (n.f2.length : Int) < 256 ^ 1; omega)
  have g3 := num_get_at s (by omega) k (by omega) (A ++ [(n.f2.length : Int)]) _ n.f3 4 13 (by rw [hT, List.append_assoc]) (by rw [List.length_append, hA]; rfl) (by omega) (by omega) hc0 (by show n.f3 < 256 ^ 4; omega)
  have g4 := num_get_at s (by omega) k (by omega) (A ++ [(n.f2.length : Int)] ++ digs n.f3 4) _ n.f5 6 17 (by rw [hT, List.append_assoc, List.append_assoc]) (by rw [List.length_append, List.length_append, hA, digs_length]; rfl) (by omega) (by omega) hn0 (by show n.f5 < 256 ^ 6; omega)
  have gk := kids_read s hs k (by omega) (Z (24 - 6 * n.f2.length) ++ [0]) n.f2 0 (A ++ [(n.f2.length : Int)] ++ digs n.f3 4 ++ digs n.f5 6) h.kids (by rw [hT]; simp only [List.append_assoc]) (by rw [List.length_append, List.length_append, List.length_append, hA, digs_length, digs_length]; rfl)
  have gn : s.extract 4 12 = n.f1 ++ zeros (8 - n.f1.size) := by
    refine bytesOf_inj ?_
    rw [bytes_extract, bytesOf_append, zeros_bytes, hT, List.take_left' hA, ← hAA,
      show ([1] ++ ([flagOf n.f4] ++ (digs (n.f0 % 65536) 2 ++ (bytesOf n.f1 ++ Z (8 - n.f1.size)))) : List Int) = ([1] ++ [flagOf n.f4] ++ digs (n.f0 % 65536) 2) ++ (bytesOf n.f1 ++ Z (8 - n.f1.size)) by simp only [List.append_assoc],
      List.drop_left' (by simp only [List.length_append, digs_length]; rfl)]
    rfl
  have gt : num_Trim.f k (s.extract 4 12) = some n.f1 := by
    rw [gn, num_trim_f _ (by rw [ByteArray.size_append, zeros_size]; omega) k (by rw [ByteArray.size_append, zeros_size]; omega), name_trim _ hk0]
  have gh := slot_hash_f n.f1 (by omega) n.f2 ok.kids k (by omega)
  simp only [show ((1 : Nat) : Int) = 1 from rfl, show ((2 : Nat) : Int) = 2 from rfl, show ((4 : Nat) : Int) = 4 from rfl, show ((6 : Nat) : Int) = 6 from rfl, show ((12 : Nat) : Int) = 12 from rfl, show ((13 : Nat) : Int) = 13 from rfl, show ((17 : Nat) : Int) = 17 from rfl] at g0 g1 g2 g3 g4
  unfold slot_read.f
  rw [if_pos hs, gt]
  simp only [Option.bind_some]
  rw [g0]
  simp only [Option.bind_some]
  rw [g1]
  simp only [Option.bind_some]
  rw [g2]
  simp only [Option.bind_some]
  rw [g3]
  simp only [Option.bind_some]
  rw [g4]
  simp only [Option.bind_some]
  rw [if_pos (by omega), show kidsNo (n.f2.length : Int) = n.f2.length by unfold kidsNo; omega, gk]
  simp only [Option.bind_some]
  rw [gh]
  simp only [Option.bind_some]
  have hat : readAt (hashSpec n.f1 n.f2) (n.f0 % 65536) = n.f0 := by
    have hlt := isAddr_lt ea
    unfold readAt
    rw [if_pos e0, ← e2, u64_small (i := n.f0 / 65536) (by omega) (by omega), u64_small (i := n.f0 / 65536 * 65536) (by omega) (by omega), u64_small (by omega) (by omega)]
    omega
  have hfb : (flagOf n.f4 != 0) = n.f4 := by unfold flagOf; cases n.f4 <;> rfl
  rw [hat, wrap64_small (by omega) (by omega), hfb]
theorem u64_in (x : Int) : 0 ≤ IntKind.u64.wrap x ∧ IntKind.u64.wrap x < 18446744073709551616 := by
  have h : IntKind.u64.wrap x = x % 18446744073709551616 := rfl
  omega
theorem wrap64_in (x : Int) : -9223372036854775808 ≤ wrap64 x ∧ wrap64 x ≤ 9223372036854775807 := by
  unfold wrap64
  omega
theorem pow_le8 (i : Nat) (h : i ≤ 8) : (256 : Int) ^ i ≤ 18446744073709551616 := by
  have : i = 0 ∨ i = 1 ∨ i = 2 ∨ i = 3 ∨ i = 4 ∨ i = 5 ∨ i = 6 ∨ i = 7 ∨ i = 8 := by omega
  rcases this with rfl | rfl | rfl | rfl | rfl | rfl | rfl | rfl | rfl <;> decide
theorem getSpec_in (s : ByteArray) (o w : Int) : 0 ≤ (getSpec s o w).1 ∧ (getSpec s o w).1 < 18446744073709551616 := by
  unfold getSpec
  split
  · exact ⟨by decide, by decide⟩
  · split
    · exact ⟨by decide, by decide⟩
    · have h := valFrom_lt (((bytesOf s).drop o.toNat).take w.toNat) 0 0 (by omega) (by decide) (fun c hc => bytesOf_range s c (List.mem_of_mem_drop (List.mem_of_mem_take hc)))
      have hp := pow_le8 (0 + (((bytesOf s).drop o.toNat).take w.toNat).length) (by rw [List.length_take]; omega)
      exact ⟨h.1, Int.lt_of_lt_of_le h.2 hp⟩
theorem kidsRead_some (s : ByteArray) (hs : (s.size : Int) ≤ 9223372036854775807) (k : Nat) (hk : 9 < k) : ∀ (m i : Nat), ∃ l, kidsRead k s m i = some l ∧ l.length = m ∧ Wf64 l
  | 0, i => ⟨[], rfl, rfl, fun a h => by cases h⟩
  | m + 1, i => by
    obtain ⟨l, h1, h2, h3⟩ := kidsRead_some s hs k hk m (i + 1)
    refine ⟨(getSpec s (23 + 6 * (i : Int)) 6).1 :: l, ?_, by simp [h2], ?_⟩
    · simp only [kidsRead]
      rw [num_get_f s hs _ _ k hk]
      simp only [Option.bind_some]
      rw [h1]
      rfl
    · intro a ha
      rcases List.mem_cons.1 ha with rfl | ha
      · exact getSpec_in _ _ _
      · exact h3 a ha
theorem ztrim_size (s : ByteArray) : (ztrim s).size ≤ s.size := by
  unfold ztrim
  rw [ByteArray.size_extract]
  omega
theorem readAt_in (h : Int × Int) (v : Int) (hv : 0 ≤ v ∧ v < 18446744073709551616) : 0 ≤ readAt h v ∧ readAt h v < 18446744073709551616 := by
  unfold readAt
  split
  · exact u64_in _
  · exact hv
def Fine (n : S76) : Prop := NodeOk n ∧ n.f1.size ≤ 8
theorem read_some (s : ByteArray) (hs : s.size = 48) (k : Nat) (hk : 200 < k) : ∃ n : S76, slot_read.f k s = some (n.f0, n.f1, n.f2, n.f3, n.f4, n.f5) ∧ Fine n := by
  have e8 : (s.extract 4 12).size = 8 := by rw [ByteArray.size_extract]; omega
  have hz : (ztrim (s.extract 4 12)).size ≤ 8 := by have := ztrim_size (s.extract 4 12); omega
  have g0 := getSpec_in s 2 2
  have g2 := getSpec_in s 12 1
  obtain ⟨l, l1, l2, l3⟩ := kidsRead_some s (by omega) k (by omega) (kidsNo (getSpec s 12 1).1) 0
  have l4 : l.length ≤ 4 := by rw [l2]; unfold kidsNo; omega
  have hra := readAt_in (hashSpec (ztrim (s.extract 4 12)) l) (getSpec s 2 2).1 g0
  have hz2 : (ztrim (s.extract 4 12)).size ≤ 140737488351232 := by omega
  have hl2 : l.length ≤ maxLen := Nat.le_trans l4 (by decide)
  have hw := wrap64_in (getSpec s 13 4).1
  have h17 := getSpec_in s 17 6
  generalize ha0 : readAt (hashSpec (ztrim (s.extract 4 12)) l) (getSpec s 2 2).1 = a0 at hra
  generalize ha3 : wrap64 (getSpec s 13 4).1 = a3 at hw
  generalize ha4 : ((getSpec s 1 1).1 != 0) = a4
  generalize ha5 : (getSpec s 17 6).1 = a5 at h17
  generalize hnm : ztrim (s.extract 4 12) = nm at *
  have hf : slot_read.f k s = some (a0, nm, l, a3, a4, a5) := by
    unfold slot_read.f
    rw [if_pos hs, num_trim_f _ (by omega) k (by omega), hnm]
    simp only [Option.bind_some]
    rw [num_get_f s (by omega) 1 1 k (by omega), num_get_f s (by omega) 2 2 k (by omega), num_get_f s (by omega) 12 1 k (by omega), num_get_f s (by omega) 13 4 k (by omega), num_get_f s (by omega) 17 6 k (by omega)]
    simp only [Option.bind_some]
    rw [if_pos g2.1, l1]
    simp only [Option.bind_some]
    rw [slot_hash_f _ (by omega) l l3 k (by omega)]
    simp only [Option.bind_some]
    rw [ha0, ha3, ha4, ha5]
  exact ⟨⟨a0, nm, l, a3, a4, a5⟩, hf, ⟨hra.1, hra.2, hz2, l3, hl2, hw.1, hw.2, h17.1, h17.2⟩, hz⟩
/-- What a reading tells: a bucket that packs to the text, or nothing. -/
def Told (s : ByteArray) (d x : Int) (out : Int × Int × List S76 × Int) : Prop := (∃ l, out = (d, x, l, 0) ∧ (∀ n ∈ l, Fine n) ∧ l.length ≤ 5 ∧ packSpec d x l = (s, 0)) ∨ out = (0, 0, [], 3)
theorem toList_iff (a b : ByteArray) : a.toList = b.toList ↔ a = b := by
  constructor
  · intro h
    rw [Go.ByteArray.toList_eq, Go.ByteArray.toList_eq] at h
    exact ByteArray.ext (Array.ext' h)
  · intro h; rw [h]
theorem told_end (s : ByteArray) (d x : Int) (l : List S76) (hl : ∀ n ∈ l, Fine n) (h5 : l.length ≤ 5) : ∃ out, (if (packSpec d x l).2 = 0 then (if (packSpec d x l).1.toList = s.toList then some (d, x, l, 0) else some (0, 0, ([] : List S76), 3)) else some (0, 0, ([] : List S76), 3)) = some out ∧ Told s d x out := by
  by_cases h0 : (packSpec d x l).2 = 0
  · rw [if_pos h0]
    by_cases h1 : (packSpec d x l).1.toList = s.toList
    · rw [if_pos h1]
      exact ⟨_, rfl, Or.inl ⟨l, rfl, hl, h5, Prod.ext ((toList_iff _ _).1 h1) h0⟩⟩
    · rw [if_neg h1]
      exact ⟨_, rfl, Or.inr rfl⟩
  · rw [if_neg h0]
    exact ⟨_, rfl, Or.inr rfl⟩
theorem unpack_l0 (s : ByteArray) (hs : s.size = 256) (d x : Int) : ∀ (r k : Nat) (l : List S76), l.length + r = 5 → (∀ n ∈ l, Fine n) → 300 + r < k → ∃ out, slot_Unpack.l0 k s (16 + 48 * (l.length : Int)) d x l = some out ∧ Told s d x out
  | r, 0, l, _, _, hk => by omega
  | r, k + 1, l, hr, hl, hk => by
    have hend : ∃ out, ((slot_Pack.f k d x l).bind fun bt150 => (if bt150.2 = 0 then (if bt150.1.toList = s.toList then (some (d, x, l, 0)) else (some (0, 0, ([] : List (S76)), 3))) else (some (0, 0, ([] : List (S76)), 3)))) = some out ∧ Told s d x out := by
      rw [pack_f d x l (fun n h => (hl n h).1) k (by omega) (fun n h => by have := (hl n h).2; omega)]
      exact told_end s d x l hl (by omega)
    simp only [slot_Unpack.l0]
    by_cases h1 : 16 + 48 * (l.length : Int) < 256
    · rw [if_pos h1, if_pos (by omega), if_pos (by omega)]
      by_cases h2 : bt s (16 + 48 * (l.length : Int)) = 1
      · obtain ⟨r, rfl⟩ : ∃ m, r = m + 1 := ⟨r - 1, by omega⟩
        rw [if_pos h2, wrap64_small (by omega) (by omega), if_pos (by omega), if_pos (by omega)]
        obtain ⟨n, n1, n2⟩ := read_some (s.extract (16 + 48 * (l.length : Int)).toNat (16 + 48 * (l.length : Int) + 48).toNat) (by rw [ByteArray.size_extract]; omega) k (by omega)
        rw [n1]
        simp only [Option.bind_some]
        rw [if_pos (by omega), show (16 : Int) + 48 * (l.length : Int) + 48 = 16 + 48 * ((l ++ [n]).length : Int) by rw [List.length_append]; simp; omega]
        exact unpack_l0 s hs d x r k (l ++ [n]) (by rw [List.length_append]; simp; omega) (fun m hm => by
          rcases List.mem_append.1 hm with h | h
          · exact hl m h
          · rw [List.mem_singleton.1 h]; exact n2) (by omega)
      · rw [if_neg h2]
        exact hend
    · rw [if_neg h1]
      exact hend
theorem unpack_f (s : ByteArray) (k : Nat) (hk : 310 < k) : ∃ out, slot_Unpack.f k s = some out ∧ (out = (0, 0, [], 3) ∨ (s.size = 256 ∧ ∃ d x, Told s d x out)) := by
  unfold slot_Unpack.f
  by_cases h : (s.size : Int) = 256
  · rw [if_pos h, num_get_f s (by omega) 2 2 k (by omega)]
    simp only [Option.bind_some]
    rw [if_pos (by omega)]
    obtain ⟨out, o1, o2⟩ := unpack_l0 s (by omega) (wrap64 (bt s 1)) (wrap64 (getSpec s 2 2).1) 5 k [] rfl (fun n h => by cases h) (by omega)
    exact ⟨out, o1, Or.inr ⟨by omega, _, _, o2⟩⟩
  · rw [if_neg h]
    exact ⟨_, rfl, Or.inl rfl⟩
/-- What a page that packs holds. -/
theorem packed_facts {d x : Int} {l : List S76} {s : ByteArray} (h : packSpec d x l = (s, 0)) (hok : ∀ n ∈ l, NodeOk n) : 0 ≤ d ∧ d ≤ 5 ∧ 0 ≤ x ∧ x ≤ 2047 ∧ l.length ≤ 5 ∧ (∀ n ∈ l, mayOf n = 0) ∧ bytesOf s = pageText d x l ∧ s.size = 256 := by
  unfold packSpec at h
  by_cases h1 : d < 0 ∨ d > 5 ∨ x < 0 ∨ x > 2047
  · rw [if_pos h1] at h; exact absurd (congrArg Prod.snd h) (show ¬ ((1 : Int) = 0) by decide)
  · rw [if_neg h1] at h
    by_cases h2 : l.length > 5
    · rw [if_pos h2] at h; exact absurd (congrArg Prod.snd h) (show ¬ ((10 : Int) = 0) by decide)
    · rw [if_neg h2] at h
      by_cases h3 : scan l l.length 0 = 0
      · rw [if_pos h3] at h
        have hm := scan_may l l.length 0 (by omega) h3
        have hw : ∀ n ∈ l, Wr n := fun n hn => wr_of_may (hok n hn) (hm n hn)
        have hb : bytesOf s = pageText d x l := by
          have he : strOfNums (pageText d x l) = s := congrArg Prod.fst h
          rw [← he]
          exact bytes_nums _ (pack_range d x (by omega) l hw)
        have hl : ∀ m : List S76, (∀ n ∈ m, Wr n) → (nodesText m).length = 48 * m.length := by
          intro m
          induction m with
          | nil => intro _; rfl
          | cons a m ih =>
            intro hm
            rw [nodesText, List.flatMap_cons, List.length_append, nodeText_length a (hm a List.mem_cons_self), List.length_cons]
            have := ih (fun n hn => hm n (List.mem_cons_of_mem _ hn))
            unfold nodesText at this
            omega
        refine ⟨by omega, by omega, by omega, by omega, by omega, hm, hb, ?_⟩
        rw [← bytesOf_length, hb]
        unfold pageText
        simp only [List.length_append, List.length_cons, List.length_nil, digs_length, Z_length, hl l hw]
        omega
      · rw [if_neg h3] at h; exact absurd (congrArg Prod.snd h) h3
theorem nodes_length (m : List S76) (h : ∀ n ∈ m, Wr n) : (nodesText m).length = 48 * m.length := by
  induction m with
  | nil => rfl
  | cons a m ih =>
    rw [nodesText, List.flatMap_cons, List.length_append, nodeText_length a (h a List.mem_cons_self), List.length_cons]
    have := ih (fun n hn => h n (List.mem_cons_of_mem _ hn))
    unfold nodesText at this
    omega
theorem mid_slice {α : Type} (A B C : List α) (a b : Nat) (ha : A.length = a) (hb : a + B.length = b) : ((A ++ (B ++ C)).take b).drop a = B := by
  rw [← List.append_assoc, List.take_left' (by rw [List.length_append]; omega), List.drop_left' ha]
theorem bt_at (s : ByteArray) (A C : List Int) (v : Int) (o : Nat) (hb : bytesOf s = A ++ (v :: C)) (ho : A.length = o) : bt s (o : Int) = v ∧ o < s.size := by
  have hl := congrArg List.length hb
  rw [bytesOf_length, List.length_append, List.length_cons] at hl
  have h := drop_byte s (o : Int) (by omega) (by omega)
  rw [show ((o : Int)).toNat = o by omega, hb, List.drop_left' ho] at h
  exact ⟨((List.cons.inj h).1).symm, by omega⟩
theorem page_head {d x : Int} {l : List S76} {s : ByteArray} (h : packSpec d x l = (s, 0)) (hok : ∀ n ∈ l, NodeOk n) : bt s 1 = d ∧ getSpec s 2 2 = (x, 0) := by
  obtain ⟨d0, d1, x0, x1, l5, hm, hb, hs⟩ := packed_facts h hok
  unfold pageText at hb
  refine ⟨(bt_at s [3] (digs x 2 ++ (Z 12 ++ (nodesText l ++ Z (240 - 48 * l.length)))) d 1 (by rw [hb]; rfl) rfl).1, ?_⟩
  exact get_mid s ([3] ++ [d]) (Z 12 ++ (nodesText l ++ Z (240 - 48 * l.length))) x 2 2 (by rw [hb]; simp only [List.append_assoc]) rfl (by omega) (by omega) x0 (by show x < 256 ^ 2; omega)
theorem page_node {d x : Int} {l : List S76} {s : ByteArray} (h : packSpec d x l = (s, 0)) (hok : ∀ n ∈ l, NodeOk n) (i : Nat) (hi : i < l.length) :
    bytesOf (s.extract (16 + 48 * i) (64 + 48 * i)) = nodeText (rd_T76 l (i : Int)) ∧ bt s ((16 + 48 * i : Nat) : Int) = 1 := by
  obtain ⟨d0, d1, x0, x1, l5, hm, hb, hs⟩ := packed_facts h hok
  have hw : ∀ n ∈ l, Wr n := fun n hn => wr_of_may (hok n hn) (hm n hn)
  have hsp : l = l.take i ++ (rd_T76 l (i : Int) :: l.drop (i + 1)) := by rw [← rd76_drop l i hi, List.take_append_drop]
  have hA : (([3] ++ ([d] ++ (digs x 2 ++ Z 12))) ++ nodesText (l.take i)).length = 16 + 48 * i := by
    rw [List.length_append, nodes_length _ (fun n hn => hw n (List.mem_of_mem_take hn)), List.length_take]
    simp only [List.length_append, List.length_cons, List.length_nil, digs_length, Z_length]
    omega
  have hT : bytesOf s = (([3] ++ ([d] ++ (digs x 2 ++ Z 12))) ++ nodesText (l.take i)) ++ (nodeText (rd_T76 l (i : Int)) ++ (nodesText (l.drop (i + 1)) ++ Z (240 - 48 * l.length))) := by
    have hn : nodesText l = nodesText (l.take i) ++ (nodeText (rd_T76 l (i : Int)) ++ nodesText (l.drop (i + 1))) := by
      conv => lhs; rw [hsp]
      unfold nodesText
      rw [List.flatMap_append, List.flatMap_cons]
    rw [hb]
    unfold pageText
    rw [hn]
    simp only [List.append_assoc]
  have hn := nodeText_length _ (hw _ (rd76_mem l i hi))
  refine ⟨?_, ?_⟩
  · rw [bytes_extract, hT]
    exact mid_slice _ _ _ _ _ hA (by rw [hn]; omega)
  · exact (bt_at s _ ((nodeText (rd_T76 l (i : Int))).tail ++ (nodesText (l.drop (i + 1)) ++ Z (240 - 48 * l.length))) 1 (16 + 48 * i) (hT.trans rfl) hA).1
theorem page_end {d x : Int} {l : List S76} {s : ByteArray} (h : packSpec d x l = (s, 0)) (hok : ∀ n ∈ l, NodeOk n) (hi : l.length < 5) :
    bytesOf (s.extract (16 + 48 * l.length) (64 + 48 * l.length)) = Z 48 ∧ bt s ((16 + 48 * l.length : Nat) : Int) = 0 := by
  obtain ⟨d0, d1, x0, x1, l5, hm, hb, hs⟩ := packed_facts h hok
  have hw : ∀ n ∈ l, Wr n := fun n hn => wr_of_may (hok n hn) (hm n hn)
  have hA : (([3] ++ ([d] ++ (digs x 2 ++ Z 12))) ++ nodesText l).length = 16 + 48 * l.length := by
    rw [List.length_append, nodes_length _ hw]
    simp only [List.length_append, List.length_cons, List.length_nil, digs_length, Z_length]
  have hZ : Z (240 - 48 * l.length) = Z 48 ++ Z (192 - 48 * l.length) := by
    unfold Z
    rw [List.replicate_append_replicate, show 48 + (192 - 48 * l.length) = 240 - 48 * l.length by omega]
  have hT : bytesOf s = (([3] ++ ([d] ++ (digs x 2 ++ Z 12))) ++ nodesText l) ++ (Z 48 ++ Z (192 - 48 * l.length)) := by
    rw [hb, ← hZ]
    unfold pageText
    simp only [List.append_assoc]
  refine ⟨?_, ?_⟩
  · rw [bytes_extract, hT]
    exact mid_slice _ _ _ _ _ hA (by rw [Z_length]; omega)
  · exact (bt_at s _ (Z 47 ++ Z (192 - 48 * l.length)) 0 (16 + 48 * l.length) (hT.trans rfl) hA).1
theorem take_one (l : List S76) (i : Nat) (hi : i < l.length) : l.take i ++ [rd_T76 l (i : Int)] = l.take (i + 1) := by
  have h : l.take (i + 1) = l.take i ++ [l[i]] := by rw [List.take_succ_eq_append_getElem hi]
  rw [h]
  congr 1
  congr 1
  have hd := rd76_drop l i hi
  rw [List.drop_eq_getElem_cons hi] at hd
  exact ((List.cons.inj hd).1).symm
theorem unpack_back_l0 {d x : Int} {l : List S76} {s : ByteArray} (h : packSpec d x l = (s, 0)) (hok : ∀ n ∈ l, NodeOk n) : ∀ (r k i : Nat), i + r = l.length → 400 + r < k → slot_Unpack.l0 k s (16 + 48 * (i : Int)) d x (l.take i) = some (d, x, l, 0)
  | r, 0, i, _, hk => by omega
  | r, k + 1, i, hi, hk => by
    obtain ⟨d0, d1, x0, x1, l5, hm, hb, hs⟩ := packed_facts h hok
    have hw : ∀ n ∈ l, Wr n := fun n hn => wr_of_may (hok n hn) (hm n hn)
    have hend : ((slot_Pack.f k d x l).bind fun bt150 => (if bt150.2 = 0 then (if bt150.1.toList = s.toList then (some (d, x, l, (0 : Int))) else (some (0, 0, ([] : List (S76)), 3))) else (some (0, 0, ([] : List (S76)), 3)))) = some (d, x, l, 0) := by
      rw [pack_f d x l hok k (by omega) (fun n hn => by have := (hw n hn).name; omega), h]
      simp only [Option.bind_some, if_true]
    simp only [slot_Unpack.l0]
    by_cases hil : i < l.length
    · obtain ⟨r, rfl⟩ : ∃ m, r = m + 1 := ⟨r - 1, by omega⟩
      have hp := page_node h hok i hil
      rw [if_pos (show 16 + 48 * (i : Int) < 256 by omega), if_pos (by omega), if_pos (by omega), show (16 : Int) + 48 * (i : Int) = ((16 + 48 * i : Nat) : Int) by omega, hp.2, if_pos rfl, wrap64_small (by omega) (by omega), if_pos (by omega), if_pos (by omega),
        show ((16 + 48 * i : Nat) : Int).toNat = 16 + 48 * i by omega, show (((16 + 48 * i : Nat) : Int) + 48).toNat = 64 + 48 * i by omega,
        slot_read_f (rd_T76 l (i : Int)) (hok _ (rd76_mem l i hil)) (hm _ (rd76_mem l i hil)) _ hp.1 k (by omega)]
      simp only [Option.bind_some]
      rw [if_pos (by rw [List.length_take]; omega), take_one l i hil, show (((16 + 48 * i : Nat) : Int) + 48) = 16 + 48 * ((i + 1 : Nat) : Int) by omega]
      exact unpack_back_l0 h hok r k (i + 1) (by omega) (by omega)
    · obtain rfl : i = l.length := by omega
      rw [List.take_length]
      by_cases h5 : l.length < 5
      · have hp := page_end h hok h5
        rw [if_pos (show 16 + 48 * (l.length : Int) < 256 by omega), if_pos (by omega), if_pos (by omega), show (16 : Int) + 48 * (l.length : Int) = ((16 + 48 * l.length : Nat) : Int) by omega, hp.2, if_neg (by decide)]
        exact hend
      · rw [if_neg (show ¬ 16 + 48 * (l.length : Int) < 256 by omega)]
        exact hend
theorem unpack_back {d x : Int} {l : List S76} {s : ByteArray} (h : packSpec d x l = (s, 0)) (hok : ∀ n ∈ l, NodeOk n) (k : Nat) (hk : 410 < k) : slot_Unpack.f k s = some (d, x, l, 0) := by
  obtain ⟨d0, d1, x0, x1, l5, hm, hb, hs⟩ := packed_facts h hok
  obtain ⟨h1, h2⟩ := page_head h hok
  unfold slot_Unpack.f
  rw [if_pos (by omega), num_get_f s (by omega) 2 2 k (by omega), h1, h2]
  simp only [Option.bind_some]
  rw [if_pos (by omega), wrap64_small (by omega) (by omega), wrap64_small (by omega) (by omega)]
  exact unpack_back_l0 h hok l.length k 0 (by omega) (by omega)
theorem hashFin_range (s : ByteArray) : 0 ≤ hashFin s ∧ hashFin s < 4294967296 := by
  unfold hashFin
  have h2 := fin_range (Go.bits .xor .u32 (fin1 (hrun 2166136261 (bytesOf s))) (fin1 (hrun 2166136261 (bytesOf s)) / 8192)) 3266489909
  have e : fin2 (fin1 (hrun 2166136261 (bytesOf s))) = (Go.bits .xor .u32 (fin1 (hrun 2166136261 (bytesOf s))) (fin1 (hrun 2166136261 (bytesOf s)) / 8192) * 3266489909) % 4294967296 := rfl
  rw [← e] at h2
  generalize fin2 (fin1 (hrun 2166136261 (bytesOf s))) = y at *
  unfold fin3
  exact xor_range y (y / 65536) h2.1 h2.2 (by omega) (by omega)
theorem addr_f (h n : Int) (h0 : 0 ≤ h) (h1 : h < 4294967296) : slot_Address.f h n = some (if n < 1 ∨ 65535 < n then (0, 1) else (h * 65536 + n, 0)) := by
  unfold slot_Address.f
  by_cases a : n < 1
  · rw [if_pos a, if_pos (Or.inl a)]
  · rw [if_neg a]
    by_cases b : n ≥ 65536
    · rw [if_pos b, if_pos (Or.inr (by omega))]
    · rw [if_neg b, if_neg (by omega), u64_small (i := h) (by omega) (by omega), u64_small (i := h * 65536) (by omega) (by omega), u64_small (i := n) (by omega) (by omega), u64_small (by omega) (by omega)]
theorem isAddr_of (h n : Int) (h1 : h < 4294967296) (n0 : 1 ≤ n) (n1 : n ≤ 65535) : isAddr (h * 65536 + n) = true := by
  unfold isAddr
  rw [decide_eq_true (by omega), Bool.true_and, bne_iff_ne]
  omega
def aTxt : ByteArray := ⟨#[97]⟩
theorem a_kind : kindSpec aTxt = 1 := by decide +kernel
theorem a_hash : ∃ h, 0 ≤ h ∧ h < 4294967296 ∧ hashSpec aTxt [] = (h, 0) := by
  unfold hashSpec
  rw [a_kind, if_neg (by decide), if_neg (by decide), if_neg (by decide)]
  exact ⟨_, (hashFin_range _).1, (hashFin_range _).2, rfl⟩
theorem a_may (h : Int) (h0 : 0 ≤ h) (h1 : h < 4294967296) (e : hashSpec aTxt [] = (h, 0)) : NodeOk ⟨h * 65536 + 1, aTxt, [], 3, false, 0⟩ ∧ mayOf ⟨h * 65536 + 1, aTxt, [], 3, false, 0⟩ = 0 := by
  have hat : 0 ≤ h * 65536 + 1 ∧ h * 65536 + 1 < 18446744073709551616 := by omega
  have hi := isAddr_of h 1 h1 (by omega) (by omega)
  have hd : (h * 65536 + 1) / 65536 = h := by omega
  refine ⟨⟨hat.1, hat.2, show aTxt.size ≤ 140737488351232 by decide, (fun a ha => by cases ha), Nat.zero_le _, show (-9223372036854775808 : Int) ≤ 3 by decide, show (3 : Int) ≤ 9223372036854775807 by decide, show (0 : Int) ≤ 0 by decide, show (0 : Int) < 18446744073709551616 by decide⟩, ?_⟩
  unfold mayOf
  simp only
  rw [e]
  unfold partsB
  rw [hi, hd, if_pos rfl, if_neg (by decide), if_pos rfl, if_pos rfl]
theorem scan_one (n : S76) (h : mayOf n = 0) : scan [n] [n].length 0 = 0 := by
  show (if mayOf n = 0 then (if twice [n] n.f0 0 = true then 9 else scan [n] 0 1) else mayOf n) = 0
  rw [if_pos h, twice_false (fun t ht => by omega)]
  rfl
theorem pack_one (n : S76) (h : mayOf n = 0) : packSpec 2 9 [n] = (strOfNums (pageText 2 9 [n]), 0) := by
  unfold packSpec
  rw [if_neg (by decide), if_neg (show ¬ [n].length > 5 by simp), if_pos (scan_one n h)]
theorem parts_none : slot_Parts.f 65536 = some (0, 0, false) := by
  rw [parts_f 65536 (by decide)]
  rfl
theorem addr_one : slot_Address.f 1 1 = some (65537, 0) := by
  rw [addr_f 1 1 (by omega) (by omega), if_neg (by omega)]
  rfl
theorem wakes_f (k : Nat) (hk : 420 < k) : aumbrylaw15_wakes.f k = some true := by
  obtain ⟨h, h0, h1, e⟩ := a_hash
  obtain ⟨ok, hm⟩ := a_may h h0 h1 e
  have hp := pack_one _ hm
  have hok : ∀ n ∈ [(⟨h * 65536 + 1, aTxt, [], 3, false, 0⟩ : S76)], NodeOk n := fun n hn => by rw [List.mem_singleton.1 hn]; exact ok
  have hpf := pack_f 2 9 [⟨h * 65536 + 1, aTxt, [], 3, false, 0⟩] hok k (by omega) (fun n hn => by rw [List.mem_singleton.1 hn]; show aTxt.size + 200 < k; have : aTxt.size = 1 := rfl; omega)
  have hub := unpack_back hp hok k (by omega)
  obtain ⟨_, _, _, _, _, _, hb, hs⟩ := packed_facts hp hok
  have ha1 := addr_f h 1 h0 h1
  rw [if_neg (by omega)] at ha1
  unfold aumbrylaw15_wakes.f
  rw [addr_one, parts_none]
  simp only [Option.bind_some]
  rw [show (⟨#[97]⟩ : ByteArray) = aTxt from rfl, slot_hash_f aTxt (by decide) [] (fun a ha => by cases ha) k (by have : aTxt.size = 1 := rfl; omega), e]
  simp only [Option.bind_some]
  rw [ha1]
  simp only [Option.bind_some]
  rw [hpf, hp]
  simp only [Option.bind_some]
  rw [hub]
  simp only [Option.bind_some]
  have hx : ((strOfNums (pageText 2 9 [⟨h * 65536 + 1, aTxt, [], 3, false, 0⟩])).extract 0 4).toList = ([3, 2, 0, 9] : List UInt8) := by
    have hx0 : (strOfNums (pageText 2 9 [⟨h * 65536 + 1, aTxt, [], 3, false, 0⟩])).extract 0 4 = strOfNums [3, 2, 0, 9] := by
      refine bytesOf_inj ?_
      rw [bytes_extract, hb, bytes_nums [3, 2, 0, 9] (by decide)]
      rfl
    rw [hx0, Go.ByteArray.toList_eq, strOfNums_data]
    rfl
  rw [if_pos trivial, if_pos trivial, if_neg (by decide), if_pos trivial, if_pos trivial, if_pos trivial, if_pos (by omega), if_pos (by decide), if_pos (by omega), if_pos hx, if_pos trivial, if_pos (show (([(⟨h * 65536 + 1, aTxt, [], 3, false, 0⟩ : S76)].length : Nat) : Int) = 1 by simp), if_pos (by simp)]
  rfl
theorem copy_l0 (l : List S76) (d x : Int) (hl : l.length < 1954687338268) (hk2 : ∀ n ∈ l, n.f2.length < 17592186044416) (r : Nat) : ∀ (k i : Nat), i + r = l.length → r < k →
    aumbryref15_Copy.l0 k (l.length : Int) (i : Int) d x l d x (l.take i) = some (d, x, l) := by
  induction r with
  | zero =>
    intro k i hi hk
    obtain ⟨k, rfl⟩ : ∃ m, k = m + 1 := ⟨k - 1, by omega⟩
    obtain rfl : i = l.length := by omega
    simp only [aumbryref15_Copy.l0]
    rw [if_neg (by omega), List.take_length]
  | succ r ih =>
    intro k i hi hk
    obtain ⟨k, rfl⟩ : ∃ m, k = m + 1 := ⟨k - 1, by omega⟩
    have hn := hk2 _ (rd76_mem l i (by omega))
    have ht := take_one l i (by omega)
    simp only [aumbryref15_Copy.l0]
    rw [if_pos (by omega), if_pos (by omega), if_pos (by omega)]
    unfold aumbryref15_CopyNode.f
    generalize rd_T76 l (i : Int) = n at *
    rw [if_pos (by simp; omega), List.nil_append]
    simp only [Option.bind_some]
    rw [if_pos (by rw [List.length_take]; omega), wrap64_small (by omega) (by omega), show (i : Int) + 1 = ((i + 1 : Nat) : Int) by omega, ht]
    exact ih k (i + 1) (by omega) (by omega)
theorem copy_f (l : List S76) (d x : Int) (hl : l.length < 1954687338268) (hk2 : ∀ n ∈ l, n.f2.length < 17592186044416) (k : Nat) (hk : l.length < k) : aumbryref15_Copy.f k d x l = some (d, x, l) := by
  unfold aumbryref15_Copy.f
  exact copy_l0 l d x hl hk2 l.length k 0 (by omega) hk
/-- A list of nodes that an argument can hold. -/
def NodesOk (l : List S76) : Prop := l.length < 1954687338268 ∧ ∀ n ∈ l, NodeOk n ∧ n.f2.length < 17592186044416
theorem nodes_max (l : List S76) : ∃ m, ∀ n ∈ l, n.f1.size ≤ m := by
  induction l with
  | nil => exact ⟨0, fun n hn => by cases hn⟩
  | cons a l ih =>
    obtain ⟨m, hm⟩ := ih
    refine ⟨m + a.f1.size, fun n hn => ?_⟩
    rcases List.mem_cons.1 hn with rfl | hn
    · omega
    · have := hm n hn
      omega
theorem samekids_l0 (l : List Int) (hl : l.length ≤ 1000000000000000000) (d : Nat) : ∀ (k i : Nat), i + d = l.length → d < k → aumbryref15_SameKids.l0 k l l (l.length : Int) (i : Int) = some true := by
  induction d with
  | zero =>
    intro k i hi hk
    obtain ⟨k, rfl⟩ : ∃ m, k = m + 1 := ⟨k - 1, by omega⟩
    simp only [aumbryref15_SameKids.l0]
    rw [if_neg (by omega)]
  | succ d ih =>
    intro k i hi hk
    obtain ⟨k, rfl⟩ : ∃ m, k = m + 1 := ⟨k - 1, by omega⟩
    simp only [aumbryref15_SameKids.l0]
    rw [if_pos (by omega), if_pos (by omega), if_pos (by omega), if_true, if_pos (by omega), wrap64_small (by omega) (by omega), show (i : Int) + 1 = ((i + 1 : Nat) : Int) by omega]
    exact ih k (i + 1) (by omega) (by omega)
theorem samekids_f (l : List Int) (hl : l.length ≤ 1000000000000000000) (k : Nat) (hk : l.length < k) : aumbryref15_SameKids.f k l l = some true := by
  unfold aumbryref15_SameKids.f
  rw [if_pos rfl]
  exact samekids_l0 l hl l.length k 0 (by omega) hk
theorem samenode_f (n : S76) (hl : n.f2.length ≤ 1000000000000000000) (k : Nat) (hk : n.f2.length < k) : aumbryref15_SameNode.f k n.f0 n.f1 n.f2 n.f3 n.f4 n.f5 n.f0 n.f1 n.f2 n.f3 n.f4 n.f5 = some true := by
  unfold aumbryref15_SameNode.f
  rw [if_pos rfl, if_pos rfl, if_pos rfl, if_pos (by cases n.f4 <;> rfl), if_pos rfl, samekids_f _ hl k hk]
  rfl
theorem samenodes_l0 (l : List S76) (hl : l.length ≤ 1000000000000000000) (m : Nat) (hm : ∀ n ∈ l, n.f2.length ≤ m) (hm1 : m ≤ 1000000000000000000) (d : Nat) : ∀ (k i : Nat), i + d = l.length → d + m + 1 < k → aumbryref15_SameNodes.l0 k l l (l.length : Int) (i : Int) = some true := by
  induction d with
  | zero =>
    intro k i hi hk
    obtain ⟨k, rfl⟩ : ∃ m, k = m + 1 := ⟨k - 1, by omega⟩
    simp only [aumbryref15_SameNodes.l0]
    rw [if_neg (by omega)]
  | succ d ih =>
    intro k i hi hk
    obtain ⟨k, rfl⟩ : ∃ m, k = m + 1 := ⟨k - 1, by omega⟩
    have hn := hm _ (rd76_mem l i (by omega))
    simp only [aumbryref15_SameNodes.l0]
    rw [if_pos (by omega), if_pos (by omega), if_pos (by omega), if_pos (by omega), samenode_f _ (by omega) k (by omega)]
    simp only [Option.bind_some, if_true]
    rw [wrap64_small (by omega) (by omega), show (i : Int) + 1 = ((i + 1 : Nat) : Int) by omega]
    exact ih k (i + 1) (by omega) (by omega)
theorem same_f (d x : Int) (l : List S76) (hl : l.length ≤ 5) (hm : ∀ n ∈ l, n.f2.length ≤ 4) (k : Nat) (hk : 100 < k) : aumbryref15_Same.f k d x l d x l = some true := by
  have e := samenodes_l0 l (by omega) 4 hm (by omega) l.length k 0 (by omega) (by omega)
  rw [show ((0 : Nat) : Int) = 0 from rfl] at e
  unfold aumbryref15_Same.f aumbryref15_SameNodes.f
  rw [if_pos rfl, if_pos rfl, if_pos rfl, e]
  rfl
theorem packed_same {d x : Int} {l : List S76} {s : ByteArray} (h : packSpec d x l = (s, 0)) (hok : ∀ n ∈ l, NodeOk n) (k : Nat) (hk : 100 < k) : aumbryref15_Same.f k d x l d x l = some true := by
  obtain ⟨d0, d1, x0, x1, l5, hm, hb, hs⟩ := packed_facts h hok
  exact same_f d x l l5 (fun n hn => (wr_of_may (hok n hn) (hm n hn)).kidsl) k hk
theorem same_none (k : Nat) (hk : 100 < k) : aumbryref15_Same.f k 0 0 [] 0 0 [] = some true := same_f 0 0 [] (by simp) (fun n hn => by cases hn) k hk
/-- Every text: a bucket that the program's reading tells, or none. -/
theorem one_told (s : ByteArray) (k : Nat) (hk : 530 < k) : (∃ d x l, slot_Unpack.f k s = some (d, x, l, 0) ∧ packSpec d x l = (s, 0) ∧ (∀ n ∈ l, Fine n)) ∨ slot_Unpack.f k s = some (0, 0, [], 3) := by
  obtain ⟨o, h1, h2⟩ := unpack_f s k (by omega)
  rcases h2 with h | ⟨_, d, x, ⟨l, e, hf, _, hp⟩ | h⟩
  · subst h; exact Or.inr h1
  · subst e; exact Or.inl ⟨d, x, l, h1, hp, hf⟩
  · subst h; exact Or.inr h1
theorem back_j0 (s : ByteArray) (k : Nat) (hk : 600 < k) : aumbrylaw15_SlotBack.j0 k s = some true := by
  obtain ⟨k, rfl⟩ : ∃ m, k = m + 1 := ⟨k - 1, by omega⟩
  simp only [aumbrylaw15_SlotBack.j0]
  rcases one_told s k (by omega) with ⟨d, x, l, h1, hp, hf⟩ | h1
  · rw [h1]
    simp only [Option.bind_some, if_true]
    rw [pack_f d x l (fun n hn => (hf n hn).1) k (by omega) (fun n hn => by have := (hf n hn).2; omega), hp]
    simp
  · rw [h1]
    simp only [Option.bind_some]
    rw [if_neg (by decide), same_none k (by omega)]
    rfl
theorem slotBack_f (d x : Int) (l : List S76) (s : ByteArray) (h : NodesOk l) : ∃ k, aumbrylaw15_SlotBack.f k d x l s = some true := by
  obtain ⟨m, hm⟩ := nodes_max l
  have hok : ∀ n ∈ l, NodeOk n := fun n hn => (h.2 n hn).1
  refine ⟨m + l.length + 700, ?_⟩
  unfold aumbrylaw15_SlotBack.f
  rw [wakes_f _ (by omega)]
  simp only [Option.bind_some, if_true]
  rw [copy_f l d x h.1 (fun n hn => (h.2 n hn).2) _ (by omega)]
  simp only [Option.bind_some]
  rw [pack_f d x l hok _ (by omega) (fun n hn => by have := hm n hn; omega)]
  simp only [Option.bind_some]
  by_cases h0 : (packSpec d x l).2 = 0
  · have hp : packSpec d x l = ((packSpec d x l).1, 0) := Prod.ext rfl h0
    rw [if_pos h0, unpack_back hp hok _ (by omega)]
    simp only [Option.bind_some, if_true]
    rw [packed_same hp hok _ (by omega)]
    simp only [Option.bind_some, if_true]
    exact back_j0 s _ (by omega)
  · rw [if_neg h0]
    exact back_j0 s _ (by omega)
section
open Go.ChangeShapes Go.WideShapes Go.Deep Go.Joins
variable {H : Type} {enc : TypeId × Value → H} {P : Program} {w : World} {base : Nat} {spare : Nat → Bool} {held : Bool}
theorem open_slice_fields {t e : TypeId} {fs : Array Field} {fuel : Nat} {cs : List Value} {x : DataW H × List MemPlace} (ht : P.underlying t = some (.slice e)) (he : P.underlying e = some (.struct fs))
    (hone : oneCellFields P fs = true) (hC : P.cellsOf e = fs.size) (h : DataW.trod enc P w base spare held fuel t cs = some x) :
    (cs = [.slice none 0 0] ∧ x = (.nil, [])) ∨
    ∃ (a : Addr) (len cap m : Nat) (D : Nat → DataW H) (Pl : Nat → List MemPlace), cs = [.slice (some a) len cap] ∧ base ≤ a.block ∧ len ≤ cap ∧ cap ≤ maxLen ∧ m = (if spare a.block then cap else len) ∧
      x = (.slice ((List.range len).map D) ((List.range (m - len)).map fun j => D (len + j)), MemPlace.row a (m * fs.size) ++ (List.range m).flatMap Pl) ∧
      ∀ i, i < m → ∃ (ys : List (DataW H × List MemPlace)) (n : Nat), D i = .agg (ys.map (·.1)) ∧ Pl i = ys.flatMap (·.2) ∧ ys.length = fs.size ∧
        ∀ (j : Nat) (f : Field), fs[j]? = some f → ∃ (v : Value) (y : DataW H × List MemPlace), w.cell? (a.add (i * fs.size + j)) = some v ∧ ys[j]? = some y ∧ DataW.trod enc P w base spare held n f.type [v] = some y := by
  rcases open_slice ht h with h0 | ⟨a, len, cap, m, n, D, Pl, hcs, hb, hl, hm, hmm, hx, hi⟩
  · exact .inl h0
  · refine .inr ⟨a, len, cap, m, D, Pl, hcs, hb, hl, hm, hmm, by rw [hC] at hx; exact hx, fun i him => ?_⟩
    obtain ⟨cs', hc, ht'⟩ := hi i him
    rw [hC] at hc
    obtain ⟨ys, n', hn', hy, hlen, hyl, hf⟩ := DataW.trod_struct he ht'
    obtain ⟨_, hcl, hat⟩ := World.cells?_some hc
    simp only [Prod.mk.injEq] at hy
    refine ⟨ys, n', hy.1, hy.2, hyl, fun j f hj => ?_⟩
    obtain ⟨ho, hk⟩ := hone_of hone j f hj
    have hjl : j < fs.size := (Array.getElem?_eq_some_iff.1 hj).1
    have hcell := hat j hjl
    have hv : cs'[j]? = some (cs'[j]'(by omega)) := List.getElem?_eq_getElem (by omega)
    have h1 := hf j f hj
    rw [ho, hk] at h1
    have hone' : (cs'.drop j).take 1 = [cs'[j]'(by omega)] := by
      rw [List.drop_eq_getElem_cons (by omega)]
      rfl
    rw [hone'] at h1
    have hys : ys[j]? = some (ys[j]'(by omega)) := List.getElem?_eq_getElem (by omega)
    refine ⟨_, _, ?_, hys, h1.trans hys⟩
    rw [← Go.Deep.add_add, hcell, hv]
/-- Every weight of a datum is within reach. -/
def Light (t : TypeId) (d : DataW H) : Prop := ∀ n ∈ d.weights Try.prog t, n ≤ reachBytes
theorem light_arg {ts : List TypeId} {ds : List (DataW H)} (h : (DataW.weightsEach Try.prog ts ds).all (· ≤ reachBytes) = true) {j : Nat} {t : TypeId} {d : DataW H} (ht : ts[j]? = some t) (hd : ds[j]? = some d) : Light t d := fun n hn => by
  have := List.all_eq_true.1 h _ (DataW.weights_mem_each ht hd n hn)
  simpa using this
theorem light_field {t : TypeId} {fs : Array Field} {parts : List (DataW H)} (hu : Try.prog.underlying t = some (.struct fs)) (h : Light t (.agg parts)) {j : Nat} {f : Field} {d : DataW H} (hf : fs[j]? = some f) (hd : parts[j]? = some d) : Light f.type d := fun n hn => h n (by
  simp only [DataW.weights, hu]
  exact DataW.weights_mem_each (j := j) (t := f.type) (by rw [List.getElem?_map, Array.getElem?_toList, hf]; rfl) hd n hn)
theorem weightsAll_mem {e : TypeId} : ∀ {l : List (DataW H)} {d : DataW H}, d ∈ l → ∀ n ∈ d.weights P e, n ∈ DataW.weightsAll P e l
  | x :: l, d, hd, n, hn => by
    simp only [DataW.weightsAll, List.mem_append]
    rcases List.mem_cons.1 hd with rfl | hd
    · exact Or.inl hn
    · exact Or.inr (weightsAll_mem hd n hn)
theorem light_elem {t e : TypeId} {elems spare : List (DataW H)} (hu : Try.prog.underlying t = some (.slice e)) (h : Light t (.slice elems spare)) {d : DataW H} (hd : d ∈ elems) : Light e d := fun n hn => h n (by
  simp only [DataW.weights, hu]
  exact List.mem_cons_of_mem _ (List.mem_append.2 (Or.inl (weightsAll_mem hd n hn))))
theorem light_len {t e : TypeId} {elems spare : List (DataW H)} (hu : Try.prog.underlying t = some (.slice e)) (h : Light t (.slice elems spare)) : (elems.length + spare.length) * Try.prog.bytesOf e ≤ reachBytes := h _ (by simp [DataW.weights, hu])
theorem lits_length (k : IntKind) (l : List Int) : (lits (H := H) k l).length = l.length := by simp [lits]
/-- A row of numbers that came in. -/
theorem open_kids {n : Nat} {v : Value} {y : DataW H × List MemPlace} (h : DataW.trod enc Try.prog w base (fun _ => true) held n 46 [v] = some y) (hl : Light 46 y.1) :
    ∃ A c zs, v = .slice A zs.length c ∧ zs.length ≤ c ∧ (Kd.int .u64).C w A zs.length zs ∧ (∀ a ∈ zs, 0 ≤ a ∧ a < 18446744073709551616) ∧ zs.length * 8 ≤ 140737488351232 := by
  rcases open_ints Try.underlying46 Try.underlying55 (by kernel_rfl) h with ⟨hcs, _⟩ | ⟨x, l, c, zs, hcs, _, hlc, hm, hz, hx, hcell, hwz⟩
  · simp only [List.cons.injEq, and_true] at hcs
    subst hcs
    exact ⟨none, 0, [], rfl, Nat.le_refl _, ⟨rfl, by simp, fun h => by simp at h⟩, fun a ha => absurd ha List.not_mem_nil, by simp⟩
  · simp only [List.cons.injEq, and_true] at hcs
    subst hcs
    simp only [if_true] at hz
    rw [hx] at hl
    have hw := light_len Try.underlying46 hl
    rw [show Try.prog.bytesOf 55 = 8 from by kernel_rfl, lits_length, lits_length, List.length_take, List.length_drop] at hw
    have hw' : (min l zs.length + (zs.length - l)) * 8 ≤ 140737488351232 := hw
    have ht : (zs.take l).length = l := by rw [List.length_take]; omega
    refine ⟨some x, c, zs.take l, by rw [ht], by omega, ?_, ?_, by rw [ht]; omega⟩
    · rw [ht]
      refine ⟨ht, by omega, fun _ => ⟨x, rfl, fun i e hi => ⟨[.int .u64 e], rfl, rfl, fun q u hu => ?_⟩⟩⟩
      rw [show (Kd.int .u64).sz = 1 from rfl, Nat.mul_one]
      have hil := (List.getElem?_eq_some_iff.1 hi).1
      rw [List.getElem?_take_of_lt (by omega)] at hi
      match q, hu with
      | 0, hu =>
        simp at hu
        subst hu
        have := hcell i (by omega)
        rw [List.getD_eq_getElem?_getD, hi] at this
        simpa using this
    · intro a ha
      have hwf := hwz a (List.mem_of_mem_take ha)
      simp [Lit.wf, IntKind.min, IntKind.max, IntKind.signed, IntKind.bits] at hwf
      omega
/-- What a node that came in is. -/
def InNode (n : S76) : Prop := (0 ≤ n.f0 ∧ n.f0 < 18446744073709551616) ∧ n.f1.size ≤ 140737488351232 ∧ (∀ a ∈ n.f2, 0 ≤ a ∧ a < 18446744073709551616) ∧ n.f2.length * 8 ≤ 140737488351232 ∧ (-9223372036854775808 ≤ n.f3 ∧ n.f3 ≤ 9223372036854775807) ∧ (0 ≤ n.f5 ∧ n.f5 < 18446744073709551616)
theorem i64_in {a : Int} (h : (Lit.int .i64 a).wf = true) : -9223372036854775808 ≤ a ∧ a ≤ 9223372036854775807 := by
  simp [Lit.wf, IntKind.min, IntKind.max, IntKind.signed, IntKind.bits] at h
  omega
theorem u64_in' {a : Int} (h : (Lit.int .u64 a).wf = true) : 0 ≤ a ∧ a < 18446744073709551616 := by
  simp [Lit.wf, IntKind.min, IntKind.max, IntKind.signed, IntKind.bits] at h
  omega
/-- A slice of nodes that came in, as the printed texts read it. -/
theorem open_nodes {n : Nat} {v : Value} {y : DataW H × List MemPlace} (h : DataW.trod enc Try.prog w base (fun _ => true) held n 62 [v] = some y) (hl : Light 62 y.1) :
    ∃ A c l, v = .slice A l.length c ∧ l.length ≤ c ∧ Kd.C k76 w A l.length l ∧ (∀ n ∈ l, InNode n) ∧ l.length * 72 ≤ 140737488351232 := by
  rcases open_slice_fields Try.underlying62 Try.underlying76 (by kernel_rfl) (by kernel_rfl) h with ⟨hcs, _⟩ | ⟨x, len, c, m, D, Pl, hcs, _, hlc, hm, hmm, hx, hel⟩
  · simp only [List.cons.injEq, and_true] at hcs
    subst hcs
    exact ⟨none, 0, [], rfl, Nat.le_refl _, ⟨rfl, by simp, fun h => by simp at h⟩, fun a ha => absurd ha List.not_mem_nil, by simp⟩
  · simp only [List.cons.injEq, and_true] at hcs
    subst hcs
    simp only [if_true] at hmm
    rw [hx] at hl
    have hw := light_len Try.underlying62 hl
    rw [show Try.prog.bytesOf 76 = 72 from by kernel_rfl, List.length_map, List.length_map, List.length_range, List.length_range] at hw
    have hw' : (len + (m - len)) * 72 ≤ 140737488351232 := hw
    have hent : ∀ i, i < len → ∃ e : S76, InNode e ∧ ∃ A2 c2, w.cell? (x.add (i * 6)) = some (.int .u64 e.f0) ∧ w.cell? (x.add (i * 6 + 1)) = some (.string e.f1) ∧ w.cell? (x.add (i * 6 + 2)) = some (.slice A2 e.f2.length c2) ∧ w.cell? (x.add (i * 6 + 3)) = some (.int .i64 e.f3) ∧ w.cell? (x.add (i * 6 + 4)) = some (.bool e.f4) ∧ w.cell? (x.add (i * 6 + 5)) = some (.int .u64 e.f5) ∧ e.f2.length ≤ c2 ∧ (Kd.int .u64).C w A2 e.f2.length e.f2 := by
      intro i hi
      obtain ⟨ys, nn, hD, _, _, hfs⟩ := hel i (by omega)
      have hli : Light 76 (.agg (ys.map (·.1)) : DataW H) := by
        rw [← hD]
        exact light_elem Try.underlying62 hl (List.mem_map.2 ⟨i, List.mem_range.2 hi, rfl⟩)
      obtain ⟨v0, y0, hc0, _, ht0⟩ := hfs 0 _ rfl
      obtain ⟨v1, y1, hc1, hy1, ht1⟩ := hfs 1 _ rfl
      obtain ⟨v2, y2, hc2, hy2, ht2⟩ := hfs 2 _ rfl
      obtain ⟨v3, y3, hc3, _, ht3⟩ := hfs 3 _ rfl
      obtain ⟨v4, y4, hc4, _, ht4⟩ := hfs 4 _ rfl
      obtain ⟨v5, y5, hc5, _, ht5⟩ := hfs 5 _ rfl
      obtain ⟨a0, e0, _, w0⟩ := DataW.trod_int Try.underlying55 ht0
      obtain ⟨a1, e1, x1, _⟩ := DataW.trod_string Try.underlying9 ht1
      obtain ⟨a3, e3, _, w3⟩ := DataW.trod_int Try.underlying3 ht3
      obtain ⟨a4, e4, _⟩ := DataW.trod_bool Try.underlying4 ht4
      obtain ⟨a5, e5, _, w5⟩ := DataW.trod_int Try.underlying55 ht5
      have l1 : Light 9 y1.1 := light_field (j := 1) Try.underlying76 hli rfl (by rw [List.getElem?_map, hy1]; rfl)
      have l2 : Light 46 y2.1 := light_field (j := 2) Try.underlying76 hli rfl (by rw [List.getElem?_map, hy2]; rfl)
      obtain ⟨A2, c2, zs, e2, z1, z2, z3, z4⟩ := open_kids ht2 l2
      simp only [List.cons.injEq, and_true] at e0 e1 e3 e4 e5
      subst e0 e1 e2 e3 e4 e5
      rw [x1] at l1
      have s1 : a1.size ≤ 140737488351232 := l1 a1.size (by rw [DataW.weights]; exact List.mem_singleton.2 (Lib.size_eq a1))
      exact ⟨⟨a0, a1, zs, a3, a4, a5⟩, ⟨u64_in' w0, s1, z3, z4, i64_in w3, u64_in' w5⟩, A2, c2, hc0, hc1, hc2, hc3, hc4, hc5, z1, z2⟩
    obtain ⟨l, hll, hin, hle⟩ : ∃ l : List S76, l.length = len ∧ (∀ e ∈ l, InNode e) ∧ ∀ i e, l[i]? = some e → ∃ A2 c2, w.cell? (x.add (i * 6)) = some (.int .u64 e.f0) ∧ w.cell? (x.add (i * 6 + 1)) = some (.string e.f1) ∧ w.cell? (x.add (i * 6 + 2)) = some (.slice A2 e.f2.length c2) ∧ w.cell? (x.add (i * 6 + 3)) = some (.int .i64 e.f3) ∧ w.cell? (x.add (i * 6 + 4)) = some (.bool e.f4) ∧ w.cell? (x.add (i * 6 + 5)) = some (.int .u64 e.f5) ∧ e.f2.length ≤ c2 ∧ (Kd.int .u64).C w A2 e.f2.length e.f2 := by
      clear hel hx hw hw' hl
      have key : ∀ n, n ≤ len → ∃ l : List S76, l.length = n ∧ (∀ e ∈ l, InNode e) ∧ ∀ i e, l[i]? = some e → ∃ A2 c2, w.cell? (x.add (i * 6)) = some (.int .u64 e.f0) ∧ w.cell? (x.add (i * 6 + 1)) = some (.string e.f1) ∧ w.cell? (x.add (i * 6 + 2)) = some (.slice A2 e.f2.length c2) ∧ w.cell? (x.add (i * 6 + 3)) = some (.int .i64 e.f3) ∧ w.cell? (x.add (i * 6 + 4)) = some (.bool e.f4) ∧ w.cell? (x.add (i * 6 + 5)) = some (.int .u64 e.f5) ∧ e.f2.length ≤ c2 ∧ (Kd.int .u64).C w A2 e.f2.length e.f2 := by
        intro n
        induction n with
        | zero => intro _; exact ⟨[], rfl, fun e he => absurd he List.not_mem_nil, fun i e h => by simp at h⟩
        | succ n ih =>
          intro hn
          obtain ⟨l, h1, h3, h2⟩ := ih (by omega)
          obtain ⟨e, hin, he⟩ := hent n (by omega)
          refine ⟨l ++ [e], by rw [List.length_append, h1]; rfl, fun e' he' => ?_, fun i e' hi => ?_⟩
          · rcases List.mem_append.1 he' with h | h
            · exact h3 e' h
            · rw [List.mem_singleton.1 h]; exact hin
          rcases Nat.lt_or_ge i l.length with h3 | h3
          · rw [List.getElem?_append_left h3] at hi
            exact h2 i e' hi
          · have h4 := (List.getElem?_eq_some_iff.1 hi).1
            rw [List.length_append, List.length_singleton] at h4
            obtain rfl : i = l.length := by omega
            simp at hi
            subst hi
            rw [h1]
            exact he
      exact key len (Nat.le_refl _)
    refine ⟨some x, c, l, by rw [hll], by omega, ⟨rfl, by omega, fun _ => ⟨x, rfl, fun i e hi => ?_⟩⟩, hin, by omega⟩
    obtain ⟨A2, c2, g0, g1, g2, g3, g4, g5, z1, z2⟩ := hle i e hi
    refine ⟨_, rfl, k76_mk w e z1 z2, fun q u hu => ?_⟩
    rw [show k76.sz = 6 from rfl]
    match q, hu with
    | 0, hu => simp at hu; subst hu; simpa using g0
    | 1, hu => simp at hu; subst hu; exact g1
    | 2, hu => simp at hu; subst hu; exact g2
    | 3, hu => simp at hu; subst hu; exact g3
    | 4, hu => simp at hu; subst hu; exact g4
    | 5, hu => simp at hu; subst hu; exact g5
theorem cells64 : Try.prog.cellsOf 64 = 3 := by kernel_rfl
set_option maxRecDepth 100000 in
/-- A bucket that came in. -/
theorem open_bucket {ts : List TypeId} {ds : List (DataW H)} {j : Nat} {v : Value} {d : DataW H} {ps : List MemPlace} {b0 : Nat}
    (hsz : (DataW.weightsEach Try.prog ts ds).all (· ≤ reachBytes) = true) (htj : ts[j]? = some 64) (hdj : ds[j]? = some d) (hv : Value.okWide Try.prog w Reach.any b0 64 v)
    (h : DataW.Trod enc Try.prog w base (fun _ => true) held 64 v d ps) :
    ∃ (a x : Int) (A : Option Addr) (c : Nat) (l : List S76), v = .agg #[.int .i64 a, .int .i64 x, .slice A l.length c] ∧ l.length ≤ c ∧ Kd.C k76 w A l.length l ∧ (∀ n ∈ l, InNode n) ∧ l.length * 72 ≤ 140737488351232 := by
  obtain ⟨v0, v1, v2, y0, y1, y2, n, rfl, rfl, rfl, h0, h1, h2⟩ := open_agg3 Try.underlying64 (by kernel_rfl) cells64 hv h
  obtain ⟨a, e0, _, _⟩ := DataW.trod_int Try.underlying3 h0
  obtain ⟨x, e1, _, _⟩ := DataW.trod_int Try.underlying3 h1
  have hl := light_arg hsz htj hdj
  have l2 : Light 62 y2.1 := light_field (j := 2) Try.underlying64 hl rfl rfl
  obtain ⟨A, c, l, e2, z1, z2, z3, z4⟩ := open_nodes h2 l2
  simp only [List.cons.injEq, and_true] at e0 e1
  subst e0 e1 e2
  exact ⟨a, x, A, c, l, rfl, z1, z2, z3, z4⟩
end
theorem nodesOk_of {l : List S76} (hin : ∀ n ∈ l, InNode n) (hl : l.length * 72 ≤ 140737488351232) : NodesOk l :=
  ⟨by omega, fun n hn => by
    obtain ⟨⟨h0, h1⟩, h2, h3, h4, ⟨h5, h6⟩, h7, h8⟩ := hin n hn
    exact ⟨⟨h0, h1, h2, h3, Nat.le_trans (show n.f2.length ≤ 17592186044416 by omega) (by decide), h5, h6, h7, h8⟩, by omega⟩⟩
theorem SlotBack_walk (a x : Int) (A : Option Addr) (c : Nat) (l : List S76) (s : ByteArray) (W : World) (hC : Kd.C k76 W A l.length l) (hc : l.length ≤ c) (hin : ∀ n ∈ l, InNode n) (hl : l.length * 72 ≤ 140737488351232) (_ : s.size ≤ 140737488351232) : Calls Try.prog 12 #[.agg #[.int .i64 a, .int .i64 x, .slice A l.length c], .string s] W fun e W' => e = .returned (.bool true) ∧ Below W.heap.size W W' := by
  obtain ⟨k, hk⟩ := slotBack_f a x l s (nodesOk_of hin hl)
  exact aumbrylaw15_SlotBack.calls k a x A c l s true W hC hc hk
end Go.Proofs.Ytdieanikopjbjaa.QSlotBk
