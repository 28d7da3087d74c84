/- Plain facts about what the printed functions of the slot come to, as far as this claim reaches them. No condition beside the sizes that an argument can have. -/
import Derived.Test.YtdieanikopjbjaaQSlotUnx1
import Derived.Test.YtdieanikopjbjaaQSlotUnx2
import Derived.Test.YtdieanikopjbjaaQSlotUnx3
import Derived.Test.YtdieanikopjbjaaQSlotUnx4
import Derived.Test.YtdieanikopjbjaaQSlotUnx5
import Derived.Test.YtdieanikopjbjaaQSlotUnx6
import Derived.Test.YtdieanikopjbjaaQSlotUnx7
import Derived.Test.YtdieanikopjbjaaQSlotUnx8
import Derived.Test.YtdieanikopjbjaaQSlotUnx9
import Derived.Test.YtdieanikopjbjaaQSlotUnx10
import Derived.Test.YtdieanikopjbjaaQSlotUnx11
import Derived.Test.YtdieanikopjbjaaQSlotUnx12
import Derived.Test.YtdieanikopjbjaaQSlotUnx13
import Derived.Test.YtdieanikopjbjaaQSlotUnx14
import Derived.Test.YtdieanikopjbjaaVPadPlain
import Derived.Deep.Slices
import Derived.Deep.Fields
import Derived.ChangeSame
import Derived.ProofKit
import Derived.SizedLaws
import Derived.Lib.SmallJoins
import Derived.ChangeSlices
namespace Go.Proofs.Ytdieanikopjbjaa.QSlotUn
open Go.RowKit Go.Proofs.YtdieanikopjbjaaW.PrintWords Go.Proofs.YtdieanikopjbjaaW.PrintLast Go.Proofs.YtdieanikopjbjaaW.PrintMore Go.Proofs.Ytdieanikopjbjaa.MixBase Go.Proofs.Ytdieanikopjbjaa.MixPlain Go.Proofs.Ytdieanikopjbjaa.NumBase Go.Proofs.Ytdieanikopjbjaa.PadPlain

/-- One round of the hash. -/
def hstep (h c : Int) : Int := (Go.bits .xor .u32 h c * 16777619) % 4294967296
def hrun (h : Int) (l : List Int) : Int := l.foldl hstep h
theorem hrun_cons (h c : Int) (l : List Int) : hrun h (c :: l) = hrun (hstep h c) l := rfl
theorem hstep_range (h c : Int) : 0 ≤ hstep h c ∧ hstep h c < 4294967296 := by unfold hstep; omega
theorem xor_same (a b : Int) (ha : 0 ≤ a) (ha' : a < 4294967296) (hb : 0 ≤ b) (hb' : b < 4294967296) : Go.bits .xor .u64 a b = Go.bits .xor .u32 a b := by
  rw [Go.u64_xor a b ha (by omega) hb (by omega), Go.u32_xor a b ha ha' hb hb']
theorem xor_range (a b : Int) (ha : 0 ≤ a) (ha' : a < 4294967296) (hb : 0 ≤ b) (hb' : b < 4294967296) : 0 ≤ Go.bits .xor .u32 a b ∧ Go.bits .xor .u32 a b < 4294967296 := by
  rw [Go.u32_xor a b ha ha' hb hb']
  have h : a.toNat ^^^ b.toNat < 2 ^ 32 := Nat.xor_lt_two_pow (by omega) (by omega)
  omega
def fin1 (h : Int) : Int := (Go.bits .xor .u32 h (h / 65536) * 2246822507) % 4294967296
def fin2 (h : Int) : Int := (Go.bits .xor .u32 h (h / 8192) * 3266489909) % 4294967296
def fin3 (h : Int) : Int := Go.bits .xor .u32 h (h / 65536)
theorem hash_l0 (s : ByteArray) (hs : (s.size : Int) < 9223372036854775807) (d : Nat) : ∀ (k : Nat) (h i : Int), 0 ≤ i → i ≤ s.size → (s.size : Int) - i = d → d < k →
    mix_Hash.l0 k s h (s.size : Int) i = some (fin3 (fin2 (fin1 (hrun h ((bytesOf s).drop i.toNat))))) := by
  induction d with
  | zero =>
    intro k h i h0 h1 hd hk
    obtain ⟨k, rfl⟩ : ∃ m, k = m + 1 := ⟨k - 1, by omega⟩
    simp only [mix_Hash.l0]
    rw [if_neg (by omega), drop_end s i (by omega)]
    rfl
  | succ d ih =>
    intro k h i h0 h1 hd hk
    obtain ⟨k, rfl⟩ : ∃ m, k = m + 1 := ⟨k - 1, by omega⟩
    have hr := bt_range s i
    have hlt : i < (s.size : Int) := by omega
    simp only [mix_Hash.l0]
    rw [if_pos hlt, if_pos h0, if_pos hlt, wrap64_small (by omega) (by omega), drop_byte s i h0 hlt, hrun_cons, show bt s i % 4294967296 = bt s i by omega]
    exact ih k (hstep h (bt s i)) (i + 1) (by omega) (by omega) (by omega) (by omega)
theorem hash_f (s : ByteArray) (hs : (s.size : Int) < 9223372036854775807) (k : Nat) (hk : s.size < k) :
    mix_Hash.f k s = some (fin3 (fin2 (fin1 (hrun 2166136261 (bytesOf s))))) := by
  unfold mix_Hash.f
  exact hash_l0 s hs s.size k 2166136261 0 (by omega) (by omega) (by omega) hk
/-- So many halvings. -/
def halve (x : Int) : Nat → Int
  | 0 => x
  | n + 1 => halve (x / 2) n
theorem down_l0 (h bits by_ : Int) (h0 : 0 ≤ h) (h1 : h < 4294967296) (hb0 : 0 ≤ by_) (hb1 : by_ < 4294967296) (hbits : bits < 100) (d : Nat) : ∀ (k : Nat) (x i : Int), 0 ≤ i → bits - i = d → d < k → 0 ≤ x → x < 4294967296 →
    aumbryref02_down.l0 k h bits by_ x i = some ((Go.bits .xor .u32 h (halve x d) * by_) % 4294967296) := by
  induction d with
  | zero =>
    intro k x i hi hd hk hx0 hx1
    obtain ⟨k, rfl⟩ : ∃ m, k = m + 1 := ⟨k - 1, by omega⟩
    have hr := xor_range h x h0 h1 hx0 hx1
    have hm : Go.bits .xor .u32 h x * by_ ≤ 4294967295 * 4294967295 := Int.mul_le_mul (by omega) (by omega) hb0 (by omega)
    have hm0 : 0 ≤ Go.bits .xor .u32 h x * by_ := Int.mul_nonneg hr.1 hb0
    simp only [aumbryref02_down.l0, aumbryref02_low.f]
    rw [if_neg (by omega), xor_same h x h0 h1 hx0 hx1, u64_small hm0 (by omega)]
    simp only [Option.bind_some]
    rw [Int.tmod_eq_emod_of_nonneg hm0]
    rfl
  | succ d ih =>
    intro k x i hi hd hk hx0 hx1
    obtain ⟨k, rfl⟩ : ∃ m, k = m + 1 := ⟨k - 1, by omega⟩
    simp only [aumbryref02_down.l0]
    rw [if_pos (by omega), Int.tdiv_eq_ediv_of_nonneg hx0, u64_small (i := x / 2) (by omega) (by omega), u64_small (i := i + 1) (by omega) (by omega)]
    exact ih k (x / 2) (i + 1) (by omega) (by omega) (by omega) (by omega) (by omega)
theorem down_f (h bits by_ : Int) (h0 : 0 ≤ h) (h1 : h < 4294967296) (hb0 : 0 ≤ by_) (hb1 : by_ < 4294967296) (hbits : bits < 100) (hbits0 : 0 ≤ bits) (k : Nat) (hk : bits.toNat < k) :
    aumbryref02_down.f k h bits by_ = some ((Go.bits .xor .u32 h (halve h bits.toNat) * by_) % 4294967296) := by
  unfold aumbryref02_down.f
  exact down_l0 h bits by_ h0 h1 hb0 hb1 hbits bits.toNat k h 0 (by omega) (by omega) hk h0 h1
theorem halve16 (x : Int) : halve x 16 = x / 65536 := by
  simp only [halve]
  omega
theorem halve13 (x : Int) : halve x 13 = x / 8192 := by
  simp only [halve]
  omega
theorem fin_range (h by_ : Int) : 0 ≤ (h * by_) % 4294967296 ∧ (h * by_) % 4294967296 < 4294967296 := by
  generalize h * by_ = m
  omega
theorem ref_l0 (s : ByteArray) (hs : (s.size : Int) < 9223372036854775807) (d : Nat) : ∀ (k : Nat) (h i : Int), 0 ≤ i → i ≤ s.size → (s.size : Int) - i = d → d + 17 < k → 0 ≤ h → h < 4294967296 →
    aumbryref02_Hash.l0 k s h i = some (fin3 (fin2 (fin1 (hrun h ((bytesOf s).drop i.toNat))))) := by
  induction d with
  | zero =>
    intro k h i hi hi1 hd hk h0 h1
    obtain ⟨k, rfl⟩ : ∃ m, k = m + 1 := ⟨k - 1, by omega⟩
    simp only [aumbryref02_Hash.l0]
    rw [if_neg (by omega), drop_end s i (by omega)]
    have e1 : (Go.bits .xor .u32 h (halve h (16 : Int).toNat) * 2246822507) % 4294967296 = fin1 h := by rw [show (16 : Int).toNat = 16 from rfl, halve16]; rfl
    have r1 : 0 ≤ fin1 h ∧ fin1 h < 4294967296 := fin_range _ _
    have e2 : (Go.bits .xor .u32 (fin1 h) (halve (fin1 h) (13 : Int).toNat) * 3266489909) % 4294967296 = fin2 (fin1 h) := by rw [show (13 : Int).toNat = 13 from rfl, halve13]; rfl
    have r2 : 0 ≤ fin2 (fin1 h) ∧ fin2 (fin1 h) < 4294967296 := fin_range _ _
    have r3 : 0 ≤ fin3 (fin2 (fin1 h)) ∧ fin3 (fin2 (fin1 h)) < 4294967296 := xor_range _ _ r2.1 r2.2 (by omega) (by omega)
    have e3 : (Go.bits .xor .u32 (fin2 (fin1 h)) (halve (fin2 (fin1 h)) (16 : Int).toNat) * 1) % 4294967296 = fin3 (fin2 (fin1 h)) := by
      rw [show (16 : Int).toNat = 16 from rfl, halve16, Int.mul_one]
      exact Int.emod_eq_of_lt r3.1 r3.2
    rw [down_f h 16 2246822507 h0 h1 (by omega) (by omega) (by omega) (by omega) k (by rw [show (16 : Int).toNat = 16 from rfl]; omega), e1]
    simp only [Option.bind_some]
    rw [down_f (fin1 h) 13 3266489909 r1.1 r1.2 (by omega) (by omega) (by omega) (by omega) k (by rw [show (13 : Int).toNat = 13 from rfl]; omega), e2]
    simp only [Option.bind_some]
    rw [down_f (fin2 (fin1 h)) 16 1 r2.1 r2.2 (by omega) (by omega) (by omega) (by omega) k (by rw [show (16 : Int).toNat = 16 from rfl]; omega), e3]
    simp only [Option.bind_some]
    rw [Int.emod_eq_of_lt r3.1 r3.2]
    rfl
  | succ d ih =>
    intro k h i hi hi1 hd hk h0 h1
    obtain ⟨k, rfl⟩ : ∃ m, k = m + 1 := ⟨k - 1, by omega⟩
    have hr := bt_range s i
    have hlt : i < (s.size : Int) := by omega
    have hx := xor_range h (bt s i) h0 h1 (by omega) (by omega)
    simp only [aumbryref02_Hash.l0, aumbryref02_low.f]
    rw [if_pos hlt, if_pos hi, u64_small (i := bt s i) (by omega) (by omega), xor_same h (bt s i) h0 h1 (by omega) (by omega), u64_small (by omega) (by omega)]
    simp only [Option.bind_some]
    rw [Int.tmod_eq_emod_of_nonneg (by omega), wrap64_small (by omega) (by omega), drop_byte s i hi hlt, hrun_cons]
    exact ih k (hstep h (bt s i)) (i + 1) (by omega) (by omega) (by omega) (by omega) (hstep_range _ _).1 (hstep_range _ _).2
theorem refhash_f (s : ByteArray) (hs : (s.size : Int) < 9223372036854775807) (k : Nat) (hk : s.size + 17 < k) :
    aumbryref02_Hash.f k s = some (fin3 (fin2 (fin1 (hrun 2166136261 (bytesOf s))))) := by
  unfold aumbryref02_Hash.f
  exact ref_l0 s hs s.size k 2166136261 0 (by omega) (by omega) (by omega) hk (by omega) (by omega)
def begins (c : Int) : Int := if 97 ≤ c ∧ c ≤ 122 then 1 else if 65 ≤ c ∧ c ≤ 90 then 2 else 0
def goesOn (c : Int) : Int := if 97 ≤ c ∧ c ≤ 122 then 1 else if 65 ≤ c ∧ c ≤ 90 then 2 else if 48 ≤ c ∧ c ≤ 57 then 3 else 0
theorem sign_f (c : Int) (k : Nat) : name_sign.f (k + 3) c = some (begins c, goesOn c) := by
  unfold name_sign.f begins goesOn
  by_cases h1 : 97 ≤ c
  · rw [if_pos h1]
    by_cases h2 : c ≤ 122
    · simp [name_sign.j0, h1, h2]
    · simp only [name_sign.j0, decide_eq_true_eq, h2, if_false, and_false]
      rw [if_pos (show c ≥ 65 by omega)]
      simp only [name_sign.j1, decide_eq_true_eq]
      rw [if_neg (by omega), if_pos (show c ≥ 48 by omega), if_neg (by omega)]
      repeat (rw [if_neg (by omega)])
  · rw [if_neg h1]
    simp only [name_sign.j0, Bool.false_eq_true, if_false, show ¬ (97 ≤ c ∧ c ≤ 122) from by omega]
    by_cases h3 : 65 ≤ c
    · rw [if_pos (show c ≥ 65 from h3)]
      by_cases h4 : c ≤ 90
      · simp [name_sign.j1, h3, h4]
      · simp only [name_sign.j1, decide_eq_true_eq]
        rw [if_neg h4, if_pos (show c ≥ 48 by omega), if_neg (show ¬ c ≤ 57 by omega), if_neg (show ¬ (65 ≤ c ∧ c ≤ 90) by omega), if_neg (show ¬ (65 ≤ c ∧ c ≤ 90) by omega), if_neg (show ¬ (48 ≤ c ∧ c ≤ 57) by omega)]
    · rw [if_neg (show ¬ c ≥ 65 from h3)]
      simp only [name_sign.j1, Bool.false_eq_true, if_false, show ¬ (65 ≤ c ∧ c ≤ 90) from by omega]
      by_cases h5 : 48 ≤ c
      · rw [if_pos (show c ≥ 48 from h5)]
        by_cases h6 : c ≤ 57
        · simp [h5, h6]
        · rw [if_neg h6, if_neg (by omega)]
      · rw [if_neg (show ¬ c ≥ 48 from h5), if_neg (by omega)]
def okSign (kd c : Int) : Bool := decide (kd = 1 ∧ (goesOn c = 1 ∨ goesOn c = 3) ∨ kd = 2 ∧ (goesOn c = 2 ∨ goesOn c = 3))
theorem goes_cases (c : Int) : goesOn c = 0 ∨ goesOn c = 1 ∨ goesOn c = 2 ∨ goesOn c = 3 := by unfold goesOn; split <;> (try split) <;> (try split) <;> simp
theorem begins_cases (c : Int) : begins c = 0 ∨ begins c = 1 ∨ begins c = 2 := by unfold begins; split <;> (try split) <;> simp
theorem and_ok (kd c : Int) (hk : kd = 0 ∨ kd = 1 ∨ kd = 2) : Go.bits .and .i64 (goesOn c) kd = 0 ↔ okSign kd c = false := by
  unfold okSign
  rcases hk with rfl | rfl | rfl <;> rcases goes_cases c with h | h | h | h <;> rw [h] <;> decide
def kindSpec (s : ByteArray) : Int := if s.size = 0 ∨ 8 < s.size then 0 else (if (bytesOf s).all (okSign (begins (bt s 0))) = true then begins (bt s 0) else 0)
theorem kind_l0 (s : ByteArray) (hs : (s.size : Int) ≤ 140737488351232) (kd : Int) (hk : kd = 0 ∨ kd = 1 ∨ kd = 2) (d : Nat) : ∀ (k : Nat) (i : Int), 0 ≤ i → i ≤ s.size → (s.size : Int) - i = d → d + 4 < k →
    name_Kind.l0 k s kd (s.size : Int) i = some (if ((bytesOf s).drop i.toNat).all (okSign kd) = true then kd else 0) := by
  induction d with
  | zero =>
    intro k i h0 h1 hd hk1
    obtain ⟨k, rfl⟩ : ∃ m, k = m + 1 := ⟨k - 1, by omega⟩
    simp only [name_Kind.l0]
    rw [if_neg (by omega), drop_end s i (by omega)]
    rfl
  | succ d ih =>
    intro k i h0 h1 hd hk1
    obtain ⟨k, rfl⟩ : ∃ m, k = m + 1 := ⟨k - 1, by omega⟩
    have hlt : i < (s.size : Int) := by omega
    simp only [name_Kind.l0]
    rw [if_pos hlt, if_pos h0, if_pos hlt, show k = (k - 3) + 3 by omega, sign_f, drop_byte s i h0 hlt, List.all_cons]
    simp only [Option.bind_some]
    by_cases ho : Go.bits .and .i64 (goesOn (bt s i)) kd = 0
    · rw [if_pos ho, (and_ok kd _ hk).1 ho]
      rfl
    · rw [if_neg ho, wrap64_small (by omega) (by omega), show k - 3 + 3 = k by omega, ih k (i + 1) (by omega) (by omega) (by omega) (by omega)]
      have ht : okSign kd (bt s i) = true := by
        cases h : okSign kd (bt s i) with
        | true => rfl
        | false => exact absurd ((and_ok kd _ hk).2 h) ho
      rw [ht, Bool.true_and]
theorem kind_f (s : ByteArray) (hs : (s.size : Int) ≤ 140737488351232) (k : Nat) (hk : s.size + 16 < k) : name_Kind.f k s = some (kindSpec s) := by
  obtain ⟨k, rfl⟩ : ∃ m, k = m + 1 := ⟨k - 1, by omega⟩
  unfold name_Kind.f kindSpec
  by_cases h0 : s.size = 0
  · have hl : s.toList = [] := by
      rw [Go.ByteArray.toList_eq]
      exact List.eq_nil_of_length_eq_zero (by rw [← Lib.size_eq]; exact h0)
    rw [if_pos hl, if_pos (Or.inl h0)]
    simp [name_Kind.j0]
  · have hl : ¬ s.toList = [] := by
      intro h
      rw [Go.ByteArray.toList_eq] at h
      exact h0 (by rw [Lib.size_eq, h]; rfl)
    rw [if_neg hl]
    simp only [name_Kind.j0, decide_eq_true_eq]
    by_cases h8 : (s.size : Int) > 8
    · rw [if_pos h8, if_pos (Or.inr (by omega))]
    · rw [if_neg h8, if_neg (show ¬ (s.size = 0 ∨ 8 < s.size) by omega), if_pos (show 0 < (s.size : Int) by omega), show k = (k - 3) + 3 by omega, sign_f]
      simp only [Option.bind_some]
      rw [show k - 3 + 3 = k by omega, kind_l0 s hs _ (begins_cases _) s.size k 0 (by omega) (by omega) (by omega) (by omega)]
      rfl
theorem begins_low {c : Int} : begins c = 1 ↔ 97 ≤ c ∧ c ≤ 122 := by unfold begins; split <;> (try split) <;> simp_all
theorem begins_up {c : Int} : begins c = 2 ↔ 65 ≤ c ∧ c ≤ 90 := by
  unfold begins
  split
  · rename_i h; simp; omega
  · split
    · rename_i h; simp; omega
    · rename_i h; simp; omega
def lowSign (first : Bool) (c : Int) : Bool := decide (97 ≤ c ∧ c ≤ 122) || (!first && decide (48 ≤ c ∧ c ≤ 57))
def upSign (first : Bool) (c : Int) : Bool := decide (65 ≤ c ∧ c ≤ 90) || (!first && decide (48 ≤ c ∧ c ≤ 57))
theorem low_ok (c : Int) : lowSign false c = okSign 1 c := by
  unfold lowSign okSign goesOn
  by_cases h1 : 97 ≤ c ∧ c ≤ 122
  · simp [h1]
  · by_cases h2 : 65 ≤ c ∧ c ≤ 90
    · have : ¬ (48 ≤ c ∧ c ≤ 57) := by omega
      simp [h1, h2, this]
    · by_cases h3 : 48 ≤ c ∧ c ≤ 57 <;> simp [h1, h2, h3]
theorem up_ok (c : Int) : upSign false c = okSign 2 c := by
  unfold upSign okSign goesOn
  by_cases h1 : 97 ≤ c ∧ c ≤ 122
  · have h2 : ¬ (65 ≤ c ∧ c ≤ 90) := by omega
    have : ¬ (48 ≤ c ∧ c ≤ 57) := by omega
    simp [h1, h2, this]
  · by_cases h2 : 65 ≤ c ∧ c ≤ 90
    · simp [h1, h2]
    · by_cases h3 : 48 ≤ c ∧ c ≤ 57 <;> simp [h1, h2, h3]
theorem refkind_step (s : ByteArray) (k : Nat) (a b : Bool) (i : Int) (h0 : 0 ≤ i) (hlt : i < (s.size : Int)) (hi : i < 9223372036854775807) :
    aumbryref03_Kind.l0 (k + 1) s a b i = aumbryref03_Kind.l0 k s (a && lowSign (decide (i = 0)) (bt s i)) (b && upSign (decide (i = 0)) (bt s i)) (i + 1) := by
  simp only [aumbryref03_Kind.l0]
  rw [if_pos hlt, if_pos h0, wrap64_small (by omega) (by omega)]
  unfold lowSign upSign
  have hz : decide (i > 0) = !decide (i = 0) := by
    by_cases hz : i = 0
    · subst hz; rfl
    · rw [decide_eq_true (show i > 0 by omega), decide_eq_false hz]; rfl
  rw [hz]
  generalize bt s i = c
  generalize decide (i = 0) = z
  generalize i + 1 = i1
  by_cases h1 : c ≥ 48 <;> by_cases h2 : c ≤ 57 <;> by_cases h3 : c ≥ 97 <;> by_cases h4 : c ≤ 122 <;> by_cases h5 : c ≥ 65 <;> by_cases h6 : c ≤ 90 <;> first
    | (exfalso; omega)
    | (have q1 : decide (97 ≤ c ∧ c ≤ 122) = (decide (c ≥ 97) && decide (c ≤ 122)) := by simp
       have q2 : decide (65 ≤ c ∧ c ≤ 90) = (decide (c ≥ 65) && decide (c ≤ 90)) := by simp
       have q3 : decide (48 ≤ c ∧ c ≤ 57) = (decide (c ≥ 48) && decide (c ≤ 57)) := by simp
       rw [q1, q2, q3]
       cases a <;> cases b <;> cases z <;> simp [h1, h2, h3, h4, h5, h6])
theorem refkind_l0 (s : ByteArray) (hs : (s.size : Int) ≤ 140737488351232) (d : Nat) : ∀ (k : Nat) (a b : Bool) (i : Int), 1 ≤ i → i ≤ s.size → (s.size : Int) - i = d → d < k →
    aumbryref03_Kind.l0 k s a b i = some (if (a && ((bytesOf s).drop i.toNat).all (okSign 1)) = true then 1 else (if (b && ((bytesOf s).drop i.toNat).all (okSign 2)) = true then 2 else 0)) := by
  induction d with
  | zero =>
    intro k a b i h0 h1 hd hk1
    obtain ⟨k, rfl⟩ : ∃ m, k = m + 1 := ⟨k - 1, by omega⟩
    simp only [aumbryref03_Kind.l0]
    rw [if_neg (by omega), drop_end s i (by omega)]
    cases a <;> cases b <;> rfl
  | succ d ih =>
    intro k a b i h0 h1 hd hk1
    obtain ⟨k, rfl⟩ : ∃ m, k = m + 1 := ⟨k - 1, by omega⟩
    have hlt : i < (s.size : Int) := by omega
    rw [refkind_step s k a b i (by omega) hlt (by omega), show decide (i = 0) = false from decide_eq_false (by omega), low_ok, up_ok,
      ih k _ _ (i + 1) (by omega) (by omega) (by omega) (by omega), drop_byte s i (by omega) hlt, List.all_cons, List.all_cons, Bool.and_assoc, Bool.and_assoc]
theorem refkind_f (s : ByteArray) (hs : (s.size : Int) ≤ 140737488351232) (k : Nat) (hk : s.size + 6 < k) : aumbryref03_Kind.f k s = some (kindSpec s) := by
  obtain ⟨k, rfl⟩ : ∃ m, k = m + 1 := ⟨k - 1, by omega⟩
  unfold aumbryref03_Kind.f kindSpec
  by_cases h0 : (s.size : Int) < 1
  · rw [if_pos h0, if_pos (Or.inl (by omega))]
    simp [aumbryref03_Kind.j0]
  · rw [if_neg h0]
    simp only [aumbryref03_Kind.j0, decide_eq_true_eq]
    by_cases h8 : (s.size : Int) > 8
    · rw [if_pos h8, if_pos (Or.inr (by omega))]
    · rw [if_neg h8, if_neg (show ¬ (s.size = 0 ∨ 8 < s.size) by omega)]
      obtain ⟨k, rfl⟩ : ∃ m, k = m + 1 := ⟨k - 1, by omega⟩
      rw [refkind_step s k true true 0 (by omega) (by omega) (by omega), refkind_l0 s hs (s.size - 1) k _ _ (0 + 1) (by omega) (by omega) (by omega) (by omega)]
      have hd : bytesOf s = bt s 0 :: (bytesOf s).drop ((0 : Int) + 1).toNat := by
        have := drop_byte s 0 (by omega) (by omega)
        simpa using this
      generalize hr : (bytesOf s).drop ((0 : Int) + 1).toNat = r at hd
      rw [hd, List.all_cons]
      generalize bt s 0 = c
      simp only [decide_true, Bool.true_and]
      unfold lowSign upSign
      simp only [Bool.not_true, Bool.false_and, Bool.or_false]
      by_cases h1 : 97 ≤ c ∧ c ≤ 122
      · have h2 : ¬ (65 ≤ c ∧ c ≤ 90) := by omega
        have hb : begins c = 1 := begins_low.2 h1
        have ho : okSign 1 c = true := by rw [← low_ok]; unfold lowSign; simp [h1]
        rw [hb, ho]
        simp [h1, h2]
      · by_cases h2 : 65 ≤ c ∧ c ≤ 90
        · have hb : begins c = 2 := begins_up.2 h2
          have ho : okSign 2 c = true := by rw [← up_ok]; unfold upSign; simp [h2]
          rw [hb, ho]
          simp [h1, h2]
        · have hb : begins c = 0 := by unfold begins; rw [if_neg h1, if_neg h2]
          rw [hb]
          simp [h1, h2]
theorem num_fits_yes (n w : Int) (h0 : 0 ≤ n) (h : Fits n w) : num_fits.f n w = some true := by
  obtain ⟨h1, h2, h3⟩ := h
  unfold num_fits.f
  rw [if_pos h1, if_pos h2]
  by_cases h8 : w = 8
  · rw [if_pos h8]
  · obtain ⟨m, rfl⟩ := Int.eq_ofNat_of_zero_le (show 0 ≤ w by omega)
    rw [if_neg h8, wrap64_small (by omega) (by omega), if_pos (by omega), shr8 n m (by omega), (fits_iff n m h0).2 (by simpa using h3)]
    rfl
theorem num_fits_no (n w : Int) (h0 : 0 ≤ n) (h64 : n < 18446744073709551616) (h : ¬ Fits n w) : num_fits.f n w = some false := by
  unfold num_fits.f
  by_cases h1 : w ≥ 1
  · rw [if_pos h1]
    by_cases h2 : w ≤ 8
    · rw [if_pos h2]
      have h8 : w ≠ 8 := by
        rintro rfl
        exact h ⟨by omega, by omega, by rw [show (8 : Int).toNat = 8 from rfl, pow_eight]; exact h64⟩
      obtain ⟨m, rfl⟩ := Int.eq_ofNat_of_zero_le (show 0 ≤ w by omega)
      rw [if_neg h8, wrap64_small (by omega) (by omega), if_pos (by omega), shr8 n m (by omega)]
      have hne : ¬ n / 256 ^ m = 0 := fun e => h ⟨h1, h2, by simpa using (fits_iff n m h0).1 e⟩
      rw [beq_eq_false_iff_ne.2 hne]
    · rw [if_neg h2]
  · rw [if_neg h1]
theorem num_put_l0 (n : Int) (w : Nat) (hw : w ≤ 8) (d : Nat) : ∀ (k i : Nat), i ≤ w → w - i = d → d < k →
    num_Put.l0 k n (w : Int) (List.replicate (w - i) 0 ++ digs n i) (w : Int) (i : Int) = some (strOfNums (digs n w), 0) := by
  induction d with
  | zero =>
    intro k i hi hd hk
    obtain ⟨k, rfl⟩ : ∃ m, k = m + 1 := ⟨k - 1, by omega⟩
    obtain rfl : i = w := by omega
    simp only [num_Put.l0]
    rw [if_neg (by omega), Nat.sub_self, List.replicate_zero, List.nil_append]
  | succ d ih =>
    intro k i hi hd hk
    obtain ⟨k, rfl⟩ : ∃ m, k = m + 1 := ⟨k - 1, by omega⟩
    simp only [num_Put.l0]
    rw [if_pos (by omega), wrap64_small (i := 8 * (i : Int)) (by omega) (by omega), if_pos (by omega), wrap64_small (i := (w : Int) - 1) (by omega) (by omega), wrap64_small (i := (w : Int) - 1 - i) (by omega) (by omega), if_pos (by omega),
      if_pos (by rw [List.length_append, List.length_replicate, digs_length]; omega), wrap64_small (by omega) (by omega), shr8 n i (by omega)]
    have e : ((w : Int) - 1 - i).toNat = d := by omega
    rw [e, show w - i = d + 1 by omega, set_zeros]
    have h := ih k (i + 1) (by omega) (by omega) (by omega)
    rw [show w - (i + 1) = d by omega] at h
    exact h
theorem num_put_f (n w : Int) (h0 : 0 ≤ n) (h64 : n < 18446744073709551616) (k : Nat) (hk : 8 < k) : num_Put.f k n w = some (putSpec n w) := by
  unfold num_Put.f putSpec
  by_cases h : Fits n w
  · rw [num_fits_yes n w h0 h, if_pos h]
    obtain ⟨h1, h2, h3⟩ := h
    obtain ⟨m, rfl⟩ := Int.eq_ofNat_of_zero_le (show 0 ≤ w by omega)
    simp only [Option.bind_some, if_true]
    rw [if_pos (by omega), if_pos (by omega)]
    have hl := num_put_l0 n m (by omega) m k 0 (by omega) (by omega) (by omega)
    rw [Nat.sub_zero, digs, List.append_nil] at hl
    exact hl
  · rw [num_fits_no n w h0 h64 h, if_neg h]
    rfl
theorem num_get_l0 (s : ByteArray) (hs : (s.size : Int) ≤ 9223372036854775807) (at_ : Int) (w : Nat) (ha : 0 ≤ at_) (haw : at_ + w ≤ s.size) (hw : w ≤ 8) (d : Nat) : ∀ (k i : Nat) (a : Int), i ≤ w → w - i = d → d < k → 0 ≤ a → a < 256 ^ i →
    num_Get.l0 k s at_ a (w : Int) (i : Int) = some (valFrom a (((bytesOf s).drop (at_ + i).toNat).take d), 0) := by
  induction d with
  | zero =>
    intro k i a hi hd hk ha0 ha1
    obtain ⟨k, rfl⟩ : ∃ m, k = m + 1 := ⟨k - 1, by omega⟩
    simp only [num_Get.l0]
    rw [if_neg (by omega), List.take_zero, valFrom_nil]
  | succ d ih =>
    intro k i a hi hd hk ha0 ha1
    obtain ⟨k, rfl⟩ : ∃ m, k = m + 1 := ⟨k - 1, by omega⟩
    have hb := bt_range s (at_ + i)
    have h7 := pow8 i (by omega)
    simp only [num_Get.l0]
    rw [if_pos (by omega), wrap64_small (i := at_ + i) (by omega) (by omega), if_pos (by omega), if_pos (by omega), wrap64_small (by omega) (by omega), or64 a (bt s (at_ + i)) ha0 (by omega) hb.1 (by omega), take_drop_cons s (at_ + i) d (by omega) (by omega), valFrom_cons]
    have h := ih k (i + 1) (a * 256 + bt s (at_ + i)) (by omega) (by omega) (by omega) (by omega) (by rw [pow_succ']; omega)
    rw [show at_ + ((i + 1 : Nat) : Int) = at_ + i + 1 by omega] at h
    exact h
theorem num_get_f (s : ByteArray) (hs : (s.size : Int) ≤ 9223372036854775807) (at_ w : Int) (k : Nat) (hk : 9 < k) : num_Get.f k s at_ w = some (getSpec s at_ w) := by
  obtain ⟨k, rfl⟩ : ∃ m, k = m + 1 := ⟨k - 1, by omega⟩
  unfold num_Get.f getSpec
  by_cases h1 : w < 1
  · rw [if_pos h1, if_pos (.inl h1)]
    simp only [num_Get.j0, if_true]
  · rw [if_neg h1]
    by_cases h2 : 8 < w
    · rw [if_pos (.inr h2), decide_eq_true h2]
      simp only [num_Get.j0, if_true]
    · rw [if_neg (by omega), decide_eq_false h2]
      simp only [num_Get.j0]
      rw [if_neg (by decide), wrap64_small (by omega) (by omega)]
      by_cases h3 : at_ < 0
      · rw [if_pos h3, if_pos (.inl h3)]
      · rw [if_neg h3]
        by_cases h4 : (s.size : Int) - w < at_
        · rw [if_pos h4, if_pos (.inr h4)]
        · rw [if_neg h4, if_neg (by omega)]
          obtain ⟨m, rfl⟩ := Int.eq_ofNat_of_zero_le (show 0 ≤ w by omega)
          have h := num_get_l0 s hs at_ m (by omega) (by omega) (by omega) m k 0 0 (by omega) (by omega) (by omega) (by omega) (by decide)
          rw [show at_ + ((0 : Nat) : Int) = at_ by omega] at h
          exact h
theorem ref_fits_l0 (w : Nat) (hw : w ≤ 8) (n : Int) (h0 : 0 ≤ n) (h64 : n < 18446744073709551616) (d : Nat) : ∀ (k i : Nat), i ≤ w → w - i = d → d < k → aumbryref01_Fits.l0 k (n / 256 ^ i) (w : Int) (i : Int) = some (n / 256 ^ w == 0) := by
  induction d with
  | zero =>
    intro k i hi hd hk
    obtain ⟨k, rfl⟩ : ∃ m, k = m + 1 := ⟨k - 1, by omega⟩
    obtain rfl : i = w := by omega
    simp only [aumbryref01_Fits.l0]
    rw [if_neg (by omega)]
  | succ d ih =>
    intro k i hi hd hk
    obtain ⟨k, rfl⟩ : ∃ m, k = m + 1 := ⟨k - 1, by omega⟩
    have h := ih k (i + 1) (by omega) (by omega) (by omega)
    have hn : 0 ≤ n / 256 ^ i := Int.ediv_nonneg h0 (Int.le_of_lt (pow_pos i))
    have hn1 : n / 256 ^ i ≤ n := Int.ediv_le_self _ h0
    simp only [aumbryref01_Fits.l0]
    rw [if_pos (by omega), Int.tdiv_eq_ediv_of_nonneg hn, u64_small (by omega) (by omega), div_div, wrap64_small (by omega) (by omega)]
    exact h
theorem ref_fits_f (n w : Int) (h0 : 0 ≤ n) (h64 : n < 18446744073709551616) (k : Nat) (hk : 9 < k) : aumbryref01_Fits.f k n w = some (fitsB n w) := by
  obtain ⟨k, rfl⟩ : ∃ m, k = m + 1 := ⟨k - 1, by omega⟩
  unfold aumbryref01_Fits.f fitsB
  by_cases h1 : w < 1
  · rw [if_pos h1, decide_eq_false (by intro h; exact absurd h.1 (by omega))]
    simp only [aumbryref01_Fits.j0, if_true]
  · rw [if_neg h1]
    by_cases h2 : 8 < w
    · rw [decide_eq_true h2, decide_eq_false (by intro h; exact absurd h.2.1 (by omega))]
      simp only [aumbryref01_Fits.j0, if_true]
    · rw [decide_eq_false h2]
      simp only [aumbryref01_Fits.j0]
      obtain ⟨m, rfl⟩ := Int.eq_ofNat_of_zero_le (show 0 ≤ w by omega)
      have h := ref_fits_l0 m (by omega) n h0 h64 m k 0 (by omega) (by omega) (by omega)
      rw [Int.pow_zero, Int.ediv_one] at h
      rw [if_neg (by decide)]
      refine h.trans ?_
      congr 1
      rw [Bool.eq_iff_iff, beq_iff_eq, decide_eq_true_iff, fits_iff n m h0]
      unfold Fits
      rw [show ((m : Int)).toNat = m by omega]
      omega
theorem ref_put_l0 (n : Int) (h0 : 0 ≤ n) (h64 : n < 18446744073709551616) (w : Nat) (hw : w ≤ 8) (d : Nat) : ∀ (k i : Nat), i ≤ w → w - i = d → d < k →
    aumbryref01_Put.l0 k (n / 256 ^ i) (w : Int) (strOfNums (digs n i)) (i : Int) = some (strOfNums (digs n w), 0) := by
  induction d with
  | zero =>
    intro k i hi hd hk
    obtain ⟨k, rfl⟩ : ∃ m, k = m + 1 := ⟨k - 1, by omega⟩
    obtain rfl : i = w := by omega
    simp only [aumbryref01_Put.l0]
    rw [if_neg (by omega)]
  | succ d ih =>
    intro k i hi hd hk
    obtain ⟨k, rfl⟩ : ∃ m, k = m + 1 := ⟨k - 1, by omega⟩
    have h := ih k (i + 1) (by omega) (by omega) (by omega)
    have hn : 0 ≤ n / 256 ^ i := Int.ediv_nonneg h0 (Int.le_of_lt (pow_pos i))
    have hn1 : n / 256 ^ i ≤ n := Int.ediv_le_self _ h0
    simp only [aumbryref01_Put.l0]
    rw [if_pos (by omega), Int.tmod_eq_emod_of_nonneg hn, Int.tdiv_eq_ediv_of_nonneg hn, u64_small (by omega) (by omega), div_div, wrap64_small (by omega) (by omega)]
    simp only [Option.bind_some]
    rw [if_pos (by rw [strOfNums_size, digs_size]; simp; omega)]
    have e : strOfNums [n / 256 ^ i % 256 % 256] ++ strOfNums (digs n i) = strOfNums (digs n (i + 1)) := by
      apply bytesOf_inj
      rw [bytesOf_append, digs_bytes, digs_bytes, bytes_nums _ (by simp; omega), digs, Int.emod_emod_of_dvd _ (Int.dvd_refl _)]
      rfl
    rw [e]
    exact h
theorem ref_put_f (n w : Int) (h0 : 0 ≤ n) (h64 : n < 18446744073709551616) (k : Nat) (hk : 9 < k) : aumbryref01_Put.f k n w = some (putSpec n w) := by
  unfold aumbryref01_Put.f putSpec
  rw [ref_fits_f n w h0 h64 k hk]
  simp only [Option.bind_some]
  unfold fitsB
  by_cases h : Fits n w
  · rw [if_pos (decide_eq_true h), if_pos h]
    obtain ⟨h1, h2, h3⟩ := h
    obtain ⟨m, rfl⟩ := Int.eq_ofNat_of_zero_le (show 0 ≤ w by omega)
    have hl := ref_put_l0 n h0 h64 m (by omega) m k 0 (by omega) (by omega) (by omega)
    rw [Int.pow_zero, Int.ediv_one] at hl
    exact hl
  · rw [if_neg (by rw [decide_eq_true_iff]; exact h), if_neg h]
theorem ref_place_f (s : ByteArray) (hs : (s.size : Int) ≤ 9223372036854775807) (at_ w : Int) (h1 : 1 ≤ w) (h2 : w ≤ 8) : aumbryref01_Place.f s at_ w = some (!decide (at_ < 0 ∨ (s.size : Int) - w < at_)) := by
  unfold aumbryref01_Place.f
  by_cases h3 : at_ ≥ 0
  · rw [if_pos h3]
    by_cases h4 : at_ ≤ (s.size : Int)
    · rw [if_pos h4, wrap64_small (by omega) (by omega)]
      congr 1
      rw [Bool.eq_iff_iff, Bool.not_eq_true', decide_eq_true_iff, decide_eq_false_iff_not]
      omega
    · rw [if_neg h4, decide_eq_true (by omega)]
      rfl
  · rw [if_neg h3, decide_eq_true (by omega)]
    rfl
theorem ref_get_l0 (s : ByteArray) (hs : (s.size : Int) ≤ 9223372036854775807) (at_ : Int) (w : Nat) (ha : 0 ≤ at_) (haw : at_ + w ≤ s.size) (hw : w ≤ 8) (d : Nat) : ∀ (k i : Nat) (a : Int), i ≤ w → w - i = d → d < k → 0 ≤ a → a < 256 ^ i →
    aumbryref01_Get.l0 k s at_ (w : Int) a (i : Int) = some (valFrom a (((bytesOf s).drop (at_ + i).toNat).take d), 0) := by
  induction d with
  | zero =>
    intro k i a hi hd hk ha0 ha1
    obtain ⟨k, rfl⟩ : ∃ m, k = m + 1 := ⟨k - 1, by omega⟩
    simp only [aumbryref01_Get.l0]
    rw [if_neg (by omega), List.take_zero, valFrom_nil]
  | succ d ih =>
    intro k i a hi hd hk ha0 ha1
    obtain ⟨k, rfl⟩ : ∃ m, k = m + 1 := ⟨k - 1, by omega⟩
    have hb := bt_range s (at_ + i)
    have h7 := pow8 i (by omega)
    simp only [aumbryref01_Get.l0]
    rw [if_pos (by omega), wrap64_small (i := at_ + i) (by omega) (by omega), if_pos (by omega), if_pos (by omega), wrap64_small (by omega) (by omega), u64_small (i := a * 256) (by omega) (by omega), u64_small (i := bt s _) (by omega) (by omega), u64_small (by omega) (by omega), take_drop_cons s (at_ + i) d (by omega) (by omega), valFrom_cons]
    have h := ih k (i + 1) (a * 256 + bt s (at_ + i)) (by omega) (by omega) (by omega) (by omega) (by rw [pow_succ']; omega)
    rw [show at_ + ((i + 1 : Nat) : Int) = at_ + i + 1 by omega] at h
    exact h
theorem ref_get_f (s : ByteArray) (hs : (s.size : Int) ≤ 9223372036854775807) (at_ w : Int) (k : Nat) (hk : 9 < k) : aumbryref01_Get.f k s at_ w = some (getSpec s at_ w) := by
  obtain ⟨k, rfl⟩ : ∃ m, k = m + 1 := ⟨k - 1, by omega⟩
  unfold aumbryref01_Get.f getSpec
  by_cases h1 : w < 1
  · rw [if_pos h1, if_pos (.inl h1)]
    simp only [aumbryref01_Get.j0, if_true]
  · rw [if_neg h1]
    by_cases h2 : 8 < w
    · rw [if_pos (.inr h2), decide_eq_true h2]
      simp only [aumbryref01_Get.j0, if_true]
    · rw [if_neg (show ¬ (w < 1 ∨ 8 < w) by omega), decide_eq_false h2]
      simp only [aumbryref01_Get.j0]
      rw [if_neg (by decide), ref_place_f s hs at_ w (by omega) (by omega)]
      simp only [Option.bind_some]
      by_cases h4 : at_ < 0 ∨ (s.size : Int) - w < at_
      · rw [decide_eq_true h4, if_pos h4]
        rfl
      · rw [decide_eq_false h4, if_neg h4]
        obtain ⟨m, rfl⟩ := Int.eq_ofNat_of_zero_le (show 0 ≤ w by omega)
        have h := ref_get_l0 s hs at_ m (by omega) (by omega) (by omega) m k 0 0 (by omega) (by omega) (by omega) (by omega) (by decide)
        rw [show at_ + ((0 : Nat) : Int) = at_ by omega] at h
        exact h
def isAddr (a : Int) : Bool := decide (a < 281474976710656) && (a % 65536 != 0)
theorem address_f (a : Int) (h : 0 ≤ a) : slot_address.f a = some (isAddr a) := by
  unfold slot_address.f isAddr
  by_cases h1 : a < 281474976710656
  · rw [if_pos h1, decide_eq_true h1, Int.tmod_eq_emod_of_nonneg h, Bool.true_and]
  · rw [if_neg h1, decide_eq_false h1, Bool.false_and]
theorem isaddress_f (a : Int) (h : 0 ≤ a) : aumbryref15_IsAddress.f a = some (isAddr a) := by
  unfold aumbryref15_IsAddress.f isAddr
  by_cases h1 : a < 281474976710656
  · rw [if_pos h1, decide_eq_true h1, Int.tmod_eq_emod_of_nonneg h, Bool.true_and]
  · rw [if_neg h1, decide_eq_false h1, Bool.false_and]
theorem isAddr_lt {a : Int} (h : isAddr a = true) : a < 281474976710656 := by
  unfold isAddr at h
  simp only [Bool.and_eq_true, decide_eq_true_eq] at h
  exact h.1
def hashFin (s : ByteArray) : Int := fin3 (fin2 (fin1 (hrun 2166136261 (bytesOf s))))
def kidsHash (x : ByteArray) : List Int → Int × Int
  | [] => (hashFin x, 0)
  | a :: l => if isAddr a = true then kidsHash (x ++ strOfNums (digs a 6)) l else (0, 1)
theorem put6 (a : Int) (h : isAddr a = true) : putSpec a 6 = (strOfNums (digs a 6), 0) := by
  unfold putSpec
  rw [if_pos ⟨by omega, by omega, by have := isAddr_lt h; show a < 256 ^ 6; omega⟩]
  rfl
theorem rd_drop (l : List Int) (i : Nat) (h : i < l.length) : l.drop i = rd l (i : Int) :: l.drop (i + 1) := by
  rw [List.drop_eq_getElem_cons h]
  unfold rd
  rw [show ((i : Int)).toNat = i by omega, List.getD_eq_getElem?_getD, List.getElem?_eq_getElem h]
  rfl
def Wf64 (l : List Int) : Prop := ∀ a ∈ l, 0 ≤ a ∧ a < 18446744073709551616
theorem wf_rd {l : List Int} (hw : Wf64 l) (i : Nat) (h : i < l.length) : 0 ≤ rd l (i : Int) ∧ rd l (i : Int) < 18446744073709551616 := by
  refine hw _ ?_
  have := rd_drop l i h
  have hm : rd l (i : Int) ∈ l.drop i := by rw [this]; exact List.mem_cons_self
  exact List.mem_of_mem_drop hm
theorem slot_hash_l0 (l : List Int) (hw : Wf64 l) (hl : l.length ≤ 4) (d : Nat) : ∀ (k i : Nat) (x : ByteArray), i ≤ l.length → l.length - i = d → d + 60 < k → x.size + 6 * d ≤ 50 →
    slot_Hash.l0 k x l (l.length : Int) (i : Int) = some (kidsHash x (l.drop i)) := by
  induction d with
  | zero =>
    intro k i x hi hd hk hx
    obtain ⟨k, rfl⟩ : ∃ m, k = m + 1 := ⟨k - 1, by omega⟩
    simp only [slot_Hash.l0]
    rw [if_neg (by omega), List.drop_eq_nil_of_le (by omega), hash_f x (by omega) k (by omega)]
    rfl
  | succ d ih =>
    intro k i x hi hd hk hx
    obtain ⟨k, rfl⟩ : ∃ m, k = m + 1 := ⟨k - 1, by omega⟩
    have hr := wf_rd hw i (by omega)
    rw [rd_drop l i (by omega)]
    simp only [slot_Hash.l0, kidsHash]
    rw [if_pos (by omega), if_pos (by omega), if_pos (by omega), address_f _ hr.1]
    simp only [Option.bind_some]
    by_cases ha : isAddr (rd l (i : Int)) = true
    · rw [if_pos ha, if_pos ha, num_put_f _ 6 hr.1 hr.2 k (by omega), put6 _ ha]
      simp only [Option.bind_some]
      have hsz : (x ++ strOfNums (digs (rd l (i : Int)) 6)).size = x.size + 6 := by rw [ByteArray.size_append, digs_size]
      rw [if_pos (by rw [digs_size]; omega), wrap64_small (by omega) (by omega), show (i : Int) + 1 = ((i + 1 : Nat) : Int) by omega]
      exact ih k (i + 1) _ (by omega) (by omega) (by omega) (by rw [hsz]; omega)
    · rw [if_neg ha, if_neg ha]
theorem refput_f (n w : Int) (h0 : 0 ≤ n) (h64 : n < 18446744073709551616) (k : Nat) (hk : 9 < k) : aumbryref15_put.f k n w = some (putSpec n w).1 := by
  unfold aumbryref15_put.f
  rw [ref_put_f n w h0 h64 k hk]
  rfl
theorem ref_hash_l0 (l : List Int) (hw : Wf64 l) (hl : l.length ≤ 4) (d : Nat) : ∀ (k i : Nat) (x : ByteArray), i ≤ l.length → l.length - i = d → d + 80 < k → x.size + 6 * d ≤ 50 →
    aumbryref15_Hash.l0 k l x (l.length : Int) (i : Int) = some (kidsHash x (l.drop i)) := by
  induction d with
  | zero =>
    intro k i x hi hd hk hx
    obtain ⟨k, rfl⟩ : ∃ m, k = m + 1 := ⟨k - 1, by omega⟩
    simp only [aumbryref15_Hash.l0]
    rw [if_neg (by omega), List.drop_eq_nil_of_le (by omega), refhash_f x (by omega) k (by omega)]
    rfl
  | succ d ih =>
    intro k i x hi hd hk hx
    obtain ⟨k, rfl⟩ : ∃ m, k = m + 1 := ⟨k - 1, by omega⟩
    have hr := wf_rd hw i (by omega)
    rw [rd_drop l i (by omega)]
    simp only [aumbryref15_Hash.l0, kidsHash]
    rw [if_pos (by omega), if_pos (by omega), if_pos (by omega), isaddress_f _ hr.1]
    simp only [Option.bind_some]
    by_cases ha : isAddr (rd l (i : Int)) = true
    · rw [if_pos ha, if_pos ha, refput_f _ 6 hr.1 hr.2 k (by omega), put6 _ ha]
      simp only [Option.bind_some]
      have hsz : (x ++ strOfNums (digs (rd l (i : Int)) 6)).size = x.size + 6 := by rw [ByteArray.size_append, digs_size]
      rw [if_pos (by rw [digs_size]; omega), wrap64_small (by omega) (by omega), show (i : Int) + 1 = ((i + 1 : Nat) : Int) by omega]
      exact ih k (i + 1) _ (by omega) (by omega) (by omega) (by rw [hsz]; omega)
    · rw [if_neg ha, if_neg ha]
theorem repeat_f (m : Nat) (h : m ≤ 65536) : strings_Repeat.f (⟨#[0]⟩ : ByteArray) (m : Int) = some (zeros m) := by
  unfold strings_Repeat.f
  rw [if_pos (by omega), if_pos (by omega), if_pos (by simp [ByteArray.size]; omega), show ((m : Int)).toNat = m by omega, repeat_zeros]
theorem num_pad8 (s : ByteArray) (hs : s.size ≤ 8) (k : Nat) (hk : 0 < k) : num_Pad.f k s 8 = some (s ++ zeros (8 - s.size), 0) := by
  obtain ⟨k, rfl⟩ : ∃ m, k = m + 1 := ⟨k - 1, by omega⟩
  unfold num_Pad.f
  rw [if_neg (by omega)]
  simp only [num_Pad.j0, show decide ((8 : Int) > 65536) = false from rfl, Bool.false_eq_true, if_false]
  rw [if_neg (by omega), wrap64_small (by omega) (by omega), show (8 : Int) - (s.size : Int) = ((8 - s.size : Nat) : Int) by omega, repeat_f _ (by omega)]
  simp only [Option.bind_some]
  rw [zeros_size, if_pos (by omega)]
theorem ref_zeros_f (m : Nat) (h : m ≤ 281474976710656) : aumbryref01_Zeros.f (m : Int) = some (zeros m) := by
  unfold aumbryref01_Zeros.f
  rw [if_pos (by omega), if_pos (by omega), show ((m : Int)).toNat = m by omega]
  rfl
theorem padded_f (s : ByteArray) (hs : s.size ≤ 8) : aumbryref15_padded.f s = some (s ++ zeros (8 - s.size)) := by
  unfold aumbryref15_padded.f
  rw [wrap64_small (by omega) (by omega), show (8 : Int) - (s.size : Int) = ((8 - s.size : Nat) : Int) by omega, ref_zeros_f _ (by omega)]
  simp only [Option.bind_some]
  rw [zeros_size, if_pos (by omega)]
theorem kind_size {s : ByteArray} (h : ¬ kindSpec s = 0) : 1 ≤ s.size ∧ s.size ≤ 8 := by
  unfold kindSpec at h
  by_cases h0 : s.size = 0 ∨ 8 < s.size
  · rw [if_pos h0] at h; exact absurd rfl h
  · omega
def hashSpec (nm : ByteArray) (l : List Int) : Int × Int :=
  if kindSpec nm = 0 then (0, 4) else if l.length > 4 then (0, 5) else if kindSpec nm = 2 ∧ l.length > 0 then (0, 5) else kidsHash ((nm ++ zeros (8 - nm.size)) ++ strOfNums [(l.length : Int)]) l
theorem headText_size (nm : ByteArray) (h : nm.size ≤ 8) (x : Int) : ((nm ++ zeros (8 - nm.size)) ++ strOfNums [x]).size = 9 := by
  rw [ByteArray.size_append, ByteArray.size_append, zeros_size, strOfNums_size]
  simp only [List.length_cons, List.length_nil]
  omega
theorem slot_hash_f (nm : ByteArray) (hs : (nm.size : Int) ≤ 140737488351232) (l : List Int) (hw : Wf64 l) (k : Nat) (hk : nm.size + 100 < k) : slot_Hash.f k nm l = some (hashSpec nm l) := by
  unfold slot_Hash.f hashSpec
  rw [kind_f nm hs k (by omega)]
  simp only [Option.bind_some]
  by_cases h0 : kindSpec nm = 0
  · rw [if_pos h0, if_pos h0]
  · rw [if_neg h0, if_neg h0]
    have hz := kind_size h0
    by_cases h4 : l.length > 4
    · rw [if_pos (by omega), if_pos h4]
    · rw [if_neg (show ¬ (l.length : Int) > 4 by omega), if_neg h4]
      have hj : slot_Hash.j0 k nm l = some (kidsHash ((nm ++ zeros (8 - nm.size)) ++ strOfNums [(l.length : Int)]) l) := by
        obtain ⟨k, rfl⟩ : ∃ m, k = m + 1 := ⟨k - 1, by omega⟩
        simp only [slot_Hash.j0]
        rw [num_pad8 nm hz.2 k (by omega)]
        simp only [Option.bind_some]
        rw [show (l.length : Int) % 256 = (l.length : Int) by omega]
        rw [if_pos (by rw [ByteArray.size_append, zeros_size, strOfNums_size]; simp only [List.length_cons, List.length_nil]; omega)]
        exact slot_hash_l0 l hw (by omega) l.length k 0 _ (by omega) (by omega) (by omega) (by rw [headText_size nm hz.2]; omega)
      by_cases h2 : kindSpec nm = 2
      · rw [if_pos h2]
        by_cases h3 : l.length > 0
        · rw [if_pos (by omega), if_pos ⟨h2, h3⟩]
        · rw [if_neg (show ¬ (l.length : Int) > 0 by omega), if_neg (fun h => h3 h.2), hj]
      · rw [if_neg h2, if_neg (fun h => h2 h.1), hj]
theorem ref_hash_f (nm : ByteArray) (hs : (nm.size : Int) ≤ 140737488351232) (l : List Int) (_hl : l.length ≤ maxLen) (hw : Wf64 l) (k : Nat) (hk : nm.size + 120 < k) : aumbryref15_Hash.f k nm l = some (hashSpec nm l) := by
  unfold aumbryref15_Hash.f hashSpec
  rw [refkind_f nm hs k (by omega)]
  simp only [Option.bind_some]
  by_cases h0 : kindSpec nm = 0
  · rw [if_pos h0, if_pos h0]
  · rw [if_neg h0, if_neg h0]
    have hz := kind_size h0
    obtain ⟨k, rfl⟩ : ∃ m, k = m + 1 := ⟨k - 1, by omega⟩
    by_cases h4 : l.length > 4
    · rw [if_pos (by omega), if_pos h4]
      simp only [aumbryref15_Hash.j0, if_true]
    · rw [if_neg (show ¬ (l.length : Int) > 4 by omega), if_neg h4]
      have hj : aumbryref15_Hash.j0 (k + 1) nm l false = some (kidsHash ((nm ++ zeros (8 - nm.size)) ++ strOfNums [(l.length : Int)]) l) := by
        simp only [aumbryref15_Hash.j0, Bool.false_eq_true, if_false]
        rw [padded_f nm hz.2]
        simp only [Option.bind_some]
        rw [u64_small (by omega) (by omega), refput_f _ 1 (by omega) (by omega) k (by omega)]
        simp only [Option.bind_some]
        have hp : (putSpec (l.length : Int) 1).1 = strOfNums [(l.length : Int)] := by
          unfold putSpec
          rw [if_pos ⟨by omega, by omega, by show (l.length : Int) < 256 ^ 1; omega⟩]
          show strOfNums (digs (l.length : Int) 1) = _
          simp only [digs]
          rw [show (l.length : Int) / 256 ^ 0 % 256 = (l.length : Int) by rw [show (256 : Int) ^ 0 = 1 from rfl]; omega]
        rw [hp, if_pos (by rw [ByteArray.size_append, zeros_size, strOfNums_size]; simp only [List.length_cons, List.length_nil]; omega)]
        exact ref_hash_l0 l hw (by omega) l.length k 0 _ (by omega) (by omega) (by omega) (by rw [headText_size nm hz.2]; omega)
      by_cases h2 : kindSpec nm = 2
      · rw [if_pos h2]
        by_cases h3 : l.length > 0
        · rw [decide_eq_true (show (l.length : Int) > 0 by omega), if_pos ⟨h2, h3⟩]
          simp only [aumbryref15_Hash.j0, if_true]
        · rw [decide_eq_false (show ¬ (l.length : Int) > 0 by omega), if_neg (fun h => h3 h.2), hj]
      · rw [if_neg h2, if_neg (fun h => h2 h.1), hj]
structure NodeOk (n : S76) : Prop where
  at0 : 0 ≤ n.f0
  at1 : n.f0 < 18446744073709551616
  name : n.f1.size ≤ 140737488351232
  kids : Wf64 n.f2
  kidsl : n.f2.length ≤ maxLen
  c0 : -9223372036854775808 ≤ n.f3
  c1 : n.f3 ≤ 9223372036854775807
  n0 : 0 ≤ n.f5
  n1 : n.f5 < 18446744073709551616
def partsB (a h : Int) : Int := if isAddr a = true then (if a / 65536 = h then 0 else 3) else 3
def mayOf (n : S76) : Int :=
  if (hashSpec n.f1 n.f2).2 = 0 then (if n.f3 < 0 ∨ n.f3 > 4294967295 ∨ (n.f5 ≠ 0 ∧ isAddr n.f5 = false) then 1 else partsB n.f0 (hashSpec n.f1 n.f2).1) else (hashSpec n.f1 n.f2).2
theorem parts_f (a : Int) (h : 0 ≤ a) : slot_Parts.f a = some (if isAddr a = true then (a / 65536, a % 65536, true) else (0, 0, false)) := by
  unfold slot_Parts.f
  rw [address_f a h]
  simp only [Option.bind_some]
  by_cases ha : isAddr a = true
  · have hl := isAddr_lt ha
    rw [if_pos ha, if_pos ha, Int.tdiv_eq_ediv_of_nonneg h, Int.tmod_eq_emod_of_nonneg h, u64_small (i := a / 65536) (by omega) (by omega), wrap64_small (by omega) (by omega), Int.emod_eq_of_lt (by omega) (by omega)]
  · rw [if_neg ha, if_neg ha]
theorem may_j0 (n : S76) (ok : NodeOk n) (h : Int) (k : Nat) (b : Bool) : slot_may.j0 (k + 1) h b n.f0 n.f1 n.f2 n.f3 n.f4 n.f5 = some (if b = true then 1 else partsB n.f0 h) := by
  simp only [slot_may.j0]
  by_cases hb : b = true
  · rw [if_pos hb, if_pos hb]
  · rw [if_neg hb, if_neg hb, parts_f n.f0 ok.at0]
    unfold partsB
    simp only [Option.bind_some]
    by_cases ha : isAddr n.f0 = true
    · simp only [ha, if_true]
      split <;> rfl
    · simp only [ha, if_false, Bool.false_eq_true]
theorem may_f (n : S76) (ok : NodeOk n) (k : Nat) (hk : n.f1.size + 100 < k) : slot_may.f k n.f0 n.f1 n.f2 n.f3 n.f4 n.f5 = some (mayOf n) := by
  unfold slot_may.f mayOf
  have hn := ok.name
  rw [slot_hash_f n.f1 (by omega) n.f2 ok.kids k hk]
  simp only [Option.bind_some]
  by_cases h0 : (hashSpec n.f1 n.f2).2 = 0
  · rw [if_pos h0, if_pos h0]
    obtain ⟨k, rfl⟩ : ∃ m, k = m + 1 := ⟨k - 1, by omega⟩
    simp only [may_j0 n ok, if_true, Bool.false_eq_true, if_false]
    by_cases h1 : n.f3 < 0
    · rw [if_pos h1, if_pos (Or.inl h1)]
    · rw [if_neg h1]
      by_cases h2 : n.f3 > 4294967295
      · rw [if_pos h2, if_pos (Or.inr (Or.inl h2))]
      · rw [if_neg h2]
        by_cases h3 : n.f5 = 0
        · rw [if_pos h3, if_neg (by rintro (h | h | h); exact h1 h; exact h2 h; exact h.1 h3)]
        · rw [if_neg h3, address_f _ ok.n0]
          simp only [Option.bind_some]
          by_cases h4 : isAddr n.f5 = true
          · rw [h4, if_neg (by decide), if_neg (by rintro (h | h | h); exact h1 h; exact h2 h; exact absurd h.2 (by decide))]
          · have h5 : isAddr n.f5 = false := by simpa using h4
            rw [h5, if_pos (by decide), if_pos (Or.inr (Or.inr ⟨h3, rfl⟩))]
  · rw [if_neg h0, if_neg h0]
theorem refmay_j0 (n : S76) (ok : NodeOk n) (h : Int) (k : Nat) (b : Bool) : aumbryref15_May.j0 (k + 1) h b n.f0 n.f1 n.f2 n.f3 n.f4 n.f5 = some (if b = true then 1 else partsB n.f0 h) := by
  simp only [aumbryref15_May.j0]
  by_cases hb : b = true
  · rw [if_pos hb, if_pos hb]
  · rw [if_neg hb, if_neg hb, isaddress_f n.f0 ok.at0]
    unfold partsB
    simp only [Option.bind_some]
    by_cases ha : isAddr n.f0 = true
    · have hl := isAddr_lt ha
      have h0 := ok.at0
      rw [if_pos ha, if_pos ha, Int.tdiv_eq_ediv_of_nonneg h0, u64_small (i := n.f0 / 65536) (by omega) (by omega), Int.emod_eq_of_lt (by omega) (by omega)]
      split <;> rfl
    · simp only [ha, if_false, Bool.false_eq_true]
theorem refmay_f (n : S76) (ok : NodeOk n) (k : Nat) (hk : n.f1.size + 120 < k) : aumbryref15_May.f k n.f0 n.f1 n.f2 n.f3 n.f4 n.f5 = some (mayOf n) := by
  unfold aumbryref15_May.f mayOf
  have hn := ok.name
  rw [ref_hash_f n.f1 (by omega) n.f2 ok.kidsl ok.kids k hk]
  simp only [Option.bind_some]
  by_cases h0 : (hashSpec n.f1 n.f2).2 = 0
  · rw [if_pos h0, if_pos h0]
    obtain ⟨k, rfl⟩ : ∃ m, k = m + 1 := ⟨k - 1, by omega⟩
    simp only [refmay_j0 n ok, if_true, Bool.false_eq_true, if_false]
    by_cases h1 : n.f3 < 0
    · rw [if_pos h1, if_pos (Or.inl h1)]
    · rw [if_neg h1]
      by_cases h2 : n.f3 > 4294967295
      · rw [if_pos h2, if_pos (Or.inr (Or.inl h2))]
      · rw [if_neg h2]
        by_cases h3 : n.f5 = 0
        · rw [if_pos h3, if_neg (by rintro (h | h | h); exact h1 h; exact h2 h; exact h.1 h3)]
        · rw [if_neg h3, isaddress_f _ ok.n0]
          simp only [Option.bind_some]
          by_cases h4 : isAddr n.f5 = true
          · rw [h4, if_neg (by decide), if_neg (by rintro (h | h | h); exact h1 h; exact h2 h; exact absurd h.2 (by decide))]
          · have h5 : isAddr n.f5 = false := by simpa using h4
            rw [h5, if_pos (by decide), if_pos (Or.inr (Or.inr ⟨h3, rfl⟩))]
  · rw [if_neg h0, if_neg h0]
theorem splice_mid {α : Type} (A B C S : List α) (o : Nat) (ho : o = A.length) (hS : S.length = B.length) : splice (A ++ (B ++ C)) o S = A ++ (S ++ C) := by
  subst ho
  unfold splice
  rw [List.take_left', List.drop_append, List.drop_eq_nil_of_le (by omega), List.nil_append, show A.length + S.length - A.length = B.length by omega, List.drop_left']
  · rfl
  · rfl
/-- A list of bytes as numbers, and back. -/
def u8s (l : List Int) : List UInt8 := l.map fun c => c.toNat.toUInt8
theorem u8s_append (a b : List Int) : u8s (a ++ b) = u8s a ++ u8s b := by simp [u8s]
theorem u8s_length (a : List Int) : (u8s a).length = a.length := by simp [u8s]
theorem u8s_bytes (s : ByteArray) : u8s (bytesOf s) = s.data.toList := by
  unfold u8s bytesOf
  rw [List.map_map]
  refine (List.map_congr_left (fun b _ => ?_)).trans (List.map_id _)
  simp
theorem str_u8s (l : List Int) (h : ∀ c ∈ l, 0 ≤ c ∧ c < 256) : (strOfNums l).data.toList = u8s l := by
  rw [← u8s_bytes, bytes_nums l h]
def kidBytes (l : List Int) : List Int := l.flatMap fun a => digs a 6
theorem kidBytes_length (l : List Int) : (kidBytes l).length = 6 * l.length := by
  unfold kidBytes
  induction l with
  | nil => rfl
  | cons a l ih => rw [List.flatMap_cons, List.length_append, ih, digs_length, List.length_cons]; omega
def flagOf (b : Bool) : Int := if b then 1 else 0
def Z (m : Nat) : List Int := List.replicate m 0
theorem Z_length (m : Nat) : (Z m).length = m := List.length_replicate
/-- A node's slot. -/
def nodeText (n : S76) : List Int :=
  [1] ++ ([flagOf n.f4] ++ (digs (n.f0 % 65536) 2 ++ (bytesOf n.f1 ++ (Z (8 - n.f1.size) ++ ([(n.f2.length : Int)] ++ (digs n.f3 4 ++ (digs n.f5 6 ++ (kidBytes n.f2 ++ (Z (24 - 6 * n.f2.length) ++ [0])))))))))
/-- What a node must be for its slot to be written whole. -/
structure Wr (n : S76) : Prop where
  name : n.f1.size ≤ 8
  kidsl : n.f2.length ≤ 4
  kids : ∀ a ∈ n.f2, 0 ≤ a ∧ a < 281474976710656
  at0 : 0 ≤ n.f0
  c0 : 0 ≤ n.f3
  c1 : n.f3 ≤ 4294967295
  n0 : 0 ≤ n.f5
  n1 : n.f5 < 281474976710656
theorem nodeText_length (n : S76) (h : Wr n) : (nodeText n).length = 48 := by
  have h1 := h.name
  have h2 := h.kidsl
  unfold nodeText
  simp only [List.length_append, List.length_cons, List.length_nil, digs_length, bytesOf_length, Z_length, kidBytes_length]
  omega
theorem nodeText_range (n : S76) (h : Wr n) : ∀ c ∈ nodeText n, 0 ≤ c ∧ c < 256 := by
  have h2 := h.kidsl
  intro c hc
  unfold nodeText at hc
  simp only [List.mem_append, List.mem_cons, List.not_mem_nil, or_false] at hc
  rcases hc with rfl | rfl | hc | hc | hc | rfl | hc | hc | hc | hc | rfl
  · omega
  · unfold flagOf; split <;> omega
  · exact digs_range _ _ c hc
  · exact bytesOf_range _ c hc
  · have := List.eq_of_mem_replicate hc; omega
  · omega
  · exact digs_range _ _ c hc
  · exact digs_range _ _ c hc
  · unfold kidBytes at hc
    obtain ⟨a, _, ha⟩ := List.mem_flatMap.1 hc
    exact digs_range _ _ c ha
  · have := List.eq_of_mem_replicate hc; omega
  · omega
theorem put_fits (n : Int) (w : Nat) (h1 : 1 ≤ w) (h8 : w ≤ 8) (h : n < 256 ^ w) : putSpec n (w : Int) = (strOfNums (digs n w), 0) := by
  unfold putSpec
  rw [if_pos ⟨by omega, by omega, by rw [show ((w : Int)).toNat = w by omega]; exact h⟩, show ((w : Int)).toNat = w by omega]
theorem digs_u8 (n : Int) (w : Nat) : (strOfNums (digs n w)).data.toList = u8s (digs n w) := str_u8s _ (digs_range n w)
theorem digs_one (n : Int) (h0 : 0 ≤ n) (h : n < 256) : digs n 1 = [n] := by
  simp only [digs]
  rw [show n / 256 ^ 0 % 256 = n by rw [show (256 : Int) ^ 0 = 1 from rfl]; omega]
theorem laid_one (k : Nat) (hk : 8 < k) (o w : Nat) (v : Int) (rest : List (Nat × Int × Int)) (L : List UInt8) (h0 : 0 ≤ v) (h1 : 1 ≤ w) (h8 : w ≤ 8) (h : v < 256 ^ w) (h64 : v < 18446744073709551616) (ho : o + w ≤ 48) :
    laidOver k ((o, v, (w : Int)) :: rest) L = laidOver k rest (splice L o (u8s (digs v w))) := by
  simp only [laidOver]
  rw [num_put_f v w h0 h64 k hk, put_fits v w h1 h8 h]
  simp only [Option.bind_some]
  rw [digs_size, if_pos ho, digs_u8]
theorem laid_kids (k : Nat) (hk : 8 < k) (A C : List UInt8) : ∀ (l : List Int) (i : Nat) (B : List UInt8), (∀ a ∈ l, 0 ≤ a ∧ a < 281474976710656) → A.length + B.length = 23 + 6 * i → i + l.length ≤ 4 → ∀ (T : List UInt8), T.length = 6 * l.length →
    laidOver k (kidsFrom i l) (A ++ (B ++ (T ++ C))) = some (A ++ (B ++ (u8s (kidBytes l) ++ C)))
  | [], i, B, _, _, _, T, hT => by
    obtain rfl : T = [] := List.eq_nil_of_length_eq_zero (by simpa using hT)
    rfl
  | a :: l, i, B, ha, hi, hl, T, hT => by
    have ha1 := ha a List.mem_cons_self
    simp only [List.length_cons] at hl hT
    simp only [kidsFrom]
    have hl6 := laid_one k hk (23 + 6 * i) 6 a (kidsFrom (i + 1) l) (A ++ (B ++ (T ++ C))) ha1.1 (by omega) (by omega) (by show a < 256 ^ 6; omega) (by omega) (by omega)
    rw [show ((6 : Nat) : Int) = 6 from rfl] at hl6
    rw [hl6]
    have hT6 : T = T.take 6 ++ T.drop 6 := (List.take_append_drop 6 T).symm
    have hs : splice (A ++ (B ++ (T ++ C))) (23 + 6 * i) (u8s (digs a 6)) = A ++ ((B ++ u8s (digs a 6)) ++ (T.drop 6 ++ C)) := by
      rw [show A ++ (B ++ (T ++ C)) = (A ++ B) ++ (T.take 6 ++ (T.drop 6 ++ C)) by
        conv => lhs; rw [hT6]
        simp only [List.append_assoc]]
      rw [splice_mid (A ++ B) (T.take 6) (T.drop 6 ++ C) (u8s (digs a 6)) _ (by rw [List.length_append]; omega) (by rw [u8s_length, digs_length, List.length_take]; omega)]
      simp only [List.append_assoc]
    rw [hs, laid_kids k hk A C l (i + 1) (B ++ u8s (digs a 6)) (fun b hb => ha b (List.mem_cons_of_mem _ hb)) (by rw [List.length_append, u8s_length, digs_length]; omega) (by omega) (T.drop 6) (by rw [List.length_drop]; omega)]
    rw [show kidBytes (a :: l) = digs a 6 ++ kidBytes l from List.flatMap_cons, u8s_append]
    simp only [List.append_assoc]
theorem u8z (m : Nat) : u8s (Z m) = List.replicate m 0 := by simp [u8s, Z]
theorem write_f (n : S76) (h : Wr n) (k : Nat) (hk : 8 < k) : slot_write.f k n.f0 n.f1 n.f2 n.f3 n.f4 n.f5 = some (u8s (nodeText n)) := by
  have h1 := h.name
  have h2 := h.kidsl
  have ha0 := h.at0
  have hc0 := h.c0
  have hc1 := h.c1
  have hn0 := h.n0
  have hn1 := h.n1
  unfold slot_write.f
  rw [if_pos (by omega), if_pos h2, if_pos ha0]
  have hhead : slotHead n.f1 = [1] ++ ([0] ++ (List.replicate 2 0 ++ (n.f1.data.toList ++ (List.replicate (8 - n.f1.size) 0 ++ ([0] ++ (List.replicate 4 0 ++ (List.replicate 6 0 ++ (List.replicate (6 * n.f2.length) 0 ++ (List.replicate (24 - 6 * n.f2.length) 0 ++ [0]))))))))) := by
    unfold slotHead
    have e : (1 :: List.replicate 47 0 : List UInt8) = ([1] ++ ([0] ++ List.replicate 2 0)) ++ (List.replicate n.f1.size 0 ++ (List.replicate (8 - n.f1.size) 0 ++ ([0] ++ (List.replicate 4 0 ++ (List.replicate 6 0 ++ (List.replicate (6 * n.f2.length) 0 ++ (List.replicate (24 - 6 * n.f2.length) 0 ++ [0]))))))) := by
      have r1 : ([0] : List UInt8) = List.replicate 1 0 := rfl
      rw [r1]
      simp only [List.replicate_append_replicate, List.append_assoc]
      rw [show n.f1.size + (8 - n.f1.size + (1 + (4 + (6 + (6 * n.f2.length + (24 - 6 * n.f2.length + 1)))))) = 44 by omega]
      rfl
    rw [e, splice_mid _ (List.replicate n.f1.size 0) _ n.f1.data.toList 4 rfl (by rw [List.length_replicate, ← Lib.size_eq])]
    simp only [List.append_assoc]
  have hwl : IntKind.u64.wrap (n.f2.length : Int) = (n.f2.length : Int) := u64_small (by omega) (by omega)
  have hwc : IntKind.u64.wrap n.f3 = n.f3 := u64_small (by omega) (by omega)
  have hfl : 0 ≤ flagOf n.f4 ∧ flagOf n.f4 ≤ 1 := by unfold flagOf; split <;> omega
  have hN : n.f1.data.toList.length = n.f1.size := (Lib.size_eq n.f1).symm
  have hf : laidOver k (fieldsOf n.f0 n.f2.length n.f3 n.f4 n.f5) (slotHead n.f1) = some (([1] ++ (u8s [flagOf n.f4] ++ (u8s (digs (n.f0 % 65536) 2) ++ (n.f1.data.toList ++ (List.replicate (8 - n.f1.size) 0 ++ (u8s [(n.f2.length : Int)] ++ (u8s (digs n.f3 4) ++ u8s (digs n.f5 6)))))))) ++ ([] ++ (List.replicate (6 * n.f2.length) 0 ++ (List.replicate (24 - 6 * n.f2.length) 0 ++ [0])))) := by
    unfold fieldsOf
    rw [hwl, hwc, hhead]
    generalize hT : List.replicate (6 * n.f2.length) 0 ++ (List.replicate (24 - 6 * n.f2.length) 0 ++ ([0] : List UInt8)) = T
    have s1 := fun (rest : List (Nat × Int × Int)) (L : List UInt8) => laid_one k hk 1 1 (flagOf n.f4) rest L hfl.1 (by omega) (by omega) (by show flagOf n.f4 < 256 ^ 1; omega) (by omega) (by omega)
    have s2 := fun (rest : List (Nat × Int × Int)) (L : List UInt8) => laid_one k hk 2 2 (n.f0 % 65536) rest L (by omega) (by omega) (by omega) (by show n.f0 % 65536 < 256 ^ 2; omega) (by omega) (by omega)
    have s3 := fun (rest : List (Nat × Int × Int)) (L : List UInt8) => laid_one k hk 12 1 (n.f2.length : Int) rest L (by omega) (by omega) (by omega) (by show (n.f2.length : Int) < 256 ^ 1; omega) (by omega) (by omega)
    have s4 := fun (rest : List (Nat × Int × Int)) (L : List UInt8) => laid_one k hk 13 4 n.f3 rest L hc0 (by omega) (by omega) (by show n.f3 < 256 ^ 4; omega) (by omega) (by omega)
    have s5 := fun (rest : List (Nat × Int × Int)) (L : List UInt8) => laid_one k hk 17 6 n.f5 rest L hn0 (by omega) (by omega) (by show n.f5 < 256 ^ 6; omega) (by omega) (by omega)
    simp only [show ((1 : Nat) : Int) = 1 from rfl, show ((2 : Nat) : Int) = 2 from rfl, show ((4 : Nat) : Int) = 4 from rfl, show ((6 : Nat) : Int) = 6 from rfl] at s1 s2 s3 s4 s5
    rw [show (if n.f4 = true then (1 : Int) else 0) = flagOf n.f4 from rfl, s1, splice_mid [1] [0] _ (u8s (digs (flagOf n.f4) 1)) 1 rfl (by rw [u8s_length, digs_length]; rfl), digs_one _ hfl.1 (by omega)]
    rw [s2]
    rw [show [1] ++ (u8s [flagOf n.f4] ++ (List.replicate 2 0 ++ (n.f1.data.toList ++ (List.replicate (8 - n.f1.size) 0 ++ ([0] ++ (List.replicate 4 0 ++ (List.replicate 6 0 ++ T))))))) = ([1] ++ u8s [flagOf n.f4]) ++ (List.replicate 2 0 ++ (n.f1.data.toList ++ (List.replicate (8 - n.f1.size) 0 ++ ([0] ++ (List.replicate 4 0 ++ (List.replicate 6 0 ++ T)))))) by simp only [List.append_assoc]]
    rw [splice_mid _ (List.replicate 2 0) _ (u8s (digs (n.f0 % 65536) 2)) 2 rfl (by rw [u8s_length, digs_length, List.length_replicate])]
    rw [s3]
    rw [show ([1] ++ u8s [flagOf n.f4]) ++ (u8s (digs (n.f0 % 65536) 2) ++ (n.f1.data.toList ++ (List.replicate (8 - n.f1.size) 0 ++ ([0] ++ (List.replicate 4 0 ++ (List.replicate 6 0 ++ T)))))) = (([1] ++ u8s [flagOf n.f4]) ++ (u8s (digs (n.f0 % 65536) 2) ++ (n.f1.data.toList ++ List.replicate (8 - n.f1.size) 0))) ++ ([0] ++ (List.replicate 4 0 ++ (List.replicate 6 0 ++ T))) by simp only [List.append_assoc]]
    rw [splice_mid _ [0] _ (u8s (digs (n.f2.length : Int) 1)) 12 (by simp only [List.length_append, u8s_length, digs_length, List.length_replicate, List.length_cons, List.length_nil, hN]; omega) (by rw [u8s_length, digs_length]; rfl), digs_one _ (by omega) (by omega)]
    rw [s4]
    rw [show (([1] ++ u8s [flagOf n.f4]) ++ (u8s (digs (n.f0 % 65536) 2) ++ (n.f1.data.toList ++ List.replicate (8 - n.f1.size) 0))) ++ (u8s [(n.f2.length : Int)] ++ (List.replicate 4 0 ++ (List.replicate 6 0 ++ T))) = ((([1] ++ u8s [flagOf n.f4]) ++ (u8s (digs (n.f0 % 65536) 2) ++ (n.f1.data.toList ++ List.replicate (8 - n.f1.size) 0))) ++ u8s [(n.f2.length : Int)]) ++ (List.replicate 4 0 ++ (List.replicate 6 0 ++ T)) by simp only [List.append_assoc]]
    rw [splice_mid _ (List.replicate 4 0) _ (u8s (digs n.f3 4)) 13 (by simp only [List.length_append, u8s_length, digs_length, List.length_replicate, List.length_cons, List.length_nil, hN]; omega) (by rw [u8s_length, digs_length, List.length_replicate])]
    rw [s5]
    rw [show ((([1] ++ u8s [flagOf n.f4]) ++ (u8s (digs (n.f0 % 65536) 2) ++ (n.f1.data.toList ++ List.replicate (8 - n.f1.size) 0))) ++ u8s [(n.f2.length : Int)]) ++ (u8s (digs n.f3 4) ++ (List.replicate 6 0 ++ T)) = (((([1] ++ u8s [flagOf n.f4]) ++ (u8s (digs (n.f0 % 65536) 2) ++ (n.f1.data.toList ++ List.replicate (8 - n.f1.size) 0))) ++ u8s [(n.f2.length : Int)]) ++ u8s (digs n.f3 4)) ++ (List.replicate 6 0 ++ T) by simp only [List.append_assoc]]
    rw [splice_mid _ (List.replicate 6 0) _ (u8s (digs n.f5 6)) 17 (by simp only [List.length_append, u8s_length, digs_length, List.length_replicate, List.length_cons, List.length_nil, hN]; omega) (by rw [u8s_length, digs_length, List.length_replicate])]
    simp only [laidOver, List.append_assoc, List.nil_append]
  rw [hf]
  simp only [Option.bind_some]
  rw [laid_kids k hk _ _ n.f2 0 [] h.kids (by simp only [List.length_append, u8s_length, digs_length, List.length_replicate, List.length_cons, List.length_nil, hN]; omega) (by omega) _ List.length_replicate]
  unfold nodeText
  simp only [u8s_append, u8s_bytes, u8z, List.append_assoc, List.nil_append]
  rfl
def padK : Nat → List Int → List Int
  | 0, _ => []
  | d + 1, [] => Z 6 ++ padK d []
  | d + 1, a :: l => digs a 6 ++ padK d l
theorem padK_nil (d : Nat) : padK d [] = Z (6 * d) := by
  induction d with
  | zero => rfl
  | succ d ih =>
    rw [padK, ih]
    unfold Z
    rw [List.replicate_append_replicate]
    congr 1
    omega
theorem padK_eq (d : Nat) : ∀ (l : List Int), l.length ≤ d → padK d l = kidBytes l ++ Z (6 * d - 6 * l.length) := by
  induction d with
  | zero =>
    intro l h
    obtain rfl : l = [] := List.eq_nil_of_length_eq_zero (by omega)
    rfl
  | succ d ih =>
    intro l h
    cases l with
    | nil => rw [padK_nil]; rfl
    | cons a l =>
      simp only [List.length_cons] at h
      rw [padK, ih l (by omega), show kidBytes (a :: l) = digs a 6 ++ kidBytes l from List.flatMap_cons, List.append_assoc, List.length_cons]
      congr 3
      omega
theorem digs_zero (w : Nat) : digs 0 w = Z w := by
  induction w with
  | zero => rfl
  | succ w ih => simp only [digs, ih]; simp [Z, List.replicate_succ]
theorem put_nat (n : Int) (w : Nat) (k : Nat) (hk : 9 < k) (h0 : 0 ≤ n) (h1 : 1 ≤ w) (h8 : w ≤ 8) (h : n < 256 ^ w) (h64 : n < 18446744073709551616) : aumbryref15_put.f k n (w : Int) = some (strOfNums (digs n w)) := by
  rw [refput_f n w h0 h64 k hk, put_fits n w h1 h8 h]
theorem refslot_l0 (n : S76) (h : Wr n) (d : Nat) : ∀ (k i : Nat) (x : ByteArray), i ≤ 4 → 4 - i = d → d + 20 < k → x.size + 6 * d ≤ 50 →
    aumbryref15_slot.l0 k x (i : Int) n.f0 n.f1 n.f2 n.f3 n.f4 n.f5 = some (x ++ strOfNums (padK d (n.f2.drop i)) ++ strOfNums [0]) := by
  have hl := h.kidsl
  induction d with
  | zero =>
    intro k i x hi hd hk hx
    obtain ⟨k, rfl⟩ : ∃ m, k = m + 1 := ⟨k - 1, by omega⟩
    simp only [aumbryref15_slot.l0]
    have hp := put_nat 0 1 k (by omega) (by omega) (by omega) (by omega) (by decide) (by omega)
    rw [show ((1 : Nat) : Int) = 1 from rfl, digs_one 0 (by omega) (by omega)] at hp
    rw [if_neg (by omega), hp]
    simp only [Option.bind_some]
    rw [if_pos (by rw [strOfNums_size]; simp only [List.length_cons, List.length_nil]; omega)]
    simp only [padK]
    congr 2
    exact (bytesOf_inj (by rw [bytesOf_append, bytes_nums [] (by intro c h; cases h), List.append_nil])).symm
  | succ d ih =>
    intro k i x hi hd hk hx
    obtain ⟨k, rfl⟩ : ∃ m, k = m + 1 := ⟨k - 1, by omega⟩
    simp only [aumbryref15_slot.l0]
    rw [if_pos (by omega)]
    have hjoin : ∀ (a b : List Int), (∀ c ∈ a, 0 ≤ c ∧ c < 256) → (∀ c ∈ b, 0 ≤ c ∧ c < 256) → (x ++ strOfNums a) ++ strOfNums b = x ++ strOfNums (a ++ b) := fun a b ha hb =>
      bytesOf_inj (by rw [bytesOf_append, bytesOf_append, bytesOf_append, bytes_nums a ha, bytes_nums b hb, bytes_nums (a ++ b) (by intro c hc; rcases List.mem_append.1 hc with h | h; exact ha c h; exact hb c h), List.append_assoc])
    have hpr : ∀ (m : Nat) (l : List Int), ∀ c ∈ padK m l, 0 ≤ c ∧ c < 256 := by
      intro m
      induction m with
      | zero => intro l c hc; cases hc
      | succ m ihm =>
        intro l c hc
        cases l with
        | nil =>
          rw [padK] at hc
          rcases List.mem_append.1 hc with h | h
          · have := List.eq_of_mem_replicate h; omega
          · exact ihm _ c h
        | cons a l =>
          rw [padK] at hc
          rcases List.mem_append.1 hc with h | h
          · exact digs_range _ _ c h
          · exact ihm _ c h
    by_cases hlt : i < n.f2.length
    · rw [if_pos (by omega), if_pos (by omega)]
      have hm : rd n.f2 (i : Int) ∈ n.f2 := by
        have : rd n.f2 (i : Int) ∈ n.f2.drop i := by rw [rd_drop _ i hlt]; exact List.mem_cons_self
        exact List.mem_of_mem_drop this
      have hr := h.kids _ hm
      have hp := put_nat (rd n.f2 (i : Int)) 6 k (by omega) hr.1 (by omega) (by omega) (by show rd n.f2 (i : Int) < 256 ^ 6; omega) (by omega)
      rw [show ((6 : Nat) : Int) = 6 from rfl] at hp
      rw [hp]
      simp only [Option.bind_some]
      rw [digs_size, if_pos (by omega), wrap64_small (by omega) (by omega), show (i : Int) + 1 = ((i + 1 : Nat) : Int) by omega,
        ih k (i + 1) _ (by omega) (by omega) (by omega) (by rw [ByteArray.size_append, digs_size]; omega), rd_drop _ i hlt, padK, hjoin _ _ (digs_range _ _) (hpr _ _)]
    · rw [if_neg (by omega)]
      have hp := put_nat 0 6 k (by omega) (by omega) (by omega) (by omega) (by decide) (by omega)
      rw [show ((6 : Nat) : Int) = 6 from rfl, digs_zero] at hp
      rw [hp]
      simp only [Option.bind_some]
      have hz : (strOfNums (Z 6)).size = 6 := by rw [strOfNums_size, Z_length]
      rw [hz, if_pos (by omega), wrap64_small (by omega) (by omega), show (i : Int) + 1 = ((i + 1 : Nat) : Int) by omega,
        ih k (i + 1) _ (by omega) (by omega) (by omega) (by rw [ByteArray.size_append, hz]; omega), List.drop_eq_nil_of_le (show n.f2.length ≤ i by omega), List.drop_eq_nil_of_le (show n.f2.length ≤ i + 1 by omega), padK,
        hjoin _ _ (by intro c hc; have := List.eq_of_mem_replicate hc; omega) (hpr _ _)]
theorem refslot_f (n : S76) (h : Wr n) (k : Nat) (hk : 60 < k) : aumbryref15_slot.f k n.f0 n.f1 n.f2 n.f3 n.f4 n.f5 = some (strOfNums (nodeText n)) := by
  have h1 := h.name
  have h2 := h.kidsl
  have ha0 := h.at0
  have hc0 := h.c0
  have hc1 := h.c1
  have hn0 := h.n0
  have hn1 := h.n1
  have hfl : 0 ≤ flagOf n.f4 ∧ flagOf n.f4 ≤ 1 := by unfold flagOf; split <;> omega
  have hj : aumbryref15_slot.f k n.f0 n.f1 n.f2 n.f3 n.f4 n.f5 = aumbryref15_slot.j0 k (flagOf n.f4) n.f0 n.f1 n.f2 n.f3 n.f4 n.f5 := by
    unfold aumbryref15_slot.f flagOf
    split <;> rfl
  rw [hj]
  obtain ⟨k, rfl⟩ : ∃ m, k = m + 1 := ⟨k - 1, by omega⟩
  simp only [aumbryref15_slot.j0]
  have p1 := put_nat 1 1 k (by omega) (by omega) (by omega) (by omega) (by decide) (by omega)
  have p2 := put_nat (flagOf n.f4) 1 k (by omega) hfl.1 (by omega) (by omega) (by show flagOf n.f4 < 256 ^ 1; omega) (by omega)
  have p3 := put_nat (n.f0 % 65536) 2 k (by omega) (by omega) (by omega) (by omega) (by show n.f0 % 65536 < 256 ^ 2; omega) (by omega)
  have p4 := put_nat (n.f2.length : Int) 1 k (by omega) (by omega) (by omega) (by omega) (by show (n.f2.length : Int) < 256 ^ 1; omega) (by omega)
  have p5 := put_nat n.f3 4 k (by omega) hc0 (by omega) (by omega) (by show n.f3 < 256 ^ 4; omega) (by omega)
  have p6 := put_nat n.f5 6 k (by omega) hn0 (by omega) (by omega) (by show n.f5 < 256 ^ 6; omega) (by omega)
  simp only [show ((1 : Nat) : Int) = 1 from rfl, show ((2 : Nat) : Int) = 2 from rfl, show ((4 : Nat) : Int) = 4 from rfl, show ((6 : Nat) : Int) = 6 from rfl] at p1 p2 p3 p4 p5 p6
  rw [Int.tmod_eq_emod_of_nonneg ha0, u64_small (i := (n.f2.length : Int)) (by omega) (by omega), u64_small (i := n.f3) (by omega) (by omega), p1, p2, p3, p4, p5, p6, padded_f n.f1 h1]
  simp only [Option.bind_some, ByteArray.size_append, digs_size, zeros_size]
  rw [if_pos (by omega), if_pos (by omega), if_pos (by omega), if_pos (by omega), if_pos (by omega), if_pos (by omega)]
  have hl0 := refslot_l0 n h 4 k 0 (strOfNums (digs 1 1) ++ strOfNums (digs (flagOf n.f4) 1) ++ strOfNums (digs (n.f0 % 65536) 2) ++ (n.f1 ++ zeros (8 - n.f1.size)) ++ strOfNums (digs (n.f2.length : Int) 1) ++ strOfNums (digs n.f3 4) ++ strOfNums (digs n.f5 6)) (by omega) (by omega) (by omega) (by simp only [ByteArray.size_append, digs_size, zeros_size]; omega)
  rw [show ((0 : Nat) : Int) = 0 from rfl] at hl0
  rw [hl0]
  congr 1
  refine bytesOf_inj ?_
  have hpk : padK 4 (n.f2.drop 0) = kidBytes n.f2 ++ Z (24 - 6 * n.f2.length) := by rw [List.drop_zero, padK_eq 4 n.f2 h2]
  have hrk : ∀ c ∈ kidBytes n.f2 ++ Z (24 - 6 * n.f2.length), 0 ≤ c ∧ c < 256 := by
    intro c hc
    rcases List.mem_append.1 hc with hc | hc
    · unfold kidBytes at hc
      obtain ⟨a, _, ha⟩ := List.mem_flatMap.1 hc
      exact digs_range _ _ c ha
    · have := List.eq_of_mem_replicate hc; omega
  rw [hpk, bytes_nums _ (nodeText_range n h)]
  simp only [bytesOf_append, digs_bytes, zeros_bytes, bytes_nums _ hrk]
  rw [bytes_nums [0] (by intro c hc; simp at hc; omega), digs_one 1 (by omega) (by omega), digs_one _ hfl.1 (by omega), digs_one (n.f2.length : Int) (by omega) (by omega)]
  unfold nodeText Z
  simp only [List.append_assoc]
/-- Why a list of nodes may not stand behind the first i of it, or 0. -/
def scan (l : List S76) : Nat → Nat → Int
  | 0, _ => 0
  | d + 1, i => if mayOf (rd_T76 l (i : Int)) = 0 then (if twice l (rd_T76 l (i : Int)).f0 i = true then 9 else scan l d (i + 1)) else mayOf (rd_T76 l (i : Int))
theorem rd76_drop (l : List S76) (i : Nat) (h : i < l.length) : l.drop i = rd_T76 l (i : Int) :: l.drop (i + 1) := by
  rw [List.drop_eq_getElem_cons h]
  unfold rd_T76
  rw [show ((i : Int)).toNat = i by omega, List.getD_eq_getElem?_getD, List.getElem?_eq_getElem h]
  rfl
theorem rd76_mem (l : List S76) (i : Nat) (h : i < l.length) : rd_T76 l (i : Int) ∈ l := by
  have : rd_T76 l (i : Int) ∈ l.drop i := by rw [rd76_drop l i h]; exact List.mem_cons_self
  exact List.mem_of_mem_drop this
theorem kidsHash_addr : ∀ (l : List Int) (x : ByteArray), (kidsHash x l).2 = 0 → ∀ a ∈ l, isAddr a = true
  | [], _, _, a, ha => by cases ha
  | b :: l, x, h, a, ha => by
    simp only [kidsHash] at h
    by_cases hb : isAddr b = true
    · rw [if_pos hb] at h
      rcases List.mem_cons.1 ha with rfl | ha
      · exact hb
      · exact kidsHash_addr l _ h a ha
    · rw [if_neg hb] at h
      exact absurd h (by decide)
theorem wr_of_may {n : S76} (ok : NodeOk n) (h : mayOf n = 0) : Wr n := by
  unfold mayOf at h
  by_cases h0 : (hashSpec n.f1 n.f2).2 = 0
  · rw [if_pos h0] at h
    by_cases h1 : n.f3 < 0 ∨ n.f3 > 4294967295 ∨ (n.f5 ≠ 0 ∧ isAddr n.f5 = false)
    · rw [if_pos h1] at h; exact absurd h (by decide)
    · unfold hashSpec at h0
      by_cases k0 : kindSpec n.f1 = 0
      · rw [if_pos k0] at h0; exact absurd h0 (by decide)
      rw [if_neg k0] at h0
      by_cases k4 : n.f2.length > 4
      · rw [if_pos k4] at h0; exact absurd h0 (by decide)
      rw [if_neg k4] at h0
      by_cases k2 : kindSpec n.f1 = 2 ∧ n.f2.length > 0
      · rw [if_pos k2] at h0; exact absurd h0 (by decide)
      rw [if_neg k2] at h0
      have hka := kidsHash_addr _ _ h0
      refine ⟨(kind_size k0).2, by omega, fun a ha => ⟨(ok.kids a ha).1, isAddr_lt (hka a ha)⟩, ok.at0, by omega, by omega, ok.n0, ?_⟩
      by_cases h5 : n.f5 = 0
      · omega
      · have ha : isAddr n.f5 = true := by
          cases hb : isAddr n.f5 with
          | true => rfl
          | false => exact absurd (Or.inr (Or.inr ⟨h5, hb⟩)) h1
        exact isAddr_lt ha
  · rw [if_neg h0] at h; exact absurd h h0
def nodesText (l : List S76) : List Int := l.flatMap nodeText
/-- The page of a bucket that may be. -/
def pageText (d x : Int) (l : List S76) : List Int := [3] ++ ([d] ++ (digs x 2 ++ (Z 12 ++ (nodesText l ++ Z (240 - 48 * l.length)))))
def packSpec (d x : Int) (l : List S76) : ByteArray × Int :=
  if d < 0 ∨ d > 5 ∨ x < 0 ∨ x > 2047 then (⟨#[]⟩, 1) else if l.length > 5 then (⟨#[]⟩, 10) else if scan l l.length 0 = 0 then (strOfNums (pageText d x l), 0) else (⟨#[]⟩, scan l l.length 0)
theorem packFrom_f (l : List S76) (hok : ∀ n ∈ l, NodeOk n) (hl : l.length ≤ 5) (k : Nat) (hk : ∀ n ∈ l, n.f1.size + 200 < k) (d : Nat) : ∀ (i : Nat) (A : List UInt8), i + d = l.length → A.length = 16 + 48 * i →
    packFrom k l d i (A ++ List.replicate (240 - 48 * i) 0) = some (if scan l d i = 0 then ((⟨(A ++ (u8s (nodesText (l.drop i)) ++ List.replicate (240 - 48 * l.length) 0)).toArray⟩ : ByteArray), 0) else (⟨#[]⟩, scan l d i)) := by
  induction d with
  | zero =>
    intro i A hi hA
    obtain rfl : i = l.length := by omega
    simp only [packFrom, scan, if_true, List.drop_length]
    rfl
  | succ d ih =>
    intro i A hi hA
    have hlt : i < l.length := by omega
    have hm := rd76_mem l i hlt
    have ok := hok _ hm
    have hkn := hk _ hm
    simp only [packFrom, scan]
    rw [may_f _ ok k (by omega)]
    simp only [Option.bind_some]
    by_cases h0 : mayOf (rd_T76 l (i : Int)) = 0
    · simp only [h0, if_true]
      have hw := wr_of_may ok h0
      by_cases ht : twice l (rd_T76 l (i : Int)).f0 i = true
      · simp only [ht, if_true]
        rfl
      · simp only [ht, if_false, Bool.false_eq_true]
        rw [write_f _ hw k (by omega)]
        simp only [Option.bind_some]
        have hT := nodeText_length _ hw
        have hs : splice (A ++ List.replicate (240 - 48 * i) 0) (16 + 48 * i) (u8s (nodeText (rd_T76 l (i : Int)))) = (A ++ u8s (nodeText (rd_T76 l (i : Int)))) ++ List.replicate (240 - 48 * (i + 1)) 0 := by
          rw [show List.replicate (240 - 48 * i) (0 : UInt8) = List.replicate 48 0 ++ List.replicate (240 - 48 * (i + 1)) 0 by rw [List.replicate_append_replicate]; congr 1; omega]
          rw [splice_mid A (List.replicate 48 0) _ _ _ hA.symm (by rw [u8s_length, hT, List.length_replicate]), List.append_assoc]
        rw [hs, ih (i + 1) _ (by omega) (by rw [List.length_append, u8s_length, hT]; omega), rd76_drop l i hlt]
        rw [show nodesText (rd_T76 l (i : Int) :: l.drop (i + 1)) = nodeText (rd_T76 l (i : Int)) ++ nodesText (l.drop (i + 1)) from List.flatMap_cons, u8s_append]
        simp only [List.append_assoc]
    · simp only [h0, if_false]
theorem str_of_u8s (l : List Int) (h : ∀ c ∈ l, 0 ≤ c ∧ c < 256) : (⟨(u8s l).toArray⟩ : ByteArray) = strOfNums l := by
  refine bytesOf_inj ?_
  rw [bytes_nums l h]
  unfold bytesOf u8s
  simp only [List.map_map]
  refine (List.map_congr_left (fun c hc => ?_)).trans (List.map_id _)
  have := h c hc
  simp
  omega
theorem pack_range (d x : Int) (hd : 0 ≤ d ∧ d ≤ 5) (l : List S76) (hw : ∀ n ∈ l, Wr n) : ∀ c ∈ pageText d x l, 0 ≤ c ∧ c < 256 := by
  intro c hc
  unfold pageText at hc
  simp only [List.mem_append, List.mem_cons, List.not_mem_nil, or_false] at hc
  rcases hc with rfl | rfl | hc | hc | hc | hc
  · omega
  · omega
  · exact digs_range _ _ c hc
  · have := List.eq_of_mem_replicate hc; omega
  · unfold nodesText at hc
    obtain ⟨n, hn, ha⟩ := List.mem_flatMap.1 hc
    exact nodeText_range n (hw n hn) c ha
  · have := List.eq_of_mem_replicate hc; omega
theorem scan_may (l : List S76) (d : Nat) : ∀ (i : Nat), i + d = l.length → scan l d i = 0 → ∀ n ∈ l.drop i, mayOf n = 0 := by
  induction d with
  | zero => intro i hi _ n hn; rw [List.drop_eq_nil_of_le (by omega)] at hn; cases hn
  | succ d ih =>
    intro i hi hs n hn
    simp only [scan] at hs
    by_cases h0 : mayOf (rd_T76 l (i : Int)) = 0
    · rw [if_pos h0] at hs
      by_cases ht : twice l (rd_T76 l (i : Int)).f0 i = true
      · rw [if_pos ht] at hs; exact absurd hs (by decide)
      · rw [if_neg ht] at hs
        rw [rd76_drop l i (by omega)] at hn
        rcases List.mem_cons.1 hn with rfl | hn
        · exact h0
        · exact ih (i + 1) (by omega) hs n hn
    · rw [if_neg h0] at hs; exact absurd hs h0
theorem pack_f (d x : Int) (l : List S76) (hok : ∀ n ∈ l, NodeOk n) (k : Nat) (hk8 : 8 < k) (hk : ∀ n ∈ l, n.f1.size + 200 < k) : slot_Pack.f k d x l = some (packSpec d x l) := by
  unfold slot_Pack.f packSpec
  by_cases h1 : d < 0
  · rw [if_pos h1, if_pos (Or.inl h1)]
  by_cases h2 : d > 5
  · rw [if_neg h1, if_pos h2, if_pos (Or.inr (Or.inl h2))]
  by_cases h3 : x < 0
  · rw [if_neg h1, if_neg h2, if_pos h3, if_pos (Or.inr (Or.inr (Or.inl h3)))]
  by_cases h4 : x > 2047
  · rw [if_neg h1, if_neg h2, if_neg h3, if_pos h4, if_pos (Or.inr (Or.inr (Or.inr h4)))]
  rw [if_neg h1, if_neg h2, if_neg h3, if_neg h4, if_neg (show ¬ (d < 0 ∨ d > 5 ∨ x < 0 ∨ x > 2047) by omega)]
  by_cases h5 : l.length > 5
  · rw [if_pos h5, if_pos h5]
  rw [if_neg h5, if_neg h5, u64_small (i := x) (by omega) (by omega)]
  have p := num_put_f x 2 (by omega) (by omega) k hk8
  rw [show (2 : Int) = ((2 : Nat) : Int) from rfl, put_fits x 2 (by omega) (by omega) (by show x < 256 ^ 2; omega)] at p
  rw [show (2 : Int) = ((2 : Nat) : Int) from rfl, p]
  simp only [Option.bind_some]
  rw [digs_size, if_pos (by omega)]
  have hh : packHead d (strOfNums (digs x 2)) = u8s ([3] ++ ([d] ++ (digs x 2 ++ Z 12))) ++ List.replicate (240 - 48 * 0) 0 := by
    unfold packHead
    have e1 : (strOfNums [3, d % 256] ++ strOfNums (digs x 2)).data.toList = u8s ([3] ++ ([d] ++ digs x 2)) := by
      rw [← u8s_bytes, bytesOf_append, digs_bytes, show d % 256 = d by omega, bytes_nums [3, d] (by intro c hc; simp at hc; omega)]
      rfl
    rw [e1, show List.replicate 256 (0 : UInt8) = [] ++ (List.replicate 4 0 ++ List.replicate 252 0) by rw [List.nil_append, List.replicate_append_replicate],
      splice_mid [] (List.replicate 4 0) _ _ 0 rfl (by rw [u8s_length]; simp [digs_length]), List.nil_append]
    simp only [u8s_append, u8z, List.append_assoc, List.replicate_append_replicate]
  rw [hh, packFrom_f l hok (by omega) k hk l.length 0 _ (by omega) (by rw [u8s_length]; simp [digs_length, Z_length])]
  by_cases hs : scan l l.length 0 = 0
  · rw [if_pos hs, if_pos hs]
    have hw : ∀ n ∈ l, Wr n := fun n hn => wr_of_may (hok n hn) (scan_may l l.length 0 (by omega) hs n (by simpa using hn))
    congr 2
    rw [← str_of_u8s _ (pack_range d x (by omega) l hw)]
    unfold pageText
    simp only [u8s_append, u8z, List.append_assoc, List.drop_zero]
  · rw [if_neg hs, if_neg hs]
theorem refpack_l1 (l : List S76) (i : Nat) (hi : i < l.length) (hl : l.length ≤ 5) (x : ByteArray) (n0 a0 a1 : Int) (d : Nat) : ∀ (k j : Nat), j ≤ i → i - j = d → d < k → (∀ t, t < j → (rd_T76 l (t : Int)).f0 ≠ (rd_T76 l (i : Int)).f0) →
    aumbryref15_Pack.l1 k x (i : Int) (j : Int) n0 (i : Int) a0 a1 l = (if twice l (rd_T76 l (i : Int)).f0 i = true then some (⟨#[]⟩, 9) else aumbryref15_Pack.l1 (k - d) x (i : Int) (i : Int) n0 (i : Int) a0 a1 l) := by
  induction d with
  | zero =>
    intro k j hj hd hk hn
    obtain rfl : j = i := by omega
    rw [twice_false hn]
    rfl
  | succ d ih =>
    intro k j hj hd hk hn
    obtain ⟨k, rfl⟩ : ∃ m, k = m + 1 := ⟨k - 1, by omega⟩
    have hjl : j < l.length := by omega
    rw [show aumbryref15_Pack.l1 (k + 1) x (i : Int) (j : Int) n0 (i : Int) a0 a1 l = (if (rd_T76 l (j : Int)).f0 = (rd_T76 l (i : Int)).f0 then some ((⟨#[]⟩ : ByteArray), 9) else aumbryref15_Pack.l1 k x (i : Int) (wrap64 ((j : Int) + 1)) n0 (i : Int) a0 a1 l) by
      simp only [aumbryref15_Pack.l1]
      rw [if_pos (by omega), if_pos (by omega), if_pos (by omega), if_pos (by omega), if_pos (by omega)]]
    by_cases he : (rd_T76 l (j : Int)).f0 = (rd_T76 l (i : Int)).f0
    · rw [if_pos he, if_pos (twice_true (by omega) he)]
    · rw [if_neg he, wrap64_small (by omega) (by omega), show (j : Int) + 1 = ((j + 1 : Nat) : Int) by omega,
        ih k (j + 1) (by omega) (by omega) (by omega) (fun t ht => by
          by_cases h : t < j
          · exact hn t h
          · obtain rfl : t = j := by omega
            exact he), show k + 1 - (d + 1) = k - d by omega]
theorem nodes_range (ns : List S76) (m : Nat) (hw : ∀ n ∈ ns, Wr n) : ∀ c ∈ nodesText ns ++ Z m, 0 ≤ c ∧ c < 256 := by
  intro c hc
  rcases List.mem_append.1 hc with hc | hc
  · unfold nodesText at hc
    obtain ⟨n, hn, ha⟩ := List.mem_flatMap.1 hc
    exact nodeText_range n (hw n hn) c ha
  · have := List.eq_of_mem_replicate hc; omega
theorem refpack_l0 (l : List S76) (hok : ∀ n ∈ l, NodeOk n) (hl : l.length ≤ 5) (a0 a1 : Int) (d : Nat) : ∀ (k i : Nat) (x : ByteArray), i + d = l.length → 10 * d + 20 < k → (∀ n ∈ l, n.f1.size + 200 + 10 * d < k) → x.size = 16 + 48 * i →
    aumbryref15_Pack.l0 k x (l.length : Int) (i : Int) a0 a1 l = some (if scan l d i = 0 then (x ++ strOfNums (nodesText (l.drop i) ++ Z (240 - 48 * l.length)), 0) else (⟨#[]⟩, scan l d i)) := by
  induction d with
  | zero =>
    intro k i x hi hk hkn hx
    obtain ⟨k, rfl⟩ : ∃ m, k = m + 1 := ⟨k - 1, by omega⟩
    obtain rfl : i = l.length := by omega
    simp only [aumbryref15_Pack.l0, scan, if_true, List.drop_length]
    rw [if_neg (by omega), wrap64_small (by omega) (by omega), show (256 : Int) - (x.size : Int) = ((240 - 48 * l.length : Nat) : Int) by omega, ref_zeros_f _ (by omega)]
    simp only [Option.bind_some]
    rw [zeros_size, if_pos (by omega)]
    rfl
  | succ d ih =>
    intro k i x hi hk hkn hx
    obtain ⟨k, rfl⟩ : ∃ m, k = m + 1 := ⟨k - 1, by omega⟩
    have hlt : i < l.length := by omega
    have hm := rd76_mem l i hlt
    have ok := hok _ hm
    have hkm := hkn _ hm
    simp only [aumbryref15_Pack.l0, scan]
    rw [if_pos (by omega), if_pos (by omega), if_pos (by omega), refmay_f _ ok k (by omega)]
    simp only [Option.bind_some]
    by_cases h0 : mayOf (rd_T76 l (i : Int)) = 0
    · simp only [h0, if_true]
      have hw := wr_of_may ok h0
      rw [show (0 : Int) = ((0 : Nat) : Int) from rfl, refpack_l1 l i hlt hl x (l.length : Int) a0 a1 i k 0 (by omega) (by omega) (by omega) (fun t ht => absurd ht (by omega))]
      by_cases ht : twice l (rd_T76 l (i : Int)).f0 i = true
      · simp only [ht, if_true]
        rfl
      · simp only [ht, if_false, Bool.false_eq_true]
        obtain ⟨k', hk'⟩ : ∃ m, k - i = m + 1 := ⟨k - i - 1, by omega⟩
        rw [hk']
        simp only [aumbryref15_Pack.l1]
        rw [if_neg (by omega), if_pos (by omega), if_pos (by omega), refslot_f _ hw k' (by omega)]
        simp only [Option.bind_some]
        have hT := nodeText_length _ hw
        have hsz : (strOfNums (nodeText (rd_T76 l (i : Int)))).size = 48 := by rw [strOfNums_size, hT]
        rw [hsz, if_pos (by omega), wrap64_small (by omega) (by omega), show (i : Int) + 1 = ((i + 1 : Nat) : Int) by omega,
          ih k' (i + 1) _ (by omega) (by omega) (fun n hn => by have := hkn n hn; omega) (by rw [ByteArray.size_append, hsz]; omega), rd76_drop l i hlt]
        by_cases hs : scan l d (i + 1) = 0
        · rw [if_pos hs, if_pos (by simpa using hs)]
          congr 2
          refine bytesOf_inj ?_
          have hwd : ∀ n ∈ l.drop (i + 1), Wr n := fun n hn => wr_of_may (hok n (List.mem_of_mem_drop hn)) (scan_may l d (i + 1) (by omega) hs n hn)
          have hwc : ∀ n ∈ rd_T76 l (i : Int) :: l.drop (i + 1), Wr n := fun n hn => by
            rcases List.mem_cons.1 hn with rfl | hn
            · exact hw
            · exact hwd n hn
          rw [bytesOf_append, bytesOf_append, bytesOf_append, bytes_nums _ (nodeText_range _ hw), bytes_nums _ (nodes_range _ _ hwd), bytes_nums _ (nodes_range _ _ hwc),
            show nodesText (rd_T76 l (i : Int) :: l.drop (i + 1)) = nodeText (rd_T76 l (i : Int)) ++ nodesText (l.drop (i + 1)) from List.flatMap_cons]
          simp only [List.append_assoc]
        · rw [if_neg hs, if_neg (by simpa using hs)]
    · simp only [h0, if_false]
theorem refpack_f (d x : Int) (l : List S76) (hok : ∀ n ∈ l, NodeOk n) (_hll : l.length ≤ maxLen) (k : Nat) (hk8 : 100 < k) (hk : ∀ n ∈ l, n.f1.size + 300 < k) : aumbryref15_Pack.f k d x l = some (packSpec d x l) := by
  obtain ⟨k, rfl⟩ : ∃ m, k = m + 1 := ⟨k - 1, by omega⟩
  unfold aumbryref15_Pack.f packSpec
  by_cases h1 : d < 0
  · rw [if_pos h1, if_pos (Or.inl h1)]
    simp only [aumbryref15_Pack.j0, if_true]
  by_cases h2 : d > 5
  · rw [if_neg h1, if_pos h2, if_pos (Or.inr (Or.inl h2))]
    simp only [aumbryref15_Pack.j0, if_true]
  by_cases h3 : x < 0
  · rw [if_neg h1, if_neg h2, if_pos h3, if_pos (Or.inr (Or.inr (Or.inl h3)))]
    simp only [aumbryref15_Pack.j0, if_true]
  by_cases h4 : x > 2047
  · rw [if_neg h1, if_neg h2, if_neg h3, decide_eq_true h4, if_pos (Or.inr (Or.inr (Or.inr h4)))]
    simp only [aumbryref15_Pack.j0, if_true]
  rw [if_neg h1, if_neg h2, if_neg h3, decide_eq_false h4, if_neg (show ¬ (d < 0 ∨ d > 5 ∨ x < 0 ∨ x > 2047) by omega)]
  simp only [aumbryref15_Pack.j0, Bool.false_eq_true, if_false]
  by_cases h5 : l.length > 5
  · rw [if_pos (by omega), if_pos h5]
  rw [if_neg (show ¬ (l.length : Int) > 5 by omega), if_neg h5, u64_small (i := x) (by omega) (by omega), u64_small (i := d) (by omega) (by omega)]
  have p1 := put_nat 3 1 k (by omega) (by omega) (by omega) (by omega) (by decide) (by omega)
  have p2 := put_nat d 1 k (by omega) (by omega) (by omega) (by omega) (by show d < 256 ^ 1; omega) (by omega)
  have p3 := put_nat x 2 k (by omega) (by omega) (by omega) (by omega) (by show x < 256 ^ 2; omega) (by omega)
  simp only [show ((1 : Nat) : Int) = 1 from rfl, show ((2 : Nat) : Int) = 2 from rfl] at p1 p2 p3
  rw [p1, p2, p3, show (12 : Int) = ((12 : Nat) : Int) from rfl, ref_zeros_f 12 (by omega)]
  simp only [Option.bind_some, ByteArray.size_append, digs_size, zeros_size]
  rw [if_pos (by omega), if_pos (by omega), if_pos (by omega), show (0 : Int) = ((0 : Nat) : Int) from rfl,
    refpack_l0 l hok (by omega) d x l.length k 0 _ (by omega) (by omega) (fun n hn => by have := hk n hn; omega) (by simp only [ByteArray.size_append, digs_size, zeros_size])]
  by_cases hs : scan l l.length 0 = 0
  · rw [if_pos hs, if_pos (by simpa using hs)]
    have hw : ∀ n ∈ l, Wr n := fun n hn => wr_of_may (hok n hn) (scan_may l l.length 0 (by omega) hs n (by simpa using hn))
    congr 2
    refine bytesOf_inj ?_
    rw [bytes_nums _ (pack_range d x (by omega) l hw), List.drop_zero]
    simp only [bytesOf_append, digs_bytes, zeros_bytes, bytes_nums _ (nodes_range l (240 - 48 * l.length) hw)]
    rw [digs_one 3 (by omega) (by omega), digs_one d (by omega) (by omega)]
    unfold pageText Z
    simp only [List.append_assoc]
  · rw [if_neg hs, if_neg (by simpa using hs)]
theorem num_trim_l0 (d : Nat) : ∀ (k : Nat) (s : ByteArray), s.size = d → (s.size : Int) ≤ 140737488351232 → d < k → num_Trim.l0 k s = some (ztrim s) := by
  induction d with
  | zero =>
    intro k s hd hs hk
    obtain ⟨k, rfl⟩ : ∃ m, k = m + 1 := ⟨k - 1, by omega⟩
    simp only [num_Trim.l0]
    have e : s.toList = [] := by
      rw [ByteArray.toList_eq]
      apply List.eq_nil_of_length_eq_zero
      rw [Array.length_toList]
      exact hd
    rw [if_pos e, ztrim_empty s hd]
  | succ d ih =>
    intro k s hd hs hk
    obtain ⟨k, rfl⟩ : ∃ m, k = m + 1 := ⟨k - 1, by omega⟩
    have e : ¬ s.toList = [] := by
      rw [ByteArray.toList_eq]
      intro e
      have := congrArg List.length e
      rw [Array.length_toList] at this
      have hz : s.data.size = s.size := rfl
      rw [hz, hd] at this
      simp at this
    simp only [num_Trim.l0]
    rw [if_neg e, wrap64_small (by omega) (by omega), if_pos (by omega), if_pos (by omega), show (s.size : Int) - 1 = (d : Int) by omega]
    by_cases h0 : bt s (d : Int) = 0
    · rw [if_pos h0, if_pos (by omega), show ((d : Int)).toNat = d by omega, ztrim_zero s d hd h0]
      have hx : (s.extract 0 d).size = d := by simp; omega
      exact ih k _ hx (by rw [hx]; omega) (by omega)
    · rw [if_neg h0, ztrim_other s d hd h0]
theorem num_trim_f (s : ByteArray) (hs : (s.size : Int) ≤ 140737488351232) (k : Nat) (hk : s.size < k) : num_Trim.f k s = some (ztrim s) := by
  unfold num_Trim.f
  exact num_trim_l0 s.size k s rfl hs hk
theorem ref_trim_l0 (s : ByteArray) (hs : (s.size : Int) ≤ 140737488351232) (d : Nat) : ∀ (k i : Nat), i ≤ s.size → s.size - i = d → d < k → aumbryref01_Trim.l0 k s (trimLen ((bytesOf s).take i) : Int) (i : Int) = some (ztrim s) := by
  induction d with
  | zero =>
    intro k i hi hd hk
    obtain ⟨k, rfl⟩ : ∃ m, k = m + 1 := ⟨k - 1, by omega⟩
    obtain rfl : i = s.size := by omega
    have hl := trimLen_le (bytesOf s)
    rw [bytesOf_length] at hl
    simp only [aumbryref01_Trim.l0]
    rw [take_all, if_neg (by omega), if_pos (by omega), if_pos (by omega)]
    rfl
  | succ d ih =>
    intro k i hi hd hk
    obtain ⟨k, rfl⟩ : ∃ m, k = m + 1 := ⟨k - 1, by omega⟩
    have h := ih k (i + 1) (by omega) (by omega) (by omega)
    rw [take_succ_byte s i (by omega), trimLen_snoc, List.length_take, bytesOf_length, Nat.min_eq_left (by omega)] at h
    simp only [aumbryref01_Trim.l0]
    rw [if_pos (by omega), if_pos (by omega), wrap64_small (by omega) (by omega)]
    by_cases h0 : bt s (i : Int) = 0
    · rw [if_pos h0]
      rw [if_pos h0] at h
      exact h
    · rw [if_neg h0]
      rw [if_neg h0] at h
      exact h
theorem ref_trim_f (s : ByteArray) (hs : (s.size : Int) ≤ 140737488351232) (k : Nat) (hk : s.size < k) : aumbryref01_Trim.f k s = some (ztrim s) := by
  unfold aumbryref01_Trim.f
  exact ref_trim_l0 s hs s.size k 0 (by omega) (by omega) hk
theorem get_mid (s : ByteArray) (A C : List Int) (v : Int) (w o : Nat) (hb : bytesOf s = A ++ (digs v w ++ C)) (ho : o = A.length) (h1 : 1 ≤ w) (h8 : w ≤ 8) (h0 : 0 ≤ v) (hv : v < 256 ^ w) : getSpec s (o : Int) (w : Int) = (v, 0) := by
  have hl := congrArg List.length hb
  rw [bytesOf_length, List.length_append, List.length_append, digs_length] at hl
  unfold getSpec
  rw [if_neg (by omega), if_neg (by omega), show ((o : Int)).toNat = o by omega, show ((w : Int)).toNat = w by omega, hb, ho, List.drop_left', List.take_left']
  · rw [val_digs v w h0 hv]
  · rw [digs_length]
  · rfl
theorem name_trim (nm : ByteArray) (h : ¬ kindSpec nm = 0) (m : Nat) : ztrim (nm ++ zeros m) = nm := by
  rw [ztrim_pad]
  have hz := kind_size h
  refine ztrim_other nm (nm.size - 1) (by omega) ?_
  unfold kindSpec at h
  rw [if_neg (by omega)] at h
  by_cases ha : (bytesOf nm).all (okSign (begins (bt nm 0))) = true
  · have hm : bt nm ((nm.size - 1 : Nat) : Int) ∈ bytesOf nm := by
      have hs := bytes_split nm (nm.size - 1) (by omega)
      rw [hs]
      simp
    have ho := List.all_eq_true.1 ha _ hm
    intro h0
    rw [h0] at ho
    revert ho
    unfold okSign goesOn
    simp
  · rw [if_neg ha] at h
    exact absurd rfl h
theorem num_get_at (s : ByteArray) (hs : (s.size : Int) ≤ 9223372036854775807) (k : Nat) (hk : 9 < k) (A C : List Int) (v : Int) (w o : Nat) (hb : bytesOf s = A ++ (digs v w ++ C)) (ho : o = A.length) (h1 : 1 ≤ w) (h8 : w ≤ 8) (h0 : 0 ≤ v) (hv : v < 256 ^ w) :
    num_Get.f k s (o : Int) (w : Int) = some (v, 0) := by
  rw [num_get_f s hs _ _ k hk, get_mid s A C v w o hb ho h1 h8 h0 hv]
theorem kids_read (s : ByteArray) (hs : s.size = 48) (k : Nat) (hk : 9 < k) (C : List Int) : ∀ (l : List Int) (i : Nat) (A : List Int), (∀ a ∈ l, 0 ≤ a ∧ a < 281474976710656) → bytesOf s = A ++ (kidBytes l ++ C) → A.length = 23 + 6 * i → kidsRead k s l.length i = some l
  | [], i, A, _, _, _ => rfl
  | a :: l, i, A, ha, hb, hA => by
    have h1 := ha a List.mem_cons_self
    rw [show kidBytes (a :: l) = digs a 6 ++ kidBytes l from List.flatMap_cons, List.append_assoc] at hb
    have hg := num_get_at s (by omega) k hk A (kidBytes l ++ C) a 6 (23 + 6 * i) hb hA.symm (by omega) (by omega) h1.1 (by show a < 256 ^ 6; omega)
    simp only [List.length_cons, kidsRead]
    rw [show (23 : Int) + 6 * (i : Int) = ((23 + 6 * i : Nat) : Int) by omega, show (6 : Int) = ((6 : Nat) : Int) from rfl, hg]
    simp only [Option.bind_some]
    rw [kids_read s hs k hk C l (i + 1) (A ++ digs a 6) (fun b hb => ha b (List.mem_cons_of_mem _ hb)) (by rw [hb, List.append_assoc]) (by rw [List.length_append, digs_length]; omega)]
    rfl
theorem slot_read_f (n : S76) (ok : NodeOk n) (h0 : mayOf n = 0) (s : ByteArray) (hb : bytesOf s = nodeText n) (k : Nat) (hk : 200 < k) : slot_read.f k s = some (n.f0, n.f1, n.f2, n.f3, n.f4, n.f5) := by
  have h := wr_of_may ok h0
  have h1 := h.name
  have h2 := h.kidsl
  have ha0 := h.at0
  have hc0 := h.c0
  have hc1 := h.c1
  have hn0 := h.n0
  have hn1 := h.n1
  have hfl : 0 ≤ flagOf n.f4 ∧ flagOf n.f4 ≤ 1 := by unfold flagOf; split <;> omega
  have hs : s.size = 48 := by rw [← bytesOf_length, hb, nodeText_length n h]
  have hm := h0
  unfold mayOf at hm
  have e0 : (hashSpec n.f1 n.f2).2 = 0 := by
    by_cases e : (hashSpec n.f1 n.f2).2 = 0
    · exact e
    · rw [if_neg e] at hm; exact absurd hm e
  rw [if_pos e0] at hm
  have e1 : partsB n.f0 (hashSpec n.f1 n.f2).1 = 0 := by
    by_cases e : n.f3 < 0 ∨ n.f3 > 4294967295 ∨ (n.f5 ≠ 0 ∧ isAddr n.f5 = false)
    · rw [if_pos e] at hm; exact absurd hm (by decide)
    · rw [if_neg e] at hm; exact hm
  have e2 : n.f0 / 65536 = (hashSpec n.f1 n.f2).1 := by
    unfold partsB at e1
    by_cases ea : isAddr n.f0 = true
    · rw [if_pos ea] at e1
      by_cases eb : n.f0 / 65536 = (hashSpec n.f1 n.f2).1
      · exact eb
      · rw [if_neg eb] at e1; exact absurd e1 (by decide)
    · rw [if_neg ea] at e1; exact absurd e1 (by decide)
  have ea : isAddr n.f0 = true := by
    unfold partsB at e1
    by_cases ea : isAddr n.f0 = true
    · exact ea
    · rw [if_neg ea] at e1; exact absurd e1 (by decide)
  have hk0 : ¬ kindSpec n.f1 = 0 := by
    intro e
    unfold hashSpec at e0
    rw [if_pos e] at e0
    exact absurd e0 (by decide)
  have b1 : bytesOf s = [1] ++ (digs (flagOf n.f4) 1 ++ (digs (n.f0 % 65536) 2 ++ (bytesOf n.f1 ++ (Z (8 - n.f1.size) ++ ([(n.f2.length : Int)] ++ (digs n.f3 4 ++ (digs n.f5 6 ++ (kidBytes n.f2 ++ (Z (24 - 6 * n.f2.length) ++ [0]))))))))) := by
    rw [hb, digs_one _ hfl.1 (by omega)]; rfl
  have g0 := num_get_at s (by omega) k (by omega) [1] _ (flagOf n.f4) 1 1 b1 rfl (by omega) (by omega) hfl.1 (by show flagOf n.f4 < 256 ^ 1; omega)
  have g1 := num_get_at s (by omega) k (by omega) ([1] ++ [flagOf n.f4]) _ (n.f0 % 65536) 2 2 (by rw [hb]; unfold nodeText; simp only [List.append_assoc]; rfl) rfl (by omega) (by omega) (by omega) (by show n.f0 % 65536 < 256 ^ 2; omega)
  have hT : bytesOf s = ([1] ++ ([flagOf n.f4] ++ (digs (n.f0 % 65536) 2 ++ (bytesOf n.f1 ++ Z (8 - n.f1.size))))) ++ ([(n.f2.length : Int)] ++ (digs n.f3 4 ++ (digs n.f5 6 ++ (kidBytes n.f2 ++ (Z (24 - 6 * n.f2.length) ++ [0]))))) := by
    rw [hb]; unfold nodeText; simp only [List.append_assoc]
  have hA : ([1] ++ ([flagOf n.f4] ++ (digs (n.f0 % 65536) 2 ++ (bytesOf n.f1 ++ Z (8 - n.f1.size))))).length = 12 := by
    simp only [List.length_append, List.length_cons, List.length_nil, digs_length, bytesOf_length, Z_length]; omega
  generalize hAA : ([1] ++ ([flagOf n.f4] ++ (digs (n.f0 % 65536) 2 ++ (bytesOf n.f1 ++ Z (8 - n.f1.size))))) = A at hT hA
  have g2 := num_get_at s (by omega) k (by omega) A _ (n.f2.length : Int) 1 12 (by rw [hT, digs_one _ (by omega) (by omega)]) hA.symm (by omega) (by omega) (by omega) (by show (n.f2.length : Int) < 256 ^ 1; omega)
  have g3 := num_get_at s (by omega) k (by omega) (A ++ [(n.f2.length : Int)]) _ n.f3 4 13 (by rw [hT, List.append_assoc]) (by rw [List.length_append, hA]; rfl) (by omega) (by omega) hc0 (by show n.f3 < 256 ^ 4; omega)
  have g4 := num_get_at s (by omega) k (by omega) (A ++ [(n.f2.length : Int)] ++ digs n.f3 4) _ n.f5 6 17 (by rw [hT, List.append_assoc, List.append_assoc]) (by rw [List.length_append, List.length_append, hA, digs_length]; rfl) (by omega) (by omega) hn0 (by show n.f5 < 256 ^ 6; omega)
  have gk := kids_read s hs k (by omega) (Z (24 - 6 * n.f2.length) ++ [0]) n.f2 0 (A ++ [(n.f2.length : Int)] ++ digs n.f3 4 ++ digs n.f5 6) h.kids (by rw [hT]; simp only [List.append_assoc]) (by rw [List.length_append, List.length_append, List.length_append, hA, digs_length, digs_length]; rfl)
  have gn : s.extract 4 12 = n.f1 ++ zeros (8 - n.f1.size) := by
    refine bytesOf_inj ?_
    rw [bytes_extract, bytesOf_append, zeros_bytes, hT, List.take_left' hA, ← hAA,
      show ([1] ++ ([flagOf n.f4] ++ (digs (n.f0 % 65536) 2 ++ (bytesOf n.f1 ++ Z (8 - n.f1.size)))) : List Int) = ([1] ++ [flagOf n.f4] ++ digs (n.f0 % 65536) 2) ++ (bytesOf n.f1 ++ Z (8 - n.f1.size)) by simp only [List.append_assoc],
      List.drop_left' (by simp only [List.length_append, digs_length]; rfl)]
    rfl
  have gt : num_Trim.f k (s.extract 4 12) = some n.f1 := by
    rw [gn, num_trim_f _ (by rw [ByteArray.size_append, zeros_size]; omega) k (by rw [ByteArray.size_append, zeros_size]; omega), name_trim _ hk0]
  have gh := slot_hash_f n.f1 (by omega) n.f2 ok.kids k (by omega)
  simp only [show ((1 : Nat) : Int) = 1 from rfl, show ((2 : Nat) : Int) = 2 from rfl, show ((4 : Nat) : Int) = 4 from rfl, show ((6 : Nat) : Int) = 6 from rfl, show ((12 : Nat) : Int) = 12 from rfl, show ((13 : Nat) : Int) = 13 from rfl, show ((17 : Nat) : Int) = 17 from rfl] at g0 g1 g2 g3 g4
  unfold slot_read.f
  rw [if_pos hs, gt]
  simp only [Option.bind_some]
  rw [g0]
  simp only [Option.bind_some]
  rw [g1]
  simp only [Option.bind_some]
  rw [g2]
  simp only [Option.bind_some]
  rw [g3]
  simp only [Option.bind_some]
  rw [g4]
  simp only [Option.bind_some]
  rw [if_pos (by omega), show kidsNo (n.f2.length : Int) = n.f2.length by unfold kidsNo; omega, gk]
  simp only [Option.bind_some]
  rw [gh]
  simp only [Option.bind_some]
  have hat : readAt (hashSpec n.f1 n.f2) (n.f0 % 65536) = n.f0 := by
    have hlt := isAddr_lt ea
    unfold readAt
    rw [if_pos e0, ← e2, u64_small (i := n.f0 / 65536) (by omega) (by omega), u64_small (i := n.f0 / 65536 * 65536) (by omega) (by omega), u64_small (by omega) (by omega)]
    omega
  have hfb : (flagOf n.f4 != 0) = n.f4 := by unfold flagOf; cases n.f4 <;> rfl
  rw [hat, wrap64_small (by omega) (by omega), hfb]
theorem u64_in (x : Int) : 0 ≤ IntKind.u64.wrap x ∧ IntKind.u64.wrap x < 18446744073709551616 := by
  have h : IntKind.u64.wrap x = x % 18446744073709551616 := rfl
  omega
theorem wrap64_in (x : Int) : -9223372036854775808 ≤ wrap64 x ∧ wrap64 x ≤ 9223372036854775807 := by
  unfold wrap64
  omega
theorem pow_le8 (i : Nat) (h : i ≤ 8) : (256 : Int) ^ i ≤ 18446744073709551616 := by
  have : i = 0 ∨ i = 1 ∨ i = 2 ∨ i = 3 ∨ i = 4 ∨ i = 5 ∨ i = 6 ∨ i = 7 ∨ i = 8 := by omega
  rcases this with rfl | rfl | rfl | rfl | rfl | rfl | rfl | rfl | rfl <;> decide
theorem getSpec_in (s : ByteArray) (o w : Int) : 0 ≤ (getSpec s o w).1 ∧ (getSpec s o w).1 < 18446744073709551616 := by
  unfold getSpec
  split
  · exact ⟨by decide, by decide⟩
  · split
    · exact ⟨by decide, by decide⟩
    · have h := valFrom_lt (((bytesOf s).drop o.toNat).take w.toNat) 0 0 (by omega) (by decide) (fun c hc => bytesOf_range s c (List.mem_of_mem_drop (List.mem_of_mem_take hc)))
      have hp := pow_le8 (0 + (((bytesOf s).drop o.toNat).take w.toNat).length) (by rw [List.length_take]; omega)
      exact ⟨h.1, Int.lt_of_lt_of_le h.2 hp⟩
theorem kidsRead_some (s : ByteArray) (hs : (s.size : Int) ≤ 9223372036854775807) (k : Nat) (hk : 9 < k) : ∀ (m i : Nat), ∃ l, kidsRead k s m i = some l ∧ l.length = m ∧ Wf64 l
  | 0, i => ⟨[], rfl, rfl, fun a h => by cases h⟩
  | m + 1, i => by
    obtain ⟨l, h1, h2, h3⟩ := kidsRead_some s hs k hk m (i + 1)
    refine ⟨(getSpec s (23 + 6 * (i : Int)) 6).1 :: l, ?_, by simp [h2], ?_⟩
    · simp only [kidsRead]
      rw [num_get_f s hs _ _ k hk]
      simp only [Option.bind_some]
      rw [h1]
      rfl
    · intro a ha
      rcases List.mem_cons.1 ha with rfl | ha
      · exact getSpec_in _ _ _
      · exact h3 a ha
theorem ztrim_size (s : ByteArray) : (ztrim s).size ≤ s.size := by
  unfold ztrim
  rw [ByteArray.size_extract]
  omega
theorem readAt_in (h : Int × Int) (v : Int) (hv : 0 ≤ v ∧ v < 18446744073709551616) : 0 ≤ readAt h v ∧ readAt h v < 18446744073709551616 := by
  unfold readAt
  split
  · exact u64_in _
  · exact hv
def Fine (n : S76) : Prop := NodeOk n ∧ n.f1.size ≤ 8
theorem read_some (s : ByteArray) (hs : s.size = 48) (k : Nat) (hk : 200 < k) : ∃ n : S76, slot_read.f k s = some (n.f0, n.f1, n.f2, n.f3, n.f4, n.f5) ∧ Fine n := by
  have e8 : (s.extract 4 12).size = 8 := by rw [ByteArray.size_extract]; omega
  have hz : (ztrim (s.extract 4 12)).size ≤ 8 := by have := ztrim_size (s.extract 4 12); omega
  have g0 := getSpec_in s 2 2
  have g2 := getSpec_in s 12 1
  obtain ⟨l, l1, l2, l3⟩ := kidsRead_some s (by omega) k (by omega) (kidsNo (getSpec s 12 1).1) 0
  have l4 : l.length ≤ 4 := by rw [l2]; unfold kidsNo; omega
  have hra := readAt_in (hashSpec (ztrim (s.extract 4 12)) l) (getSpec s 2 2).1 g0
  have hz2 : (ztrim (s.extract 4 12)).size ≤ 140737488351232 := by omega
  have hl2 : l.length ≤ maxLen := Nat.le_trans l4 (by decide)
  have hw := wrap64_in (getSpec s 13 4).1
  have h17 := getSpec_in s 17 6
  generalize ha0 : readAt (hashSpec (ztrim (s.extract 4 12)) l) (getSpec s 2 2).1 = a0 at hra
  generalize ha3 : wrap64 (getSpec s 13 4).1 = a3 at hw
  generalize ha4 : ((getSpec s 1 1).1 != 0) = a4
  generalize ha5 : (getSpec s 17 6).1 = a5 at h17
  generalize hnm : ztrim (s.extract 4 12) = nm at *
  have hf : slot_read.f k s = some (a0, nm, l, a3, a4, a5) := by
    unfold slot_read.f
    rw [if_pos hs, num_trim_f _ (by omega) k (by omega), hnm]
    simp only [Option.bind_some]
    rw [num_get_f s (by omega) 1 1 k (by omega), num_get_f s (by omega) 2 2 k (by omega), num_get_f s (by omega) 12 1 k (by omega), num_get_f s (by omega) 13 4 k (by omega), num_get_f s (by omega) 17 6 k (by omega)]
    simp only [Option.bind_some]
    rw [if_pos g2.1, l1]
    simp only [Option.bind_some]
    rw [slot_hash_f _ (by omega) l l3 k (by omega)]
    simp only [Option.bind_some]
    rw [ha0, ha3, ha4, ha5]
  exact ⟨⟨a0, nm, l, a3, a4, a5⟩, hf, ⟨hra.1, hra.2, hz2, l3, hl2, hw.1, hw.2, h17.1, h17.2⟩, hz⟩
/-- What a reading tells: a bucket that packs to the text, or nothing. -/
def Told (s : ByteArray) (d x : Int) (out : Int × Int × List S76 × Int) : Prop := (∃ l, out = (d, x, l, 0) ∧ (∀ n ∈ l, Fine n) ∧ l.length ≤ 5 ∧ packSpec d x l = (s, 0)) ∨ out = (0, 0, [], 3)
theorem toList_iff (a b : ByteArray) : a.toList = b.toList ↔ a = b := by
  constructor
  · intro h
    rw [Go.ByteArray.toList_eq, Go.ByteArray.toList_eq] at h
    exact ByteArray.ext (Array.ext' h)
  · intro h; rw [h]
theorem told_end (s : ByteArray) (d x : Int) (l : List S76) (hl : ∀ n ∈ l, Fine n) (h5 : l.length ≤ 5) : ∃ out, (if (packSpec d x l).2 = 0 then (if (packSpec d x l).1.toList = s.toList then some (d, x, l, 0) else some (0, 0, ([] : List S76), 3)) else some (0, 0, ([] : List S76), 3)) = some out ∧ Told s d x out := by
  by_cases h0 : (packSpec d x l).2 = 0
  · rw [if_pos h0]
    by_cases h1 : (packSpec d x l).1.toList = s.toList
    · rw [if_pos h1]
      exact ⟨_, rfl, Or.inl ⟨l, rfl, hl, h5, Prod.ext ((toList_iff _ _).1 h1) h0⟩⟩
    · rw [if_neg h1]
      exact ⟨_, rfl, Or.inr rfl⟩
  · rw [if_neg h0]
    exact ⟨_, rfl, Or.inr rfl⟩
theorem unpack_l0 (s : ByteArray) (hs : s.size = 256) (d x : Int) : ∀ (r k : Nat) (l : List S76), l.length + r = 5 → (∀ n ∈ l, Fine n) → 300 + r < k → ∃ out, slot_Unpack.l0 k s (16 + 48 * (l.length : Int)) d x l = some out ∧ Told s d x out
  | r, 0, l, _, _, hk => by omega
  | r, k + 1, l, hr, hl, hk => by
    have hend : ∃ out, ((slot_Pack.f k d x l).bind fun bt150 => (if bt150.2 = 0 then (if bt150.1.toList = s.toList then (some (d, x, l, 0)) else (some (0, 0, ([] : List (S76)), 3))) else (some (0, 0, ([] : List (S76)), 3)))) = some out ∧ Told s d x out := by
      rw [pack_f d x l (fun n h => (hl n h).1) k (by omega) (fun n h => by have := (hl n h).2; omega)]
      exact told_end s d x l hl (by omega)
    simp only [slot_Unpack.l0]
    by_cases h1 : 16 + 48 * (l.length : Int) < 256
    · rw [if_pos h1, if_pos (by omega), if_pos (by omega)]
      by_cases h2 : bt s (16 + 48 * (l.length : Int)) = 1
      · obtain ⟨r, rfl⟩ : ∃ m, r = m + 1 := ⟨r - 1, by omega⟩
        rw [if_pos h2, wrap64_small (by omega) (by omega), if_pos (by omega), if_pos (by omega)]
        obtain ⟨n, n1, n2⟩ := read_some (s.extract (16 + 48 * (l.length : Int)).toNat (16 + 48 * (l.length : Int) + 48).toNat) (by rw [ByteArray.size_extract]; omega) k (by omega)
        rw [n1]
        simp only [Option.bind_some]
        rw [if_pos (by omega), show (16 : Int) + 48 * (l.length : Int) + 48 = 16 + 48 * ((l ++ [n]).length : Int) by rw [List.length_append]; simp; omega]
        exact unpack_l0 s hs d x r k (l ++ [n]) (by rw [List.length_append]; simp; omega) (fun m hm => by
          rcases List.mem_append.1 hm with h | h
          · exact hl m h
          · rw [List.mem_singleton.1 h]; exact n2) (by omega)
      · rw [if_neg h2]
        exact hend
    · rw [if_neg h1]
      exact hend
theorem unpack_f (s : ByteArray) (k : Nat) (hk : 310 < k) : ∃ out, slot_Unpack.f k s = some out ∧ (out = (0, 0, [], 3) ∨ (s.size = 256 ∧ ∃ d x, Told s d x out)) := by
  unfold slot_Unpack.f
  by_cases h : (s.size : Int) = 256
  · rw [if_pos h, num_get_f s (by omega) 2 2 k (by omega)]
    simp only [Option.bind_some]
    rw [if_pos (by omega)]
    obtain ⟨out, o1, o2⟩ := unpack_l0 s (by omega) (wrap64 (bt s 1)) (wrap64 (getSpec s 2 2).1) 5 k [] rfl (fun n h => by cases h) (by omega)
    exact ⟨out, o1, Or.inr ⟨by omega, _, _, o2⟩⟩
  · rw [if_neg h]
    exact ⟨_, rfl, Or.inl rfl⟩
/-- What a page that packs holds. -/
theorem packed_facts {d x : Int} {l : List S76} {s : ByteArray} (h : packSpec d x l = (s, 0)) (hok : ∀ n ∈ l, NodeOk n) : 0 ≤ d ∧ d ≤ 5 ∧ 0 ≤ x ∧ x ≤ 2047 ∧ l.length ≤ 5 ∧ (∀ n ∈ l, mayOf n = 0) ∧ bytesOf s = pageText d x l ∧ s.size = 256 := by
  unfold packSpec at h
  by_cases h1 : d < 0 ∨ d > 5 ∨ x < 0 ∨ x > 2047
  · rw [if_pos h1] at h; exact absurd (congrArg Prod.snd h) (show ¬ ((1 : Int) = 0) by decide)
  · rw [if_neg h1] at h
    by_cases h2 : l.length > 5
    · rw [if_pos h2] at h; exact absurd (congrArg Prod.snd h) (show ¬ ((10 : Int) = 0) by decide)
    · rw [if_neg h2] at h
      by_cases h3 : scan l l.length 0 = 0
      · rw [if_pos h3] at h
        have hm := scan_may l l.length 0 (by omega) h3
        have hw : ∀ n ∈ l, Wr n := fun n hn => wr_of_may (hok n hn) (hm n hn)
        have hb : bytesOf s = pageText d x l := by
          have he : strOfNums (pageText d x l) = s := congrArg Prod.fst h
          rw [← he]
          exact bytes_nums _ (pack_range d x (by omega) l hw)
        have hl : ∀ m : List S76, (∀ n ∈ m, Wr n) → (nodesText m).length = 48 * m.length := by
          intro m
          induction m with
          | nil => intro _; rfl
          | cons a m ih =>
            intro hm
            rw [nodesText, List.flatMap_cons, List.length_append, nodeText_length a (hm a List.mem_cons_self), List.length_cons]
            have := ih (fun n hn => hm n (List.mem_cons_of_mem _ hn))
            unfold nodesText at this
            omega
        refine ⟨by omega, by omega, by omega, by omega, by omega, hm, hb, ?_⟩
        rw [← bytesOf_length, hb]
        unfold pageText
        simp only [List.length_append, List.length_cons, List.length_nil, digs_length, Z_length, hl l hw]
        omega
      · rw [if_neg h3] at h; exact absurd (congrArg Prod.snd h) h3
theorem nodes_length (m : List S76) (h : ∀ n ∈ m, Wr n) : (nodesText m).length = 48 * m.length := by
  induction m with
  | nil => rfl
  | cons a m ih =>
    rw [nodesText, List.flatMap_cons, List.length_append, nodeText_length a (h a List.mem_cons_self), List.length_cons]
    have := ih (fun n hn => h n (List.mem_cons_of_mem _ hn))
    unfold nodesText at this
    omega
theorem mid_slice {α : Type} (A B C : List α) (a b : Nat) (ha : A.length = a) (hb : a + B.length = b) : ((A ++ (B ++ C)).take b).drop a = B := by
  rw [← List.append_assoc, List.take_left' (by rw [List.length_append]; omega), List.drop_left' ha]
theorem bt_at (s : ByteArray) (A C : List Int) (v : Int) (o : Nat) (hb : bytesOf s = A ++ (v :: C)) (ho : A.length = o) : bt s (o : Int) = v ∧ o < s.size := by
  have hl := congrArg List.length hb
  rw [bytesOf_length, List.length_append, List.length_cons] at hl
  have h := drop_byte s (o : Int) (by omega) (by omega)
  rw [show ((o : Int)).toNat = o by omega, hb, List.drop_left' ho] at h
  exact ⟨((List.cons.inj h).1).symm, by omega⟩
theorem page_head {d x : Int} {l : List S76} {s : ByteArray} (h : packSpec d x l = (s, 0)) (hok : ∀ n ∈ l, NodeOk n) : bt s 1 = d ∧ getSpec s 2 2 = (x, 0) := by
  obtain ⟨d0, d1, x0, x1, l5, hm, hb, hs⟩ := packed_facts h hok
  unfold pageText at hb
  refine ⟨(bt_at s [3] (digs x 2 ++ (Z 12 ++ (nodesText l ++ Z (240 - 48 * l.length)))) d 1 (by rw [hb]; rfl) rfl).1, ?_⟩
  exact get_mid s ([3] ++ [d]) (Z 12 ++ (nodesText l ++ Z (240 - 48 * l.length))) x 2 2 (by rw [hb]; simp only [List.append_assoc]) rfl (by omega) (by omega) x0 (by show x < 256 ^ 2; omega)
theorem page_node {d x : Int} {l : List S76} {s : ByteArray} (h : packSpec d x l = (s, 0)) (hok : ∀ n ∈ l, NodeOk n) (i : Nat) (hi : i < l.length) :
    bytesOf (s.extract (16 + 48 * i) (64 + 48 * i)) = nodeText (rd_T76 l (i : Int)) ∧ bt s ((16 + 48 * i : Nat) : Int) = 1 := by
  obtain ⟨d0, d1, x0, x1, l5, hm, hb, hs⟩ := packed_facts h hok
  have hw : ∀ n ∈ l, Wr n := fun n hn => wr_of_may (hok n hn) (hm n hn)
  have hsp : l = l.take i ++ (rd_T76 l (i : Int) :: l.drop (i + 1)) := by rw [← rd76_drop l i hi, List.take_append_drop]
  have hA : (([3] ++ ([d] ++ (digs x 2 ++ Z 12))) ++ nodesText (l.take i)).length = 16 + 48 * i := by
    rw [List.length_append, nodes_length _ (fun n hn => hw n (List.mem_of_mem_take hn)), List.length_take]
    simp only [List.length_append, List.length_cons, List.length_nil, digs_length, Z_length]
    omega
  have hT : bytesOf s = (([3] ++ ([d] ++ (digs x 2 ++ Z 12))) ++ nodesText (l.take i)) ++ (nodeText (rd_T76 l (i : Int)) ++ (nodesText (l.drop (i + 1)) ++ Z (240 - 48 * l.length))) := by
    have hn : nodesText l = nodesText (l.take i) ++ (nodeText (rd_T76 l (i : Int)) ++ nodesText (l.drop (i + 1))) := by
      conv => lhs; rw [hsp]
      unfold nodesText
      rw [List.flatMap_append, List.flatMap_cons]
    rw [hb]
    unfold pageText
    rw [hn]
    simp only [List.append_assoc]
  have hn := nodeText_length _ (hw _ (rd76_mem l i hi))
  refine ⟨?_, ?_⟩
  · rw [bytes_extract, hT]
    exact mid_slice _ _ _ _ _ hA (by rw [hn]; omega)
  · exact (bt_at s _ ((nodeText (rd_T76 l (i : Int))).tail ++ (nodesText (l.drop (i + 1)) ++ Z (240 - 48 * l.length))) 1 (16 + 48 * i) (hT.trans rfl) hA).1
theorem page_end {d x : Int} {l : List S76} {s : ByteArray} (h : packSpec d x l = (s, 0)) (hok : ∀ n ∈ l, NodeOk n) (hi : l.length < 5) :
    bytesOf (s.extract (16 + 48 * l.length) (64 + 48 * l.length)) = Z 48 ∧ bt s ((16 + 48 * l.length : Nat) : Int) = 0 := by
  obtain ⟨d0, d1, x0, x1, l5, hm, hb, hs⟩ := packed_facts h hok
  have hw : ∀ n ∈ l, Wr n := fun n hn => wr_of_may (hok n hn) (hm n hn)
  have hA : (([3] ++ ([d] ++ (digs x 2 ++ Z 12))) ++ nodesText l).length = 16 + 48 * l.length := by
    rw [List.length_append, nodes_length _ hw]
    simp only [List.length_append, List.length_cons, List.length_nil, digs_length, Z_length]
  have hZ : Z (240 - 48 * l.length) = Z 48 ++ Z (192 - 48 * l.length) := by
    unfold Z
    rw [List.replicate_append_replicate, show 48 + (192 - 48 * l.length) = 240 - 48 * l.length by omega]
  have hT : bytesOf s = (([3] ++ ([d] ++ (digs x 2 ++ Z 12))) ++ nodesText l) ++ (Z 48 ++ Z (192 - 48 * l.length)) := by
    rw [hb, ← hZ]
    unfold pageText
    simp only [List.append_assoc]
  refine ⟨?_, ?_⟩
  · rw [bytes_extract, hT]
    exact mid_slice _ _ _ _ _ hA (by rw [Z_length]; omega)
  · exact (bt_at s _ (Z 47 ++ Z (192 - 48 * l.length)) 0 (16 + 48 * l.length) (hT.trans rfl) hA).1
theorem take_one (l : List S76) (i : Nat) (hi : i < l.length) : l.take i ++ [rd_T76 l (i : Int)] = l.take (i + 1) := by
  have h : l.take (i + 1) = l.take i ++ [l[i]] := by rw [List.take_succ_eq_append_getElem hi]
  rw [h]
  congr 1
  congr 1
  have hd := rd76_drop l i hi
  rw [List.drop_eq_getElem_cons hi] at hd
  exact ((List.cons.inj hd).1).symm
theorem unpack_back_l0 {d x : Int} {l : List S76} {s : ByteArray} (h : packSpec d x l = (s, 0)) (hok : ∀ n ∈ l, NodeOk n) : ∀ (r k i : Nat), i + r = l.length → 400 + r < k → slot_Unpack.l0 k s (16 + 48 * (i : Int)) d x (l.take i) = some (d, x, l, 0)
  | r, 0, i, _, hk => by omega
  | r, k + 1, i, hi, hk => by
    obtain ⟨d0, d1, x0, x1, l5, hm, hb, hs⟩ := packed_facts h hok
    have hw : ∀ n ∈ l, Wr n := fun n hn => wr_of_may (hok n hn) (hm n hn)
    have hend : ((slot_Pack.f k d x l).bind fun bt150 => (if bt150.2 = 0 then (if bt150.1.toList = s.toList then (some (d, x, l, (0 : Int))) else (some (0, 0, ([] : List (S76)), 3))) else (some (0, 0, ([] : List (S76)), 3)))) = some (d, x, l, 0) := by
      rw [pack_f d x l hok k (by omega) (fun n hn => by have := (hw n hn).name; omega), h]
      simp only [Option.bind_some, if_true]
    simp only [slot_Unpack.l0]
    by_cases hil : i < l.length
    · obtain ⟨r, rfl⟩ : ∃ m, r = m + 1 := ⟨r - 1, by omega⟩
      have hp := page_node h hok i hil
      rw [if_pos (show 16 + 48 * (i : Int) < 256 by omega), if_pos (by omega), if_pos (by omega), show (16 : Int) + 48 * (i : Int) = ((16 + 48 * i : Nat) : Int) by omega, hp.2, if_pos rfl, wrap64_small (by omega) (by omega), if_pos (by omega), if_pos (by omega),
        show ((16 + 48 * i : Nat) : Int).toNat = 16 + 48 * i by omega, show (((16 + 48 * i : Nat) : Int) + 48).toNat = 64 + 48 * i by omega,
        slot_read_f (rd_T76 l (i : Int)) (hok _ (rd76_mem l i hil)) (hm _ (rd76_mem l i hil)) _ hp.1 k (by omega)]
      simp only [Option.bind_some]
      rw [if_pos (by rw [List.length_take]; omega), take_one l i hil, show (((16 + 48 * i : Nat) : Int) + 48) = 16 + 48 * ((i + 1 : Nat) : Int) by omega]
      exact unpack_back_l0 h hok r k (i + 1) (by omega) (by omega)
    · obtain rfl : i = l.length := by omega
      rw [List.take_length]
      by_cases h5 : l.length < 5
      · have hp := page_end h hok h5
        rw [if_pos (show 16 + 48 * (l.length : Int) < 256 by omega), if_pos (by omega), if_pos (by omega), show (16 : Int) + 48 * (l.length : Int) = ((16 + 48 * l.length : Nat) : Int) by omega, hp.2, if_neg (by decide)]
        exact hend
      · rw [if_neg (show ¬ 16 + 48 * (l.length : Int) < 256 by omega)]
        exact hend
theorem unpack_back {d x : Int} {l : List S76} {s : ByteArray} (h : packSpec d x l = (s, 0)) (hok : ∀ n ∈ l, NodeOk n) (k : Nat) (hk : 410 < k) : slot_Unpack.f k s = some (d, x, l, 0) := by
  obtain ⟨d0, d1, x0, x1, l5, hm, hb, hs⟩ := packed_facts h hok
  obtain ⟨h1, h2⟩ := page_head h hok
  unfold slot_Unpack.f
  rw [if_pos (by omega), num_get_f s (by omega) 2 2 k (by omega), h1, h2]
  simp only [Option.bind_some]
  rw [if_pos (by omega), wrap64_small (by omega) (by omega), wrap64_small (by omega) (by omega)]
  exact unpack_back_l0 h hok l.length k 0 (by omega) (by omega)
theorem number_f (s : ByteArray) (hs : (s.size : Int) ≤ 9223372036854775807) (a w : Int) (k : Nat) (hk : 9 < k) : aumbryref15_number.f k s a w = some (getSpec s a w).1 := by
  unfold aumbryref15_number.f
  rw [ref_get_f s hs a w k hk]
  rfl
def kidsAt (t : ByteArray) : Nat → Nat → List Int
  | 0, _ => []
  | m + 1, i => (getSpec t (23 + 6 * (i : Int)) 6).1 :: kidsAt t m (i + 1)
theorem kidsAt_length (t : ByteArray) : ∀ m i, (kidsAt t m i).length = m
  | 0, _ => rfl
  | m + 1, i => by simp only [kidsAt, List.length_cons, kidsAt_length t m]
theorem kidsAt_wf (t : ByteArray) : ∀ m i, Wf64 (kidsAt t m i)
  | 0, _, a, h => by cases h
  | m + 1, i, a, h => by
    rcases List.mem_cons.1 h with rfl | h
    · exact getSpec_in _ _ _
    · exact kidsAt_wf t m (i + 1) a h
theorem kidsAt_read (t : ByteArray) (ht : (t.size : Int) ≤ 9223372036854775807) (k : Nat) (hk : 9 < k) : ∀ m i, kidsRead k t m i = some (kidsAt t m i)
  | 0, _ => rfl
  | m + 1, i => by
    simp only [kidsRead, kidsAt]
    rw [num_get_f t ht _ _ k hk]
    simp only [Option.bind_some]
    rw [kidsAt_read t ht k hk m (i + 1)]
    rfl
theorem node_facts (n : S76) (ok : NodeOk n) (h0 : mayOf n = 0) (s : ByteArray) (hb : bytesOf s = nodeText n) :
    s.size = 48 ∧ bt s 0 = 1 ∧ bt s 1 = flagOf n.f4 ∧ getSpec s 2 2 = (n.f0 % 65536, 0) ∧ bt s 12 = (n.f2.length : Int) ∧ getSpec s 13 4 = (n.f3, 0) ∧ getSpec s 17 6 = (n.f5, 0) ∧ kidsAt s n.f2.length 0 = n.f2 ∧ ztrim (s.extract 4 12) = n.f1 ∧ (hashSpec n.f1 n.f2).2 = 0 ∧ n.f0 / 65536 = (hashSpec n.f1 n.f2).1 ∧ n.f0 < 281474976710656 := by
  have h := wr_of_may ok h0
  have h1 := h.name
  have h2 := h.kidsl
  have ha0 := h.at0
  have hc0 := h.c0
  have hc1 := h.c1
  have hn0 := h.n0
  have hn1 := h.n1
  have hfl : 0 ≤ flagOf n.f4 ∧ flagOf n.f4 ≤ 1 := by unfold flagOf; split <;> omega
  have hs : s.size = 48 := by rw [← bytesOf_length, hb, nodeText_length n h]
  have hm := h0
  unfold mayOf at hm
  have e0 : (hashSpec n.f1 n.f2).2 = 0 := by
    by_cases e : (hashSpec n.f1 n.f2).2 = 0
    · exact e
    · rw [if_neg e] at hm; exact absurd hm e
  rw [if_pos e0] at hm
  have e1 : partsB n.f0 (hashSpec n.f1 n.f2).1 = 0 := by
    by_cases e : n.f3 < 0 ∨ n.f3 > 4294967295 ∨ (n.f5 ≠ 0 ∧ isAddr n.f5 = false)
    · rw [if_pos e] at hm; exact absurd hm (by decide)
    · rw [if_neg e] at hm; exact hm
  have e2 : n.f0 / 65536 = (hashSpec n.f1 n.f2).1 := by
    unfold partsB at e1
    by_cases ea : isAddr n.f0 = true
    · rw [if_pos ea] at e1
      by_cases eb : n.f0 / 65536 = (hashSpec n.f1 n.f2).1
      · exact eb
      · rw [if_neg eb] at e1; exact absurd e1 (by decide)
    · rw [if_neg ea] at e1; exact absurd e1 (by decide)
  have ea : isAddr n.f0 = true := by
    unfold partsB at e1
    by_cases ea : isAddr n.f0 = true
    · exact ea
    · rw [if_neg ea] at e1; exact absurd e1 (by decide)
  have hk0 : ¬ kindSpec n.f1 = 0 := by
    intro e
    unfold hashSpec at e0
    rw [if_pos e] at e0
    exact absurd e0 (by decide)
  have g1 := get_mid s ([1] ++ [flagOf n.f4]) (bytesOf n.f1 ++ (Z (8 - n.f1.size) ++ ([(n.f2.length : Int)] ++ (digs n.f3 4 ++ (digs n.f5 6 ++ (kidBytes n.f2 ++ (Z (24 - 6 * n.f2.length) ++ [0]))))))) (n.f0 % 65536) 2 2 (by rw [hb]; unfold nodeText; simp only [List.append_assoc]) rfl (by omega) (by omega) (by omega) (by show n.f0 % 65536 < 256 ^ 2; omega)
  have hT : bytesOf s = ([1] ++ ([flagOf n.f4] ++ (digs (n.f0 % 65536) 2 ++ (bytesOf n.f1 ++ Z (8 - n.f1.size))))) ++ ([(n.f2.length : Int)] ++ (digs n.f3 4 ++ (digs n.f5 6 ++ (kidBytes n.f2 ++ (Z (24 - 6 * n.f2.length) ++ [0]))))) := by
    rw [hb]; unfold nodeText; simp only [List.append_assoc]
  have hA : ([1] ++ ([flagOf n.f4] ++ (digs (n.f0 % 65536) 2 ++ (bytesOf n.f1 ++ Z (8 - n.f1.size))))).length = 12 := by
    simp only [List.length_append, List.length_cons, List.length_nil, digs_length, bytesOf_length, Z_length]; omega
  have b0 := (bt_at s [] ([flagOf n.f4] ++ (digs (n.f0 % 65536) 2 ++ (bytesOf n.f1 ++ (Z (8 - n.f1.size) ++ ([(n.f2.length : Int)] ++ (digs n.f3 4 ++ (digs n.f5 6 ++ (kidBytes n.f2 ++ (Z (24 - 6 * n.f2.length) ++ [0]))))))))) 1 0 (by rw [hb]; rfl) rfl).1
  have b1 := (bt_at s [1] (digs (n.f0 % 65536) 2 ++ (bytesOf n.f1 ++ (Z (8 - n.f1.size) ++ ([(n.f2.length : Int)] ++ (digs n.f3 4 ++ (digs n.f5 6 ++ (kidBytes n.f2 ++ (Z (24 - 6 * n.f2.length) ++ [0])))))))) (flagOf n.f4) 1 (by rw [hb]; rfl) rfl).1
  have gn : s.extract 4 12 = n.f1 ++ zeros (8 - n.f1.size) := by
    refine bytesOf_inj ?_
    rw [bytes_extract, bytesOf_append, zeros_bytes, hT, List.take_left' hA,
      show ([1] ++ ([flagOf n.f4] ++ (digs (n.f0 % 65536) 2 ++ (bytesOf n.f1 ++ Z (8 - n.f1.size)))) : List Int) = ([1] ++ [flagOf n.f4] ++ digs (n.f0 % 65536) 2) ++ (bytesOf n.f1 ++ Z (8 - n.f1.size)) by simp only [List.append_assoc],
      List.drop_left' (by simp only [List.length_append, digs_length]; rfl)]
    rfl
  generalize ([1] ++ ([flagOf n.f4] ++ (digs (n.f0 % 65536) 2 ++ (bytesOf n.f1 ++ Z (8 - n.f1.size))))) = A at hT hA
  have b2 := (bt_at s A (digs n.f3 4 ++ (digs n.f5 6 ++ (kidBytes n.f2 ++ (Z (24 - 6 * n.f2.length) ++ [0])))) (n.f2.length : Int) 12 (by rw [hT]; rfl) hA).1
  have g3 := get_mid s (A ++ [(n.f2.length : Int)]) (digs n.f5 6 ++ (kidBytes n.f2 ++ (Z (24 - 6 * n.f2.length) ++ [0]))) n.f3 4 13 (by rw [hT, List.append_assoc]) (by rw [List.length_append, hA]; rfl) (by omega) (by omega) hc0 (by show n.f3 < 256 ^ 4; omega)
  have g4 := get_mid s (A ++ [(n.f2.length : Int)] ++ digs n.f3 4) (kidBytes n.f2 ++ (Z (24 - 6 * n.f2.length) ++ [0])) n.f5 6 17 (by rw [hT, List.append_assoc, List.append_assoc]) (by rw [List.length_append, List.length_append, hA, digs_length]; rfl) (by omega) (by omega) hn0 (by show n.f5 < 256 ^ 6; omega)
  have gk := kids_read s hs 10 (by omega) (Z (24 - 6 * n.f2.length) ++ [0]) n.f2 0 (A ++ [(n.f2.length : Int)] ++ digs n.f3 4 ++ digs n.f5 6) h.kids (by rw [hT]; simp only [List.append_assoc]) (by rw [List.length_append, List.length_append, List.length_append, hA, digs_length, digs_length]; rfl)
  rw [kidsAt_read s (by omega) 10 (by omega)] at gk
  exact ⟨hs, b0, b1, g1, b2, g3, g4, Option.some.inj gk, by rw [gn, name_trim _ hk0], e0, e2, isAddr_lt ea⟩
/-- A reference's end: the bucket packed again. -/
def RefEnd (k : Nat) (s : ByteArray) (d x : Int) (l : List S76) : Option (Int × Int × List S76 × Int) := (aumbryref15_Pack.f k d x l).bind fun bt293 => (if bt293.2 = 0 then (if bt293.1.toList = s.toList then (some (d, x, l, 0)) else (some (0, 0, ([] : List (S76)), 3))) else (some (0, 0, ([] : List (S76)), 3)))
/-- A reference's kids told: the hash, and on. -/
def RefKids (k : Nat) (s : ByteArray) (i : Int) (t : ByteArray) (d x : Int) (l : List S76) (nm : ByteArray) (kk : List Int) (c : Int) (q : Bool) (nx : Int) : Option (Int × Int × List S76 × Int) :=
  (aumbryref15_Hash.f k nm kk).bind fun bt303 => (if bt303.2 = 0 then ((aumbryref15_number.f k t 2 2).bind fun t305 => (if l.length < 1954687338268 then (aumbryref15_Unpack.l0 k s (wrap64 (i + 1)) d x (l ++ [(⟨IntKind.u64.wrap ((IntKind.u64.wrap ((IntKind.u64.wrap (bt303.1)) * 65536)) + t305), nm, kk, c, q, nx⟩ : S76)])) else (none))) else (some (0, 0, ([] : List (S76)), 3)))
theorem refl1 (s t : ByteArray) (ht : t.size = 48) (i d x : Int) (l : List S76) (nm : ByteArray) (c : Int) (q : Bool) (nx : Int) (hm : bt t 12 ≤ 4) : ∀ (r k j : Nat) (kk : List Int), (j : Int) + r = bt t 12 → kk.length = j → r + 20 < k →
    aumbryref15_Unpack.l1 k s i t (j : Int) d x l 0 nm kk c q nx = RefKids (k - r - 1) s i t d x l nm (kk ++ kidsAt t r j) c q nx
  | 0, k, j, kk, hj, hkk, hk => by
    obtain ⟨k, rfl⟩ : ∃ m, k = m + 1 := ⟨k - 1, by omega⟩
    simp only [aumbryref15_Unpack.l1]
    rw [if_pos (by omega), wrap64_small (by omega) (by omega), if_neg (by omega)]
    simp only [kidsAt, List.append_nil]
    rfl
  | r + 1, k, j, kk, hj, hkk, hk => by
    obtain ⟨k, rfl⟩ : ∃ m, k = m + 1 := ⟨k - 1, by omega⟩
    simp only [aumbryref15_Unpack.l1]
    rw [if_pos (by omega), wrap64_small (i := bt t 12) (by omega) (by omega), if_pos (by omega), wrap64_small (i := 6 * (j : Int)) (by omega) (by omega), wrap64_small (i := 23 + 6 * (j : Int)) (by omega) (by omega), number_f t (by omega) _ _ k (by omega)]
    simp only [Option.bind_some]
    rw [if_pos (by omega), wrap64_small (by omega) (by omega), show (j : Int) + 1 = ((j + 1 : Nat) : Int) by omega,
      refl1 s t ht i d x l nm c q nx hm r k (j + 1) _ (by omega) (by rw [List.length_append]; simp [hkk]) (by omega)]
    simp only [kidsAt, List.append_assoc, List.singleton_append]
    rw [show k + 1 - (r + 1) - 1 = k - r - 1 by omega]
theorem refl0_step (s : ByteArray) (hs : s.size = 256) (d x : Int) (l : List S76) (i : Nat) (hi : i < 5) (k : Nat) (hk : 60 < k) :
    aumbryref15_Unpack.l0 (k + 1) s (i : Int) d x l = (if s.extract (16 + 48 * i) (64 + 48 * i) = zeros 48 then RefEnd k s d x l else (if bt (s.extract (16 + 48 * i) (64 + 48 * i)) 12 > 4 then some (0, 0, ([] : List (S76)), 3) else aumbryref15_Unpack.l1 k s (i : Int) (s.extract (16 + 48 * i) (64 + 48 * i)) 0 d x l 0 (ztrim ((s.extract (16 + 48 * i) (64 + 48 * i)).extract 4 12)) [] (wrap64 (getSpec (s.extract (16 + 48 * i) (64 + 48 * i)) 13 4).1) (bt (s.extract (16 + 48 * i) (64 + 48 * i)) 1 == 1) (getSpec (s.extract (16 + 48 * i) (64 + 48 * i)) 17 6).1)) := by
  have ht : (s.extract (16 + 48 * i) (64 + 48 * i)).size = 48 := by rw [ByteArray.size_extract]; omega
  have e8 : ((s.extract (16 + 48 * i) (64 + 48 * i)).extract 4 12).size = 8 := by rw [ByteArray.size_extract]; omega
  simp only [aumbryref15_Unpack.l0]
  rw [wrap64_small (i := 48 * (i : Int)) (by omega) (by omega), wrap64_small (i := 16 + 48 * (i : Int)) (by omega) (by omega), wrap64_small (i := 64 + 48 * (i : Int)) (by omega) (by omega), if_pos (by omega), if_pos (by omega), if_pos (by omega), if_pos (by omega),
    show (16 + 48 * (i : Int)).toNat = 16 + 48 * i by omega, show (64 + 48 * (i : Int)).toNat = 64 + 48 * i by omega, show (48 : Int) = ((48 : Nat) : Int) from rfl, ref_zeros_f 48 (by omega)]
  generalize s.extract (16 + 48 * i) (64 + 48 * i) = t at *
  simp only [Option.bind_some]
  by_cases hz : t = zeros 48
  · rw [if_pos ((toList_iff _ _).2 hz), if_pos hz]
    rfl
  · rw [if_neg (fun h => hz ((toList_iff _ _).1 h)), if_neg hz, if_pos (by omega), if_pos (by omega), ref_trim_f _ (by omega) k (by omega)]
    simp only [Option.bind_some]
    rw [if_pos (by omega), number_f t (by omega) 13 4 k (by omega), number_f t (by omega) 17 6 k (by omega)]
    simp only [Option.bind_some]
    rw [if_pos (by omega)]
theorem refend_some (s : ByteArray) (d x : Int) (l : List S76) (hl : ∀ n ∈ l, Fine n) (h5 : l.length ≤ 5) (k : Nat) (hk : 320 < k) : ∃ out, RefEnd k s d x l = some out ∧ Told s d x out := by
  unfold RefEnd
  rw [refpack_f d x l (fun n h => (hl n h).1) (Nat.le_trans h5 (by decide)) k (by omega) (fun n h => by have := (hl n h).2; omega)]
  exact told_end s d x l hl h5
theorem refunpack_step (s : ByteArray) (hs : s.size = 256) (d x : Int) (k : Nat) (l : List S76) (hl : ∀ n ∈ l, Fine n) (hi : l.length < 5) (hk : 400 < k) :
    (∃ out, aumbryref15_Unpack.l0 (k + 1) s (l.length : Int) d x l = some out ∧ Told s d x out) ∨ ∃ n k', Fine n ∧ k ≤ k' + 6 ∧ aumbryref15_Unpack.l0 (k + 1) s (l.length : Int) d x l = aumbryref15_Unpack.l0 k' s ((l ++ [n]).length : Int) d x (l ++ [n]) := by
  rw [refl0_step s hs d x l l.length hi k (by omega)]
  have ht : (s.extract (16 + 48 * l.length) (64 + 48 * l.length)).size = 48 := by rw [ByteArray.size_extract]; omega
  generalize s.extract (16 + 48 * l.length) (64 + 48 * l.length) = t at *
  by_cases hz : t = zeros 48
  · rw [if_pos hz]
    exact Or.inl (refend_some s d x l hl (by omega) k (by omega))
  · rw [if_neg hz]
    by_cases h4 : bt t 12 > 4
    · rw [if_pos h4]
      exact Or.inl ⟨_, rfl, Or.inr rfl⟩
    · rw [if_neg h4]
      have hb := bt_range t 12
      have hz8 : (ztrim (t.extract 4 12)).size ≤ 8 := by
        have := ztrim_size (t.extract 4 12)
        have e8 : (t.extract 4 12).size = 8 := by rw [ByteArray.size_extract]; omega
        omega
      generalize hc : wrap64 (getSpec t 13 4).1 = c
      generalize (bt t 1 == 1) = q
      have hnx := getSpec_in t 17 6
      generalize (getSpec t 17 6).1 = nx at *
      generalize hnm : ztrim (t.extract 4 12) = nm at *
      have hcr : -9223372036854775808 ≤ c ∧ c ≤ 9223372036854775807 := by rw [← hc]; exact wrap64_in _
      have e := refl1 s t ht (l.length : Int) d x l nm c q nx (by omega) (bt t 12).toNat k 0 [] (by omega) rfl (by omega)
      rw [show ((0 : Nat) : Int) = 0 from rfl, List.nil_append] at e
      rw [e]
      unfold RefKids
      have hkl := kidsAt_length t (bt t 12).toNat 0
      have hkw := kidsAt_wf t (bt t 12).toNat 0
      generalize kidsAt t (bt t 12).toNat 0 = kk at *
      have hkm : kk.length ≤ maxLen := Nat.le_trans (show kk.length ≤ 4 by omega) (by decide)
      rw [ref_hash_f nm (by omega) kk hkm hkw _ (by omega)]
      simp only [Option.bind_some]
      by_cases h0 : (hashSpec nm kk).2 = 0
      · rw [if_pos h0, number_f t (by omega) 2 2 _ (by omega)]
        simp only [Option.bind_some]
        rw [if_pos (by omega), wrap64_small (by omega) (by omega)]
        have hu := u64_in (IntKind.u64.wrap (IntKind.u64.wrap (hashSpec nm kk).1 * 65536) + (getSpec t 2 2).1)
        generalize IntKind.u64.wrap (IntKind.u64.wrap (IntKind.u64.wrap (hashSpec nm kk).1 * 65536) + (getSpec t 2 2).1) = a0 at *
        have hnm2 : nm.size ≤ 140737488351232 := by omega
        refine Or.inr ⟨⟨a0, nm, kk, c, q, nx⟩, k - (bt t 12).toNat - 1, ⟨⟨hu.1, hu.2, hnm2, hkw, hkm, hcr.1, hcr.2, hnx.1, hnx.2⟩, hz8⟩, by omega, ?_⟩
        rw [List.length_append, List.length_singleton, Int.natCast_add]
        rfl
      · rw [if_neg h0]
        exact Or.inl ⟨_, rfl, Or.inr rfl⟩
theorem refunpack_l0 (s : ByteArray) (hs : s.size = 256) (d x : Int) (r : Nat) : ∀ (k : Nat) (l : List S76), l.length + r = 5 → (∀ n ∈ l, Fine n) → 420 + 20 * r < k → ∃ out, aumbryref15_Unpack.l0 k s (l.length : Int) d x l = some out ∧ Told s d x out := by
  induction r with
  | zero =>
    intro k l hr hl hk
    obtain ⟨k, rfl⟩ : ∃ m, k = m + 1 := ⟨k - 1, by omega⟩
    simp only [aumbryref15_Unpack.l0]
    rw [if_neg (by omega)]
    exact refend_some s d x l hl (by omega) k (by omega)
  | succ r ih =>
    intro k l hr hl hk
    obtain ⟨k, rfl⟩ : ∃ m, k = m + 1 := ⟨k - 1, by omega⟩
    rcases refunpack_step s hs d x k l hl (by omega) (by omega) with h | ⟨n, k', hn, hk', e⟩
    · exact h
    · rw [e]
      exact ih k' (l ++ [n]) (by rw [List.length_append, List.length_singleton]; omega) (fun m hm => by
        rcases List.mem_append.1 hm with h | h
        · exact hl m h
        · rw [List.mem_singleton.1 h]; exact hn) (by omega)
theorem refunpack_f (s : ByteArray) (k : Nat) (hk : 530 < k) : ∃ out, aumbryref15_Unpack.f k s = some out ∧ (out = (0, 0, [], 3) ∨ (s.size = 256 ∧ ∃ d x, Told s d x out)) := by
  unfold aumbryref15_Unpack.f
  by_cases h : (s.size : Int) = 256
  · rw [if_pos h, if_pos (by omega), number_f s (by omega) 2 2 k (by omega)]
    simp only [Option.bind_some]
    obtain ⟨out, o1, o2⟩ := refunpack_l0 s (by omega) (wrap64 (bt s 1)) (wrap64 (getSpec s 2 2).1) 5 k [] rfl (fun n h => by cases h) (by omega)
    exact ⟨out, o1, Or.inr ⟨by omega, _, _, o2⟩⟩
  · rw [if_neg h]
    exact ⟨_, rfl, Or.inl rfl⟩
theorem refend_back {d x : Int} {l : List S76} {s : ByteArray} (h : packSpec d x l = (s, 0)) (hok : ∀ n ∈ l, NodeOk n) (h5 : l.length ≤ 5) (h8 : ∀ n ∈ l, n.f1.size ≤ 8) (k : Nat) (hk : 320 < k) : RefEnd k s d x l = some (d, x, l, 0) := by
  unfold RefEnd
  rw [refpack_f d x l hok (Nat.le_trans h5 (by decide)) k (by omega) (fun n hn => by have := h8 n hn; omega), h]
  simp only [Option.bind_some, if_true]
theorem zeros_z (t : ByteArray) (m : Nat) (h : bytesOf t = Z m) : t = zeros m := bytesOf_inj (h.trans (zeros_bytes m).symm)
theorem refunpack_back_l0 {d x : Int} {l : List S76} {s : ByteArray} (h : packSpec d x l = (s, 0)) (hok : ∀ n ∈ l, NodeOk n) : ∀ (r k i : Nat), i + r = l.length → 400 + 20 * r < k → aumbryref15_Unpack.l0 k s (i : Int) d x (l.take i) = some (d, x, l, 0)
  | r, 0, i, _, hk => by omega
  | r, k + 1, i, hi, hk => by
    obtain ⟨d0, d1, x0, x1, l5, hm, hb, hs⟩ := packed_facts h hok
    have hw : ∀ n ∈ l, Wr n := fun n hn => wr_of_may (hok n hn) (hm n hn)
    have hend := refend_back h hok l5 (fun n hn => (hw n hn).name) k (by omega)
    by_cases hil : i < l.length
    · obtain ⟨r, rfl⟩ : ∃ m, r = m + 1 := ⟨r - 1, by omega⟩
      have hp := (page_node h hok i hil).1
      have hn := rd76_mem l i hil
      have ok := hok _ hn
      obtain ⟨n1, n2, n3, n4, n5, n6, n7, n8, n9, n10, n11, n12⟩ := node_facts _ ok (hm _ hn) _ hp
      have hk4 := (hw _ hn).kidsl
      have hc0 := (hw _ hn).c0
      have hc1 := (hw _ hn).c1
      have htk := take_one l i hil
      rw [refl0_step s hs d x _ i (by omega) k (by omega)]
      generalize s.extract (16 + 48 * i) (64 + 48 * i) = t at *
      generalize rd_T76 l (i : Int) = n at *
      have hz : ¬ t = zeros 48 := by
        intro e
        have z0 := (bt_at t [] (Z 47) 0 0 (by rw [e, zeros_bytes]; rfl) rfl).1
        rw [show ((0 : Nat) : Int) = 0 from rfl] at z0
        omega
      rw [if_neg hz, if_neg (by omega), n9, n6, n7, n3]
      simp only
      have e := refl1 s t n1 (i : Int) d x (l.take i) n.f1 (wrap64 n.f3) (flagOf n.f4 == 1) n.f5 (by omega) n.f2.length k 0 [] (by omega) rfl (by omega)
      rw [show ((0 : Nat) : Int) = 0 from rfl, List.nil_append, n8] at e
      rw [e]
      unfold RefKids
      rw [ref_hash_f n.f1 (by have := ok.name; omega) n.f2 ok.kidsl ok.kids _ (by have := (hw _ hn).name; omega)]
      simp only [Option.bind_some]
      rw [if_pos n10, number_f t (by omega) 2 2 _ (by omega), n4]
      simp only [Option.bind_some]
      have hfb : (flagOf n.f4 == 1) = n.f4 := by unfold flagOf; cases n.f4 <;> rfl
      have ha := ok.at0
      rw [if_pos (by rw [List.length_take]; omega), wrap64_small (by omega) (by omega), wrap64_small (i := n.f3) (by omega) (by omega), ← n11, u64_small (i := n.f0 / 65536) (by omega) (by omega), u64_small (i := n.f0 / 65536 * 65536) (by omega) (by omega), u64_small (by omega) (by omega), show n.f0 / 65536 * 65536 + n.f0 % 65536 = n.f0 by omega, hfb, htk,
        show (i : Int) + 1 = ((i + 1 : Nat) : Int) by omega]
      exact refunpack_back_l0 h hok r _ (i + 1) (by omega) (by omega)
    · obtain rfl : i = l.length := by omega
      rw [List.take_length]
      by_cases h5 : l.length < 5
      · rw [refl0_step s hs d x _ l.length h5 k (by omega), if_pos (zeros_z _ _ (page_end h hok h5).1)]
        exact hend
      · simp only [aumbryref15_Unpack.l0]
        rw [if_neg (by omega)]
        exact hend
  termination_by r => r
theorem refunpack_back {d x : Int} {l : List S76} {s : ByteArray} (h : packSpec d x l = (s, 0)) (hok : ∀ n ∈ l, NodeOk n) (k : Nat) (hk : 510 < k) : aumbryref15_Unpack.f k s = some (d, x, l, 0) := by
  obtain ⟨d0, d1, x0, x1, l5, hm, hb, hs⟩ := packed_facts h hok
  obtain ⟨h1, h2⟩ := page_head h hok
  unfold aumbryref15_Unpack.f
  rw [if_pos (by omega), if_pos (by omega), number_f s (by omega) 2 2 k (by omega), h1, h2]
  simp only [Option.bind_some]
  rw [wrap64_small (by omega) (by omega), wrap64_small (by omega) (by omega)]
  exact refunpack_back_l0 h hok l.length k 0 (by omega) (by omega)
theorem hashFin_range (s : ByteArray) : 0 ≤ hashFin s ∧ hashFin s < 4294967296 := by
  unfold hashFin
  have h2 := fin_range (Go.bits .xor .u32 (fin1 (hrun 2166136261 (bytesOf s))) (fin1 (hrun 2166136261 (bytesOf s)) / 8192)) 3266489909
  have e : fin2 (fin1 (hrun 2166136261 (bytesOf s))) = (Go.bits .xor .u32 (fin1 (hrun 2166136261 (bytesOf s))) (fin1 (hrun 2166136261 (bytesOf s)) / 8192) * 3266489909) % 4294967296 := rfl
  rw [← e] at h2
  generalize fin2 (fin1 (hrun 2166136261 (bytesOf s))) = y at *
  unfold fin3
  exact xor_range y (y / 65536) h2.1 h2.2 (by omega) (by omega)
theorem addr_f (h n : Int) (h0 : 0 ≤ h) (h1 : h < 4294967296) : slot_Address.f h n = some (if n < 1 ∨ 65535 < n then (0, 1) else (h * 65536 + n, 0)) := by
  unfold slot_Address.f
  by_cases a : n < 1
  · rw [if_pos a, if_pos (Or.inl a)]
  · rw [if_neg a]
    by_cases b : n ≥ 65536
    · rw [if_pos b, if_pos (Or.inr (by omega))]
    · rw [if_neg b, if_neg (by omega), u64_small (i := h) (by omega) (by omega), u64_small (i := h * 65536) (by omega) (by omega), u64_small (i := n) (by omega) (by omega), u64_small (by omega) (by omega)]
theorem isAddr_of (h n : Int) (h1 : h < 4294967296) (n0 : 1 ≤ n) (n1 : n ≤ 65535) : isAddr (h * 65536 + n) = true := by
  unfold isAddr
  rw [decide_eq_true (by omega), Bool.true_and, bne_iff_ne]
  omega
def aTxt : ByteArray := ⟨#[97]⟩
theorem a_kind : kindSpec aTxt = 1 := by decide +kernel
theorem a_hash : ∃ h, 0 ≤ h ∧ h < 4294967296 ∧ hashSpec aTxt [] = (h, 0) := by
  unfold hashSpec
  rw [a_kind, if_neg (by decide), if_neg (by decide), if_neg (by decide)]
  exact ⟨_, (hashFin_range _).1, (hashFin_range _).2, rfl⟩
theorem a_may (h : Int) (h0 : 0 ≤ h) (h1 : h < 4294967296) (e : hashSpec aTxt [] = (h, 0)) : NodeOk ⟨h * 65536 + 1, aTxt, [], 3, false, 0⟩ ∧ mayOf ⟨h * 65536 + 1, aTxt, [], 3, false, 0⟩ = 0 := by
  have hat : 0 ≤ h * 65536 + 1 ∧ h * 65536 + 1 < 18446744073709551616 := by omega
  have hi := isAddr_of h 1 h1 (by omega) (by omega)
  have hd : (h * 65536 + 1) / 65536 = h := by omega
  refine ⟨⟨hat.1, hat.2, show aTxt.size ≤ 140737488351232 by decide, (fun a ha => by cases ha), Nat.zero_le _, show (-9223372036854775808 : Int) ≤ 3 by decide, show (3 : Int) ≤ 9223372036854775807 by decide, show (0 : Int) ≤ 0 by decide, show (0 : Int) < 18446744073709551616 by decide⟩, ?_⟩
  unfold mayOf
  simp only
  rw [e]
  unfold partsB
  rw [hi, hd, if_pos rfl, if_neg (by decide), if_pos rfl, if_pos rfl]
theorem scan_one (n : S76) (h : mayOf n = 0) : scan [n] [n].length 0 = 0 := by
  show (if mayOf n = 0 then (if twice [n] n.f0 0 = true then 9 else scan [n] 0 1) else mayOf n) = 0
  rw [if_pos h, twice_false (fun t ht => by omega)]
  rfl
theorem pack_one (n : S76) (h : mayOf n = 0) : packSpec 2 9 [n] = (strOfNums (pageText 2 9 [n]), 0) := by
  unfold packSpec
  rw [if_neg (by decide), if_neg (show ¬ [n].length > 5 by simp), if_pos (scan_one n h)]
theorem parts_none : slot_Parts.f 65536 = some (0, 0, false) := by
  rw [parts_f 65536 (by decide)]
  rfl
theorem addr_one : slot_Address.f 1 1 = some (65537, 0) := by
  rw [addr_f 1 1 (by omega) (by omega), if_neg (by omega)]
  rfl
theorem wakes_f (k : Nat) (hk : 420 < k) : aumbrylaw15_wakes.f k = some true := by
  obtain ⟨h, h0, h1, e⟩ := a_hash
  obtain ⟨ok, hm⟩ := a_may h h0 h1 e
  have hp := pack_one _ hm
  have hok : ∀ n ∈ [(⟨h * 65536 + 1, aTxt, [], 3, false, 0⟩ : S76)], NodeOk n := fun n hn => by rw [List.mem_singleton.1 hn]; exact ok
  have hpf := pack_f 2 9 [⟨h * 65536 + 1, aTxt, [], 3, false, 0⟩] hok k (by omega) (fun n hn => by rw [List.mem_singleton.1 hn]; show aTxt.size + 200 < k; have : aTxt.size = 1 := rfl; omega)
  have hub := unpack_back hp hok k (by omega)
  obtain ⟨_, _, _, _, _, _, hb, hs⟩ := packed_facts hp hok
  have ha1 := addr_f h 1 h0 h1
  rw [if_neg (by omega)] at ha1
  unfold aumbrylaw15_wakes.f
  rw [addr_one, parts_none]
  simp only [Option.bind_some]
  rw [show (⟨#[97]⟩ : ByteArray) = aTxt from rfl, slot_hash_f aTxt (by decide) [] (fun a ha => by cases ha) k (by have : aTxt.size = 1 := rfl; omega), e]
  simp only [Option.bind_some]
  rw [ha1]
  simp only [Option.bind_some]
  rw [hpf, hp]
  simp only [Option.bind_some]
  rw [hub]
  simp only [Option.bind_some]
  have hx : ((strOfNums (pageText 2 9 [⟨h * 65536 + 1, aTxt, [], 3, false, 0⟩])).extract 0 4).toList = ([3, 2, 0, 9] : List UInt8) := by
    have hx0 : (strOfNums (pageText 2 9 [⟨h * 65536 + 1, aTxt, [], 3, false, 0⟩])).extract 0 4 = strOfNums [3, 2, 0, 9] := by
      refine bytesOf_inj ?_
      rw [bytes_extract, hb, bytes_nums [3, 2, 0, 9] (by decide)]
      rfl
    rw [hx0, Go.ByteArray.toList_eq, strOfNums_data]
    rfl
  rw [if_pos trivial, if_pos trivial, if_neg (by decide), if_pos trivial, if_pos trivial, if_pos trivial, if_pos (by omega), if_pos (by decide), if_pos (by omega), if_pos hx, if_pos trivial, if_pos (show (([(⟨h * 65536 + 1, aTxt, [], 3, false, 0⟩ : S76)].length : Nat) : Int) = 1 by simp), if_pos (by simp)]
  rfl
theorem samekids_l0 (l : List Int) (hl : l.length ≤ 1000000000000000000) (d : Nat) : ∀ (k i : Nat), i + d = l.length → d < k → aumbryref15_SameKids.l0 k l l (l.length : Int) (i : Int) = some true := by
  induction d with
  | zero =>
    intro k i hi hk
    obtain ⟨k, rfl⟩ : ∃ m, k = m + 1 := ⟨k - 1, by omega⟩
    simp only [aumbryref15_SameKids.l0]
    rw [if_neg (by omega)]
  | succ d ih =>
    intro k i hi hk
    obtain ⟨k, rfl⟩ : ∃ m, k = m + 1 := ⟨k - 1, by omega⟩
    simp only [aumbryref15_SameKids.l0]
    rw [if_pos (by omega), if_pos (by omega), if_pos (by omega), if_true, if_pos (by omega), wrap64_small (by omega) (by omega), show (i : Int) + 1 = ((i + 1 : Nat) : Int) by omega]
    exact ih k (i + 1) (by omega) (by omega)
theorem samekids_f (l : List Int) (hl : l.length ≤ 1000000000000000000) (k : Nat) (hk : l.length < k) : aumbryref15_SameKids.f k l l = some true := by
  unfold aumbryref15_SameKids.f
  rw [if_pos rfl]
  exact samekids_l0 l hl l.length k 0 (by omega) hk
theorem samenode_f (n : S76) (hl : n.f2.length ≤ 1000000000000000000) (k : Nat) (hk : n.f2.length < k) : aumbryref15_SameNode.f k n.f0 n.f1 n.f2 n.f3 n.f4 n.f5 n.f0 n.f1 n.f2 n.f3 n.f4 n.f5 = some true := by
  unfold aumbryref15_SameNode.f
  rw [if_pos rfl, if_pos rfl, if_pos rfl, if_pos (by cases n.f4 <;> rfl), if_pos rfl, samekids_f _ hl k hk]
  rfl
theorem samenodes_l0 (l : List S76) (hl : l.length ≤ 1000000000000000000) (m : Nat) (hm : ∀ n ∈ l, n.f2.length ≤ m) (hm1 : m ≤ 1000000000000000000) (d : Nat) : ∀ (k i : Nat), i + d = l.length → d + m + 1 < k → aumbryref15_SameNodes.l0 k l l (l.length : Int) (i : Int) = some true := by
  induction d with
  | zero =>
    intro k i hi hk
    obtain ⟨k, rfl⟩ : ∃ m, k = m + 1 := ⟨k - 1, by omega⟩
    simp only [aumbryref15_SameNodes.l0]
    rw [if_neg (by omega)]
  | succ d ih =>
    intro k i hi hk
    obtain ⟨k, rfl⟩ : ∃ m, k = m + 1 := ⟨k - 1, by omega⟩
    have hn := hm _ (rd76_mem l i (by omega))
    simp only [aumbryref15_SameNodes.l0]
    rw [if_pos (by omega), if_pos (by omega), if_pos (by omega), if_pos (by omega), samenode_f _ (by omega) k (by omega)]
    simp only [Option.bind_some, if_true]
    rw [wrap64_small (by omega) (by omega), show (i : Int) + 1 = ((i + 1 : Nat) : Int) by omega]
    exact ih k (i + 1) (by omega) (by omega)
theorem same_f (d x : Int) (l : List S76) (hl : l.length ≤ 5) (hm : ∀ n ∈ l, n.f2.length ≤ 4) (k : Nat) (hk : 100 < k) : aumbryref15_Same.f k d x l d x l = some true := by
  have e := samenodes_l0 l (by omega) 4 hm (by omega) l.length k 0 (by omega) (by omega)
  rw [show ((0 : Nat) : Int) = 0 from rfl] at e
  unfold aumbryref15_Same.f aumbryref15_SameNodes.f
  rw [if_pos rfl, if_pos rfl, if_pos rfl, e]
  rfl
theorem packed_same {d x : Int} {l : List S76} {s : ByteArray} (h : packSpec d x l = (s, 0)) (hok : ∀ n ∈ l, NodeOk n) (k : Nat) (hk : 100 < k) : aumbryref15_Same.f k d x l d x l = some true := by
  obtain ⟨d0, d1, x0, x1, l5, hm, hb, hs⟩ := packed_facts h hok
  exact same_f d x l l5 (fun n hn => (wr_of_may (hok n hn) (hm n hn)).kidsl) k hk
theorem same_none (k : Nat) (hk : 100 < k) : aumbryref15_Same.f k 0 0 [] 0 0 [] = some true := same_f 0 0 [] (by simp) (fun n hn => by cases hn) k hk
/-- Every text: a bucket that both readings tell, or none. -/
theorem both_told (s : ByteArray) (k : Nat) (hk : 530 < k) : (∃ d x l, slot_Unpack.f k s = some (d, x, l, 0) ∧ aumbryref15_Unpack.f k s = some (d, x, l, 0) ∧ packSpec d x l = (s, 0) ∧ (∀ n ∈ l, Fine n)) ∨ (slot_Unpack.f k s = some (0, 0, [], 3) ∧ aumbryref15_Unpack.f k s = some (0, 0, [], 3)) := by
  obtain ⟨o, h1, h2⟩ := unpack_f s k (by omega)
  obtain ⟨p, g1, g2⟩ := refunpack_f s k (by omega)
  have ho : (∃ d x l, o = (d, x, l, 0) ∧ packSpec d x l = (s, 0) ∧ ∀ n ∈ l, Fine n) ∨ o = (0, 0, [], 3) := by
    rcases h2 with h | ⟨_, d, x, ⟨l, e, hf, _, hp⟩ | h⟩
    · exact Or.inr h
    · exact Or.inl ⟨d, x, l, e, hp, hf⟩
    · exact Or.inr h
  have hp : (∃ d x l, p = (d, x, l, 0) ∧ packSpec d x l = (s, 0) ∧ ∀ n ∈ l, Fine n) ∨ p = (0, 0, [], 3) := by
    rcases g2 with h | ⟨_, d, x, ⟨l, e, hf, _, hp⟩ | h⟩
    · exact Or.inr h
    · exact Or.inl ⟨d, x, l, e, hp, hf⟩
    · exact Or.inr h
  rcases ho with ⟨d, x, l, e, hq, hf⟩ | e
  · subst e
    exact Or.inl ⟨d, x, l, h1, refunpack_back hq (fun n hn => (hf n hn).1) k (by omega), hq, hf⟩
  · subst e
    rcases hp with ⟨d, x, l, e, hq, hf⟩ | e
    · have hu := unpack_back hq (fun n hn => (hf n hn).1) k (by omega)
      rw [h1] at hu
      exact absurd (congrArg (fun q => (q.2.2.2 : Int)) (Option.some.inj hu)) (show ¬ ((3 : Int) = 0) by decide)
    · subst e
      exact Or.inr ⟨h1, g1⟩
theorem slotUnpacks_pure : aumbrylaw15_SlotUnpacks.Pure := by
  intro s hs
  refine ⟨600, ?_⟩
  unfold aumbrylaw15_SlotUnpacks.f
  rw [wakes_f _ (by omega)]
  simp only [Option.bind_some, if_true]
  rcases both_told s 600 (by omega) with ⟨d, x, l, h1, h2, hp, hf⟩ | ⟨h1, h2⟩
  · rw [h1, h2]
    simp only [Option.bind_some]
    rw [packed_same hp (fun n hn => (hf n hn).1) 600 (by omega)]
    rfl
  · rw [h1, h2]
    simp only [Option.bind_some]
    rw [same_none 600 (by omega)]
    rfl
section
open Go.ChangeShapes Go.WideShapes Go.Deep Go.Joins
variable {H : Type} {enc : TypeId × Value → H} {P : Program} {w : World} {base : Nat} {spare : Nat → Bool} {held : Bool}
end
end Go.Proofs.Ytdieanikopjbjaa.QSlotUn
