/- The hash of any text is that of the reference; no condition beside the bound that every argument has. -/
import Derived.Test.YtaefejbhdbljaaaPMixHashesx1
import Derived.Test.YtaefejbhdbljaaaMixBase
namespace Go.Proofs.Ytaefejbhdbljaaa.Pure
open Go.RowKit Go.Proofs.Ytaefejbhdbljaaa.PMixHashes Go.Proofs.YtaefejbhdbljaaaW.PrintWords Go.Proofs.YtaefejbhdbljaaaW.PrintLast Go.Proofs.Ytaefejbhdbljaaa.MixBase

namespace MixHashesParts
theorem more_l0 (s : ByteArray) (hs : (s.size : Int) < 9223372036854775807) (d : Nat) : ∀ (k : Nat) (a b i : Int), 0 ≤ i → i ≤ s.size → (s.size : Int) - i = d → d < k → MOk (a, b) →
    mix_More.l0 k s a b (s.size : Int) i = some ((mrun (a, b) ((bytesOf s).drop i.toNat)).2 * 65536 + (mrun (a, b) ((bytesOf s).drop i.toNat)).1) := by
  induction d with
  | zero =>
    intro k a b i h0 h1 hd hk ho
    obtain ⟨k, rfl⟩ : ∃ m, k = m + 1 := ⟨k - 1, by omega⟩
    unfold MOk at ho
    simp only at ho
    simp only [mix_More.l0]
    rw [if_neg (by omega), drop_end s i (by omega), mrun_nil, join32 a b (by omega) (by omega) (by omega) (by omega)]
  | succ d ih =>
    intro k a b i h0 h1 hd hk ho
    obtain ⟨k, rfl⟩ : ∃ m, k = m + 1 := ⟨k - 1, by omega⟩
    have hr := bt_range s i
    have hlt : i < (s.size : Int) := by omega
    have hst := mstep_ok (a, b) (bt s i)
    have h2 := ih k (mstep (a, b) (bt s i)).1 (mstep (a, b) (bt s i)).2 (i + 1) (by omega) (by omega) (by omega) (by omega) hst
    unfold MOk at ho
    simp only at ho
    simp only [mix_More.l0]
    rw [if_pos hlt, if_pos h0, if_pos hlt, wrap64_small (by omega) (by omega), drop_byte s i h0 hlt, mrun_cons]
    have e1 : ((a + (bt s i % 4294967296)) % 4294967296) % 65521 = (mstep (a, b) (bt s i)).1 := by unfold mstep; simp only; omega
    have e2 : ((b + (((a + (bt s i % 4294967296)) % 4294967296) % 65521)) % 4294967296) % 65521 = (mstep (a, b) (bt s i)).2 := by unfold mstep; simp only; omega
    rw [e2, e1]
    exact h2
theorem more_f (s : ByteArray) (hs : (s.size : Int) < 9223372036854775807) (sum : Int) (h0 : 0 ≤ sum) (h1 : sum < 4294967296) (k : Nat) (hk : s.size < k) :
    mix_More.f k sum s = some (sumOf sum (bytesOf s)) := by
  unfold mix_More.f sumOf
  rw [low16 sum h0 h1, Int.tmod_eq_emod_of_nonneg (by omega), Int.tmod_eq_emod_of_nonneg (by omega)]
  have h := more_l0 s hs s.size k (sum % 65536 % 65521) (sum / 65536 % 65521) 0 (by omega) (by omega) (by omega) hk (by unfold MOk; simp only; omega)
  rw [h]
  rfl
theorem sum_f (s : ByteArray) (hs : (s.size : Int) < 9223372036854775807) (k : Nat) (hk : s.size < k) : mix_Sum.f k s = some (sumOf 1 (bytesOf s)) := by
  unfold mix_Sum.f
  rw [more_f s hs 1 (by omega) (by omega) k hk]
  rfl
theorem wakes_f (k : Nat) (hk : 2 < k) : aumbrylaw02_wakes.f k = some true := by
  unfold aumbrylaw02_wakes.f
  rw [sum_f _ (by decide) k (by simp [ByteArray.size]; omega), sum_f _ (by decide) k (by simp [ByteArray.size]; omega)]
  decide


/-- One round of the hash. -/
def hstep (h c : Int) : Int := (Go.bits .xor .u32 h c * 16777619) % 4294967296
def hrun (h : Int) (l : List Int) : Int := l.foldl hstep h
theorem hrun_cons (h c : Int) (l : List Int) : hrun h (c :: l) = hrun (hstep h c) l := rfl
theorem hstep_range (h c : Int) : 0 ≤ hstep h c ∧ hstep h c < 4294967296 := by unfold hstep; omega
theorem hrun_range (h : Int) (l : List Int) (h0 : 0 ≤ h) (h1 : h < 4294967296) : 0 ≤ hrun h l ∧ hrun h l < 4294967296 := by
  induction l generalizing h with
  | nil => exact ⟨h0, h1⟩
  | cons c l ih => rw [hrun_cons]; exact ih _ (hstep_range h c).1 (hstep_range h c).2

theorem xor_same (a b : Int) (ha : 0 ≤ a) (ha' : a < 4294967296) (hb : 0 ≤ b) (hb' : b < 4294967296) : Go.bits .xor .u64 a b = Go.bits .xor .u32 a b := by
  rw [Go.u64_xor a b ha (by omega) hb (by omega), Go.u32_xor a b ha ha' hb hb']
theorem xor_range (a b : Int) (ha : 0 ≤ a) (ha' : a < 4294967296) (hb : 0 ≤ b) (hb' : b < 4294967296) : 0 ≤ Go.bits .xor .u32 a b ∧ Go.bits .xor .u32 a b < 4294967296 := by
  rw [Go.u32_xor a b ha ha' hb hb']
  have h : a.toNat ^^^ b.toNat < 2 ^ 32 := Nat.xor_lt_two_pow (by omega) (by omega)
  omega

def fin1 (h : Int) : Int := (Go.bits .xor .u32 h (h / 65536) * 2246822507) % 4294967296
def fin2 (h : Int) : Int := (Go.bits .xor .u32 h (h / 8192) * 3266489909) % 4294967296
def fin3 (h : Int) : Int := Go.bits .xor .u32 h (h / 65536)

theorem hash_l0 (s : ByteArray) (hs : (s.size : Int) < 9223372036854775807) (d : Nat) : ∀ (k : Nat) (h i : Int), 0 ≤ i → i ≤ s.size → (s.size : Int) - i = d → d < k →
    mix_Hash.l0 k s h (s.size : Int) i = some (fin3 (fin2 (fin1 (hrun h ((bytesOf s).drop i.toNat))))) := by
  induction d with
  | zero =>
    intro k h i h0 h1 hd hk
    obtain ⟨k, rfl⟩ : ∃ m, k = m + 1 := ⟨k - 1, by omega⟩
    simp only [mix_Hash.l0]
    rw [if_neg (by omega), drop_end s i (by omega)]
    rfl
  | succ d ih =>
    intro k h i h0 h1 hd hk
    obtain ⟨k, rfl⟩ : ∃ m, k = m + 1 := ⟨k - 1, by omega⟩
    have hr := bt_range s i
    have hlt : i < (s.size : Int) := by omega
    simp only [mix_Hash.l0]
    rw [if_pos hlt, if_pos h0, if_pos hlt, wrap64_small (by omega) (by omega), drop_byte s i h0 hlt, hrun_cons, show bt s i % 4294967296 = bt s i by omega]
    exact ih k (hstep h (bt s i)) (i + 1) (by omega) (by omega) (by omega) (by omega)
theorem hash_f (s : ByteArray) (hs : (s.size : Int) < 9223372036854775807) (k : Nat) (hk : s.size < k) :
    mix_Hash.f k s = some (fin3 (fin2 (fin1 (hrun 2166136261 (bytesOf s))))) := by
  unfold mix_Hash.f
  exact hash_l0 s hs s.size k 2166136261 0 (by omega) (by omega) (by omega) hk

/-- So many halvings. -/
def halve (x : Int) : Nat → Int
  | 0 => x
  | n + 1 => halve (x / 2) n
theorem down_l0 (h bits by_ : Int) (h0 : 0 ≤ h) (h1 : h < 4294967296) (hb0 : 0 ≤ by_) (hb1 : by_ < 4294967296) (hbits : bits < 100) (d : Nat) : ∀ (k : Nat) (x i : Int), 0 ≤ i → bits - i = d → d < k → 0 ≤ x → x < 4294967296 →
    aumbryref02_down.l0 k h bits by_ x i = some ((Go.bits .xor .u32 h (halve x d) * by_) % 4294967296) := by
  induction d with
  | zero =>
    intro k x i hi hd hk hx0 hx1
    obtain ⟨k, rfl⟩ : ∃ m, k = m + 1 := ⟨k - 1, by omega⟩
    have hr := xor_range h x h0 h1 hx0 hx1
    have hm : Go.bits .xor .u32 h x * by_ ≤ 4294967295 * 4294967295 := Int.mul_le_mul (by omega) (by omega) hb0 (by omega)
    have hm0 : 0 ≤ Go.bits .xor .u32 h x * by_ := Int.mul_nonneg hr.1 hb0
    simp only [aumbryref02_down.l0, aumbryref02_low.f]
    rw [if_neg (by omega), xor_same h x h0 h1 hx0 hx1, u64_small hm0 (by omega)]
    simp only [Option.bind_some]
    rw [Int.tmod_eq_emod_of_nonneg hm0]
    rfl
  | succ d ih =>
    intro k x i hi hd hk hx0 hx1
    obtain ⟨k, rfl⟩ : ∃ m, k = m + 1 := ⟨k - 1, by omega⟩
    simp only [aumbryref02_down.l0]
    rw [if_pos (by omega), Int.tdiv_eq_ediv_of_nonneg hx0, u64_small (i := x / 2) (by omega) (by omega), u64_small (i := i + 1) (by omega) (by omega)]
    exact ih k (x / 2) (i + 1) (by omega) (by omega) (by omega) (by omega) (by omega)
theorem down_f (h bits by_ : Int) (h0 : 0 ≤ h) (h1 : h < 4294967296) (hb0 : 0 ≤ by_) (hb1 : by_ < 4294967296) (hbits : bits < 100) (hbits0 : 0 ≤ bits) (k : Nat) (hk : bits.toNat < k) :
    aumbryref02_down.f k h bits by_ = some ((Go.bits .xor .u32 h (halve h bits.toNat) * by_) % 4294967296) := by
  unfold aumbryref02_down.f
  exact down_l0 h bits by_ h0 h1 hb0 hb1 hbits bits.toNat k h 0 (by omega) (by omega) hk h0 h1
theorem halve16 (x : Int) : halve x 16 = x / 65536 := by
  simp only [halve]
  omega
theorem halve13 (x : Int) : halve x 13 = x / 8192 := by
  simp only [halve]
  omega
theorem fin_range (h by_ : Int) : 0 ≤ (h * by_) % 4294967296 ∧ (h * by_) % 4294967296 < 4294967296 := by
  generalize h * by_ = m
  omega

theorem ref_l0 (s : ByteArray) (hs : (s.size : Int) < 9223372036854775807) (d : Nat) : ∀ (k : Nat) (h i : Int), 0 ≤ i → i ≤ s.size → (s.size : Int) - i = d → d + 17 < k → 0 ≤ h → h < 4294967296 →
    aumbryref02_Hash.l0 k s h i = some (fin3 (fin2 (fin1 (hrun h ((bytesOf s).drop i.toNat))))) := by
  induction d with
  | zero =>
    intro k h i hi hi1 hd hk h0 h1
    obtain ⟨k, rfl⟩ : ∃ m, k = m + 1 := ⟨k - 1, by omega⟩
    simp only [aumbryref02_Hash.l0]
    rw [if_neg (by omega), drop_end s i (by omega)]
    have e1 : (Go.bits .xor .u32 h (halve h (16 : Int).toNat) * 2246822507) % 4294967296 = fin1 h := by rw [show (16 : Int).toNat = 16 from rfl, halve16]; rfl
    have r1 : 0 ≤ fin1 h ∧ fin1 h < 4294967296 := fin_range _ _
    have e2 : (Go.bits .xor .u32 (fin1 h) (halve (fin1 h) (13 : Int).toNat) * 3266489909) % 4294967296 = fin2 (fin1 h) := by rw [show (13 : Int).toNat = 13 from rfl, halve13]; rfl
    have r2 : 0 ≤ fin2 (fin1 h) ∧ fin2 (fin1 h) < 4294967296 := fin_range _ _
    have r3 : 0 ≤ fin3 (fin2 (fin1 h)) ∧ fin3 (fin2 (fin1 h)) < 4294967296 := xor_range _ _ r2.1 r2.2 (by omega) (by omega)
    have e3 : (Go.bits .xor .u32 (fin2 (fin1 h)) (halve (fin2 (fin1 h)) (16 : Int).toNat) * 1) % 4294967296 = fin3 (fin2 (fin1 h)) := by
      rw [show (16 : Int).toNat = 16 from rfl, halve16, Int.mul_one]
      exact Int.emod_eq_of_lt r3.1 r3.2
    rw [down_f h 16 2246822507 h0 h1 (by omega) (by omega) (by omega) (by omega) k (by rw [show (16 : Int).toNat = 16 from rfl]; omega), e1]
    simp only [Option.bind_some]
    rw [down_f (fin1 h) 13 3266489909 r1.1 r1.2 (by omega) (by omega) (by omega) (by omega) k (by rw [show (13 : Int).toNat = 13 from rfl]; omega), e2]
    simp only [Option.bind_some]
    rw [down_f (fin2 (fin1 h)) 16 1 r2.1 r2.2 (by omega) (by omega) (by omega) (by omega) k (by rw [show (16 : Int).toNat = 16 from rfl]; omega), e3]
    simp only [Option.bind_some]
    rw [Int.emod_eq_of_lt r3.1 r3.2]
    rfl
  | succ d ih =>
    intro k h i hi hi1 hd hk h0 h1
    obtain ⟨k, rfl⟩ : ∃ m, k = m + 1 := ⟨k - 1, by omega⟩
    have hr := bt_range s i
    have hlt : i < (s.size : Int) := by omega
    have hx := xor_range h (bt s i) h0 h1 (by omega) (by omega)
    simp only [aumbryref02_Hash.l0, aumbryref02_low.f]
    rw [if_pos hlt, if_pos hi, u64_small (i := bt s i) (by omega) (by omega), xor_same h (bt s i) h0 h1 (by omega) (by omega), u64_small (by omega) (by omega)]
    simp only [Option.bind_some]
    rw [Int.tmod_eq_emod_of_nonneg (by omega), wrap64_small (by omega) (by omega), drop_byte s i hi hlt, hrun_cons]
    exact ih k (hstep h (bt s i)) (i + 1) (by omega) (by omega) (by omega) (by omega) (hstep_range _ _).1 (hstep_range _ _).2
theorem refhash_f (s : ByteArray) (hs : (s.size : Int) < 9223372036854775807) (k : Nat) (hk : s.size + 17 < k) :
    aumbryref02_Hash.f k s = some (fin3 (fin2 (fin1 (hrun 2166136261 (bytesOf s))))) := by
  unfold aumbryref02_Hash.f
  exact ref_l0 s hs s.size k 2166136261 0 (by omega) (by omega) (by omega) hk (by omega) (by omega)

end MixHashesParts
open MixHashesParts
theorem MixHashes : aumbrylaw02_MixHashes.Pure := by
  intro s hs
  refine ⟨s.size + 18, ?_⟩
  unfold aumbrylaw02_MixHashes.f
  rw [wakes_f _ (by omega), hash_f s (by omega) _ (by omega), refhash_f s (by omega) _ (by omega)]
  simp only [Option.bind_some, if_true, beq_self_eq_true]

end Go.Proofs.Ytaefejbhdbljaaa.Pure
