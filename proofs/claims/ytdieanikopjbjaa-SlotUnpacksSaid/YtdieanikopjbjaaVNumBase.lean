/- Plain facts about numbers as bytes, the highest byte first: the digits of a number to the base 256, the number that a list of bytes tells, and the walk's shifts and joins on them. No program stands here. -/
import Derived.Test.YtdieanikopjbjaaVMixPlain
import Derived.Test.YtdieanikopjbjaaVMore
namespace Go.Proofs.Ytdieanikopjbjaa.NumBase
open Go.RowKit Go.Proofs.YtdieanikopjbjaaW.PrintWords Go.Proofs.YtdieanikopjbjaaW.PrintMore Go.Proofs.Ytdieanikopjbjaa.MixBase Go.Proofs.Ytdieanikopjbjaa.MixPlain

/-- The lowest w digits of n, the highest of them first. -/
def digs (n : Int) : Nat → List Int
  | 0 => []
  | w + 1 => (n / 256 ^ w % 256) :: digs n w
/-- The number that a list of digits tells, behind a number that was told ahead. -/
def valFrom (a : Int) (l : List Int) : Int := l.foldl (fun a c => a * 256 + c) a

theorem valFrom_nil (a : Int) : valFrom a [] = a := rfl
theorem valFrom_cons (a c : Int) (l : List Int) : valFrom a (c :: l) = valFrom (a * 256 + c) l := rfl
theorem digs_length (n : Int) (w : Nat) : (digs n w).length = w := by
  induction w with
  | zero => rfl
  | succ w ih => simp [digs, ih]
theorem digs_range (n : Int) (w : Nat) : ∀ c ∈ digs n w, 0 ≤ c ∧ c < 256 := by
  induction w with
  | zero => intro c h; simp [digs] at h
  | succ w ih =>
    intro c h
    simp only [digs, List.mem_cons] at h
    rcases h with rfl | h
    · omega
    · exact ih c h
theorem pow_pos (w : Nat) : (0 : Int) < 256 ^ w := Int.pow_pos (by decide)
theorem pow_succ' (w : Nat) : (256 : Int) ^ (w + 1) = 256 ^ w * 256 := Int.pow_succ 256 w
/-- The digits tell the number's lowest part. -/
theorem valFrom_digs (n a : Int) (w : Nat) : valFrom a (digs n w) = a * 256 ^ w + n % 256 ^ w := by
  induction w generalizing a with
  | zero => simp [digs, valFrom]
  | succ w ih =>
    have hp := pow_pos w
    have e : n % 256 ^ (w + 1) = 256 ^ w * (n / 256 ^ w % 256) + n % 256 ^ w := by
      have h1 := Int.mul_ediv_add_emod n (256 ^ w)
      have h2 := Int.mul_ediv_add_emod (n / 256 ^ w) 256
      have h3 := Int.emod_lt_of_pos n hp
      have h4 := Int.emod_nonneg n (show (256 : Int) ^ w ≠ 0 by omega)
      have h5 := Int.emod_lt_of_pos (n / 256 ^ w) (show (0 : Int) < 256 by decide)
      have h6 := Int.emod_nonneg (n / 256 ^ w) (show (256 : Int) ≠ 0 by decide)
      generalize n / 256 ^ w % 256 = d at *
      generalize n % 256 ^ w = r at *
      generalize n / 256 ^ w / 256 = q at *
      have h7 : n = 256 ^ (w + 1) * q + (256 ^ w * d + r) := by
        rw [pow_succ']
        rw [← h1, ← h2, Int.mul_add, Int.mul_assoc, Int.add_assoc]
      rw [h7, Int.mul_add_emod_self_left]
      have h8 : 256 ^ w * d ≤ 256 ^ w * 255 := Int.mul_le_mul_of_nonneg_left (by omega) (by omega)
      have h9 : 0 ≤ 256 ^ w * d := Int.mul_nonneg (by omega) h6
      refine Int.emod_eq_of_lt (by omega) ?_
      rw [pow_succ']
      omega
    rw [digs, valFrom_cons, ih, e, pow_succ', Int.add_mul, Int.mul_assoc, Int.mul_comm 256 (256 ^ w), Int.mul_comm (n / 256 ^ w % 256)]
    omega
theorem val_digs (n : Int) (w : Nat) (h0 : 0 ≤ n) (h : n < 256 ^ w) : valFrom 0 (digs n w) = n := by
  rw [valFrom_digs, Int.zero_mul, Int.zero_add, Int.emod_eq_of_lt h0 h]
/-- A number fits where nothing is left above its digits. -/
theorem fits_iff (n : Int) (w : Nat) (h0 : 0 ≤ n) : n / 256 ^ w = 0 ↔ n < 256 ^ w := by
  have hp := pow_pos w
  constructor
  · intro h
    have := Int.lt_ediv_add_one_mul_self n hp
    rw [h] at this
    omega
  · intro h
    exact Int.ediv_eq_zero_of_lt h0 h
theorem shr8 (n : Int) (w : Nat) (hw : w ≤ 8) : shr .u64 n (8 * (w : Int)) = n / 256 ^ w := by
  unfold shr
  rw [show (8 * (w : Int)).toNat = 8 * w by omega, show IntKind.u64.bits = 64 from rfl, Nat.min_eq_left (by omega), Int.pow_mul]
  rfl
theorem div_div (n : Int) (i : Nat) : n / 256 ^ i / 256 = n / 256 ^ (i + 1) := by
  rw [pow_succ', Int.ediv_ediv_of_nonneg (Int.le_of_lt (pow_pos i))]
theorem or64 (a c : Int) (ha : 0 ≤ a) (ha1 : a < 72057594037927936) (hc : 0 ≤ c) (hc1 : c < 256) : Go.bits .or .u64 (IntKind.u64.wrap (a * 256)) (IntKind.u64.wrap c) = a * 256 + c := by
  rw [u64_small (by omega) (by omega), u64_small (by omega) (by omega), Go.u64_or _ _ (by omega) (by omega) hc (by omega), Go.nat_join 8 _ _ (by omega) (by omega)]
  omega
theorem valFrom_lt (l : List Int) (a : Int) (i : Nat) (ha : 0 ≤ a) (ha1 : a < 256 ^ i) (h : ∀ c ∈ l, 0 ≤ c ∧ c < 256) : 0 ≤ valFrom a l ∧ valFrom a l < 256 ^ (i + l.length) := by
  induction l generalizing a i with
  | nil => exact ⟨ha, ha1⟩
  | cons c l ih =>
    have hc := h c (List.mem_cons_self)
    have h2 := ih (a * 256 + c) (i + 1) (by omega) (by rw [pow_succ']; omega) (fun x hx => h x (List.mem_cons_of_mem _ hx))
    rw [valFrom_cons, List.length_cons, show i + (l.length + 1) = i + 1 + l.length by omega]
    exact h2
theorem pow8 (i : Nat) (h : i ≤ 7) : (256 : Int) ^ i ≤ 72057594037927936 := by
  have : i = 0 ∨ i = 1 ∨ i = 2 ∨ i = 3 ∨ i = 4 ∨ i = 5 ∨ i = 6 ∨ i = 7 := by omega
  rcases this with rfl | rfl | rfl | rfl | rfl | rfl | rfl | rfl <;> decide
theorem set_zeros (m : Nat) (l : List Int) (x : Int) : (List.replicate (m + 1) 0 ++ l).set m x = List.replicate m 0 ++ x :: l := by
  rw [List.set_append_left _ _ (by simp), List.replicate_succ']
  rw [List.set_append_right _ _ (by simp)]
  simp
theorem bytesOf_range (s : ByteArray) : ∀ c ∈ bytesOf s, 0 ≤ c ∧ c < 256 := by
  intro c h
  unfold bytesOf at h
  rw [List.mem_map] at h
  obtain ⟨b, _, rfl⟩ := h
  have := b.toNat_lt
  omega
theorem bytesOf_inj {s t : ByteArray} (h : bytesOf s = bytesOf t) : s = t := by
  have e : s.data.toList = t.data.toList := by
    unfold bytesOf at h
    have hf : Function.Injective (fun b : UInt8 => (b.toNat : Int)) := by
      intro a b hab
      have hab : (a.toNat : Int) = b.toNat := hab
      exact UInt8.toNat_inj.1 (by omega)
    exact (List.map_inj_right (fun a b hab => hf hab)).1 h
  exact ByteArray.ext (Array.ext' e)

/-- Does a number fit in so many bytes? -/
def Fits (n w : Int) : Prop := 1 ≤ w ∧ w ≤ 8 ∧ n < 256 ^ w.toNat
instance (n w : Int) : Decidable (Fits n w) := by unfold Fits; infer_instance
def fitsB (n w : Int) : Bool := decide (Fits n w)
/-- What a number is told as. -/
def putSpec (n w : Int) : ByteArray × Int := if Fits n w then (strOfNums (digs n w.toNat), 0) else (⟨#[]⟩, 1)
/-- What number stands at a place. -/
def getSpec (s : ByteArray) (at_ w : Int) : Int × Int :=
  if w < 1 ∨ 8 < w then (0, 1) else if at_ < 0 ∨ (s.size : Int) - w < at_ then (0, 3) else (valFrom 0 (((bytesOf s).drop at_.toNat).take w.toNat), 0)
/-- What a text is when a number's bytes are put at a place. -/
def setSpec (s : ByteArray) (at_ n w : Int) : ByteArray × Int :=
  if Fits n w then (if at_ < 0 ∨ (s.size : Int) - w < at_ then (⟨#[]⟩, 3) else (s.extract 0 at_.toNat ++ strOfNums (digs n w.toNat) ++ s.extract (at_ + w).toNat s.size, 0)) else (⟨#[]⟩, 1)
theorem pow_eight : (256 : Int) ^ 8 = 18446744073709551616 := by decide
theorem digs_size (n : Int) (w : Nat) : (strOfNums (digs n w)).size = w := by rw [strOfNums_size, digs_length]
theorem digs_bytes (n : Int) (w : Nat) : bytesOf (strOfNums (digs n w)) = digs n w := bytes_nums _ (digs_range n w)
theorem take_drop_cons (s : ByteArray) (j : Int) (m : Nat) (h0 : 0 ≤ j) (h : j < (s.size : Int)) : ((bytesOf s).drop j.toNat).take (m + 1) = bt s j :: ((bytesOf s).drop (j + 1).toNat).take m := by
  rw [drop_byte s j h0 h, List.take_succ_cons]
end Go.Proofs.Ytdieanikopjbjaa.NumBase
