/- Plain facts about the two sums: one round of the sum on numbers below 65521, lists of bytes, and the joining of two halves of 16 bits. No program stands here. -/
import Derived.Test.YtgageigcjeaenaaVWords
import Derived.Laws.BitsAllLaws
import Derived.Test.YtgageigcjeaenaaVMore
import Derived.Lib.Repeat
import Derived.Laws.Cover1
namespace Go.Proofs.Ytgageigcjeaenaa.MixBase
open Go.RowKit Go.Proofs.YtgageigcjeaenaaW.PrintWords

/-- One round of the sum. -/
def mstep (p : Int × Int) (c : Int) : Int × Int := ((p.1 + c) % 65521, (p.2 + (p.1 + c) % 65521) % 65521)
/-- The rounds over a list of bytes. -/
def mrun (p : Int × Int) (l : List Int) : Int × Int := l.foldl mstep p

theorem mrun_nil (p : Int × Int) : mrun p [] = p := rfl
theorem mrun_cons (p : Int × Int) (c : Int) (l : List Int) : mrun p (c :: l) = mrun (mstep p c) l := rfl
theorem mrun_append (p : Int × Int) (l m : List Int) : mrun p (l ++ m) = mrun (mrun p l) m := List.foldl_append

def MOk (p : Int × Int) : Prop := 0 ≤ p.1 ∧ p.1 < 65521 ∧ 0 ≤ p.2 ∧ p.2 < 65521
theorem mstep_ok (p : Int × Int) (c : Int) : MOk (mstep p c) := by unfold MOk mstep; simp only; omega
theorem mrun_ok (p : Int × Int) (l : List Int) (h : MOk p) : MOk (mrun p l) := by
  induction l generalizing p with
  | nil => exact h
  | cons c l ih => rw [mrun_cons]; exact ih _ (mstep_ok p c)

theorem join32 (a b : Int) (ha : 0 ≤ a) (ha' : a < 65536) (hb : 0 ≤ b) (hb' : b < 65536) : Go.bits .or .u32 ((b * 65536) % 4294967296) a = b * 65536 + a := by
  have e : (b * 65536) % 4294967296 = b * 65536 := by omega
  rw [e, Go.u32_or _ _ (by omega) (by omega) ha (by omega), Go.nat_join 16 _ _ (by omega) (by omega)]
  omega
theorem low16 (a : Int) (ha : 0 ≤ a) (ha' : a < 4294967296) : Go.bits .and .u32 a 65535 = a % 65536 := by
  rw [Go.u32_and _ _ ha ha' (by omega) (by omega), show (65535 : Int).toNat = 65535 from rfl, Go.nat_mask16]
  omega

theorem wrap64_small {i : Int} (h0 : -9223372036854775808 ≤ i) (h : i ≤ 9223372036854775807) : wrap64 i = i := by
  unfold wrap64
  omega
theorem u64_small {i : Int} (h0 : 0 ≤ i) (h : i < 18446744073709551616) : IntKind.u64.wrap i = i := by
  have e : IntKind.u64.wrap i = i % 18446744073709551616 := by simp [IntKind.wrap, IntKind.bits, IntKind.signed]
  rw [e]
  omega

theorem drop_byte (s : ByteArray) (i : Int) (h0 : 0 ≤ i) (h : i < (s.size : Int)) : (bytesOf s).drop i.toNat = bt s i :: (bytesOf s).drop (i + 1).toNat := by
  have hl : i.toNat < (bytesOf s).length := by rw [bytesOf_length]; omega
  rw [List.drop_eq_getElem_cons hl, show (i + 1).toNat = i.toNat + 1 by omega]
  congr 1
  rw [← rd_bytesOf, rd, List.getD_eq_getElem?_getD, List.getElem?_eq_getElem hl]
  rfl
theorem drop_end (s : ByteArray) (i : Int) (h : (s.size : Int) ≤ i) : (bytesOf s).drop i.toNat = [] := by
  apply List.drop_eq_nil_of_le
  rw [bytesOf_length]
  omega
theorem bytesOf_append (s t : ByteArray) : bytesOf (s ++ t) = bytesOf s ++ bytesOf t := by
  simp [bytesOf]

theorem u32_range {a : Int} (h : (Lit.int .u32 a).wf = true) : 0 ≤ a ∧ a < 4294967296 := by
  have h1 : IntKind.u32.min = 0 := by decide
  have h2 : IntKind.u32.max = 4294967295 := by decide
  simp only [Lit.wf, h1, h2, Bool.and_eq_true, decide_eq_true_eq] at h
  omega
theorem u64_range {a : Int} (h : (Lit.int .u64 a).wf = true) : 0 ≤ a ∧ a < 18446744073709551616 := by
  have h1 : IntKind.u64.min = 0 := by decide
  have h2 : IntKind.u64.max = 18446744073709551615 := by decide
  simp only [Lit.wf, h1, h2, Bool.and_eq_true, decide_eq_true_eq] at h
  omega
theorem u8_range {a : Int} (h : (Lit.int .u8 a).wf = true) : 0 ≤ a ∧ a < 256 := by
  have h1 : IntKind.u8.min = 0 := by decide
  have h2 : IntKind.u8.max = 255 := by decide
  simp only [Lit.wf, h1, h2, Bool.and_eq_true, decide_eq_true_eq] at h
  omega
theorem i64_range {a : Int} (h : (Lit.int .i64 a).wf = true) : -9223372036854775808 ≤ a ∧ a ≤ 9223372036854775807 := by
  have h1 : IntKind.i64.min = -9223372036854775808 := by decide
  have h2 : IntKind.i64.max = 9223372036854775807 := by decide
  simp only [Lit.wf, h1, h2, Bool.and_eq_true, decide_eq_true_eq] at h
  omega

/-- What the sum is of a text. -/
def sumOf (sum : Int) (l : List Int) : Int := (mrun (sum % 65536 % 65521, sum / 65536 % 65521) l).2 * 65536 + (mrun (sum % 65536 % 65521, sum / 65536 % 65521) l).1

end Go.Proofs.Ytgageigcjeaenaa.MixBase
namespace Go.Proofs.Ytgageigcjeaenaa.MixPlain
open Go.RowKit Go.Proofs.YtgageigcjeaenaaW.PrintWords Go.Proofs.Ytgageigcjeaenaa.MixBase

theorem run_fst (p : Int × Int) (l : List Int) (h : 0 ≤ p.1 ∧ p.1 < 65521) : (mrun p l).1 = (p.1 + l.sum) % 65521 := by
  induction l generalizing p with
  | nil => rw [mrun_nil]; simp; omega
  | cons c l ih =>
    have ho := mstep_ok p c
    rw [mrun_cons, ih _ ⟨ho.1, ho.2.1⟩, List.sum_cons]
    unfold mstep
    simp only
    omega
theorem run_snd (p q : Int × Int) (l : List Int) (h : p.1 = q.1) : ((mrun p l).2 - (mrun q l).2) % 65521 = (p.2 - q.2) % 65521 := by
  induction l generalizing p q with
  | nil => rfl
  | cons c l ih =>
    rw [mrun_cons, mrun_cons, ih (mstep p c) (mstep q c) (by unfold mstep; simp only; rw [h])]
    unfold mstep
    simp only
    rw [h]
    omega
theorem sum_parts (p q : Int × Int) (hp : MOk p) (hq : MOk q) : p.2 * 65536 + p.1 = q.2 * 65536 + q.1 ↔ p.1 = q.1 ∧ p.2 = q.2 := by
  unfold MOk at hp hq
  omega
theorem start_ok : MOk ((1 : Int) % 65536 % 65521, (1 : Int) / 65536 % 65521) := by unfold MOk; decide

theorem changed (u v : List Int) (c d : Int) (hc : 0 ≤ c ∧ c < 256) (hd : 0 ≤ d ∧ d < 256) : (sumOf 1 (u ++ [c] ++ v) == sumOf 1 (u ++ [d] ++ v)) = (d == c) := by
  rw [Bool.eq_iff_iff, beq_iff_eq, beq_iff_eq]
  constructor
  · intro h
    unfold sumOf at h
    rw [sum_parts _ _ (mrun_ok _ _ start_ok) (mrun_ok _ _ start_ok)] at h
    have h1 := h.1
    rw [run_fst _ _ ⟨by decide, by decide⟩, run_fst _ _ ⟨by decide, by decide⟩] at h1
    simp only [List.sum_append, List.sum_cons, List.sum_nil] at h1
    omega
  · rintro rfl
    rfl
theorem turned (u v : List Int) (c d : Int) (hc : 0 ≤ c ∧ c < 256) (hd : 0 ≤ d ∧ d < 256) : (sumOf 1 (u ++ [d, c] ++ v) == sumOf 1 (u ++ [c, d] ++ v)) = (c == d) := by
  rw [Bool.eq_iff_iff, beq_iff_eq, beq_iff_eq]
  constructor
  · intro h
    unfold sumOf at h
    rw [sum_parts _ _ (mrun_ok _ _ start_ok) (mrun_ok _ _ start_ok)] at h
    have h2 := h.2
    rw [mrun_append, mrun_append, mrun_append, mrun_append] at h2
    have ho := mrun_ok _ u start_ok
    generalize mrun (1 % 65536 % 65521, 1 / 65536 % 65521) u = p at *
    have e := run_snd (mrun p [d, c]) (mrun p [c, d]) v (by
      simp only [mrun_cons, mrun_nil]
      unfold mstep
      simp only
      omega)
    rw [h2] at e
    simp only [mrun_cons, mrun_nil] at e
    unfold mstep at e
    simp only at e
    omega
  · rintro rfl
    rfl

theorem bytes_extract (s : ByteArray) (i j : Nat) : bytesOf (s.extract i j) = ((bytesOf s).take j).drop i := by
  simp [bytesOf, ByteArray.data_extract, List.map_drop, List.map_take, List.drop_take]
theorem bytes_nums (l : List Int) (h : ∀ c ∈ l, 0 ≤ c ∧ c < 256) : bytesOf (strOfNums l) = l := by
  unfold bytesOf
  rw [strOfNums_data]
  induction l with
  | nil => rfl
  | cons c l ih =>
    rw [List.map_cons, List.map_cons, ih (fun x hx => h x (List.mem_cons_of_mem _ hx))]
    congr 1
    have := h c (List.mem_cons_self)
    simp
    omega
theorem bytes_split (s : ByteArray) (i : Nat) (h : i < s.size) : bytesOf s = (bytesOf s).take i ++ [bt s (i : Int)] ++ (bytesOf s).drop (i + 1) := by
  have e := drop_byte s (i : Int) (by omega) (by omega)
  rw [show ((i : Int)).toNat = i by omega, show ((i : Int) + 1).toNat = i + 1 by omega] at e
  calc bytesOf s = (bytesOf s).take i ++ (bytesOf s).drop i := (List.take_append_drop i _).symm
    _ = _ := by rw [e]; simp
end Go.Proofs.Ytgageigcjeaenaa.MixPlain
namespace Go.Proofs.Ytgageigcjeaenaa.NumBase
open Go.RowKit Go.Proofs.YtgageigcjeaenaaW.PrintWords Go.Proofs.YtgageigcjeaenaaW.PrintMore Go.Proofs.Ytgageigcjeaenaa.MixBase Go.Proofs.Ytgageigcjeaenaa.MixPlain

/-- The lowest w digits of n, the highest of them first. -/
def digs (n : Int) : Nat → List Int
  | 0 => []
  | w + 1 => (n / 256 ^ w % 256) :: digs n w
/-- The number that a list of digits tells, behind a number that was told ahead. -/
def valFrom (a : Int) (l : List Int) : Int := l.foldl (fun a c => a * 256 + c) a

theorem valFrom_nil (a : Int) : valFrom a [] = a := rfl
theorem valFrom_cons (a c : Int) (l : List Int) : valFrom a (c :: l) = valFrom (a * 256 + c) l := rfl
theorem digs_length (n : Int) (w : Nat) : (digs n w).length = w := by
  induction w with
  | zero => rfl
  | succ w ih => simp [digs, ih]
theorem digs_range (n : Int) (w : Nat) : ∀ c ∈ digs n w, 0 ≤ c ∧ c < 256 := by
  induction w with
  | zero => intro c h; simp [digs] at h
  | succ w ih =>
    intro c h
    simp only [digs, List.mem_cons] at h
    rcases h with rfl | h
    · omega
    · exact ih c h
theorem pow_pos (w : Nat) : (0 : Int) < 256 ^ w := Int.pow_pos (by decide)
theorem pow_succ' (w : Nat) : (256 : Int) ^ (w + 1) = 256 ^ w * 256 := Int.pow_succ 256 w
/-- The digits tell the number's lowest part. -/
theorem valFrom_digs (n a : Int) (w : Nat) : valFrom a (digs n w) = a * 256 ^ w + n % 256 ^ w := by
  induction w generalizing a with
  | zero => simp [digs, valFrom]
  | succ w ih =>
    have hp := pow_pos w
    have e : n % 256 ^ (w + 1) = 256 ^ w * (n / 256 ^ w % 256) + n % 256 ^ w := by
      have h1 := Int.mul_ediv_add_emod n (256 ^ w)
      have h2 := Int.mul_ediv_add_emod (n / 256 ^ w) 256
      have h3 := Int.emod_lt_of_pos n hp
      have h4 := Int.emod_nonneg n (show (256 : Int) ^ w ≠ 0 by omega)
      have h5 := Int.emod_lt_of_pos (n / 256 ^ w) (show (0 : Int) < 256 by decide)
      have h6 := Int.emod_nonneg (n / 256 ^ w) (show (256 : Int) ≠ 0 by decide)
      generalize n / 256 ^ w % 256 = d at *
      generalize n % 256 ^ w = r at *
      generalize n / 256 ^ w / 256 = q at *
      have h7 : n = 256 ^ (w + 1) * q + (256 ^ w * d + r) := by
        rw [pow_succ']
        rw [← h1, ← h2, Int.mul_add, Int.mul_assoc, Int.add_assoc]
      rw [h7, Int.mul_add_emod_self_left]
      have h8 : 256 ^ w * d ≤ 256 ^ w * 255 := Int.mul_le_mul_of_nonneg_left (by omega) (by omega)
      have h9 : 0 ≤ 256 ^ w * d := Int.mul_nonneg (by omega) h6
      refine Int.emod_eq_of_lt (by omega) ?_
      rw [pow_succ']
      omega
    rw [digs, valFrom_cons, ih, e, pow_succ', Int.add_mul, Int.mul_assoc, Int.mul_comm 256 (256 ^ w), Int.mul_comm (n / 256 ^ w % 256)]
    omega
theorem val_digs (n : Int) (w : Nat) (h0 : 0 ≤ n) (h : n < 256 ^ w) : valFrom 0 (digs n w) = n := by
  rw [valFrom_digs, Int.zero_mul, Int.zero_add, Int.emod_eq_of_lt h0 h]
/-- A number fits where nothing is left above its digits. -/
theorem fits_iff (n : Int) (w : Nat) (h0 : 0 ≤ n) : n / 256 ^ w = 0 ↔ n < 256 ^ w := by
  have hp := pow_pos w
  constructor
  · intro h
    have := Int.lt_ediv_add_one_mul_self n hp
    rw [h] at this
    omega
  · intro h
    exact Int.ediv_eq_zero_of_lt h0 h
theorem shr8 (n : Int) (w : Nat) (hw : w ≤ 8) : shr .u64 n (8 * (w : Int)) = n / 256 ^ w := by
  unfold shr
  rw [show (8 * (w : Int)).toNat = 8 * w by omega, show IntKind.u64.bits = 64 from rfl, Nat.min_eq_left (by omega), Int.pow_mul]
  rfl
theorem div_div (n : Int) (i : Nat) : n / 256 ^ i / 256 = n / 256 ^ (i + 1) := by
  rw [pow_succ', Int.ediv_ediv_of_nonneg (Int.le_of_lt (pow_pos i))]
theorem or64 (a c : Int) (ha : 0 ≤ a) (ha1 : a < 72057594037927936) (hc : 0 ≤ c) (hc1 : c < 256) : Go.bits .or .u64 (IntKind.u64.wrap (a * 256)) (IntKind.u64.wrap c) = a * 256 + c := by
  rw [u64_small (by omega) (by omega), u64_small (by omega) (by omega), Go.u64_or _ _ (by omega) (by omega) hc (by omega), Go.nat_join 8 _ _ (by omega) (by omega)]
  omega
theorem valFrom_lt (l : List Int) (a : Int) (i : Nat) (ha : 0 ≤ a) (ha1 : a < 256 ^ i) (h : ∀ c ∈ l, 0 ≤ c ∧ c < 256) : 0 ≤ valFrom a l ∧ valFrom a l < 256 ^ (i + l.length) := by
  induction l generalizing a i with
  | nil => exact ⟨ha, ha1⟩
  | cons c l ih =>
    have hc := h c (List.mem_cons_self)
    have h2 := ih (a * 256 + c) (i + 1) (by omega) (by rw [pow_succ']; omega) (fun x hx => h x (List.mem_cons_of_mem _ hx))
    rw [valFrom_cons, List.length_cons, show i + (l.length + 1) = i + 1 + l.length by omega]
    exact h2
theorem pow8 (i : Nat) (h : i ≤ 7) : (256 : Int) ^ i ≤ 72057594037927936 := by
  have : i = 0 ∨ i = 1 ∨ i = 2 ∨ i = 3 ∨ i = 4 ∨ i = 5 ∨ i = 6 ∨ i = 7 := by omega
  rcases this with rfl | rfl | rfl | rfl | rfl | rfl | rfl | rfl <;> decide
theorem set_zeros (m : Nat) (l : List Int) (x : Int) : (List.replicate (m + 1) 0 ++ l).set m x = List.replicate m 0 ++ x :: l := by
  rw [List.set_append_left _ _ (by simp), List.replicate_succ']
  rw [List.set_append_right _ _ (by simp)]
  simp
theorem bytesOf_range (s : ByteArray) : ∀ c ∈ bytesOf s, 0 ≤ c ∧ c < 256 := by
  intro c h
  unfold bytesOf at h
  rw [List.mem_map] at h
  obtain ⟨b, _, rfl⟩ := h
  have := b.toNat_lt
  omega
theorem bytesOf_inj {s t : ByteArray} (h : bytesOf s = bytesOf t) : s = t := by
  have e : s.data.toList = t.data.toList := by
    unfold bytesOf at h
    have hf : Function.Injective (fun b : UInt8 => (b.toNat : Int)) := by
      intro a b hab
      have hab : (a.toNat : Int) = b.toNat := hab
      exact UInt8.toNat_inj.1 (by omega)
    exact (List.map_inj_right (fun a b hab => hf hab)).1 h
  exact ByteArray.ext (Array.ext' e)

/-- Does a number fit in so many bytes? -/
def Fits (n w : Int) : Prop := 1 ≤ w ∧ w ≤ 8 ∧ n < 256 ^ w.toNat
instance (n w : Int) : Decidable (Fits n w) := by unfold Fits; infer_instance
def fitsB (n w : Int) : Bool := decide (Fits n w)
/-- What a number is told as. -/
def putSpec (n w : Int) : ByteArray × Int := if Fits n w then (strOfNums (digs n w.toNat), 0) else (⟨#[]⟩, 1)
/-- What number stands at a place. -/
def getSpec (s : ByteArray) (at_ w : Int) : Int × Int :=
  if w < 1 ∨ 8 < w then (0, 1) else if at_ < 0 ∨ (s.size : Int) - w < at_ then (0, 3) else (valFrom 0 (((bytesOf s).drop at_.toNat).take w.toNat), 0)
/-- What a text is when a number's bytes are put at a place. -/
def setSpec (s : ByteArray) (at_ n w : Int) : ByteArray × Int :=
  if Fits n w then (if at_ < 0 ∨ (s.size : Int) - w < at_ then (⟨#[]⟩, 3) else (s.extract 0 at_.toNat ++ strOfNums (digs n w.toNat) ++ s.extract (at_ + w).toNat s.size, 0)) else (⟨#[]⟩, 1)
theorem pow_eight : (256 : Int) ^ 8 = 18446744073709551616 := by decide
theorem digs_size (n : Int) (w : Nat) : (strOfNums (digs n w)).size = w := by rw [strOfNums_size, digs_length]
theorem digs_bytes (n : Int) (w : Nat) : bytesOf (strOfNums (digs n w)) = digs n w := bytes_nums _ (digs_range n w)
theorem take_drop_cons (s : ByteArray) (j : Int) (m : Nat) (h0 : 0 ≤ j) (h : j < (s.size : Int)) : ((bytesOf s).drop j.toNat).take (m + 1) = bt s j :: ((bytesOf s).drop (j + 1).toNat).take m := by
  rw [drop_byte s j h0 h, List.take_succ_cons]
end Go.Proofs.Ytgageigcjeaenaa.NumBase
namespace Go.Proofs.Ytgageigcjeaenaa.PadPlain
open Go.RowKit Go.Proofs.YtgageigcjeaenaaW.PrintWords Go.Proofs.YtgageigcjeaenaaW.PrintMore Go.Proofs.Ytgageigcjeaenaa.MixBase Go.Proofs.Ytgageigcjeaenaa.MixPlain Go.Proofs.Ytgageigcjeaenaa.NumBase

/-- So many bytes 0. -/
def zeros (m : Nat) : ByteArray := strOfNums (List.replicate m 0)
theorem zeros_size (m : Nat) : (zeros m).size = m := by rw [zeros, strOfNums_size, List.length_replicate]
theorem zeros_bytes (m : Nat) : bytesOf (zeros m) = List.replicate m 0 := bytes_nums _ (by intro c h; have := List.eq_of_mem_replicate h; omega)
theorem repeat_zeros (m : Nat) : (⟨(Lib.repeatL (⟨#[0]⟩ : ByteArray).data.toList m).toArray⟩ : ByteArray) = zeros m := by
  apply ByteArray.ext
  apply Array.ext'
  show Lib.repeatL [0] m = _
  rw [zeros, strOfNums_data]
  induction m with
  | zero => rfl
  | succ m ih => rw [Lib.repeatL, ih, List.replicate_succ, List.map_cons]; rfl
/-- A text made as long as is told. -/
def padSpec (s : ByteArray) (n : Int) : ByteArray × Int :=
  if n < 0 ∨ 65536 < n then (⟨#[]⟩, 1) else if n < (s.size : Int) then (⟨#[]⟩, 2) else (s ++ zeros (n - s.size).toNat, 0)

/-- How long a list is but for the numbers 0 at its end. -/
def trimLen (l : List Int) : Nat := (l.reverse.dropWhile (· == 0)).length
theorem trimLen_nil : trimLen [] = 0 := rfl
theorem trimLen_snoc (l : List Int) (c : Int) : trimLen (l ++ [c]) = if c = 0 then trimLen l else l.length + 1 := by
  unfold trimLen
  rw [List.reverse_append, List.reverse_cons, List.reverse_nil, List.nil_append, List.singleton_append, List.dropWhile_cons]
  by_cases h : c = 0
  · simp [h]
  · simp [h]
theorem trimLen_zeros (l : List Int) (m : Nat) : trimLen (l ++ List.replicate m 0) = trimLen l := by
  induction m with
  | zero => rw [List.replicate_zero, List.append_nil]
  | succ m ih => rw [List.replicate_succ', ← List.append_assoc, trimLen_snoc, if_pos rfl, ih]
theorem trimLen_le (l : List Int) : trimLen l ≤ l.length := by
  unfold trimLen
  have h := (List.dropWhile_sublist (· == (0 : Int)) (l := l.reverse)).length_le
  rwa [List.length_reverse] at h
def ztrim (s : ByteArray) : ByteArray := s.extract 0 (trimLen (bytesOf s))
theorem take_succ_byte (s : ByteArray) (i : Nat) (h : i < s.size) : (bytesOf s).take (i + 1) = (bytesOf s).take i ++ [bt s (i : Int)] := by
  have hl : i < (bytesOf s).length := by rw [bytesOf_length]; exact h
  rw [List.take_succ_eq_append_getElem hl]
  congr 2
  rw [← rd_bytesOf, rd, List.getD_eq_getElem?_getD, show ((i : Int)).toNat = i by omega, List.getElem?_eq_getElem hl]
  rfl
theorem take_all (s : ByteArray) : (bytesOf s).take s.size = bytesOf s := List.take_of_length_le (by rw [bytesOf_length]; exact Nat.le_refl _)
theorem trim_last (s : ByteArray) (m : Nat) (h : s.size = m + 1) : trimLen (bytesOf s) = if bt s (m : Int) = 0 then trimLen ((bytesOf s).take m) else m + 1 := by
  rw [← take_all s, h, take_succ_byte s m (by omega), trimLen_snoc, List.length_take, bytesOf_length, h, Nat.min_eq_left (by omega)]
  rw [List.take_append_of_le_length (by rw [List.length_take, bytesOf_length, h]; omega), List.take_take, Nat.min_self]
theorem extract_bytes0 (s : ByteArray) (m : Nat) : bytesOf (s.extract 0 m) = (bytesOf s).take m := by rw [bytes_extract, List.drop_zero]
theorem ztrim_empty (s : ByteArray) (h : s.size = 0) : ztrim s = s := by
  apply bytesOf_inj
  have h2 := bytesOf_length s
  rw [h] at h2
  rw [ztrim, extract_bytes0, List.eq_nil_of_length_eq_zero h2]
  rfl
theorem ztrim_zero (s : ByteArray) (m : Nat) (h : s.size = m + 1) (h0 : bt s (m : Int) = 0) : ztrim s = ztrim (s.extract 0 m) := by
  apply bytesOf_inj
  have hl := trimLen_le ((bytesOf s).take m)
  rw [List.length_take, bytesOf_length, h] at hl
  rw [ztrim, ztrim, extract_bytes0, extract_bytes0, extract_bytes0, trim_last s m h, if_pos h0, List.take_take, Nat.min_eq_left (by omega)]
theorem ztrim_other (s : ByteArray) (m : Nat) (h : s.size = m + 1) (h0 : ¬ bt s (m : Int) = 0) : ztrim s = s := by
  apply bytesOf_inj
  rw [ztrim, extract_bytes0, trim_last s m h, if_neg h0, ← h, take_all]
theorem ztrim_pad (s : ByteArray) (m : Nat) : ztrim (s ++ zeros m) = ztrim s := by
  apply bytesOf_inj
  have hl := trimLen_le (bytesOf s)
  rw [ztrim, ztrim, extract_bytes0, extract_bytes0, bytesOf_append, zeros_bytes, trimLen_zeros, List.take_append_of_le_length hl]
end Go.Proofs.Ytgageigcjeaenaa.PadPlain
namespace Go.Proofs.Ytgageigcjeaenaa.StepStr
open Go.RowKit Go.Proofs.YtgageigcjeaenaaW.PrintWords
variable {P : Program} {ops : Array Oper} {o : Oper} {a : Act} {Q : Exit → Act → World → Prop} {K : Act → World → Prop}
theorem step_append_str {w0 W : World} (base : Nat) (hw : Region.wanted o (yielded ops a.tmps) = true) (s x : Operand) (t u e : TypeId)
    (ho : o.op = .call { callee := .builtin .append, args := #[s, x], argTypes := #[t, u] })
    (ht : P.underlying t = some (.slice e)) (hu : P.underlying u = some .string) (hinfo : (P.info? e).map (fun i => (i.zero, i.size, i.bytes)) = some (some (.int .u8 0), 1, 1))
    (v : Value) (xs : List Int) (y : ByteArray) (hs : a.eval s = v) (hx : a.eval x = .string y)
    (HO : W.ownsRow base e 1 v xs.length (nums .u8 xs)) (HB : Below base w0 W) (hbase : base ≤ W.heap.size) (hl : xs.length + y.size ≤ 140737488355328)
    (h : ∀ v1 w1, w1.ownsRow base e 1 v1 (xs ++ bytesOf y).length (nums .u8 (xs ++ bytesOf y)) → Below base w0 w1 → W.grownBy w1 v.ownBlock → K (a.put o.dst v1) w1) :
    if Region.wanted o (yielded ops a.tmps) = true then Oper.wp P o a W K Q else K (a.put o.dst undef) W := by
  obtain ⟨i0, hi, hzz⟩ := Option.map_eq_some_iff.1 hinfo
  simp only [Prod.mk.injEq] at hzz
  obtain ⟨hz0, hz1, hz2⟩ := hzz
  rw [if_pos hw]
  obtain ⟨v1, w1, hr, hown, hg, _⟩ := Lib.run_append_own_string (P := P) (w := W) base t u o.type e i0 ht hu hi hz0 hz1 hz2 v xs.length (nums .u8 xs) HO y (by simp only [maxLen]; omega) hl hbase
  unfold Oper.wp execOp
  simp only [ho, resolve, invoke, builtin, Sem.run_bind, Sem.run_pure, Result.andThen_ok, List.map_toArray, List.map_cons, List.map_nil, hs, hx, hr]
  have hl2 : (xs ++ bytesOf y).length = xs.length + y.size := by rw [List.length_append, bytesOf_length]
  have hc : nums .u8 (xs ++ bytesOf y) = nums .u8 xs ++ Lib.strCells y := by
    rw [nums_append]
    congr 1
    simp [nums, bytesOf, Lib.strCells]
  exact h v1 w1 (by rw [hl2, hc]; exact hown) (HB.grown hg hbase (own_base HO)) hg
theorem less_or_eq (a b : List UInt8) : (Op.bytesLess a b || a == b) = !Op.bytesLess b a := by
  induction a generalizing b with
  | nil => cases b <;> simp [Op.bytesLess]
  | cons x a ih =>
    cases b with
    | nil => simp [Op.bytesLess]
    | cons y b =>
      have h := ih b
      rw [Bool.eq_iff_iff] at h ⊢
      simp only [Op.bytesLess, Bool.or_eq_true, Bool.and_eq_true, decide_eq_true_iff, beq_iff_eq, List.cons.injEq, Bool.not_eq_true', Bool.or_eq_false_iff, Bool.and_eq_false_iff, decide_eq_false_iff_not, beq_eq_false_iff_ne, ne_eq] at h ⊢
      rcases Nat.lt_trichotomy x.toNat y.toNat with h1 | h1 | h1
      · have l1 : x < y := h1
        have l2 : ¬ y < x := fun e => by have e : y.toNat < x.toNat := e; omega
        have l3 : ¬ x = y := fun e => by rw [e] at h1; omega
        have l4 : ¬ y = x := fun e => l3 e.symm
        simp [l1, l2, l3, l4]
      · have l3 : x = y := UInt8.toNat_inj.1 h1
        subst l3
        have l2 : ¬ x < x := fun e => by have e : x.toNat < x.toNat := e; omega
        simp only [l2, true_and, false_or, not_false_eq_true, not_true]
        exact h
      · have l1 : y < x := h1
        have l2 : ¬ x < y := fun e => by have e : x.toNat < y.toNat := e; omega
        have l3 : ¬ x = y := fun e => by rw [e] at h1; omega
        have l4 : ¬ y = x := fun e => l3 e.symm
        simp [l1, l2, l3, l4]
theorem leq_str (t : TypeId) (a b : ByteArray) : binOp .leq t (.string a) (.string b) = pure (.bool !(Op.bytesLess b.toList a.toList)) := by rw [binOp_string_leq, less_or_eq]
theorem gtr_str (t : TypeId) (a b : ByteArray) : binOp .gtr t (.string a) (.string b) = pure (.bool (Op.bytesLess b.toList a.toList)) := by
  simp only [binOp, Op.stringOp]
  rw [show (Op.bytesLess b.toList a.toList) = !(Op.bytesLess a.toList b.toList || a.toList == b.toList) by rw [less_or_eq, Bool.not_not]]
end Go.Proofs.Ytgageigcjeaenaa.StepStr
