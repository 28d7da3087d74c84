/- Plain facts about the two sums: one round of the sum on numbers below 65521, lists of bytes, and the joining of two halves of 16 bits. No program stands here. -/
import Derived.Test.YtdieanikopjbjaaVWords
import Derived.Laws.BitsAllLaws
namespace Go.Proofs.Ytdieanikopjbjaa.MixBase
open Go.RowKit Go.Proofs.YtdieanikopjbjaaW.PrintWords

/-- One round of the sum. -/
def mstep (p : Int × Int) (c : Int) : Int × Int := ((p.1 + c) % 65521, (p.2 + (p.1 + c) % 65521) % 65521)
/-- The rounds over a list of bytes. -/
def mrun (p : Int × Int) (l : List Int) : Int × Int := l.foldl mstep p

theorem mrun_nil (p : Int × Int) : mrun p [] = p := rfl
theorem mrun_cons (p : Int × Int) (c : Int) (l : List Int) : mrun p (c :: l) = mrun (mstep p c) l := rfl
theorem mrun_append (p : Int × Int) (l m : List Int) : mrun p (l ++ m) = mrun (mrun p l) m := List.foldl_append

def MOk (p : Int × Int) : Prop := 0 ≤ p.1 ∧ p.1 < 65521 ∧ 0 ≤ p.2 ∧ p.2 < 65521
theorem mstep_ok (p : Int × Int) (c : Int) : MOk (mstep p c) := by unfold MOk mstep; simp only; omega
theorem mrun_ok (p : Int × Int) (l : List Int) (h : MOk p) : MOk (mrun p l) := by
  induction l generalizing p with
  | nil => exact h
  | cons c l ih => rw [mrun_cons]; exact ih _ (mstep_ok p c)

theorem join32 (a b : Int) (ha : 0 ≤ a) (ha' : a < 65536) (hb : 0 ≤ b) (hb' : b < 65536) : Go.bits .or .u32 ((b * 65536) % 4294967296) a = b * 65536 + a := by
  have e : (b * 65536) % 4294967296 = b * 65536 := by omega
  rw [e, Go.u32_or _ _ (by omega) (by omega) ha (by omega), Go.nat_join 16 _ _ (by omega) (by omega)]
  omega
theorem low16 (a : Int) (ha : 0 ≤ a) (ha' : a < 4294967296) : Go.bits .and .u32 a 65535 = a % 65536 := by
  rw [Go.u32_and _ _ ha ha' (by omega) (by omega), show (65535 : Int).toNat = 65535 from rfl, Go.nat_mask16]
  omega

theorem wrap64_small {i : Int} (h0 : -9223372036854775808 ≤ i) (h : i ≤ 9223372036854775807) : wrap64 i = i := by
  unfold wrap64
  omega
theorem u64_small {i : Int} (h0 : 0 ≤ i) (h : i < 18446744073709551616) : IntKind.u64.wrap i = i := by
  have e : IntKind.u64.wrap i = i % 18446744073709551616 := by simp [IntKind.wrap, IntKind.bits, IntKind.signed]
  rw [e]
  omega

theorem drop_byte (s : ByteArray) (i : Int) (h0 : 0 ≤ i) (h : i < (s.size : Int)) : (bytesOf s).drop i.toNat = bt s i :: (bytesOf s).drop (i + 1).toNat := by
  have hl : i.toNat < (bytesOf s).length := by rw [bytesOf_length]; omega
  rw [List.drop_eq_getElem_cons hl, show (i + 1).toNat = i.toNat + 1 by omega]
  congr 1
  rw [← rd_bytesOf, rd, List.getD_eq_getElem?_getD, List.getElem?_eq_getElem hl]
  rfl
theorem drop_end (s : ByteArray) (i : Int) (h : (s.size : Int) ≤ i) : (bytesOf s).drop i.toNat = [] := by
  apply List.drop_eq_nil_of_le
  rw [bytesOf_length]
  omega
theorem bytesOf_append (s t : ByteArray) : bytesOf (s ++ t) = bytesOf s ++ bytesOf t := by
  simp [bytesOf]

theorem u32_range {a : Int} (h : (Lit.int .u32 a).wf = true) : 0 ≤ a ∧ a < 4294967296 := by
  have h1 : IntKind.u32.min = 0 := by decide
  have h2 : IntKind.u32.max = 4294967295 := by decide
  simp only [Lit.wf, h1, h2, Bool.and_eq_true, decide_eq_true_eq] at h
  omega
theorem u64_range {a : Int} (h : (Lit.int .u64 a).wf = true) : 0 ≤ a ∧ a < 18446744073709551616 := by
  have h1 : IntKind.u64.min = 0 := by decide
  have h2 : IntKind.u64.max = 18446744073709551615 := by decide
  simp only [Lit.wf, h1, h2, Bool.and_eq_true, decide_eq_true_eq] at h
  omega
theorem u8_range {a : Int} (h : (Lit.int .u8 a).wf = true) : 0 ≤ a ∧ a < 256 := by
  have h1 : IntKind.u8.min = 0 := by decide
  have h2 : IntKind.u8.max = 255 := by decide
  simp only [Lit.wf, h1, h2, Bool.and_eq_true, decide_eq_true_eq] at h
  omega
theorem i64_range {a : Int} (h : (Lit.int .i64 a).wf = true) : -9223372036854775808 ≤ a ∧ a ≤ 9223372036854775807 := by
  have h1 : IntKind.i64.min = -9223372036854775808 := by decide
  have h2 : IntKind.i64.max = 9223372036854775807 := by decide
  simp only [Lit.wf, h1, h2, Bool.and_eq_true, decide_eq_true_eq] at h
  omega

/-- What the sum is of a text. -/
def sumOf (sum : Int) (l : List Int) : Int := (mrun (sum % 65536 % 65521, sum / 65536 % 65521) l).2 * 65536 + (mrun (sum % 65536 % 65521, sum / 65536 % 65521) l).1

end Go.Proofs.Ytdieanikopjbjaa.MixBase
